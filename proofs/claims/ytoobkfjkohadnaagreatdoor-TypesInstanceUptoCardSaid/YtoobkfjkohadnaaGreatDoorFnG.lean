/- A type is an instance of itself: the law, but for its example. -/
import Derived.Test.YtoobkfjkohadnaaGreatDoorFnD
import Derived.Test.YtoobkfjkohadnaaGreatDoorVmE
import Derived.Test.YtoobkfjkohadnaaGreatDoorVmF
set_option linter.unusedVariables false
set_option linter.unusedSimpArgs false
set_option linter.unnecessarySimpa false
set_option maxRecDepth 100000
namespace Go.D
open Go Go.Vm Go.Proofs Go.RowKit

/-- The example holds. -/
def AwakeOK : Prop := ∀ σ : List Ent, ACalls E 15 [] σ fun r τ => r = boolV true ∧ τ = σ
def selfC (names : List (List UInt8)) : List Cl := names.map fun n => (n, .mk kiVar n [])
theorem instR_self (t : Tr) : instR t t = if validT conB t = true then (selfC (sortS (ordT t [])), 0) else ([], 40) := by
  unfold instR
  by_cases hv : validT conB t = true
  · rw [if_pos ⟨hv, hv⟩, if_pos hv]
    have ht : typeB conB t = true := by unfold validT at hv; simp only [Bool.and_eq_true] at hv; exact hv.1
    have := matT_self conB t [] ht
    simp only [idS, List.map_nil] at this
    rw [this, if_pos rfl]
    congr 1
    unfold clsOf selfC
    refine List.map_congr_left fun n hn => ?_
    have hm : n ∈ ordT t [] := List.mem_mergeSort.1 hn
    have h2 := idS_look (ordT t []) n
    simp only [idS] at h2
    rw [h2, if_pos hm]; rfl
  · rw [if_neg (fun h => hv h.1), if_neg hv]
set_option maxHeartbeats 4000000 in
theorem law_itself (haw : AwakeOK) (t : Tr) (hl : lenT t) (σ : List Ent) :
    HasBody E 3 ∧ ∀ (s : S) (vs : List Value), s.σ = σ → HInv s → E.Γ s.B s.w → RepL s [tyV t] vs →
      Calls E.P 3 vs.toArray s.w fun e w' => ∃ v r s', e = .returned v ∧ s'.w = w' ∧ HInv s' ∧ Ext s s' ∧ Rep s' r v ∧ (r = boolV true ∧ s'.σ = σ) := by
  refine xbody T0 .drop [] Tryz.func3 rfl (by kernel_rfl) (by kernel_rfl) (by simp [Tryz.ntmps3]) (R := fun r τ => r = boolV true ∧ τ = σ) ?_
  have h1 := fun σ' => Instance_ok t t hl hl σ'
  have h2 := fun σ' => Vars_ok t hl σ'
  rw [instR_self] at h1
  have hok : validT conB t = true → okT t := fun h2 => ⟨hl, by unfold validT at h2; simp only [Bool.and_eq_true] at h2; exact h2.1⟩
  have hnm : validT conB t = true → (sortS (ordT t [])).length ≤ 26 := fun h => by
    have := ordT_names t [] (hok h).2 (by simp) (by simp)
    unfold sortS; rw [List.length_mergeSort]; exact vars_few this.1 this.2
  cases hv : validT conB t
  · simp only [hv, Bool.false_eq_true, if_false] at h1 h2
    cases t with
    | mk d n us =>
    simp only [tyV] at h1 h2
    (simp only [tyV, (vmA), Nat.reduceEqDiff, reduceIte, Nat.reduceAdd, Int.reduceToNat, Int.reduceLE, Int.reduceLT, Int.reduceEq, Int.reduceNe, Int.reduceAdd, Int.reduceSub, Int.reduceNeg, Nat.reduceLT, Nat.reduceLeDiff, Nat.reduceBEq, undef, (stA), Nat.reduceMul]; try simp (disch := omega) only [(vmp)])
    refine xWait.go (h1 _) ?_
    (simp only [clsV, List.map_nil, (vmA), Nat.reduceEqDiff, reduceIte, Nat.reduceAdd, Int.reduceToNat, Int.reduceLE, Int.reduceLT, Int.reduceEq, Int.reduceNe, Int.reduceAdd, Int.reduceSub, Int.reduceNeg, Nat.reduceLT, Nat.reduceLeDiff, Nat.reduceBEq, undef, (stA), Nat.reduceMul]; try simp (disch := omega) only [(vmp)])
    refine xWait.go (h2 _) ?_
    (simp only [(vmA), Nat.reduceEqDiff, reduceIte, Nat.reduceAdd, Int.reduceToNat, Int.reduceLE, Int.reduceLT, Int.reduceEq, Int.reduceNe, Int.reduceAdd, Int.reduceSub, Int.reduceNeg, Nat.reduceLT, Nat.reduceLeDiff, Nat.reduceBEq, undef, (stA), Nat.reduceMul]; try simp (disch := omega) only [(vmp)])
    refine xloop (α := Nat) T0 (fun i => [(31, i64 0), (32, i64 0)]) (fun _ => σ) (fun _ => [.arr 24 [.str d, .str n, .sl (tysV us)] 0 0]) (fun i => i = 0) (fun i => i) (by kernel_rfl)
      ⟨0, rfl, by (simp only [(vmA), Nat.reduceEqDiff, reduceIte, Nat.reduceAdd, Int.reduceToNat, Int.reduceLE, Int.reduceLT, Int.reduceEq, Int.reduceNe, Int.reduceAdd, Int.reduceSub, Int.reduceNeg, Nat.reduceLT, Nat.reduceLeDiff, Nat.reduceBEq, undef, (stA), Nat.reduceMul]; try simp (disch := omega) only [(vmp)]), rfl, rfl⟩ ?_
    rintro i hi
    (simp only [(vmA), Nat.reduceEqDiff, reduceIte, Nat.reduceAdd, Int.reduceToNat, Int.reduceLE, Int.reduceLT, Int.reduceEq, Int.reduceNe, Int.reduceAdd, Int.reduceSub, Int.reduceNeg, Nat.reduceLT, Nat.reduceLeDiff, Nat.reduceBEq, undef, (stA), Nat.reduceMul]; try simp (disch := omega) only [(vmp)])
    refine xWait.go (haw _) ?_
    (simp only [(vmA), Nat.reduceEqDiff, reduceIte, Nat.reduceAdd, Int.reduceToNat, Int.reduceLE, Int.reduceLT, Int.reduceEq, Int.reduceNe, Int.reduceAdd, Int.reduceSub, Int.reduceNeg, Nat.reduceLT, Nat.reduceLeDiff, Nat.reduceBEq, undef, (stA), Nat.reduceMul]; try simp (disch := omega) only [(vmp)])
  · have hfew := hnm hv
    simp only [hv, if_true] at h1 h2
    generalize sortS (ordT t []) = names at *
    cases t with
    | mk d n us =>
    simp only [tyV] at h1 h2
    (simp only [tyV, (vmA), Nat.reduceEqDiff, reduceIte, Nat.reduceAdd, Int.reduceToNat, Int.reduceLE, Int.reduceLT, Int.reduceEq, Int.reduceNe, Int.reduceAdd, Int.reduceSub, Int.reduceNeg, Nat.reduceLT, Nat.reduceLeDiff, Nat.reduceBEq, undef, (stA), Nat.reduceMul]; try simp (disch := omega) only [(vmp)])
    refine xWait.go (h1 _) ?_
    (simp only [clsV_len, (vmA), Nat.reduceEqDiff, reduceIte, Nat.reduceAdd, Int.reduceToNat, Int.reduceLE, Int.reduceLT, Int.reduceEq, Int.reduceNe, Int.reduceAdd, Int.reduceSub, Int.reduceNeg, Nat.reduceLT, Nat.reduceLeDiff, Nat.reduceBEq, undef, (stA), Nat.reduceMul]; try simp (disch := omega) only [(vmp)])
    refine xWait.go (h2 _) ?_
    have hsl : (selfC names).length = names.length := by simp [selfC]
    (simp only [clsV_len, strsV_len, hsl, (vmA), Nat.reduceEqDiff, reduceIte, Nat.reduceAdd, Int.reduceToNat, Int.reduceLE, Int.reduceLT, Int.reduceEq, Int.reduceNe, Int.reduceAdd, Int.reduceSub, Int.reduceNeg, Nat.reduceLT, Nat.reduceLeDiff, Nat.reduceBEq, undef, (stA), Nat.reduceMul]; try simp (disch := omega) only [(vmp)])
    refine xloop (α := Nat × List Ent) T0 (fun x => [(5, .sl (strsV names)), (30, .sl (clsV (selfC names))), (31, i64 names.length), (32, i64 x.1)]) (fun _ => σ) (fun x => .arr 24 [.str d, .str n, .sl (tysV us)] 0 0 :: x.2)
      (fun x => x.1 ≤ names.length) (fun x => names.length - x.1) (by kernel_rfl)
      ⟨(0, []), by simp, by (simp only [(vmA), Nat.reduceEqDiff, reduceIte, Nat.reduceAdd, Int.reduceToNat, Int.reduceLE, Int.reduceLT, Int.reduceEq, Int.reduceNe, Int.reduceAdd, Int.reduceSub, Int.reduceNeg, Nat.reduceLT, Nat.reduceLeDiff, Nat.reduceBEq, undef, (stA), Nat.reduceMul, Int.natCast_zero]; try simp (disch := omega) only [(vmp)]), rfl, rfl⟩ ?_
    rintro ⟨i, junk⟩ hi
    simp only at hi
    by_cases h : (i : Int) < names.length
    · have hi' : i < names.length := by omega
      have hg1 : (strsV names).getD i .un = .str names[i] := by simp [strsV, List.getD, hi']
      have hg2 : (clsV (selfC names)).getD i .un = .agg [.str names[i], .str kiVar, .str names[i], .sl []] := by simp [clsV, selfC, List.getD, hi', clV, clC, tyCells, tysV]
      generalize names[i] = nm at *
      (simp only [h, hg1, hg2, clsV_len, strsV_len, hsl, (vmA), Nat.reduceEqDiff, reduceIte, Nat.reduceAdd, Int.reduceToNat, Int.reduceLE, Int.reduceLT, Int.reduceEq, Int.reduceNe, Int.reduceAdd, Int.reduceSub, Int.reduceNeg, Nat.reduceLT, Nat.reduceLeDiff, Nat.reduceBEq, undef, (stA), Nat.reduceMul]; try simp (disch := omega) only [(vmp)])
      refine ydraw T0 [] (by kernel_rfl) (by kernel_rfl) (by kernel_rfl) (by kernel_rfl) ?_
      (simp only [h, hg1, hg2, clsV_len, strsV_len, hsl, (vmA), Nat.reduceEqDiff, reduceIte, Nat.reduceAdd, Int.reduceToNat, Int.reduceLE, Int.reduceLT, Int.reduceEq, Int.reduceNe, Int.reduceAdd, Int.reduceSub, Int.reduceNeg, Nat.reduceLT, Nat.reduceLeDiff, Nat.reduceBEq, undef, (stA), Nat.reduceMul]; try simp (disch := omega) only [(vmp)])
      exact ⟨(i + 1, _), by simp only; omega, by simp only; omega, rfl, rfl⟩
    · (simp only [h, (vmA), Nat.reduceEqDiff, reduceIte, Nat.reduceAdd, Int.reduceToNat, Int.reduceLE, Int.reduceLT, Int.reduceEq, Int.reduceNe, Int.reduceAdd, Int.reduceSub, Int.reduceNeg, Nat.reduceLT, Nat.reduceLeDiff, Nat.reduceBEq, undef, (stA), Nat.reduceMul]; try simp (disch := omega) only [(vmp)])
      refine xWait.go (haw _) ?_
      (simp only [(vmA), Nat.reduceEqDiff, reduceIte, Nat.reduceAdd, Int.reduceToNat, Int.reduceLE, Int.reduceLT, Int.reduceEq, Int.reduceNe, Int.reduceAdd, Int.reduceSub, Int.reduceNeg, Nat.reduceLT, Nat.reduceLeDiff, Nat.reduceBEq, undef, (stA), Nat.reduceMul]; try simp (disch := omega) only [(vmp)])
end Go.D

/- Nodes of a graph of types: where links lead; new nodes. -/
set_option linter.unusedVariables false
set_option linter.unusedSimpArgs false
set_option linter.unnecessarySimpa false
set_option maxRecDepth 100000
namespace Go.D
open Go Go.Vm Go.Proofs Go.RowKit

abbrev nilP : AV := .v (.pointer none)
abbrev nilS : AV := .v (.slice none 0 0)
def nodeE (d n : List UInt8) (args link : AV) : Ent := .arr 107 [.str d, .str n, args, link] 0 0
theorem sget_of {σ : List Ent} {p : Nat} {e : Ent} (h : σ[p]? = some e) (r : List Ent) : sget σ r p = some e := by unfold sget; rw [if_pos (lt_of_get h)]; exact h
/-- Where links lead, and in how many steps. -/
inductive Ends (σ : List Ent) : Nat → Nat → Nat → Prop
  | here {p : Nat} {d n : List UInt8} {a : AV} : σ[p]? = some (nodeE d n a nilP) → Ends σ 0 p p
  | step {k p q r : Nat} {d n : List UInt8} {a : AV} : σ[p]? = some (nodeE d n a (.ref q 0 0)) → Ends σ k q r → Ends σ (k + 1) p r
set_option maxHeartbeats 4000000 in
theorem end_ok (σ : List Ent) (p r k : Nat) (h : Ends σ k p r) : ACalls E 91 [.ref p 0 0] σ fun x τ => x = .ref r 0 0 ∧ τ = σ := by
  refine xacalls T0 .drop [] Tryz.func91 rfl (by kernel_rfl) (by kernel_rfl) (by simp [Tryz.ntmps91]) ?_
  (simp only [(vmA), Nat.reduceEqDiff, reduceIte, Nat.reduceAdd, Int.reduceToNat, Int.reduceLE, Int.reduceLT, Int.reduceEq, Int.reduceNe, Int.reduceAdd, Int.reduceSub, Int.reduceNeg, Nat.reduceLT, Nat.reduceLeDiff, Nat.reduceBEq, undef, (stA), Nat.reduceMul]; try simp (disch := omega) only [(vmp)])
  refine xloop (α := Nat × Nat) T0 (fun x => [(0, .ref x.2 0 0)]) (fun _ => σ) (fun _ => []) (fun x => Ends σ x.1 x.2 r) (fun x => x.1) (by kernel_rfl)
    ⟨(k, p), h, by (simp only [(vmA), Nat.reduceEqDiff, reduceIte, Nat.reduceAdd, Int.reduceToNat, Int.reduceLE, Int.reduceLT, Int.reduceEq, Int.reduceNe, Int.reduceAdd, Int.reduceSub, Int.reduceNeg, Nat.reduceLT, Nat.reduceLeDiff, Nat.reduceBEq, undef, (stA), Nat.reduceMul]; try simp (disch := omega) only [(vmp)]), rfl, rfl⟩ ?_
  rintro ⟨k, p⟩ hk
  simp only at hk
  cases hk with
  | here h1 =>
    have g1 := sget_of h1
    simp only [nodeE] at g1
    (simp only [g1, (vmA), Nat.reduceEqDiff, reduceIte, Nat.reduceAdd, Int.reduceToNat, Int.reduceLE, Int.reduceLT, Int.reduceEq, Int.reduceNe, Int.reduceAdd, Int.reduceSub, Int.reduceNeg, Nat.reduceLT, Nat.reduceLeDiff, Nat.reduceBEq, undef, (stA), Nat.reduceMul]; try simp (disch := omega) only [(vmp)])
    exact decide_eq_true (lt_of_get h1)
  | step h1 h2 =>
    have g1 := sget_of h1
    simp only [nodeE] at g1
    (simp only [g1, (vmA), Nat.reduceEqDiff, reduceIte, Nat.reduceAdd, Int.reduceToNat, Int.reduceLE, Int.reduceLT, Int.reduceEq, Int.reduceNe, Int.reduceAdd, Int.reduceSub, Int.reduceNeg, Nat.reduceLT, Nat.reduceLeDiff, Nat.reduceBEq, undef, (stA), Nat.reduceMul]; try simp (disch := omega) only [(vmp)])
    exact ⟨(_, _), h2, by simp, rfl⟩

theorem variable_ok (n : List UInt8) (σ : List Ent) : ACalls E 41 [.str n] σ fun r τ => r = .agg [.str kiVar, .str n, nilS] ∧ τ = σ := by
  refine xacalls T0 .drop [] Tryz.func41 rfl (by kernel_rfl) (by kernel_rfl) (by simp [Tryz.ntmps41]) ?_
  (simp only [(vmA), Nat.reduceEqDiff, reduceIte, Nat.reduceAdd, Int.reduceToNat, Int.reduceLE, Int.reduceLT, Int.reduceEq, Int.reduceNe, Int.reduceAdd, Int.reduceSub, Int.reduceNeg, Nat.reduceLT, Nat.reduceLeDiff, Nat.reduceBEq, undef, (stA), Nat.reduceMul]; try simp (disch := omega) only [(vmp)])
theorem ty0_ok (d : List UInt8) (σ : List Ent) : ACalls E 39 [.str d, nilS] σ fun r τ => r = .agg [.str d, .str [], nilS] ∧ τ = σ := by
  refine xacalls T0 .drop [] Tryz.func39 rfl (by kernel_rfl) (by kernel_rfl) (by simp [Tryz.ntmps39]) ?_
  (simp only [(vmA), Nat.reduceEqDiff, reduceIte, Nat.reduceAdd, Int.reduceToNat, Int.reduceLE, Int.reduceLT, Int.reduceEq, Int.reduceNe, Int.reduceAdd, Int.reduceSub, Int.reduceNeg, Nat.reduceLT, Nat.reduceLeDiff, Nat.reduceBEq, undef, (stA), Nat.reduceMul]; try simp (disch := omega) only [(vmp)])
theorem ty_ok (d : List UInt8) (es : List AV) (hus : ∀ n, AV.low.lows n es = true) (σ : List Ent) : ACalls E 39 [.str d, .sl es] σ fun r τ => r = .agg [.str d, .str [], .sl es] ∧ τ = σ := by
  refine xacalls T0 .drop [] Tryz.func39 rfl (by kernel_rfl) (by kernel_rfl) (by simp [Tryz.ntmps39]) ?_
  (simp only [hus, (vmA), Nat.reduceEqDiff, reduceIte, Nat.reduceAdd, Int.reduceToNat, Int.reduceLE, Int.reduceLT, Int.reduceEq, Int.reduceNe, Int.reduceAdd, Int.reduceSub, Int.reduceNeg, Nat.reduceLT, Nat.reduceLeDiff, Nat.reduceBEq, undef, (stA), Nat.reduceMul]; try simp (disch := omega) only [(vmp)])

def tyE (d n : List UInt8) (us : AV) : Ent := .arr 24 [.str d, .str n, us] 0 0
def graE (v z : Nat) : Ent := .arr 72 [.mp v, .mp z] 0 0
def strK (es : List MEnt) : Prop := ∀ e ∈ es, ∃ s, e.1 = .str s
theorem strK_ok {es : List MEnt} (h : strK es) (T : Nat → TI) (g l : List Ent) : ∀ e ∈ es, kOK T g l .string e.1 := fun e he => by
  obtain ⟨s, hs⟩ := h e he; rw [hs]; rfl
set_option maxHeartbeats 4000000 in
theorem nodeNew_ok (n : List UInt8) (σ : List Ent) (gid v z clock : Nat) (es : List MEnt) (hg : σ[gid]? = some (graE v z)) (hv : σ[v]? = some (.map es clock)) (hn : mget (.str n) es = none) (hk : strK es) :
    ACalls E 56 [.ref gid 0 0, .agg [.str kiVar, .str n, nilS]] σ fun r τ => r = .ref (σ.length + 1) 0 0 ∧ τ = σ.set v (.map (mput (.str n) (.ref (σ.length + 1) 0 0) clock es) (clock + 1)) ++ [tyE kiVar n nilS, nodeE kiVar n nilS nilP] := by
  have gg := sget_of hg
  have gv := sget_of hv
  have sG0 : ∀ e, ssetG σ v e = σ.set v e := fun e => by unfold ssetG; rw [if_pos (lt_of_get hv)]
  have sL0 : ∀ e l, ssetL σ l v e = l := fun e l => by unfold ssetL; rw [if_pos (lt_of_get hv)]
  have hln : ∀ e, (σ.set v e).length = σ.length := fun e => by simp
  simp only [graE] at gg
  refine xacalls T0 .stay [] Tryz.func56 rfl (by kernel_rfl) (by kernel_rfl) (by simp [Tryz.ntmps56]) ?_
  (simp only [(vmA), Nat.reduceEqDiff, reduceIte, Nat.reduceAdd, Int.reduceToNat, Int.reduceLE, Int.reduceLT, Int.reduceEq, Int.reduceNe, Int.reduceAdd, Int.reduceSub, Int.reduceNeg, Nat.reduceLT, Nat.reduceLeDiff, Nat.reduceBEq, undef, (stA), Nat.reduceMul]; try simp (disch := omega) only [(vmp)])
  refine ydraw T0 [] (by kernel_rfl) (by kernel_rfl) (by kernel_rfl) (by kernel_rfl) ?_
  (simp only [gg, gv, hn, sG0, sL0, (vmA), Nat.reduceEqDiff, reduceIte, Nat.reduceAdd, Int.reduceToNat, Int.reduceLE, Int.reduceLT, Int.reduceEq, Int.reduceNe, Int.reduceAdd, Int.reduceSub, Int.reduceNeg, Nat.reduceLT, Nat.reduceLeDiff, Nat.reduceBEq, undef, (stA), Nat.reduceMul]; try simp (disch := omega) only [(vmp)])
  refine ⟨⟨rfl, strK_ok hk _ _ _⟩, ?_⟩
  refine ydraw T0 [7] (by kernel_rfl) (by kernel_rfl) (by kernel_rfl) (by kernel_rfl) ?_
  (simp only [gg, gv, hn, sG0, sL0, Option.isSome_none, Bool.false_eq_true, if_false, (vmA), Nat.reduceEqDiff, reduceIte, Nat.reduceAdd, Int.reduceToNat, Int.reduceLE, Int.reduceLT, Int.reduceEq, Int.reduceNe, Int.reduceAdd, Int.reduceSub, Int.reduceNeg, Nat.reduceLT, Nat.reduceLeDiff, Nat.reduceBEq, undef, (stA), Nat.reduceMul]; try simp (disch := omega) only [(vmp)])
  refine ⟨⟨rfl, strK_ok hk _ _ _⟩, hln _, ?_⟩
  have hGl := hln (.map (mput (.str n) (.ref (σ.length + 1) 0 0) clock es) (clock + 1))
  generalize σ.set v (.map (mput (.str n) (.ref (σ.length + 1) 0 0) clock es) (clock + 1)) = G at *
  rw [← hGl]
  (simp only [(vmA), Nat.reduceEqDiff, reduceIte, Nat.reduceAdd, Int.reduceToNat, Int.reduceLE, Int.reduceLT, Int.reduceEq, Int.reduceNe, Int.reduceAdd, Int.reduceSub, Int.reduceNeg, Nat.reduceLT, Nat.reduceLeDiff, Nat.reduceBEq, undef, (stA), Nat.reduceMul]; try simp (disch := omega) only [(vmp)])
  refine xloop (α := Nat) T0 (fun i => [(7, .ref (G.length + 1) 0 0), (45, i64 0), (46, i64 0)]) (fun _ => G) (fun _ => [tyE kiVar n nilS, nodeE kiVar n nilS nilP]) (fun i => i = 0) (fun i => i) (by kernel_rfl)
    ⟨0, rfl, by (simp only [(vmA), Nat.reduceEqDiff, reduceIte, Nat.reduceAdd, Int.reduceToNat, Int.reduceLE, Int.reduceLT, Int.reduceEq, Int.reduceNe, Int.reduceAdd, Int.reduceSub, Int.reduceNeg, Nat.reduceLT, Nat.reduceLeDiff, Nat.reduceBEq, undef, (stA), Nat.reduceMul]; try simp (disch := omega) only [(vmp)]), rfl, rfl⟩ ?_
  rintro i hi
  (simp only [(vmA), Nat.reduceEqDiff, reduceIte, Nat.reduceAdd, Int.reduceToNat, Int.reduceLE, Int.reduceLT, Int.reduceEq, Int.reduceNe, Int.reduceAdd, Int.reduceSub, Int.reduceNeg, Nat.reduceLT, Nat.reduceLeDiff, Nat.reduceBEq, undef, (stA), Nat.reduceMul]; try simp (disch := omega) only [(vmp)])
set_option maxHeartbeats 4000000 in
theorem nodeLeaf_ok (d : List UInt8) (hd : ¬ d = kiVar) (σ : List Ent) (gid v z clock : Nat) (es : List MEnt) (hg : σ[gid]? = some (graE v z)) (hv : σ[v]? = some (.map es clock)) (hn : mget (.str []) es = none) (hk : strK es) :
    ACalls E 56 [.ref gid 0 0, .agg [.str d, .str [], nilS]] σ fun r τ => r = .ref (σ.length + 1) 0 0 ∧ τ = σ ++ [tyE d [] nilS, nodeE d [] nilS nilP] := by
  have gg := sget_of hg
  have gv := sget_of hv
  have n1 : ¬ d = [118, 97, 114] := hd
  simp only [graE] at gg
  refine xacalls T0 .stay [] Tryz.func56 rfl (by kernel_rfl) (by kernel_rfl) (by simp [Tryz.ntmps56]) ?_
  (simp only [(vmA), Nat.reduceEqDiff, reduceIte, Nat.reduceAdd, Int.reduceToNat, Int.reduceLE, Int.reduceLT, Int.reduceEq, Int.reduceNe, Int.reduceAdd, Int.reduceSub, Int.reduceNeg, Nat.reduceLT, Nat.reduceLeDiff, Nat.reduceBEq, undef, (stA), Nat.reduceMul]; try simp (disch := omega) only [(vmp)])
  refine ydraw T0 [] (by kernel_rfl) (by kernel_rfl) (by kernel_rfl) (by kernel_rfl) ?_
  (simp only [gg, gv, hn, n1, Option.isSome_none, Bool.false_eq_true, if_false, (vmA), Nat.reduceEqDiff, reduceIte, Nat.reduceAdd, Int.reduceToNat, Int.reduceLE, Int.reduceLT, Int.reduceEq, Int.reduceNe, Int.reduceAdd, Int.reduceSub, Int.reduceNeg, Nat.reduceLT, Nat.reduceLeDiff, Nat.reduceBEq, undef, (stA), Nat.reduceMul]; try simp (disch := omega) only [(vmp)])
  refine ⟨⟨rfl, strK_ok hk _ _ _⟩, ?_⟩
  refine xloop (α := Nat) T0 (fun i => [(7, .ref (σ.length + 1) 0 0), (45, i64 0), (46, i64 0)]) (fun _ => σ) (fun _ => [tyE d [] nilS, nodeE d [] nilS nilP]) (fun i => i = 0) (fun i => i) (by kernel_rfl)
    ⟨0, rfl, by (simp only [(vmA), Nat.reduceEqDiff, reduceIte, Nat.reduceAdd, Int.reduceToNat, Int.reduceLE, Int.reduceLT, Int.reduceEq, Int.reduceNe, Int.reduceAdd, Int.reduceSub, Int.reduceNeg, Nat.reduceLT, Nat.reduceLeDiff, Nat.reduceBEq, undef, (stA), Nat.reduceMul]; try simp (disch := omega) only [(vmp)]), rfl, rfl⟩ ?_
  rintro i hi
  (simp only [(vmA), Nat.reduceEqDiff, reduceIte, Nat.reduceAdd, Int.reduceToNat, Int.reduceLE, Int.reduceLT, Int.reduceEq, Int.reduceNe, Int.reduceAdd, Int.reduceSub, Int.reduceNeg, Nat.reduceLT, Nat.reduceLeDiff, Nat.reduceBEq, undef, (stA), Nat.reduceMul]; try simp (disch := omega) only [(vmp)])
set_option maxHeartbeats 4000000 in
theorem nodeOld_ok (n : List UInt8) (p : Nat) (σ : List Ent) (gid v z clock : Nat) (es : List MEnt) (hg : σ[gid]? = some (graE v z)) (hv : σ[v]? = some (.map es clock)) (hn : mget (.str n) es = some (.ref p 0 0)) (hk : strK es) (hp : p < σ.length) :
    ACalls E 56 [.ref gid 0 0, .agg [.str kiVar, .str n, nilS]] σ fun r τ => r = .ref p 0 0 ∧ τ = σ := by
  have gg := sget_of hg
  have gv := sget_of hv
  simp only [graE] at gg
  refine xacalls T0 .drop [] Tryz.func56 rfl (by kernel_rfl) (by kernel_rfl) (by simp [Tryz.ntmps56]) ?_
  (simp only [(vmA), Nat.reduceEqDiff, reduceIte, Nat.reduceAdd, Int.reduceToNat, Int.reduceLE, Int.reduceLT, Int.reduceEq, Int.reduceNe, Int.reduceAdd, Int.reduceSub, Int.reduceNeg, Nat.reduceLT, Nat.reduceLeDiff, Nat.reduceBEq, undef, (stA), Nat.reduceMul]; try simp (disch := omega) only [(vmp)])
  refine ydraw T0 [] (by kernel_rfl) (by kernel_rfl) (by kernel_rfl) (by kernel_rfl) ?_
  (simp only [gg, gv, hn, Option.isSome_some, if_true, (vmA), Nat.reduceEqDiff, reduceIte, Nat.reduceAdd, Int.reduceToNat, Int.reduceLE, Int.reduceLT, Int.reduceEq, Int.reduceNe, Int.reduceAdd, Int.reduceSub, Int.reduceNeg, Nat.reduceLT, Nat.reduceLeDiff, Nat.reduceBEq, undef, (stA), Nat.reduceMul]; try simp (disch := omega) only [(vmp)])
  refine ⟨⟨rfl, strK_ok hk _ _ _⟩, ?_⟩
  exact decide_eq_true hp
end Go.D

/- The node of a pair of two leaves. -/
set_option linter.unusedVariables false
set_option linter.unusedSimpArgs false
set_option linter.unnecessarySimpa false
set_option maxRecDepth 100000
namespace Go.D
open Go Go.Vm Go.Proofs Go.RowKit

def rowP (cs : List AV) (ver : Nat) : Ent := .arr 74 cs ver 0
set_option maxHeartbeats 4000000 in
theorem nodePair_ok (d1 m1 d2 m2 : List UInt8) (σ σ1 σ2 : List Ent) (e1 : σ1.length = σ.length) (e2 : σ2.length = σ.length) (x1 x2 : Ent) (N2 : List Ent) (p1 p2 : Nat)
    (gid v z clock : Nat) (es : List MEnt) (hg : σ[gid]? = some (graE v z)) (hv : σ[v]? = some (.map es clock)) (hn : mget (.str []) es = none) (hk : strK es)
    (h1 : ∀ a b c, ACalls E 56 [.ref gid 0 0, .agg [.str d1, .str m1, nilS]] (σ ++ [a, b, c]) fun r τ => r = .ref p1 0 0 ∧ τ = σ1 ++ ([a, b, c] ++ [x1, x2]))
    (h2 : ∀ L, L.length = 7 → ACalls E 56 [.ref gid 0 0, .agg [.str d2, .str m2, nilS]] (σ1 ++ L) fun r τ => r = .ref p2 0 0 ∧ τ = σ2 ++ (L ++ N2)) :
    ACalls E 56 [.ref gid 0 0, .agg [.str kiPair, .str [], .sl [.agg [.str d1, .str m1, nilS], .agg [.str d2, .str m2, nilS]]]] σ fun r τ => r = .ref (σ.length + 1) 0 0 ∧
      τ = σ2 ++ ([tyE kiPair [] (.sl [.agg [.str d1, .str m1, nilS], .agg [.str d2, .str m2, nilS]]), nodeE kiPair [] (.rsl (σ.length + 5) 1 0 2 1) nilP, tyE d1 m1 nilS, x1, x2, rowP [.ref p1 0 0, .ref p2 0 0] 1, tyE d2 m2 nilS] ++ N2) := by
  have gg := sget_of hg
  have gv := sget_of hv
  have n1 : ¬ ([112, 97, 105, 114] : List UInt8) = [118, 97, 114] := by decide
  simp only [graE] at gg
  refine xacalls T0 .stay [] Tryz.func56 rfl (by kernel_rfl) (by kernel_rfl) (by simp [Tryz.ntmps56]) ?_
  (simp only [(vmA), Nat.reduceEqDiff, reduceIte, Nat.reduceAdd, Int.reduceToNat, Int.reduceLE, Int.reduceLT, Int.reduceEq, Int.reduceNe, Int.reduceAdd, Int.reduceSub, Int.reduceNeg, Nat.reduceLT, Nat.reduceLeDiff, Nat.reduceBEq, undef, (stA), Nat.reduceMul]; try simp (disch := omega) only [(vmp)])
  refine ydraw T0 [] (by kernel_rfl) (by kernel_rfl) (by kernel_rfl) (by kernel_rfl) ?_
  (simp only [gg, gv, hn, n1, kiPair, Option.isSome_none, Bool.false_eq_true, if_false, (vmA), Nat.reduceEqDiff, reduceIte, Nat.reduceAdd, Int.reduceToNat, Int.reduceLE, Int.reduceLT, Int.reduceEq, Int.reduceNe, Int.reduceAdd, Int.reduceSub, Int.reduceNeg, Nat.reduceLT, Nat.reduceLeDiff, Nat.reduceBEq, undef, (stA), Nat.reduceMul]; try simp (disch := omega) only [(vmp)])
  refine ⟨⟨rfl, strK_ok hk _ _ _⟩, ?_⟩
  refine xloop (α := Nat) T0 (fun i => [(0, .ref gid 0 0), (3, .ref σ.length 0 0), (7, .ref (σ.length + 1) 0 0), (44, .sl [.agg [.str d1, .str m1, nilS], .agg [.str d2, .str m2, nilS]]), (45, i64 2), (46, i64 i)]) (fun i => if i = 0 then σ else if i = 1 then σ1 else σ2)
    (fun i => if i = 0 then [tyE kiPair [] (.sl [.agg [.str d1, .str m1, nilS], .agg [.str d2, .str m2, nilS]]), nodeE kiPair [] nilS nilP] else if i = 1 then [tyE kiPair [] (.sl [.agg [.str d1, .str m1, nilS], .agg [.str d2, .str m2, nilS]]), nodeE kiPair [] (.rsl (σ.length + 5) 0 0 1 1) nilP, tyE d1 m1 nilS, x1, x2, rowP [.ref p1 0 0] 0]
      else [tyE kiPair [] (.sl [.agg [.str d1, .str m1, nilS], .agg [.str d2, .str m2, nilS]]), nodeE kiPair [] (.rsl (σ.length + 5) 1 0 2 1) nilP, tyE d1 m1 nilS, x1, x2, rowP [.ref p1 0 0, .ref p2 0 0] 1, tyE d2 m2 nilS] ++ N2)
    (fun i => i ≤ 2) (fun i => 2 - i) (by kernel_rfl)
    ⟨0, by omega, by (simp only [(vmA), Nat.reduceEqDiff, reduceIte, Nat.reduceAdd, Int.reduceToNat, Int.reduceLE, Int.reduceLT, Int.reduceEq, Int.reduceNe, Int.reduceAdd, Int.reduceSub, Int.reduceNeg, Nat.reduceLT, Nat.reduceLeDiff, Nat.reduceBEq, undef, (stA), Nat.reduceMul, Int.natCast_zero]; try simp (disch := omega) only [(vmp)]), rfl, rfl⟩ ?_
  rintro i hi
  obtain rfl | rfl | rfl : i = 0 ∨ i = 1 ∨ i = 2 := by omega
  · have c1 : ((0 : Nat) : Int) < 2 := by omega
    have gA : [AV.agg [.str d1, .str m1, nilS], AV.agg [.str d2, .str m2, nilS]].getD 0 .un = .agg [.str d1, .str m1, nilS] := rfl
    (simp only [c1, gA, tyE, nodeE, (vmA), Nat.reduceEqDiff, reduceIte, Nat.reduceAdd, Int.reduceToNat, Int.reduceLE, Int.reduceLT, Int.reduceEq, Int.reduceNe, Int.reduceAdd, Int.reduceSub, Int.reduceNeg, Nat.reduceLT, Nat.reduceLeDiff, Nat.reduceBEq, undef, (stA), Nat.reduceMul]; try simp (disch := omega) only [(vmp)])
    refine zdraw T0 ⟨[9, 12], [7], [2, 3, 4, 6], some [1, 2], false⟩ (by kernel_rfl) (by kernel_rfl) (by kernel_rfl) (by kernel_rfl) ?_
    (simp only [zDraw_nil,zDraw_go,zDraw_if,zSlot_some,zGuard_tt,zGuard_ff,zGuard_tf,zGuard_ft,zGuard_un,zOut_some,zOut_pure,zOut_cond,zNext_move,zNext_assign,zNext_buildSlice,zNext_load,zNext_store,zNext_builtin,zNext_fieldAddr,zNext_nilCheck,zNext_indexAddr, (vmA), Nat.reduceEqDiff, reduceIte, Nat.reduceAdd, Int.reduceToNat, Int.reduceLE, Int.reduceLT, Int.reduceEq, Int.reduceNe, Int.reduceAdd, Int.reduceSub, Int.reduceNeg, Nat.reduceLT, Nat.reduceLeDiff, Nat.reduceBEq, undef, (stA), Nat.reduceMul]; try simp (disch := omega) only [(vmp)])
    refine zNext.looseS (r := .ref (σ.length + 1) 0 0) rfl rfl rfl rfl (fun g' l' hg' hl' => ⟨True, trivial, ?_⟩) ?_
    · have q1 := hl' 1 (by simp)
      have s1 : sget g' l' (σ.length + 1) = some (nodeE kiPair [] nilS nilP) := by unfold sget; rw [hg', if_neg (by omega), Nat.add_sub_cancel_left, q1]; rfl
      simp only [nodeE] at s1
      (simp only [s1, (vmA), Nat.reduceEqDiff, reduceIte, Nat.reduceAdd, Int.reduceToNat, Int.reduceLE, Int.reduceLT, Int.reduceEq, Int.reduceNe, Int.reduceAdd, Int.reduceSub, Int.reduceNeg, Nat.reduceLT, Nat.reduceLeDiff, Nat.reduceBEq, undef, (stA), Nat.reduceMul]; try simp (disch := omega) only [(vmp)])
    (simp only [zDraw_nil,zDraw_go,zDraw_if,zSlot_some,zGuard_tt,zGuard_ff,zGuard_tf,zGuard_ft,zGuard_un,zOut_some,zOut_pure,zOut_cond,zNext_move,zNext_assign,zNext_buildSlice,zNext_load,zNext_store,zNext_builtin,zNext_fieldAddr,zNext_nilCheck,zNext_indexAddr, (vmA), Nat.reduceEqDiff, reduceIte, Nat.reduceAdd, Int.reduceToNat, Int.reduceLE, Int.reduceLT, Int.reduceEq, Int.reduceNe, Int.reduceAdd, Int.reduceSub, Int.reduceNeg, Nat.reduceLT, Nat.reduceLeDiff, Nat.reduceBEq, undef, (stA), Nat.reduceMul]; try simp (disch := omega) only [(vmp)])
    refine zNext.looseS (r := .ref (σ.length + 1) 0 2) rfl rfl rfl rfl (fun g' l' hg' hl' => ⟨True, trivial, ?_⟩) ?_
    · have q1 := hl' 1 (by simp)
      have s1 : sget g' l' (σ.length + 1) = some (nodeE kiPair [] nilS nilP) := by unfold sget; rw [hg', if_neg (by omega), Nat.add_sub_cancel_left, q1]; rfl
      simp only [nodeE] at s1
      (simp only [s1, (vmA), Nat.reduceEqDiff, reduceIte, Nat.reduceAdd, Int.reduceToNat, Int.reduceLE, Int.reduceLT, Int.reduceEq, Int.reduceNe, Int.reduceAdd, Int.reduceSub, Int.reduceNeg, Nat.reduceLT, Nat.reduceLeDiff, Nat.reduceBEq, undef, (stA), Nat.reduceMul]; try simp (disch := omega) only [(vmp)])
    (simp only [zDraw_nil,zDraw_go,zDraw_if,zSlot_some,zGuard_tt,zGuard_ff,zGuard_tf,zGuard_ft,zGuard_un,zOut_some,zOut_pure,zOut_cond,zNext_move,zNext_assign,zNext_buildSlice,zNext_load,zNext_store,zNext_builtin,zNext_fieldAddr,zNext_nilCheck,zNext_indexAddr, (vmA), Nat.reduceEqDiff, reduceIte, Nat.reduceAdd, Int.reduceToNat, Int.reduceLE, Int.reduceLT, Int.reduceEq, Int.reduceNe, Int.reduceAdd, Int.reduceSub, Int.reduceNeg, Nat.reduceLT, Nat.reduceLeDiff, Nat.reduceBEq, undef, (stA), Nat.reduceMul]; try simp (disch := omega) only [(vmp)])
    refine zNext.looseS (r := nilS) rfl rfl rfl rfl (fun g' l' hg' hl' => ⟨True, trivial, ?_⟩) ?_
    · have q1 := hl' 1 (by simp)
      have s1 : sget g' l' (σ.length + 1) = some (nodeE kiPair [] nilS nilP) := by unfold sget; rw [hg', if_neg (by omega), Nat.add_sub_cancel_left, q1]; rfl
      simp only [nodeE] at s1
      (simp only [s1, (vmA), Nat.reduceEqDiff, reduceIte, Nat.reduceAdd, Int.reduceToNat, Int.reduceLE, Int.reduceLT, Int.reduceEq, Int.reduceNe, Int.reduceAdd, Int.reduceSub, Int.reduceNeg, Nat.reduceLT, Nat.reduceLeDiff, Nat.reduceBEq, undef, (stA), Nat.reduceMul]; try simp (disch := omega) only [(vmp)])
    (simp only [zDraw_nil,zDraw_go,zDraw_if,zSlot_some,zGuard_tt,zGuard_ff,zGuard_tf,zGuard_ft,zGuard_un,zOut_some,zOut_pure,zOut_cond,zNext_move,zNext_assign,zNext_buildSlice,zNext_load,zNext_store,zNext_builtin,zNext_fieldAddr,zNext_nilCheck,zNext_indexAddr, (vmA), Nat.reduceEqDiff, reduceIte, Nat.reduceAdd, Int.reduceToNat, Int.reduceLE, Int.reduceLT, Int.reduceEq, Int.reduceNe, Int.reduceAdd, Int.reduceSub, Int.reduceNeg, Nat.reduceLT, Nat.reduceLeDiff, Nat.reduceBEq, undef, (stA), Nat.reduceMul]; try simp (disch := omega) only [(vmp)])
    refine zNext.looseS (r := .agg [.str d1, .str m1, nilS]) rfl rfl rfl rfl (fun g' l' hg' hl' => ⟨True, trivial, ?_⟩) ?_
    · have q1 := hl' 2 (by simp)
      have s1 : sget g' l' (σ.length + 2) = some (.arr 24 [.str d1, .str m1, nilS] 0 0) := by unfold sget; rw [hg', if_neg (by omega), Nat.add_sub_cancel_left, q1]; rfl
      (simp only [s1, (vmA), Nat.reduceEqDiff, reduceIte, Nat.reduceAdd, Int.reduceToNat, Int.reduceLE, Int.reduceLT, Int.reduceEq, Int.reduceNe, Int.reduceAdd, Int.reduceSub, Int.reduceNeg, Nat.reduceLT, Nat.reduceLeDiff, Nat.reduceBEq, undef, (stA), Nat.reduceMul]; try simp (disch := omega) only [(vmp)])
    (simp only [zDraw_nil,zDraw_go,zDraw_if,zSlot_some,zGuard_tt,zGuard_ff,zGuard_tf,zGuard_ft,zGuard_un,zOut_some,zOut_pure,zOut_cond,zNext_move,zNext_assign,zNext_buildSlice,zNext_load,zNext_store,zNext_builtin,zNext_fieldAddr,zNext_nilCheck,zNext_indexAddr, (vmA), Nat.reduceEqDiff, reduceIte, Nat.reduceAdd, Int.reduceToNat, Int.reduceLE, Int.reduceLT, Int.reduceEq, Int.reduceNe, Int.reduceAdd, Int.reduceSub, Int.reduceNeg, Nat.reduceLT, Nat.reduceLeDiff, Nat.reduceBEq, undef, (stA), Nat.reduceMul]; try simp (disch := omega) only [(vmp)])
    refine zNext.softC (by rfl) (by rfl) _ rfl (h1 _ _ _) e1 (by intro n hn; simp at hn; rcases hn with rfl | rfl <;> rfl) ?_
    rw [← e1]
    (simp only [zDraw_nil,zDraw_go,zDraw_if,zSlot_some,zGuard_tt,zGuard_ff,zGuard_tf,zGuard_ft,zGuard_un,zOut_some,zOut_pure,zOut_cond,zNext_move,zNext_assign,zNext_buildSlice,zNext_load,zNext_store,zNext_builtin,zNext_fieldAddr,zNext_nilCheck,zNext_indexAddr, (vmA), Nat.reduceEqDiff, reduceIte, Nat.reduceAdd, Int.reduceToNat, Int.reduceLE, Int.reduceLT, Int.reduceEq, Int.reduceNe, Int.reduceAdd, Int.reduceSub, Int.reduceNeg, Nat.reduceLT, Nat.reduceLeDiff, Nat.reduceBEq, undef, (stA), Nat.reduceMul]; try simp (disch := omega) only [(vmp)])
    exact ⟨by unfold maxRoom; omega, 1, by omega, by omega, rfl, rfl, rfl⟩
  · have c1 : ((1 : Nat) : Int) < 2 := by omega
    have c2 : ¬ (1 : Nat) = 0 := by omega
    have gA : [AV.agg [.str d1, .str m1, nilS], AV.agg [.str d2, .str m2, nilS]].getD 1 .un = .agg [.str d2, .str m2, nilS] := rfl
    rw [← e1]
    (simp only [c1, c2, gA, tyE, nodeE, rowP, if_false, if_true, (vmA), Nat.reduceEqDiff, reduceIte, Nat.reduceAdd, Int.reduceToNat, Int.reduceLE, Int.reduceLT, Int.reduceEq, Int.reduceNe, Int.reduceAdd, Int.reduceSub, Int.reduceNeg, Nat.reduceLT, Nat.reduceLeDiff, Nat.reduceBEq, undef, (stA), Nat.reduceMul]; try simp (disch := omega) only [(vmp)])
    refine zdraw T0 ⟨[9, 12], [7], [2, 3, 4, 6], some [1, 6], false⟩ (by kernel_rfl) (by kernel_rfl) (by kernel_rfl) (by kernel_rfl) ?_
    (simp only [zDraw_nil,zDraw_go,zDraw_if,zSlot_some,zGuard_tt,zGuard_ff,zGuard_tf,zGuard_ft,zGuard_un,zOut_some,zOut_pure,zOut_cond,zNext_move,zNext_assign,zNext_buildSlice,zNext_load,zNext_store,zNext_builtin,zNext_fieldAddr,zNext_nilCheck,zNext_indexAddr, (vmA), Nat.reduceEqDiff, reduceIte, Nat.reduceAdd, Int.reduceToNat, Int.reduceLE, Int.reduceLT, Int.reduceEq, Int.reduceNe, Int.reduceAdd, Int.reduceSub, Int.reduceNeg, Nat.reduceLT, Nat.reduceLeDiff, Nat.reduceBEq, undef, (stA), Nat.reduceMul]; try simp (disch := omega) only [(vmp)])
    refine zNext.looseS (r := .ref (σ1.length + 1) 0 0) rfl rfl rfl rfl (fun g' l' hg' hl' => ⟨True, trivial, ?_⟩) ?_
    · have q1 := hl' 1 (by simp)
      have s1 : sget g' l' (σ1.length + 1) = some (nodeE kiPair [] (.rsl (σ1.length + 5) 0 0 1 1) nilP) := by unfold sget; rw [hg', if_neg (by omega), Nat.add_sub_cancel_left, q1]; rfl
      simp only [nodeE] at s1
      (simp only [s1, (vmA), Nat.reduceEqDiff, reduceIte, Nat.reduceAdd, Int.reduceToNat, Int.reduceLE, Int.reduceLT, Int.reduceEq, Int.reduceNe, Int.reduceAdd, Int.reduceSub, Int.reduceNeg, Nat.reduceLT, Nat.reduceLeDiff, Nat.reduceBEq, undef, (stA), Nat.reduceMul]; try simp (disch := omega) only [(vmp)])
    (simp only [zDraw_nil,zDraw_go,zDraw_if,zSlot_some,zGuard_tt,zGuard_ff,zGuard_tf,zGuard_ft,zGuard_un,zOut_some,zOut_pure,zOut_cond,zNext_move,zNext_assign,zNext_buildSlice,zNext_load,zNext_store,zNext_builtin,zNext_fieldAddr,zNext_nilCheck,zNext_indexAddr, (vmA), Nat.reduceEqDiff, reduceIte, Nat.reduceAdd, Int.reduceToNat, Int.reduceLE, Int.reduceLT, Int.reduceEq, Int.reduceNe, Int.reduceAdd, Int.reduceSub, Int.reduceNeg, Nat.reduceLT, Nat.reduceLeDiff, Nat.reduceBEq, undef, (stA), Nat.reduceMul]; try simp (disch := omega) only [(vmp)])
    refine zNext.looseS (r := .ref (σ1.length + 1) 0 2) rfl rfl rfl rfl (fun g' l' hg' hl' => ⟨True, trivial, ?_⟩) ?_
    · have q1 := hl' 1 (by simp)
      have s1 : sget g' l' (σ1.length + 1) = some (nodeE kiPair [] (.rsl (σ1.length + 5) 0 0 1 1) nilP) := by unfold sget; rw [hg', if_neg (by omega), Nat.add_sub_cancel_left, q1]; rfl
      simp only [nodeE] at s1
      (simp only [s1, (vmA), Nat.reduceEqDiff, reduceIte, Nat.reduceAdd, Int.reduceToNat, Int.reduceLE, Int.reduceLT, Int.reduceEq, Int.reduceNe, Int.reduceAdd, Int.reduceSub, Int.reduceNeg, Nat.reduceLT, Nat.reduceLeDiff, Nat.reduceBEq, undef, (stA), Nat.reduceMul]; try simp (disch := omega) only [(vmp)])
    (simp only [zDraw_nil,zDraw_go,zDraw_if,zSlot_some,zGuard_tt,zGuard_ff,zGuard_tf,zGuard_ft,zGuard_un,zOut_some,zOut_pure,zOut_cond,zNext_move,zNext_assign,zNext_buildSlice,zNext_load,zNext_store,zNext_builtin,zNext_fieldAddr,zNext_nilCheck,zNext_indexAddr, (vmA), Nat.reduceEqDiff, reduceIte, Nat.reduceAdd, Int.reduceToNat, Int.reduceLE, Int.reduceLT, Int.reduceEq, Int.reduceNe, Int.reduceAdd, Int.reduceSub, Int.reduceNeg, Nat.reduceLT, Nat.reduceLeDiff, Nat.reduceBEq, undef, (stA), Nat.reduceMul]; try simp (disch := omega) only [(vmp)])
    refine zNext.looseS (r := (.rsl (σ1.length + 5) 0 0 1 1)) rfl rfl rfl rfl (fun g' l' hg' hl' => ⟨True, trivial, ?_⟩) ?_
    · have q1 := hl' 1 (by simp)
      have s1 : sget g' l' (σ1.length + 1) = some (nodeE kiPair [] (.rsl (σ1.length + 5) 0 0 1 1) nilP) := by unfold sget; rw [hg', if_neg (by omega), Nat.add_sub_cancel_left, q1]; rfl
      simp only [nodeE] at s1
      (simp only [s1, (vmA), Nat.reduceEqDiff, reduceIte, Nat.reduceAdd, Int.reduceToNat, Int.reduceLE, Int.reduceLT, Int.reduceEq, Int.reduceNe, Int.reduceAdd, Int.reduceSub, Int.reduceNeg, Nat.reduceLT, Nat.reduceLeDiff, Nat.reduceBEq, undef, (stA), Nat.reduceMul]; try simp (disch := omega) only [(vmp)])
    (simp only [zDraw_nil,zDraw_go,zDraw_if,zSlot_some,zGuard_tt,zGuard_ff,zGuard_tf,zGuard_ft,zGuard_un,zOut_some,zOut_pure,zOut_cond,zNext_move,zNext_assign,zNext_buildSlice,zNext_load,zNext_store,zNext_builtin,zNext_fieldAddr,zNext_nilCheck,zNext_indexAddr, (vmA), Nat.reduceEqDiff, reduceIte, Nat.reduceAdd, Int.reduceToNat, Int.reduceLE, Int.reduceLT, Int.reduceEq, Int.reduceNe, Int.reduceAdd, Int.reduceSub, Int.reduceNeg, Nat.reduceLT, Nat.reduceLeDiff, Nat.reduceBEq, undef, (stA), Nat.reduceMul]; try simp (disch := omega) only [(vmp)])
    refine zNext.looseS (r := .agg [.str d2, .str m2, nilS]) rfl rfl rfl rfl (fun g' l' hg' hl' => ⟨True, trivial, ?_⟩) ?_
    · have q1 := hl' 6 (by simp)
      have s1 : sget g' l' (σ1.length + 6) = some (.arr 24 [.str d2, .str m2, nilS] 0 0) := by unfold sget; rw [hg', if_neg (by omega), Nat.add_sub_cancel_left, q1]; rfl
      (simp only [s1, (vmA), Nat.reduceEqDiff, reduceIte, Nat.reduceAdd, Int.reduceToNat, Int.reduceLE, Int.reduceLT, Int.reduceEq, Int.reduceNe, Int.reduceAdd, Int.reduceSub, Int.reduceNeg, Nat.reduceLT, Nat.reduceLeDiff, Nat.reduceBEq, undef, (stA), Nat.reduceMul]; try simp (disch := omega) only [(vmp)])
    (simp only [zDraw_nil,zDraw_go,zDraw_if,zSlot_some,zGuard_tt,zGuard_ff,zGuard_tf,zGuard_ft,zGuard_un,zOut_some,zOut_pure,zOut_cond,zNext_move,zNext_assign,zNext_buildSlice,zNext_load,zNext_store,zNext_builtin,zNext_fieldAddr,zNext_nilCheck,zNext_indexAddr, (vmA), Nat.reduceEqDiff, reduceIte, Nat.reduceAdd, Int.reduceToNat, Int.reduceLE, Int.reduceLT, Int.reduceEq, Int.reduceNe, Int.reduceAdd, Int.reduceSub, Int.reduceNeg, Nat.reduceLT, Nat.reduceLeDiff, Nat.reduceBEq, undef, (stA), Nat.reduceMul]; try simp (disch := omega) only [(vmp)])
    refine zNext.softC (by rfl) (by rfl) _ rfl (h2 _ rfl) (by omega) (by intro n hn; simp at hn; rcases hn with rfl | rfl <;> rfl) ?_
    have e3 : σ1.length = σ2.length := by omega
    rw [e3]
    (simp only [zDraw_nil,zDraw_go,zDraw_if,zSlot_some,zGuard_tt,zGuard_ff,zGuard_tf,zGuard_ft,zGuard_un,zOut_some,zOut_pure,zOut_cond,zNext_move,zNext_assign,zNext_buildSlice,zNext_load,zNext_store,zNext_builtin,zNext_fieldAddr,zNext_nilCheck,zNext_indexAddr, (vmA), Nat.reduceEqDiff, reduceIte, Nat.reduceAdd, Int.reduceToNat, Int.reduceLE, Int.reduceLT, Int.reduceEq, Int.reduceNe, Int.reduceAdd, Int.reduceSub, Int.reduceNeg, Nat.reduceLT, Nat.reduceLeDiff, Nat.reduceBEq, undef, (stA), Nat.reduceMul]; try simp (disch := omega) only [(vmp)])
    exact ⟨by unfold maxRoom; omega, 2, by omega, by omega, rfl, rfl, rfl⟩
  · have c1 : ¬ ((2 : Nat) : Int) < 2 := by omega
    have c2 : ¬ (2 : Nat) = 0 := by omega
    have c3 : ¬ (2 : Nat) = 1 := by omega
    (simp only [c1, c2, c3, if_false, (vmA), Nat.reduceEqDiff, reduceIte, Nat.reduceAdd, Int.reduceToNat, Int.reduceLE, Int.reduceLT, Int.reduceEq, Int.reduceNe, Int.reduceAdd, Int.reduceSub, Int.reduceNeg, Nat.reduceLT, Nat.reduceLeDiff, Nat.reduceBEq, undef, (stA), Nat.reduceMul]; try simp (disch := omega) only [(vmp)])
end Go.D

/- Two nodes made one: variables, a leaf and a variable, and the example's pairs. -/
set_option linter.unusedVariables false
set_option linter.unusedSimpArgs false
set_option linter.unnecessarySimpa false
set_option maxRecDepth 100000
namespace Go.D
open Go Go.Vm Go.Proofs Go.RowKit

theorem plain_of {S : List Ent} {r : Nat} {d n : List UInt8} {a k : AV} (h : S[r]? = some (nodeE d n a k)) (l : List Ent) : plainRef S l r 0 := by
  unfold plainRef; rw [sget_of h]; exact ⟨rfl, rfl⟩
set_option maxHeartbeats 4000000 in
theorem unifyVV_ok (gv : AV) (S : List Ent) (pa pb ra rb ka kb : Nat) (ha : Ends S ka pa ra) (hb : Ends S kb pb rb) (na nb : List UInt8) (hra : S[ra]? = some (nodeE kiVar na nilS nilP)) (hrb : S[rb]? = some (nodeE kiVar nb nilS nilP)) (hlt : Op.bytesLess na nb = true) (hne : ra ≠ rb) :
    ACalls E 55 [gv, .ref pa 0 0, .ref pb 0 0] S fun r τ => r = boolV true ∧ τ = S.set rb (nodeE kiVar nb nilS (.ref ra 0 0)) := by
  have la := lt_of_get hra
  have lb := lt_of_get hrb
  have ga := sget_of hra
  have gb := sget_of hrb
  simp only [nodeE] at ga gb
  have sG0 : ∀ e, ssetG S rb e = S.set rb e := fun e => by unfold ssetG; rw [if_pos lb]
  have sL0 : ∀ e l, ssetL S l rb e = l := fun e l => by unfold ssetL; rw [if_pos lb]
  refine xacalls T0 .drop [] Tryz.func55 rfl (by kernel_rfl) (by kernel_rfl) (by simp [Tryz.ntmps55]) ?_
  (simp only [(vmA), Nat.reduceEqDiff, reduceIte, Nat.reduceAdd, Int.reduceToNat, Int.reduceLE, Int.reduceLT, Int.reduceEq, Int.reduceNe, Int.reduceAdd, Int.reduceSub, Int.reduceNeg, Nat.reduceLT, Nat.reduceLeDiff, Nat.reduceBEq, undef, (stA), Nat.reduceMul]; try simp (disch := omega) only [(vmp)])
  refine xWait.go (end_ok S pa ra ka ha) ?_
  (simp only [(vmA), Nat.reduceEqDiff, reduceIte, Nat.reduceAdd, Int.reduceToNat, Int.reduceLE, Int.reduceLT, Int.reduceEq, Int.reduceNe, Int.reduceAdd, Int.reduceSub, Int.reduceNeg, Nat.reduceLT, Nat.reduceLeDiff, Nat.reduceBEq, undef, (stA), Nat.reduceMul]; try simp (disch := omega) only [(vmp)])
  refine xWait.go (end_ok S pb rb kb hb) ?_
  (simp only [ga, gb, sG0, sL0, hne, (vmA), Nat.reduceEqDiff, reduceIte, Nat.reduceAdd, Int.reduceToNat, Int.reduceLE, Int.reduceLT, Int.reduceEq, Int.reduceNe, Int.reduceAdd, Int.reduceSub, Int.reduceNeg, Nat.reduceLT, Nat.reduceLeDiff, Nat.reduceBEq, undef, (stA), Nat.reduceMul]; try simp (disch := omega) only [(vmp)])
  refine ⟨⟨plain_of hra _, plain_of hrb _⟩, ?_⟩
  refine ydraw T0 [] (by kernel_rfl) (by kernel_rfl) (by kernel_rfl) (by kernel_rfl) ?_
  (simp only [ga, gb, sG0, sL0, hlt, (vmA), Nat.reduceEqDiff, reduceIte, Nat.reduceAdd, Int.reduceToNat, Int.reduceLE, Int.reduceLT, Int.reduceEq, Int.reduceNe, Int.reduceAdd, Int.reduceSub, Int.reduceNeg, Nat.reduceLT, Nat.reduceLeDiff, Nat.reduceBEq, undef, (stA), Nat.reduceMul]; try simp (disch := omega) only [(vmp)])
  exact ⟨storeLow_set (by simp only [Ent.low, AV.low.lows, AV.low, la, decide_true, Bool.and_self]), rfl⟩
set_option maxHeartbeats 4000000 in
theorem unifyTV_ok (gv : AV) (S : List Ent) (pa pb ra rb ka kb : Nat) (ha : Ends S ka pa ra) (hb : Ends S kb pb rb) (d nb : List UInt8) (hd : ¬ d = kiVar) (hra : S[ra]? = some (nodeE d [] nilS nilP)) (hrb : S[rb]? = some (nodeE kiVar nb nilS nilP)) (hne : ra ≠ rb) :
    ACalls E 55 [gv, .ref pa 0 0, .ref pb 0 0] S fun r τ => r = boolV true ∧ τ = S.set rb (nodeE kiVar nb nilS (.ref ra 0 0)) := by
  have la := lt_of_get hra
  have lb := lt_of_get hrb
  have ga := sget_of hra
  have gb := sget_of hrb
  have n1 : ¬ d = [118, 97, 114] := hd
  simp only [nodeE] at ga gb
  have sG0 : ∀ e, ssetG S rb e = S.set rb e := fun e => by unfold ssetG; rw [if_pos lb]
  have sL0 : ∀ e l, ssetL S l rb e = l := fun e l => by unfold ssetL; rw [if_pos lb]
  refine xacalls T0 .drop [] Tryz.func55 rfl (by kernel_rfl) (by kernel_rfl) (by simp [Tryz.ntmps55]) ?_
  (simp only [(vmA), Nat.reduceEqDiff, reduceIte, Nat.reduceAdd, Int.reduceToNat, Int.reduceLE, Int.reduceLT, Int.reduceEq, Int.reduceNe, Int.reduceAdd, Int.reduceSub, Int.reduceNeg, Nat.reduceLT, Nat.reduceLeDiff, Nat.reduceBEq, undef, (stA), Nat.reduceMul]; try simp (disch := omega) only [(vmp)])
  refine xWait.go (end_ok S pa ra ka ha) ?_
  (simp only [(vmA), Nat.reduceEqDiff, reduceIte, Nat.reduceAdd, Int.reduceToNat, Int.reduceLE, Int.reduceLT, Int.reduceEq, Int.reduceNe, Int.reduceAdd, Int.reduceSub, Int.reduceNeg, Nat.reduceLT, Nat.reduceLeDiff, Nat.reduceBEq, undef, (stA), Nat.reduceMul]; try simp (disch := omega) only [(vmp)])
  refine xWait.go (end_ok S pb rb kb hb) ?_
  (simp only [ga, gb, sG0, sL0, hne, n1, (vmA), Nat.reduceEqDiff, reduceIte, Nat.reduceAdd, Int.reduceToNat, Int.reduceLE, Int.reduceLT, Int.reduceEq, Int.reduceNe, Int.reduceAdd, Int.reduceSub, Int.reduceNeg, Nat.reduceLT, Nat.reduceLeDiff, Nat.reduceBEq, undef, (stA), Nat.reduceMul]; try simp (disch := omega) only [(vmp)])
  refine ⟨⟨plain_of hra _, plain_of hrb _⟩, ?_⟩
  exact ⟨storeLow_set (by simp only [Ent.low, AV.low.lows, AV.low, la, decide_true, Bool.and_self]), rfl⟩
theorem set_get {S : List Ent} {i j : Nat} {x e : Ent} (h : S[j]? = some e) (hne : i ≠ j) : (S.set i x)[j]? = some e := by rw [get_set_ne hne]; exact h
abbrev na : List UInt8 := [39, 97]
abbrev nb : List UInt8 := [39, 98]
set_option maxHeartbeats 4000000 in
/-- The example's pairs. -/
theorem unifyEx_ok (gv : AV) (S : List Ent) (p1 a r1 i p2 b r2 : Nat) (h1 : p1 < a) (h2 : a < r1) (h3 : r1 < i) (h4 : i < p2) (h5 : p2 < b) (h6 : b < r2)
    (q1 : S[p1]? = some (nodeE kiPair [] (.rsl r1 1 0 2 1) nilP)) (q2 : S[a]? = some (nodeE kiVar na nilS nilP)) (q3 : S[r1]? = some (rowP [.ref a 0 0, .ref i 0 0] 1)) (q4 : S[i]? = some (nodeE kiInt [] nilS nilP))
    (q5 : S[p2]? = some (nodeE kiPair [] (.rsl r2 1 0 2 1) nilP)) (q6 : S[b]? = some (nodeE kiVar nb nilS nilP)) (q7 : S[r2]? = some (rowP [.ref b 0 0, .ref b 0 0] 1)) :
    ACalls E 55 [gv, .ref p1 0 0, .ref p2 0 0] S fun r τ => r = boolV true ∧
      τ = ((S.set p1 (nodeE kiPair [] (.rsl r1 1 0 2 1) (.ref p2 0 0))).set b (nodeE kiVar nb nilS (.ref a 0 0))).set a (nodeE kiVar na nilS (.ref i 0 0)) := by
  have l1 := lt_of_get q1
  have l5 := lt_of_get q5
  have g1 := sget_of q1
  have g5 := sget_of q5
  simp only [nodeE] at g1 g5
  have sG0 : ∀ e, ssetG S p1 e = S.set p1 e := fun e => by unfold ssetG; rw [if_pos l1]
  have sL0 : ∀ e l, ssetL S l p1 e = l := fun e l => by unfold ssetL; rw [if_pos l1]
  have hne : ¬ p1 = p2 := by omega
  have n1 : ¬ ([112, 97, 105, 114] : List UInt8) = [118, 97, 114] := by decide
  refine xacalls T0 .drop [] Tryz.func55 rfl (by kernel_rfl) (by kernel_rfl) (by simp [Tryz.ntmps55]) ?_
  (simp only [(vmA), Nat.reduceEqDiff, reduceIte, Nat.reduceAdd, Int.reduceToNat, Int.reduceLE, Int.reduceLT, Int.reduceEq, Int.reduceNe, Int.reduceAdd, Int.reduceSub, Int.reduceNeg, Nat.reduceLT, Nat.reduceLeDiff, Nat.reduceBEq, undef, (stA), Nat.reduceMul]; try simp (disch := omega) only [(vmp)])
  refine xWait.go (end_ok S p1 p1 0 (.here q1)) ?_
  (simp only [(vmA), Nat.reduceEqDiff, reduceIte, Nat.reduceAdd, Int.reduceToNat, Int.reduceLE, Int.reduceLT, Int.reduceEq, Int.reduceNe, Int.reduceAdd, Int.reduceSub, Int.reduceNeg, Nat.reduceLT, Nat.reduceLeDiff, Nat.reduceBEq, undef, (stA), Nat.reduceMul]; try simp (disch := omega) only [(vmp)])
  refine xWait.go (end_ok S p2 p2 0 (.here q5)) ?_
  (simp only [g1, g5, sG0, sL0, hne, n1, kiPair, (vmA), Nat.reduceEqDiff, reduceIte, Nat.reduceAdd, Int.reduceToNat, Int.reduceLE, Int.reduceLT, Int.reduceEq, Int.reduceNe, Int.reduceAdd, Int.reduceSub, Int.reduceNeg, Nat.reduceLT, Nat.reduceLeDiff, Nat.reduceBEq, undef, (stA), Nat.reduceMul]; try simp (disch := omega) only [(vmp)])
  refine ⟨⟨plain_of q1 _, plain_of q5 _⟩, ?_⟩
  refine ydraw T0 [] (by kernel_rfl) (by kernel_rfl) (by kernel_rfl) (by kernel_rfl) ?_
  have hS0 : ∃ S0, S0 = S.set p1 (nodeE kiPair [] (.rsl r1 1 0 2 1) (.ref p2 0 0)) := ⟨_, rfl⟩
  obtain ⟨S0, hS0⟩ := hS0
  have f1 : S0[p1]? = some (nodeE kiPair [] (.rsl r1 1 0 2 1) (.ref p2 0 0)) := by rw [hS0]; exact get_set_self q1
  have f2 : S0[a]? = some (nodeE kiVar na nilS nilP) := by rw [hS0]; exact set_get q2 (by omega)
  have f3 : S0[r1]? = some (rowP [.ref a 0 0, .ref i 0 0] 1) := by rw [hS0]; exact set_get q3 (by omega)
  have f4 : S0[i]? = some (nodeE kiInt [] nilS nilP) := by rw [hS0]; exact set_get q4 (by omega)
  have f5 : S0[p2]? = some (nodeE kiPair [] (.rsl r2 1 0 2 1) nilP) := by rw [hS0]; exact set_get q5 (by omega)
  have f6 : S0[b]? = some (nodeE kiVar nb nilS nilP) := by rw [hS0]; exact set_get q6 (by omega)
  have f7 : S0[r2]? = some (rowP [.ref b 0 0, .ref b 0 0] 1) := by rw [hS0]; exact set_get q7 (by omega)
  obtain ⟨S1, hS1⟩ : ∃ S1, S1 = S0.set b (nodeE kiVar nb nilS (.ref a 0 0)) := ⟨_, rfl⟩
  have k1 : S1[p1]? = some (nodeE kiPair [] (.rsl r1 1 0 2 1) (.ref p2 0 0)) := by rw [hS1]; exact set_get f1 (by omega)
  have k2 : S1[a]? = some (nodeE kiVar na nilS nilP) := by rw [hS1]; exact set_get f2 (by omega)
  have k3 : S1[r1]? = some (rowP [.ref a 0 0, .ref i 0 0] 1) := by rw [hS1]; exact set_get f3 (by omega)
  have k4 : S1[i]? = some (nodeE kiInt [] nilS nilP) := by rw [hS1]; exact set_get f4 (by omega)
  have k5 : S1[p2]? = some (nodeE kiPair [] (.rsl r2 1 0 2 1) nilP) := by rw [hS1]; exact set_get f5 (by omega)
  have k6 : S1[b]? = some (nodeE kiVar nb nilS (.ref a 0 0)) := by rw [hS1]; exact get_set_self f6
  have k7 : S1[r2]? = some (rowP [.ref b 0 0, .ref b 0 0] 1) := by rw [hS1]; exact set_get f7 (by omega)
  obtain ⟨S2, hS2⟩ : ∃ S2, S2 = S1.set a (nodeE kiVar na nilS (.ref i 0 0)) := ⟨_, rfl⟩
  have n0 : S0.length = S.length := by rw [hS0]; simp
  have n01 : S1.length = S.length := by rw [hS1]; simp [n0]
  have n02 : S2.length = S.length := by rw [hS2]; simp [n01]
  have u1 := unifyVV_ok gv S0 a b a b 0 0 (.here f2) (.here f6) na nb f2 f6 rfl (by omega)
  have u2 := unifyTV_ok gv S1 i b i a 0 1 (.here k4) (.step k6 (.here k2)) kiInt na (by decide) k4 k2 (by omega)
  rw [← hS1] at u1
  rw [← hS2] at u2
  have sgf1 := sget_of f1
  have sgf3 := sget_of f3
  have sgf5 := sget_of f5
  have sgf7 := sget_of f7
  have sgk1 := sget_of k1
  have sgk3 := sget_of k3
  have sgk5 := sget_of k5
  have sgk7 := sget_of k7
  have hlow : StoreLow S.length S S2 := by
    intro j e he
    rw [hS2] at he
    rcases get_set he with ⟨_, rfl, _⟩ | ⟨_, he⟩
    · exact .inr (by simp only [nodeE, Ent.low, AV.low.lows, AV.low, lt_of_get q4, decide_true, Bool.and_self])
    · rw [hS1] at he
      rcases get_set he with ⟨_, rfl, _⟩ | ⟨_, he⟩
      · exact .inr (by simp only [nodeE, Ent.low, AV.low.lows, AV.low, lt_of_get q2, decide_true, Bool.and_self])
      · rw [hS0] at he
        rcases get_set he with ⟨_, rfl, _⟩ | ⟨_, he⟩
        · exact .inr (by simp only [nodeE, Ent.low, AV.low.lows, AV.low, lt_of_get q5, lt_of_get q3, decide_true, Bool.and_self])
        · exact .inl he
  rw [← hS0, ← hS1, ← hS2]
  simp only [nodeE, rowP, kiPair] at hS0 sgf1 sgf3 sgf5 sgf7 sgk1 sgk3 sgk5 sgk7
  (simp only [g1, g5, sG0, sL0, hne, n1, ← hS0, sgf1, kiPair, (vmA), Nat.reduceEqDiff, reduceIte, Nat.reduceAdd, Int.reduceToNat, Int.reduceLE, Int.reduceLT, Int.reduceEq, Int.reduceNe, Int.reduceAdd, Int.reduceSub, Int.reduceNeg, Nat.reduceLT, Nat.reduceLeDiff, Nat.reduceBEq, undef, (stA), Nat.reduceMul]; try simp (disch := omega) only [(vmp)])
  refine xloop (α := Nat) T0 (fun j => [(0, gv), (1, .ref p1 0 0), (2, .ref p2 0 0), (106, i64 2), (107, i64 j)]) (fun j => if j = 0 then S0 else if j = 1 then S1 else S2) (fun _ => []) (fun j => j ≤ 2) (fun j => 2 - j) (by kernel_rfl)
    ⟨0, by omega, by (simp only [(vmA), Nat.reduceEqDiff, reduceIte, Nat.reduceAdd, Int.reduceToNat, Int.reduceLE, Int.reduceLT, Int.reduceEq, Int.reduceNe, Int.reduceAdd, Int.reduceSub, Int.reduceNeg, Nat.reduceLT, Nat.reduceLeDiff, Nat.reduceBEq, undef, (stA), Nat.reduceMul, Int.natCast_zero]; try simp (disch := omega) only [(vmp)]), rfl, rfl⟩ ?_
  rintro j hj
  obtain rfl | rfl | rfl : j = 0 ∨ j = 1 ∨ j = 2 := by omega
  · have c1 : ((0 : Nat) : Int) < 2 := by omega
    (simp only [c1, if_true, (vmA), Nat.reduceEqDiff, reduceIte, Nat.reduceAdd, Int.reduceToNat, Int.reduceLE, Int.reduceLT, Int.reduceEq, Int.reduceNe, Int.reduceAdd, Int.reduceSub, Int.reduceNeg, Nat.reduceLT, Nat.reduceLeDiff, Nat.reduceBEq, undef, (stA), Nat.reduceMul]; try simp (disch := omega) only [(vmp)])
    refine ydraw T0 [15] (by kernel_rfl) (by kernel_rfl) (by kernel_rfl) (by kernel_rfl) ?_
    (simp only [sgf1, sgf3, sgf5, sgf7, (vmA), Nat.reduceEqDiff, reduceIte, Nat.reduceAdd, Int.reduceToNat, Int.reduceLE, Int.reduceLT, Int.reduceEq, Int.reduceNe, Int.reduceAdd, Int.reduceSub, Int.reduceNeg, Nat.reduceLT, Nat.reduceLeDiff, Nat.reduceBEq, undef, (stA), Nat.reduceMul]; try simp (disch := omega) only [(vmp)])
    have u1' : ACalls E 55 [gv, .ref a 0 0, .ref b 0 0] (S0 ++ []) fun r τ => r = boolV true ∧ τ = S1 ++ [] := by rw [List.append_nil, List.append_nil]; exact u1
    refine yNext.bar (by rfl) _ rfl u1' (by omega) ?_
    (simp only [(vmA), Nat.reduceEqDiff, reduceIte, Nat.reduceAdd, Int.reduceToNat, Int.reduceLE, Int.reduceLT, Int.reduceEq, Int.reduceNe, Int.reduceAdd, Int.reduceSub, Int.reduceNeg, Nat.reduceLT, Nat.reduceLeDiff, Nat.reduceBEq, undef, (stA), Nat.reduceMul]; try simp (disch := omega) only [(vmp)])
    exact ⟨1, by omega, by omega, rfl, rfl⟩
  · have c1 : ((1 : Nat) : Int) < 2 := by omega
    have c2 : ¬ (1 : Nat) = 0 := by omega
    (simp only [c1, c2, if_true, if_false, (vmA), Nat.reduceEqDiff, reduceIte, Nat.reduceAdd, Int.reduceToNat, Int.reduceLE, Int.reduceLT, Int.reduceEq, Int.reduceNe, Int.reduceAdd, Int.reduceSub, Int.reduceNeg, Nat.reduceLT, Nat.reduceLeDiff, Nat.reduceBEq, undef, (stA), Nat.reduceMul]; try simp (disch := omega) only [(vmp)])
    refine ydraw T0 [15] (by kernel_rfl) (by kernel_rfl) (by kernel_rfl) (by kernel_rfl) ?_
    (simp only [sgk1, sgk3, sgk5, sgk7, (vmA), Nat.reduceEqDiff, reduceIte, Nat.reduceAdd, Int.reduceToNat, Int.reduceLE, Int.reduceLT, Int.reduceEq, Int.reduceNe, Int.reduceAdd, Int.reduceSub, Int.reduceNeg, Nat.reduceLT, Nat.reduceLeDiff, Nat.reduceBEq, undef, (stA), Nat.reduceMul]; try simp (disch := omega) only [(vmp)])
    have u2' : ACalls E 55 [gv, .ref i 0 0, .ref b 0 0] (S1 ++ []) fun r τ => r = boolV true ∧ τ = S2 ++ [] := by rw [List.append_nil, List.append_nil]; exact u2
    refine yNext.bar (by rfl) _ rfl u2' (by omega) ?_
    (simp only [(vmA), Nat.reduceEqDiff, reduceIte, Nat.reduceAdd, Int.reduceToNat, Int.reduceLE, Int.reduceLT, Int.reduceEq, Int.reduceNe, Int.reduceAdd, Int.reduceSub, Int.reduceNeg, Nat.reduceLT, Nat.reduceLeDiff, Nat.reduceBEq, undef, (stA), Nat.reduceMul]; try simp (disch := omega) only [(vmp)])
    exact ⟨2, by omega, by omega, rfl, rfl⟩
  · have c1 : ¬ ((2 : Nat) : Int) < 2 := by omega
    have c2 : ¬ (2 : Nat) = 0 := by omega
    have c3 : ¬ (2 : Nat) = 1 := by omega
    (simp only [c1, c2, c3, if_false, (vmA), Nat.reduceEqDiff, reduceIte, Nat.reduceAdd, Int.reduceToNat, Int.reduceLE, Int.reduceLT, Int.reduceEq, Int.reduceNe, Int.reduceAdd, Int.reduceSub, Int.reduceNeg, Nat.reduceLT, Nat.reduceLeDiff, Nat.reduceBEq, undef, (stA), Nat.reduceMul]; try simp (disch := omega) only [(vmp)])
    exact hlow
end Go.D
