/- Nodes of a graph of types: where links lead; new nodes. -/
import Derived.Test.YtoobkfjkohadnaaGreatDoorFnF
import Derived.Test.YtoobkfjkohadnaaGreatDoorFnC
import Derived.Test.YtoobkfjkohadnaaGreatDoorVmF
set_option linter.unusedVariables false
set_option linter.unusedSimpArgs false
set_option linter.unnecessarySimpa false
set_option maxRecDepth 100000
namespace Go.D
open Go Go.Vm Go.Proofs Go.RowKit

abbrev nilP : AV := .v (.pointer none)
abbrev nilS : AV := .v (.slice none 0 0)
def nodeE (d n : List UInt8) (args link : AV) : Ent := .arr 107 [.str d, .str n, args, link] 0 0
theorem sget_of {σ : List Ent} {p : Nat} {e : Ent} (h : σ[p]? = some e) (r : List Ent) : sget σ r p = some e := by unfold sget; rw [if_pos (lt_of_get h)]; exact h
/-- Where links lead, and in how many steps. -/
inductive Ends (σ : List Ent) : Nat → Nat → Nat → Prop
  | here {p : Nat} {d n : List UInt8} {a : AV} : σ[p]? = some (nodeE d n a nilP) → Ends σ 0 p p
  | step {k p q r : Nat} {d n : List UInt8} {a : AV} : σ[p]? = some (nodeE d n a (.ref q 0 0)) → Ends σ k q r → Ends σ (k + 1) p r
set_option maxHeartbeats 4000000 in
theorem end_ok (σ : List Ent) (p r k : Nat) (h : Ends σ k p r) : ACalls E 91 [.ref p 0 0] σ fun x τ => x = .ref r 0 0 ∧ τ = σ := by
  refine xacalls T0 .drop [] Tryz.func91 rfl (by kernel_rfl) (by kernel_rfl) (by simp [Tryz.ntmps91]) ?_
  (simp only [(vmA), Nat.reduceEqDiff, reduceIte, Nat.reduceAdd, Int.reduceToNat, Int.reduceLE, Int.reduceLT, Int.reduceEq, Int.reduceNe, Int.reduceAdd, Int.reduceSub, Int.reduceNeg, Nat.reduceLT, Nat.reduceLeDiff, Nat.reduceBEq, undef, (stA), Nat.reduceMul]; try simp (disch := omega) only [(vmp)])
  refine xloop (α := Nat × Nat) T0 (fun x => [(0, .ref x.2 0 0)]) (fun _ => σ) (fun _ => []) (fun x => Ends σ x.1 x.2 r) (fun x => x.1) (by kernel_rfl)
    ⟨(k, p), h, by (simp only [(vmA), Nat.reduceEqDiff, reduceIte, Nat.reduceAdd, Int.reduceToNat, Int.reduceLE, Int.reduceLT, Int.reduceEq, Int.reduceNe, Int.reduceAdd, Int.reduceSub, Int.reduceNeg, Nat.reduceLT, Nat.reduceLeDiff, Nat.reduceBEq, undef, (stA), Nat.reduceMul]; try simp (disch := omega) only [(vmp)]), rfl, rfl⟩ ?_
  rintro ⟨k, p⟩ hk
  simp only at hk
  cases hk with
  | here h1 =>
    have g1 := sget_of h1
    simp only [nodeE] at g1
    (simp only [g1, (vmA), Nat.reduceEqDiff, reduceIte, Nat.reduceAdd, Int.reduceToNat, Int.reduceLE, Int.reduceLT, Int.reduceEq, Int.reduceNe, Int.reduceAdd, Int.reduceSub, Int.reduceNeg, Nat.reduceLT, Nat.reduceLeDiff, Nat.reduceBEq, undef, (stA), Nat.reduceMul]; try simp (disch := omega) only [(vmp)])
    exact decide_eq_true (lt_of_get h1)
  | step h1 h2 =>
    have g1 := sget_of h1
    simp only [nodeE] at g1
    (simp only [g1, (vmA), Nat.reduceEqDiff, reduceIte, Nat.reduceAdd, Int.reduceToNat, Int.reduceLE, Int.reduceLT, Int.reduceEq, Int.reduceNe, Int.reduceAdd, Int.reduceSub, Int.reduceNeg, Nat.reduceLT, Nat.reduceLeDiff, Nat.reduceBEq, undef, (stA), Nat.reduceMul]; try simp (disch := omega) only [(vmp)])
    exact ⟨(_, _), h2, by simp, rfl⟩

theorem variable_ok (n : List UInt8) (σ : List Ent) : ACalls E 41 [.str n] σ fun r τ => r = .agg [.str kiVar, .str n, nilS] ∧ τ = σ := by
  refine xacalls T0 .drop [] Tryz.func41 rfl (by kernel_rfl) (by kernel_rfl) (by simp [Tryz.ntmps41]) ?_
  (simp only [(vmA), Nat.reduceEqDiff, reduceIte, Nat.reduceAdd, Int.reduceToNat, Int.reduceLE, Int.reduceLT, Int.reduceEq, Int.reduceNe, Int.reduceAdd, Int.reduceSub, Int.reduceNeg, Nat.reduceLT, Nat.reduceLeDiff, Nat.reduceBEq, undef, (stA), Nat.reduceMul]; try simp (disch := omega) only [(vmp)])
theorem ty0_ok (d : List UInt8) (σ : List Ent) : ACalls E 39 [.str d, nilS] σ fun r τ => r = .agg [.str d, .str [], nilS] ∧ τ = σ := by
  refine xacalls T0 .drop [] Tryz.func39 rfl (by kernel_rfl) (by kernel_rfl) (by simp [Tryz.ntmps39]) ?_
  (simp only [(vmA), Nat.reduceEqDiff, reduceIte, Nat.reduceAdd, Int.reduceToNat, Int.reduceLE, Int.reduceLT, Int.reduceEq, Int.reduceNe, Int.reduceAdd, Int.reduceSub, Int.reduceNeg, Nat.reduceLT, Nat.reduceLeDiff, Nat.reduceBEq, undef, (stA), Nat.reduceMul]; try simp (disch := omega) only [(vmp)])
theorem ty_ok (d : List UInt8) (es : List AV) (hus : ∀ n, AV.low.lows n es = true) (σ : List Ent) : ACalls E 39 [.str d, .sl es] σ fun r τ => r = .agg [.str d, .str [], .sl es] ∧ τ = σ := by
  refine xacalls T0 .drop [] Tryz.func39 rfl (by kernel_rfl) (by kernel_rfl) (by simp [Tryz.ntmps39]) ?_
  (simp only [hus, (vmA), Nat.reduceEqDiff, reduceIte, Nat.reduceAdd, Int.reduceToNat, Int.reduceLE, Int.reduceLT, Int.reduceEq, Int.reduceNe, Int.reduceAdd, Int.reduceSub, Int.reduceNeg, Nat.reduceLT, Nat.reduceLeDiff, Nat.reduceBEq, undef, (stA), Nat.reduceMul]; try simp (disch := omega) only [(vmp)])

def tyE (d n : List UInt8) (us : AV) : Ent := .arr 24 [.str d, .str n, us] 0 0
def graE (v z : Nat) : Ent := .arr 72 [.mp v, .mp z] 0 0
def strK (es : List MEnt) : Prop := ∀ e ∈ es, ∃ s, e.1 = .str s
theorem strK_ok {es : List MEnt} (h : strK es) (T : Nat → TI) (g l : List Ent) : ∀ e ∈ es, kOK T g l .string e.1 := fun e he => by
  obtain ⟨s, hs⟩ := h e he; rw [hs]; rfl
set_option maxHeartbeats 4000000 in
theorem nodeNew_ok (n : List UInt8) (σ : List Ent) (gid v z clock : Nat) (es : List MEnt) (hg : σ[gid]? = some (graE v z)) (hv : σ[v]? = some (.map es clock)) (hn : mget (.str n) es = none) (hk : strK es) :
    ACalls E 56 [.ref gid 0 0, .agg [.str kiVar, .str n, nilS]] σ fun r τ => r = .ref (σ.length + 1) 0 0 ∧ τ = σ.set v (.map (mput (.str n) (.ref (σ.length + 1) 0 0) clock es) (clock + 1)) ++ [tyE kiVar n nilS, nodeE kiVar n nilS nilP] := by
  have gg := sget_of hg
  have gv := sget_of hv
  have sG0 : ∀ e, ssetG σ v e = σ.set v e := fun e => by unfold ssetG; rw [if_pos (lt_of_get hv)]
  have sL0 : ∀ e l, ssetL σ l v e = l := fun e l => by unfold ssetL; rw [if_pos (lt_of_get hv)]
  have hln : ∀ e, (σ.set v e).length = σ.length := fun e => by simp
  simp only [graE] at gg
  refine xacalls T0 .stay [] Tryz.func56 rfl (by kernel_rfl) (by kernel_rfl) (by simp [Tryz.ntmps56]) ?_
  (simp only [(vmA), Nat.reduceEqDiff, reduceIte, Nat.reduceAdd, Int.reduceToNat, Int.reduceLE, Int.reduceLT, Int.reduceEq, Int.reduceNe, Int.reduceAdd, Int.reduceSub, Int.reduceNeg, Nat.reduceLT, Nat.reduceLeDiff, Nat.reduceBEq, undef, (stA), Nat.reduceMul]; try simp (disch := omega) only [(vmp)])
  refine ydraw T0 [] (by kernel_rfl) (by kernel_rfl) (by kernel_rfl) (by kernel_rfl) ?_
  (simp only [gg, gv, hn, sG0, sL0, (vmA), Nat.reduceEqDiff, reduceIte, Nat.reduceAdd, Int.reduceToNat, Int.reduceLE, Int.reduceLT, Int.reduceEq, Int.reduceNe, Int.reduceAdd, Int.reduceSub, Int.reduceNeg, Nat.reduceLT, Nat.reduceLeDiff, Nat.reduceBEq, undef, (stA), Nat.reduceMul]; try simp (disch := omega) only [(vmp)])
  refine ⟨⟨rfl, strK_ok hk _ _ _⟩, ?_⟩
  refine ydraw T0 [7] (by kernel_rfl) (by kernel_rfl) (by kernel_rfl) (by kernel_rfl) ?_
  (simp only [gg, gv, hn, sG0, sL0, Option.isSome_none, Bool.false_eq_true, if_false, (vmA), Nat.reduceEqDiff, reduceIte, Nat.reduceAdd, Int.reduceToNat, Int.reduceLE, Int.reduceLT, Int.reduceEq, Int.reduceNe, Int.reduceAdd, Int.reduceSub, Int.reduceNeg, Nat.reduceLT, Nat.reduceLeDiff, Nat.reduceBEq, undef, (stA), Nat.reduceMul]; try simp (disch := omega) only [(vmp)])
  refine ⟨⟨rfl, strK_ok hk _ _ _⟩, hln _, ?_⟩
  have hGl := hln (.map (mput (.str n) (.ref (σ.length + 1) 0 0) clock es) (clock + 1))
  generalize σ.set v (.map (mput (.str n) (.ref (σ.length + 1) 0 0) clock es) (clock + 1)) = G at *
  rw [← hGl]
  (simp only [(vmA), Nat.reduceEqDiff, reduceIte, Nat.reduceAdd, Int.reduceToNat, Int.reduceLE, Int.reduceLT, Int.reduceEq, Int.reduceNe, Int.reduceAdd, Int.reduceSub, Int.reduceNeg, Nat.reduceLT, Nat.reduceLeDiff, Nat.reduceBEq, undef, (stA), Nat.reduceMul]; try simp (disch := omega) only [(vmp)])
  refine xloop (α := Nat) T0 (fun i => [(7, .ref (G.length + 1) 0 0), (45, i64 0), (46, i64 0)]) (fun _ => G) (fun _ => [tyE kiVar n nilS, nodeE kiVar n nilS nilP]) (fun i => i = 0) (fun i => i) (by kernel_rfl)
    ⟨0, rfl, by (simp only [(vmA), Nat.reduceEqDiff, reduceIte, Nat.reduceAdd, Int.reduceToNat, Int.reduceLE, Int.reduceLT, Int.reduceEq, Int.reduceNe, Int.reduceAdd, Int.reduceSub, Int.reduceNeg, Nat.reduceLT, Nat.reduceLeDiff, Nat.reduceBEq, undef, (stA), Nat.reduceMul]; try simp (disch := omega) only [(vmp)]), rfl, rfl⟩ ?_
  rintro i hi
  (simp only [(vmA), Nat.reduceEqDiff, reduceIte, Nat.reduceAdd, Int.reduceToNat, Int.reduceLE, Int.reduceLT, Int.reduceEq, Int.reduceNe, Int.reduceAdd, Int.reduceSub, Int.reduceNeg, Nat.reduceLT, Nat.reduceLeDiff, Nat.reduceBEq, undef, (stA), Nat.reduceMul]; try simp (disch := omega) only [(vmp)])
set_option maxHeartbeats 4000000 in
theorem nodeLeaf_ok (d : List UInt8) (hd : ¬ d = kiVar) (σ : List Ent) (gid v z clock : Nat) (es : List MEnt) (hg : σ[gid]? = some (graE v z)) (hv : σ[v]? = some (.map es clock)) (hn : mget (.str []) es = none) (hk : strK es) :
    ACalls E 56 [.ref gid 0 0, .agg [.str d, .str [], nilS]] σ fun r τ => r = .ref (σ.length + 1) 0 0 ∧ τ = σ ++ [tyE d [] nilS, nodeE d [] nilS nilP] := by
  have gg := sget_of hg
  have gv := sget_of hv
  have n1 : ¬ d = [118, 97, 114] := hd
  simp only [graE] at gg
  refine xacalls T0 .stay [] Tryz.func56 rfl (by kernel_rfl) (by kernel_rfl) (by simp [Tryz.ntmps56]) ?_
  (simp only [(vmA), Nat.reduceEqDiff, reduceIte, Nat.reduceAdd, Int.reduceToNat, Int.reduceLE, Int.reduceLT, Int.reduceEq, Int.reduceNe, Int.reduceAdd, Int.reduceSub, Int.reduceNeg, Nat.reduceLT, Nat.reduceLeDiff, Nat.reduceBEq, undef, (stA), Nat.reduceMul]; try simp (disch := omega) only [(vmp)])
  refine ydraw T0 [] (by kernel_rfl) (by kernel_rfl) (by kernel_rfl) (by kernel_rfl) ?_
  (simp only [gg, gv, hn, n1, Option.isSome_none, Bool.false_eq_true, if_false, (vmA), Nat.reduceEqDiff, reduceIte, Nat.reduceAdd, Int.reduceToNat, Int.reduceLE, Int.reduceLT, Int.reduceEq, Int.reduceNe, Int.reduceAdd, Int.reduceSub, Int.reduceNeg, Nat.reduceLT, Nat.reduceLeDiff, Nat.reduceBEq, undef, (stA), Nat.reduceMul]; try simp (disch := omega) only [(vmp)])
  refine ⟨⟨rfl, strK_ok hk _ _ _⟩, ?_⟩
  refine xloop (α := Nat) T0 (fun i => [(7, .ref (σ.length + 1) 0 0), (45, i64 0), (46, i64 0)]) (fun _ => σ) (fun _ => [tyE d [] nilS, nodeE d [] nilS nilP]) (fun i => i = 0) (fun i => i) (by kernel_rfl)
    ⟨0, rfl, by (simp only [(vmA), Nat.reduceEqDiff, reduceIte, Nat.reduceAdd, Int.reduceToNat, Int.reduceLE, Int.reduceLT, Int.reduceEq, Int.reduceNe, Int.reduceAdd, Int.reduceSub, Int.reduceNeg, Nat.reduceLT, Nat.reduceLeDiff, Nat.reduceBEq, undef, (stA), Nat.reduceMul]; try simp (disch := omega) only [(vmp)]), rfl, rfl⟩ ?_
  rintro i hi
  (simp only [(vmA), Nat.reduceEqDiff, reduceIte, Nat.reduceAdd, Int.reduceToNat, Int.reduceLE, Int.reduceLT, Int.reduceEq, Int.reduceNe, Int.reduceAdd, Int.reduceSub, Int.reduceNeg, Nat.reduceLT, Nat.reduceLeDiff, Nat.reduceBEq, undef, (stA), Nat.reduceMul]; try simp (disch := omega) only [(vmp)])
set_option maxHeartbeats 4000000 in
theorem nodeOld_ok (n : List UInt8) (p : Nat) (σ : List Ent) (gid v z clock : Nat) (es : List MEnt) (hg : σ[gid]? = some (graE v z)) (hv : σ[v]? = some (.map es clock)) (hn : mget (.str n) es = some (.ref p 0 0)) (hk : strK es) (hp : p < σ.length) :
    ACalls E 56 [.ref gid 0 0, .agg [.str kiVar, .str n, nilS]] σ fun r τ => r = .ref p 0 0 ∧ τ = σ := by
  have gg := sget_of hg
  have gv := sget_of hv
  simp only [graE] at gg
  refine xacalls T0 .drop [] Tryz.func56 rfl (by kernel_rfl) (by kernel_rfl) (by simp [Tryz.ntmps56]) ?_
  (simp only [(vmA), Nat.reduceEqDiff, reduceIte, Nat.reduceAdd, Int.reduceToNat, Int.reduceLE, Int.reduceLT, Int.reduceEq, Int.reduceNe, Int.reduceAdd, Int.reduceSub, Int.reduceNeg, Nat.reduceLT, Nat.reduceLeDiff, Nat.reduceBEq, undef, (stA), Nat.reduceMul]; try simp (disch := omega) only [(vmp)])
  refine ydraw T0 [] (by kernel_rfl) (by kernel_rfl) (by kernel_rfl) (by kernel_rfl) ?_
  (simp only [gg, gv, hn, Option.isSome_some, if_true, (vmA), Nat.reduceEqDiff, reduceIte, Nat.reduceAdd, Int.reduceToNat, Int.reduceLE, Int.reduceLT, Int.reduceEq, Int.reduceNe, Int.reduceAdd, Int.reduceSub, Int.reduceNeg, Nat.reduceLT, Nat.reduceLeDiff, Nat.reduceBEq, undef, (stA), Nat.reduceMul]; try simp (disch := omega) only [(vmp)])
  refine ⟨⟨rfl, strK_ok hk _ _ _⟩, ?_⟩
  exact decide_eq_true hp
end Go.D

/- The node of a pair of two leaves. -/
set_option linter.unusedVariables false
set_option linter.unusedSimpArgs false
set_option linter.unnecessarySimpa false
set_option maxRecDepth 100000
namespace Go.D
open Go Go.Vm Go.Proofs Go.RowKit

def rowP (cs : List AV) (ver : Nat) : Ent := .arr 74 cs ver 0
set_option maxHeartbeats 4000000 in
theorem nodePair_ok (d1 m1 d2 m2 : List UInt8) (σ σ1 σ2 : List Ent) (e1 : σ1.length = σ.length) (e2 : σ2.length = σ.length) (x1 x2 : Ent) (N2 : List Ent) (p1 p2 : Nat)
    (gid v z clock : Nat) (es : List MEnt) (hg : σ[gid]? = some (graE v z)) (hv : σ[v]? = some (.map es clock)) (hn : mget (.str []) es = none) (hk : strK es)
    (h1 : ∀ a b c, ACalls E 56 [.ref gid 0 0, .agg [.str d1, .str m1, nilS]] (σ ++ [a, b, c]) fun r τ => r = .ref p1 0 0 ∧ τ = σ1 ++ ([a, b, c] ++ [x1, x2]))
    (h2 : ∀ L, L.length = 7 → ACalls E 56 [.ref gid 0 0, .agg [.str d2, .str m2, nilS]] (σ1 ++ L) fun r τ => r = .ref p2 0 0 ∧ τ = σ2 ++ (L ++ N2)) :
    ACalls E 56 [.ref gid 0 0, .agg [.str kiPair, .str [], .sl [.agg [.str d1, .str m1, nilS], .agg [.str d2, .str m2, nilS]]]] σ fun r τ => r = .ref (σ.length + 1) 0 0 ∧
      τ = σ2 ++ ([tyE kiPair [] (.sl [.agg [.str d1, .str m1, nilS], .agg [.str d2, .str m2, nilS]]), nodeE kiPair [] (.rsl (σ.length + 5) 1 0 2 1) nilP, tyE d1 m1 nilS, x1, x2, rowP [.ref p1 0 0, .ref p2 0 0] 1, tyE d2 m2 nilS] ++ N2) := by
  have gg := sget_of hg
  have gv := sget_of hv
  have n1 : ¬ ([112, 97, 105, 114] : List UInt8) = [118, 97, 114] := by decide
  simp only [graE] at gg
  refine xacalls T0 .stay [] Tryz.func56 rfl (by kernel_rfl) (by kernel_rfl) (by simp [Tryz.ntmps56]) ?_
  (simp only [(vmA), Nat.reduceEqDiff, reduceIte, Nat.reduceAdd, Int.reduceToNat, Int.reduceLE, Int.reduceLT, Int.reduceEq, Int.reduceNe, Int.reduceAdd, Int.reduceSub, Int.reduceNeg, Nat.reduceLT, Nat.reduceLeDiff, Nat.reduceBEq, undef, (stA), Nat.reduceMul]; try simp (disch := omega) only [(vmp)])
  refine ydraw T0 [] (by kernel_rfl) (by kernel_rfl) (by kernel_rfl) (by kernel_rfl) ?_
  (simp only [gg, gv, hn, n1, kiPair, Option.isSome_none, Bool.false_eq_true, if_false, (vmA), Nat.reduceEqDiff, reduceIte, Nat.reduceAdd, Int.reduceToNat, Int.reduceLE, Int.reduceLT, Int.reduceEq, Int.reduceNe, Int.reduceAdd, Int.reduceSub, Int.reduceNeg, Nat.reduceLT, Nat.reduceLeDiff, Nat.reduceBEq, undef, (stA), Nat.reduceMul]; try simp (disch := omega) only [(vmp)])
  refine ⟨⟨rfl, strK_ok hk _ _ _⟩, ?_⟩
  refine xloop (α := Nat) T0 (fun i => [(0, .ref gid 0 0), (3, .ref σ.length 0 0), (7, .ref (σ.length + 1) 0 0), (44, .sl [.agg [.str d1, .str m1, nilS], .agg [.str d2, .str m2, nilS]]), (45, i64 2), (46, i64 i)]) (fun i => if i = 0 then σ else if i = 1 then σ1 else σ2)
    (fun i => if i = 0 then [tyE kiPair [] (.sl [.agg [.str d1, .str m1, nilS], .agg [.str d2, .str m2, nilS]]), nodeE kiPair [] nilS nilP] else if i = 1 then [tyE kiPair [] (.sl [.agg [.str d1, .str m1, nilS], .agg [.str d2, .str m2, nilS]]), nodeE kiPair [] (.rsl (σ.length + 5) 0 0 1 1) nilP, tyE d1 m1 nilS, x1, x2, rowP [.ref p1 0 0] 0]
      else [tyE kiPair [] (.sl [.agg [.str d1, .str m1, nilS], .agg [.str d2, .str m2, nilS]]), nodeE kiPair [] (.rsl (σ.length + 5) 1 0 2 1) nilP, tyE d1 m1 nilS, x1, x2, rowP [.ref p1 0 0, .ref p2 0 0] 1, tyE d2 m2 nilS] ++ N2)
    (fun i => i ≤ 2) (fun i => 2 - i) (by kernel_rfl)
    ⟨0, by omega, by (simp only [(vmA), Nat.reduceEqDiff, reduceIte, Nat.reduceAdd, Int.reduceToNat, Int.reduceLE, Int.reduceLT, Int.reduceEq, Int.reduceNe, Int.reduceAdd, Int.reduceSub, Int.reduceNeg, Nat.reduceLT, Nat.reduceLeDiff, Nat.reduceBEq, undef, (stA), Nat.reduceMul, Int.natCast_zero]; try simp (disch := omega) only [(vmp)]), rfl, rfl⟩ ?_
  rintro i hi
  obtain rfl | rfl | rfl : i = 0 ∨ i = 1 ∨ i = 2 := by omega
  · have c1 : ((0 : Nat) : Int) < 2 := by omega
    have gA : [AV.agg [.str d1, .str m1, nilS], AV.agg [.str d2, .str m2, nilS]].getD 0 .un = .agg [.str d1, .str m1, nilS] := rfl
    (simp only [c1, gA, tyE, nodeE, (vmA), Nat.reduceEqDiff, reduceIte, Nat.reduceAdd, Int.reduceToNat, Int.reduceLE, Int.reduceLT, Int.reduceEq, Int.reduceNe, Int.reduceAdd, Int.reduceSub, Int.reduceNeg, Nat.reduceLT, Nat.reduceLeDiff, Nat.reduceBEq, undef, (stA), Nat.reduceMul]; try simp (disch := omega) only [(vmp)])
    refine zdraw T0 ⟨[9, 12], [7], [2, 3, 4, 6], some [1, 2], false⟩ (by kernel_rfl) (by kernel_rfl) (by kernel_rfl) (by kernel_rfl) ?_
    (simp only [zDraw_nil,zDraw_go,zDraw_if,zSlot_some,zGuard_tt,zGuard_ff,zGuard_tf,zGuard_ft,zGuard_un,zOut_some,zOut_pure,zOut_cond,zNext_move,zNext_assign,zNext_buildSlice,zNext_load,zNext_store,zNext_builtin,zNext_fieldAddr,zNext_nilCheck,zNext_indexAddr, (vmA), Nat.reduceEqDiff, reduceIte, Nat.reduceAdd, Int.reduceToNat, Int.reduceLE, Int.reduceLT, Int.reduceEq, Int.reduceNe, Int.reduceAdd, Int.reduceSub, Int.reduceNeg, Nat.reduceLT, Nat.reduceLeDiff, Nat.reduceBEq, undef, (stA), Nat.reduceMul]; try simp (disch := omega) only [(vmp)])
    refine zNext.looseS (r := .ref (σ.length + 1) 0 0) rfl rfl rfl rfl (fun g' l' hg' hl' => ⟨True, trivial, ?_⟩) ?_
    · have q1 := hl' 1 (by simp)
      have s1 : sget g' l' (σ.length + 1) = some (nodeE kiPair [] nilS nilP) := by unfold sget; rw [hg', if_neg (by omega), Nat.add_sub_cancel_left, q1]; rfl
      simp only [nodeE] at s1
      (simp only [s1, (vmA), Nat.reduceEqDiff, reduceIte, Nat.reduceAdd, Int.reduceToNat, Int.reduceLE, Int.reduceLT, Int.reduceEq, Int.reduceNe, Int.reduceAdd, Int.reduceSub, Int.reduceNeg, Nat.reduceLT, Nat.reduceLeDiff, Nat.reduceBEq, undef, (stA), Nat.reduceMul]; try simp (disch := omega) only [(vmp)])
    (simp only [zDraw_nil,zDraw_go,zDraw_if,zSlot_some,zGuard_tt,zGuard_ff,zGuard_tf,zGuard_ft,zGuard_un,zOut_some,zOut_pure,zOut_cond,zNext_move,zNext_assign,zNext_buildSlice,zNext_load,zNext_store,zNext_builtin,zNext_fieldAddr,zNext_nilCheck,zNext_indexAddr, (vmA), Nat.reduceEqDiff, reduceIte, Nat.reduceAdd, Int.reduceToNat, Int.reduceLE, Int.reduceLT, Int.reduceEq, Int.reduceNe, Int.reduceAdd, Int.reduceSub, Int.reduceNeg, Nat.reduceLT, Nat.reduceLeDiff, Nat.reduceBEq, undef, (stA), Nat.reduceMul]; try simp (disch := omega) only [(vmp)])
    refine zNext.looseS (r := .ref (σ.length + 1) 0 2) rfl rfl rfl rfl (fun g' l' hg' hl' => ⟨True, trivial, ?_⟩) ?_
    · have q1 := hl' 1 (by simp)
      have s1 : sget g' l' (σ.length + 1) = some (nodeE kiPair [] nilS nilP) := by unfold sget; rw [hg', if_neg (by omega), Nat.add_sub_cancel_left, q1]; rfl
      simp only [nodeE] at s1
      (simp only [s1, (vmA), Nat.reduceEqDiff, reduceIte, Nat.reduceAdd, Int.reduceToNat, Int.reduceLE, Int.reduceLT, Int.reduceEq, Int.reduceNe, Int.reduceAdd, Int.reduceSub, Int.reduceNeg, Nat.reduceLT, Nat.reduceLeDiff, Nat.reduceBEq, undef, (stA), Nat.reduceMul]; try simp (disch := omega) only [(vmp)])
    (simp only [zDraw_nil,zDraw_go,zDraw_if,zSlot_some,zGuard_tt,zGuard_ff,zGuard_tf,zGuard_ft,zGuard_un,zOut_some,zOut_pure,zOut_cond,zNext_move,zNext_assign,zNext_buildSlice,zNext_load,zNext_store,zNext_builtin,zNext_fieldAddr,zNext_nilCheck,zNext_indexAddr, (vmA), Nat.reduceEqDiff, reduceIte, Nat.reduceAdd, Int.reduceToNat, Int.reduceLE, Int.reduceLT, Int.reduceEq, Int.reduceNe, Int.reduceAdd, Int.reduceSub, Int.reduceNeg, Nat.reduceLT, Nat.reduceLeDiff, Nat.reduceBEq, undef, (stA), Nat.reduceMul]; try simp (disch := omega) only [(vmp)])
    refine zNext.looseS (r := nilS) rfl rfl rfl rfl (fun g' l' hg' hl' => ⟨True, trivial, ?_⟩) ?_
    · have q1 := hl' 1 (by simp)
      have s1 : sget g' l' (σ.length + 1) = some (nodeE kiPair [] nilS nilP) := by unfold sget; rw [hg', if_neg (by omega), Nat.add_sub_cancel_left, q1]; rfl
      simp only [nodeE] at s1
      (simp only [s1, (vmA), Nat.reduceEqDiff, reduceIte, Nat.reduceAdd, Int.reduceToNat, Int.reduceLE, Int.reduceLT, Int.reduceEq, Int.reduceNe, Int.reduceAdd, Int.reduceSub, Int.reduceNeg, Nat.reduceLT, Nat.reduceLeDiff, Nat.reduceBEq, undef, (stA), Nat.reduceMul]; try simp (disch := omega) only [(vmp)])
    (simp only [zDraw_nil,zDraw_go,zDraw_if,zSlot_some,zGuard_tt,zGuard_ff,zGuard_tf,zGuard_ft,zGuard_un,zOut_some,zOut_pure,zOut_cond,zNext_move,zNext_assign,zNext_buildSlice,zNext_load,zNext_store,zNext_builtin,zNext_fieldAddr,zNext_nilCheck,zNext_indexAddr, (vmA), Nat.reduceEqDiff, reduceIte, Nat.reduceAdd, Int.reduceToNat, Int.reduceLE, Int.reduceLT, Int.reduceEq, Int.reduceNe, Int.reduceAdd, Int.reduceSub, Int.reduceNeg, Nat.reduceLT, Nat.reduceLeDiff, Nat.reduceBEq, undef, (stA), Nat.reduceMul]; try simp (disch := omega) only [(vmp)])
    refine zNext.looseS (r := .agg [.str d1, .str m1, nilS]) rfl rfl rfl rfl (fun g' l' hg' hl' => ⟨True, trivial, ?_⟩) ?_
    · have q1 := hl' 2 (by simp)
      have s1 : sget g' l' (σ.length + 2) = some (.arr 24 [.str d1, .str m1, nilS] 0 0) := by unfold sget; rw [hg', if_neg (by omega), Nat.add_sub_cancel_left, q1]; rfl
      (simp only [s1, (vmA), Nat.reduceEqDiff, reduceIte, Nat.reduceAdd, Int.reduceToNat, Int.reduceLE, Int.reduceLT, Int.reduceEq, Int.reduceNe, Int.reduceAdd, Int.reduceSub, Int.reduceNeg, Nat.reduceLT, Nat.reduceLeDiff, Nat.reduceBEq, undef, (stA), Nat.reduceMul]; try simp (disch := omega) only [(vmp)])
    (simp only [zDraw_nil,zDraw_go,zDraw_if,zSlot_some,zGuard_tt,zGuard_ff,zGuard_tf,zGuard_ft,zGuard_un,zOut_some,zOut_pure,zOut_cond,zNext_move,zNext_assign,zNext_buildSlice,zNext_load,zNext_store,zNext_builtin,zNext_fieldAddr,zNext_nilCheck,zNext_indexAddr, (vmA), Nat.reduceEqDiff, reduceIte, Nat.reduceAdd, Int.reduceToNat, Int.reduceLE, Int.reduceLT, Int.reduceEq, Int.reduceNe, Int.reduceAdd, Int.reduceSub, Int.reduceNeg, Nat.reduceLT, Nat.reduceLeDiff, Nat.reduceBEq, undef, (stA), Nat.reduceMul]; try simp (disch := omega) only [(vmp)])
    refine zNext.softC (by rfl) (by rfl) _ rfl (h1 _ _ _) e1 (by intro n hn; simp at hn; rcases hn with rfl | rfl <;> rfl) ?_
    rw [← e1]
    (simp only [zDraw_nil,zDraw_go,zDraw_if,zSlot_some,zGuard_tt,zGuard_ff,zGuard_tf,zGuard_ft,zGuard_un,zOut_some,zOut_pure,zOut_cond,zNext_move,zNext_assign,zNext_buildSlice,zNext_load,zNext_store,zNext_builtin,zNext_fieldAddr,zNext_nilCheck,zNext_indexAddr, (vmA), Nat.reduceEqDiff, reduceIte, Nat.reduceAdd, Int.reduceToNat, Int.reduceLE, Int.reduceLT, Int.reduceEq, Int.reduceNe, Int.reduceAdd, Int.reduceSub, Int.reduceNeg, Nat.reduceLT, Nat.reduceLeDiff, Nat.reduceBEq, undef, (stA), Nat.reduceMul]; try simp (disch := omega) only [(vmp)])
    exact ⟨by unfold maxRoom; omega, 1, by omega, by omega, rfl, rfl, rfl⟩
  · have c1 : ((1 : Nat) : Int) < 2 := by omega
    have c2 : ¬ (1 : Nat) = 0 := by omega
    have gA : [AV.agg [.str d1, .str m1, nilS], AV.agg [.str d2, .str m2, nilS]].getD 1 .un = .agg [.str d2, .str m2, nilS] := rfl
    rw [← e1]
    (simp only [c1, c2, gA, tyE, nodeE, rowP, if_false, if_true, (vmA), Nat.reduceEqDiff, reduceIte, Nat.reduceAdd, Int.reduceToNat, Int.reduceLE, Int.reduceLT, Int.reduceEq, Int.reduceNe, Int.reduceAdd, Int.reduceSub, Int.reduceNeg, Nat.reduceLT, Nat.reduceLeDiff, Nat.reduceBEq, undef, (stA), Nat.reduceMul]; try simp (disch := omega) only [(vmp)])
    refine zdraw T0 ⟨[9, 12], [7], [2, 3, 4, 6], some [1, 6], false⟩ (by kernel_rfl) (by kernel_rfl) (by kernel_rfl) (by kernel_rfl) ?_
    (simp only [zDraw_nil,zDraw_go,zDraw_if,zSlot_some,zGuard_tt,zGuard_ff,zGuard_tf,zGuard_ft,zGuard_un,zOut_some,zOut_pure,zOut_cond,zNext_move,zNext_assign,zNext_buildSlice,zNext_load,zNext_store,zNext_builtin,zNext_fieldAddr,zNext_nilCheck,zNext_indexAddr, (vmA), Nat.reduceEqDiff, reduceIte, Nat.reduceAdd, Int.reduceToNat, Int.reduceLE, Int.reduceLT, Int.reduceEq, Int.reduceNe, Int.reduceAdd, Int.reduceSub, Int.reduceNeg, Nat.reduceLT, Nat.reduceLeDiff, Nat.reduceBEq, undef, (stA), Nat.reduceMul]; try simp (disch := omega) only [(vmp)])
    refine zNext.looseS (r := .ref (σ1.length + 1) 0 0) rfl rfl rfl rfl (fun g' l' hg' hl' => ⟨True, trivial, ?_⟩) ?_
    · have q1 := hl' 1 (by simp)
      have s1 : sget g' l' (σ1.length + 1) = some (nodeE kiPair [] (.rsl (σ1.length + 5) 0 0 1 1) nilP) := by unfold sget; rw [hg', if_neg (by omega), Nat.add_sub_cancel_left, q1]; rfl
      simp only [nodeE] at s1
      (simp only [s1, (vmA), Nat.reduceEqDiff, reduceIte, Nat.reduceAdd, Int.reduceToNat, Int.reduceLE, Int.reduceLT, Int.reduceEq, Int.reduceNe, Int.reduceAdd, Int.reduceSub, Int.reduceNeg, Nat.reduceLT, Nat.reduceLeDiff, Nat.reduceBEq, undef, (stA), Nat.reduceMul]; try simp (disch := omega) only [(vmp)])
    (simp only [zDraw_nil,zDraw_go,zDraw_if,zSlot_some,zGuard_tt,zGuard_ff,zGuard_tf,zGuard_ft,zGuard_un,zOut_some,zOut_pure,zOut_cond,zNext_move,zNext_assign,zNext_buildSlice,zNext_load,zNext_store,zNext_builtin,zNext_fieldAddr,zNext_nilCheck,zNext_indexAddr, (vmA), Nat.reduceEqDiff, reduceIte, Nat.reduceAdd, Int.reduceToNat, Int.reduceLE, Int.reduceLT, Int.reduceEq, Int.reduceNe, Int.reduceAdd, Int.reduceSub, Int.reduceNeg, Nat.reduceLT, Nat.reduceLeDiff, Nat.reduceBEq, undef, (stA), Nat.reduceMul]; try simp (disch := omega) only [(vmp)])
    refine zNext.looseS (r := .ref (σ1.length + 1) 0 2) rfl rfl rfl rfl (fun g' l' hg' hl' => ⟨True, trivial, ?_⟩) ?_
    · have q1 := hl' 1 (by simp)
      have s1 : sget g' l' (σ1.length + 1) = some (nodeE kiPair [] (.rsl (σ1.length + 5) 0 0 1 1) nilP) := by unfold sget; rw [hg', if_neg (by omega), Nat.add_sub_cancel_left, q1]; rfl
      simp only [nodeE] at s1
      (simp only [s1, (vmA), Nat.reduceEqDiff, reduceIte, Nat.reduceAdd, Int.reduceToNat, Int.reduceLE, Int.reduceLT, Int.reduceEq, Int.reduceNe, Int.reduceAdd, Int.reduceSub, Int.reduceNeg, Nat.reduceLT, Nat.reduceLeDiff, Nat.reduceBEq, undef, (stA), Nat.reduceMul]; try simp (disch := omega) only [(vmp)])
    (simp only [zDraw_nil,zDraw_go,zDraw_if,zSlot_some,zGuard_tt,zGuard_ff,zGuard_tf,zGuard_ft,zGuard_un,zOut_some,zOut_pure,zOut_cond,zNext_move,zNext_assign,zNext_buildSlice,zNext_load,zNext_store,zNext_builtin,zNext_fieldAddr,zNext_nilCheck,zNext_indexAddr, (vmA), Nat.reduceEqDiff, reduceIte, Nat.reduceAdd, Int.reduceToNat, Int.reduceLE, Int.reduceLT, Int.reduceEq, Int.reduceNe, Int.reduceAdd, Int.reduceSub, Int.reduceNeg, Nat.reduceLT, Nat.reduceLeDiff, Nat.reduceBEq, undef, (stA), Nat.reduceMul]; try simp (disch := omega) only [(vmp)])
    refine zNext.looseS (r := (.rsl (σ1.length + 5) 0 0 1 1)) rfl rfl rfl rfl (fun g' l' hg' hl' => ⟨True, trivial, ?_⟩) ?_
    · have q1 := hl' 1 (by simp)
      have s1 : sget g' l' (σ1.length + 1) = some (nodeE kiPair [] (.rsl (σ1.length + 5) 0 0 1 1) nilP) := by unfold sget; rw [hg', if_neg (by omega), Nat.add_sub_cancel_left, q1]; rfl
      simp only [nodeE] at s1
      (simp only [s1, (vmA), Nat.reduceEqDiff, reduceIte, Nat.reduceAdd, Int.reduceToNat, Int.reduceLE, Int.reduceLT, Int.reduceEq, Int.reduceNe, Int.reduceAdd, Int.reduceSub, Int.reduceNeg, Nat.reduceLT, Nat.reduceLeDiff, Nat.reduceBEq, undef, (stA), Nat.reduceMul]; try simp (disch := omega) only [(vmp)])
    (simp only [zDraw_nil,zDraw_go,zDraw_if,zSlot_some,zGuard_tt,zGuard_ff,zGuard_tf,zGuard_ft,zGuard_un,zOut_some,zOut_pure,zOut_cond,zNext_move,zNext_assign,zNext_buildSlice,zNext_load,zNext_store,zNext_builtin,zNext_fieldAddr,zNext_nilCheck,zNext_indexAddr, (vmA), Nat.reduceEqDiff, reduceIte, Nat.reduceAdd, Int.reduceToNat, Int.reduceLE, Int.reduceLT, Int.reduceEq, Int.reduceNe, Int.reduceAdd, Int.reduceSub, Int.reduceNeg, Nat.reduceLT, Nat.reduceLeDiff, Nat.reduceBEq, undef, (stA), Nat.reduceMul]; try simp (disch := omega) only [(vmp)])
    refine zNext.looseS (r := .agg [.str d2, .str m2, nilS]) rfl rfl rfl rfl (fun g' l' hg' hl' => ⟨True, trivial, ?_⟩) ?_
    · have q1 := hl' 6 (by simp)
      have s1 : sget g' l' (σ1.length + 6) = some (.arr 24 [.str d2, .str m2, nilS] 0 0) := by unfold sget; rw [hg', if_neg (by omega), Nat.add_sub_cancel_left, q1]; rfl
      (simp only [s1, (vmA), Nat.reduceEqDiff, reduceIte, Nat.reduceAdd, Int.reduceToNat, Int.reduceLE, Int.reduceLT, Int.reduceEq, Int.reduceNe, Int.reduceAdd, Int.reduceSub, Int.reduceNeg, Nat.reduceLT, Nat.reduceLeDiff, Nat.reduceBEq, undef, (stA), Nat.reduceMul]; try simp (disch := omega) only [(vmp)])
    (simp only [zDraw_nil,zDraw_go,zDraw_if,zSlot_some,zGuard_tt,zGuard_ff,zGuard_tf,zGuard_ft,zGuard_un,zOut_some,zOut_pure,zOut_cond,zNext_move,zNext_assign,zNext_buildSlice,zNext_load,zNext_store,zNext_builtin,zNext_fieldAddr,zNext_nilCheck,zNext_indexAddr, (vmA), Nat.reduceEqDiff, reduceIte, Nat.reduceAdd, Int.reduceToNat, Int.reduceLE, Int.reduceLT, Int.reduceEq, Int.reduceNe, Int.reduceAdd, Int.reduceSub, Int.reduceNeg, Nat.reduceLT, Nat.reduceLeDiff, Nat.reduceBEq, undef, (stA), Nat.reduceMul]; try simp (disch := omega) only [(vmp)])
    refine zNext.softC (by rfl) (by rfl) _ rfl (h2 _ rfl) (by omega) (by intro n hn; simp at hn; rcases hn with rfl | rfl <;> rfl) ?_
    have e3 : σ1.length = σ2.length := by omega
    rw [e3]
    (simp only [zDraw_nil,zDraw_go,zDraw_if,zSlot_some,zGuard_tt,zGuard_ff,zGuard_tf,zGuard_ft,zGuard_un,zOut_some,zOut_pure,zOut_cond,zNext_move,zNext_assign,zNext_buildSlice,zNext_load,zNext_store,zNext_builtin,zNext_fieldAddr,zNext_nilCheck,zNext_indexAddr, (vmA), Nat.reduceEqDiff, reduceIte, Nat.reduceAdd, Int.reduceToNat, Int.reduceLE, Int.reduceLT, Int.reduceEq, Int.reduceNe, Int.reduceAdd, Int.reduceSub, Int.reduceNeg, Nat.reduceLT, Nat.reduceLeDiff, Nat.reduceBEq, undef, (stA), Nat.reduceMul]; try simp (disch := omega) only [(vmp)])
    exact ⟨by unfold maxRoom; omega, 2, by omega, by omega, rfl, rfl, rfl⟩
  · have c1 : ¬ ((2 : Nat) : Int) < 2 := by omega
    have c2 : ¬ (2 : Nat) = 0 := by omega
    have c3 : ¬ (2 : Nat) = 1 := by omega
    (simp only [c1, c2, c3, if_false, (vmA), Nat.reduceEqDiff, reduceIte, Nat.reduceAdd, Int.reduceToNat, Int.reduceLE, Int.reduceLT, Int.reduceEq, Int.reduceNe, Int.reduceAdd, Int.reduceSub, Int.reduceNeg, Nat.reduceLT, Nat.reduceLeDiff, Nat.reduceBEq, undef, (stA), Nat.reduceMul]; try simp (disch := omega) only [(vmp)])
end Go.D

/- Two nodes made one: variables, a leaf and a variable, and the example's pairs. -/
set_option linter.unusedVariables false
set_option linter.unusedSimpArgs false
set_option linter.unnecessarySimpa false
set_option maxRecDepth 100000
namespace Go.D
open Go Go.Vm Go.Proofs Go.RowKit

theorem plain_of {S : List Ent} {r : Nat} {d n : List UInt8} {a k : AV} (h : S[r]? = some (nodeE d n a k)) (l : List Ent) : plainRef S l r 0 := by
  unfold plainRef; rw [sget_of h]; exact ⟨rfl, rfl⟩
set_option maxHeartbeats 4000000 in
theorem unifyVV_ok (gv : AV) (S : List Ent) (pa pb ra rb ka kb : Nat) (ha : Ends S ka pa ra) (hb : Ends S kb pb rb) (na nb : List UInt8) (hra : S[ra]? = some (nodeE kiVar na nilS nilP)) (hrb : S[rb]? = some (nodeE kiVar nb nilS nilP)) (hlt : Op.bytesLess na nb = true) (hne : ra ≠ rb) :
    ACalls E 55 [gv, .ref pa 0 0, .ref pb 0 0] S fun r τ => r = boolV true ∧ τ = S.set rb (nodeE kiVar nb nilS (.ref ra 0 0)) := by
  have la := lt_of_get hra
  have lb := lt_of_get hrb
  have ga := sget_of hra
  have gb := sget_of hrb
  simp only [nodeE] at ga gb
  have sG0 : ∀ e, ssetG S rb e = S.set rb e := fun e => by unfold ssetG; rw [if_pos lb]
  have sL0 : ∀ e l, ssetL S l rb e = l := fun e l => by unfold ssetL; rw [if_pos lb]
  refine xacalls T0 .drop [] Tryz.func55 rfl (by kernel_rfl) (by kernel_rfl) (by simp [Tryz.ntmps55]) ?_
  (simp only [(vmA), Nat.reduceEqDiff, reduceIte, Nat.reduceAdd, Int.reduceToNat, Int.reduceLE, Int.reduceLT, Int.reduceEq, Int.reduceNe, Int.reduceAdd, Int.reduceSub, Int.reduceNeg, Nat.reduceLT, Nat.reduceLeDiff, Nat.reduceBEq, undef, (stA), Nat.reduceMul]; try simp (disch := omega) only [(vmp)])
  refine xWait.go (end_ok S pa ra ka ha) ?_
  (simp only [(vmA), Nat.reduceEqDiff, reduceIte, Nat.reduceAdd, Int.reduceToNat, Int.reduceLE, Int.reduceLT, Int.reduceEq, Int.reduceNe, Int.reduceAdd, Int.reduceSub, Int.reduceNeg, Nat.reduceLT, Nat.reduceLeDiff, Nat.reduceBEq, undef, (stA), Nat.reduceMul]; try simp (disch := omega) only [(vmp)])
  refine xWait.go (end_ok S pb rb kb hb) ?_
  (simp only [ga, gb, sG0, sL0, hne, (vmA), Nat.reduceEqDiff, reduceIte, Nat.reduceAdd, Int.reduceToNat, Int.reduceLE, Int.reduceLT, Int.reduceEq, Int.reduceNe, Int.reduceAdd, Int.reduceSub, Int.reduceNeg, Nat.reduceLT, Nat.reduceLeDiff, Nat.reduceBEq, undef, (stA), Nat.reduceMul]; try simp (disch := omega) only [(vmp)])
  refine ⟨⟨plain_of hra _, plain_of hrb _⟩, ?_⟩
  refine ydraw T0 [] (by kernel_rfl) (by kernel_rfl) (by kernel_rfl) (by kernel_rfl) ?_
  (simp only [ga, gb, sG0, sL0, hlt, (vmA), Nat.reduceEqDiff, reduceIte, Nat.reduceAdd, Int.reduceToNat, Int.reduceLE, Int.reduceLT, Int.reduceEq, Int.reduceNe, Int.reduceAdd, Int.reduceSub, Int.reduceNeg, Nat.reduceLT, Nat.reduceLeDiff, Nat.reduceBEq, undef, (stA), Nat.reduceMul]; try simp (disch := omega) only [(vmp)])
  exact ⟨storeLow_set (by simp only [Ent.low, AV.low.lows, AV.low, la, decide_true, Bool.and_self]), rfl⟩
set_option maxHeartbeats 4000000 in
theorem unifyTV_ok (gv : AV) (S : List Ent) (pa pb ra rb ka kb : Nat) (ha : Ends S ka pa ra) (hb : Ends S kb pb rb) (d nb : List UInt8) (hd : ¬ d = kiVar) (hra : S[ra]? = some (nodeE d [] nilS nilP)) (hrb : S[rb]? = some (nodeE kiVar nb nilS nilP)) (hne : ra ≠ rb) :
    ACalls E 55 [gv, .ref pa 0 0, .ref pb 0 0] S fun r τ => r = boolV true ∧ τ = S.set rb (nodeE kiVar nb nilS (.ref ra 0 0)) := by
  have la := lt_of_get hra
  have lb := lt_of_get hrb
  have ga := sget_of hra
  have gb := sget_of hrb
  have n1 : ¬ d = [118, 97, 114] := hd
  simp only [nodeE] at ga gb
  have sG0 : ∀ e, ssetG S rb e = S.set rb e := fun e => by unfold ssetG; rw [if_pos lb]
  have sL0 : ∀ e l, ssetL S l rb e = l := fun e l => by unfold ssetL; rw [if_pos lb]
  refine xacalls T0 .drop [] Tryz.func55 rfl (by kernel_rfl) (by kernel_rfl) (by simp [Tryz.ntmps55]) ?_
  (simp only [(vmA), Nat.reduceEqDiff, reduceIte, Nat.reduceAdd, Int.reduceToNat, Int.reduceLE, Int.reduceLT, Int.reduceEq, Int.reduceNe, Int.reduceAdd, Int.reduceSub, Int.reduceNeg, Nat.reduceLT, Nat.reduceLeDiff, Nat.reduceBEq, undef, (stA), Nat.reduceMul]; try simp (disch := omega) only [(vmp)])
  refine xWait.go (end_ok S pa ra ka ha) ?_
  (simp only [(vmA), Nat.reduceEqDiff, reduceIte, Nat.reduceAdd, Int.reduceToNat, Int.reduceLE, Int.reduceLT, Int.reduceEq, Int.reduceNe, Int.reduceAdd, Int.reduceSub, Int.reduceNeg, Nat.reduceLT, Nat.reduceLeDiff, Nat.reduceBEq, undef, (stA), Nat.reduceMul]; try simp (disch := omega) only [(vmp)])
  refine xWait.go (end_ok S pb rb kb hb) ?_
  (simp only [ga, gb, sG0, sL0, hne, n1, (vmA), Nat.reduceEqDiff, reduceIte, Nat.reduceAdd, Int.reduceToNat, Int.reduceLE, Int.reduceLT, Int.reduceEq, Int.reduceNe, Int.reduceAdd, Int.reduceSub, Int.reduceNeg, Nat.reduceLT, Nat.reduceLeDiff, Nat.reduceBEq, undef, (stA), Nat.reduceMul]; try simp (disch := omega) only [(vmp)])
  refine ⟨⟨plain_of hra _, plain_of hrb _⟩, ?_⟩
  exact ⟨storeLow_set (by simp only [Ent.low, AV.low.lows, AV.low, la, decide_true, Bool.and_self]), rfl⟩
theorem set_get {S : List Ent} {i j : Nat} {x e : Ent} (h : S[j]? = some e) (hne : i ≠ j) : (S.set i x)[j]? = some e := by rw [get_set_ne hne]; exact h
abbrev na : List UInt8 := [39, 97]
abbrev nb : List UInt8 := [39, 98]
set_option maxHeartbeats 4000000 in
/-- The example's pairs. -/
theorem unifyEx_ok (gv : AV) (S : List Ent) (p1 a r1 i p2 b r2 : Nat) (h1 : p1 < a) (h2 : a < r1) (h3 : r1 < i) (h4 : i < p2) (h5 : p2 < b) (h6 : b < r2)
    (q1 : S[p1]? = some (nodeE kiPair [] (.rsl r1 1 0 2 1) nilP)) (q2 : S[a]? = some (nodeE kiVar na nilS nilP)) (q3 : S[r1]? = some (rowP [.ref a 0 0, .ref i 0 0] 1)) (q4 : S[i]? = some (nodeE kiInt [] nilS nilP))
    (q5 : S[p2]? = some (nodeE kiPair [] (.rsl r2 1 0 2 1) nilP)) (q6 : S[b]? = some (nodeE kiVar nb nilS nilP)) (q7 : S[r2]? = some (rowP [.ref b 0 0, .ref b 0 0] 1)) :
    ACalls E 55 [gv, .ref p1 0 0, .ref p2 0 0] S fun r τ => r = boolV true ∧
      τ = ((S.set p1 (nodeE kiPair [] (.rsl r1 1 0 2 1) (.ref p2 0 0))).set b (nodeE kiVar nb nilS (.ref a 0 0))).set a (nodeE kiVar na nilS (.ref i 0 0)) := by
  have l1 := lt_of_get q1
  have l5 := lt_of_get q5
  have g1 := sget_of q1
  have g5 := sget_of q5
  simp only [nodeE] at g1 g5
  have sG0 : ∀ e, ssetG S p1 e = S.set p1 e := fun e => by unfold ssetG; rw [if_pos l1]
  have sL0 : ∀ e l, ssetL S l p1 e = l := fun e l => by unfold ssetL; rw [if_pos l1]
  have hne : ¬ p1 = p2 := by omega
  have n1 : ¬ ([112, 97, 105, 114] : List UInt8) = [118, 97, 114] := by decide
  refine xacalls T0 .drop [] Tryz.func55 rfl (by kernel_rfl) (by kernel_rfl) (by simp [Tryz.ntmps55]) ?_
  (simp only [(vmA), Nat.reduceEqDiff, reduceIte, Nat.reduceAdd, Int.reduceToNat, Int.reduceLE, Int.reduceLT, Int.reduceEq, Int.reduceNe, Int.reduceAdd, Int.reduceSub, Int.reduceNeg, Nat.reduceLT, Nat.reduceLeDiff, Nat.reduceBEq, undef, (stA), Nat.reduceMul]; try simp (disch := omega) only [(vmp)])
  refine xWait.go (end_ok S p1 p1 0 (.here q1)) ?_
  (simp only [(vmA), Nat.reduceEqDiff, reduceIte, Nat.reduceAdd, Int.reduceToNat, Int.reduceLE, Int.reduceLT, Int.reduceEq, Int.reduceNe, Int.reduceAdd, Int.reduceSub, Int.reduceNeg, Nat.reduceLT, Nat.reduceLeDiff, Nat.reduceBEq, undef, (stA), Nat.reduceMul]; try simp (disch := omega) only [(vmp)])
  refine xWait.go (end_ok S p2 p2 0 (.here q5)) ?_
  (simp only [g1, g5, sG0, sL0, hne, n1, kiPair, (vmA), Nat.reduceEqDiff, reduceIte, Nat.reduceAdd, Int.reduceToNat, Int.reduceLE, Int.reduceLT, Int.reduceEq, Int.reduceNe, Int.reduceAdd, Int.reduceSub, Int.reduceNeg, Nat.reduceLT, Nat.reduceLeDiff, Nat.reduceBEq, undef, (stA), Nat.reduceMul]; try simp (disch := omega) only [(vmp)])
  refine ⟨⟨plain_of q1 _, plain_of q5 _⟩, ?_⟩
  refine ydraw T0 [] (by kernel_rfl) (by kernel_rfl) (by kernel_rfl) (by kernel_rfl) ?_
  have hS0 : ∃ S0, S0 = S.set p1 (nodeE kiPair [] (.rsl r1 1 0 2 1) (.ref p2 0 0)) := ⟨_, rfl⟩
  obtain ⟨S0, hS0⟩ := hS0
  have f1 : S0[p1]? = some (nodeE kiPair [] (.rsl r1 1 0 2 1) (.ref p2 0 0)) := by rw [hS0]; exact get_set_self q1
  have f2 : S0[a]? = some (nodeE kiVar na nilS nilP) := by rw [hS0]; exact set_get q2 (by omega)
  have f3 : S0[r1]? = some (rowP [.ref a 0 0, .ref i 0 0] 1) := by rw [hS0]; exact set_get q3 (by omega)
  have f4 : S0[i]? = some (nodeE kiInt [] nilS nilP) := by rw [hS0]; exact set_get q4 (by omega)
  have f5 : S0[p2]? = some (nodeE kiPair [] (.rsl r2 1 0 2 1) nilP) := by rw [hS0]; exact set_get q5 (by omega)
  have f6 : S0[b]? = some (nodeE kiVar nb nilS nilP) := by rw [hS0]; exact set_get q6 (by omega)
  have f7 : S0[r2]? = some (rowP [.ref b 0 0, .ref b 0 0] 1) := by rw [hS0]; exact set_get q7 (by omega)
  obtain ⟨S1, hS1⟩ : ∃ S1, S1 = S0.set b (nodeE kiVar nb nilS (.ref a 0 0)) := ⟨_, rfl⟩
  have k1 : S1[p1]? = some (nodeE kiPair [] (.rsl r1 1 0 2 1) (.ref p2 0 0)) := by rw [hS1]; exact set_get f1 (by omega)
  have k2 : S1[a]? = some (nodeE kiVar na nilS nilP) := by rw [hS1]; exact set_get f2 (by omega)
  have k3 : S1[r1]? = some (rowP [.ref a 0 0, .ref i 0 0] 1) := by rw [hS1]; exact set_get f3 (by omega)
  have k4 : S1[i]? = some (nodeE kiInt [] nilS nilP) := by rw [hS1]; exact set_get f4 (by omega)
  have k5 : S1[p2]? = some (nodeE kiPair [] (.rsl r2 1 0 2 1) nilP) := by rw [hS1]; exact set_get f5 (by omega)
  have k6 : S1[b]? = some (nodeE kiVar nb nilS (.ref a 0 0)) := by rw [hS1]; exact get_set_self f6
  have k7 : S1[r2]? = some (rowP [.ref b 0 0, .ref b 0 0] 1) := by rw [hS1]; exact set_get f7 (by omega)
  obtain ⟨S2, hS2⟩ : ∃ S2, S2 = S1.set a (nodeE kiVar na nilS (.ref i 0 0)) := ⟨_, rfl⟩
  have n0 : S0.length = S.length := by rw [hS0]; simp
  have n01 : S1.length = S.length := by rw [hS1]; simp [n0]
  have n02 : S2.length = S.length := by rw [hS2]; simp [n01]
  have u1 := unifyVV_ok gv S0 a b a b 0 0 (.here f2) (.here f6) na nb f2 f6 rfl (by omega)
  have u2 := unifyTV_ok gv S1 i b i a 0 1 (.here k4) (.step k6 (.here k2)) kiInt na (by decide) k4 k2 (by omega)
  rw [← hS1] at u1
  rw [← hS2] at u2
  have sgf1 := sget_of f1
  have sgf3 := sget_of f3
  have sgf5 := sget_of f5
  have sgf7 := sget_of f7
  have sgk1 := sget_of k1
  have sgk3 := sget_of k3
  have sgk5 := sget_of k5
  have sgk7 := sget_of k7
  have hlow : StoreLow S.length S S2 := by
    intro j e he
    rw [hS2] at he
    rcases get_set he with ⟨_, rfl, _⟩ | ⟨_, he⟩
    · exact .inr (by simp only [nodeE, Ent.low, AV.low.lows, AV.low, lt_of_get q4, decide_true, Bool.and_self])
    · rw [hS1] at he
      rcases get_set he with ⟨_, rfl, _⟩ | ⟨_, he⟩
      · exact .inr (by simp only [nodeE, Ent.low, AV.low.lows, AV.low, lt_of_get q2, decide_true, Bool.and_self])
      · rw [hS0] at he
        rcases get_set he with ⟨_, rfl, _⟩ | ⟨_, he⟩
        · exact .inr (by simp only [nodeE, Ent.low, AV.low.lows, AV.low, lt_of_get q5, lt_of_get q3, decide_true, Bool.and_self])
        · exact .inl he
  rw [← hS0, ← hS1, ← hS2]
  simp only [nodeE, rowP, kiPair] at hS0 sgf1 sgf3 sgf5 sgf7 sgk1 sgk3 sgk5 sgk7
  (simp only [g1, g5, sG0, sL0, hne, n1, ← hS0, sgf1, kiPair, (vmA), Nat.reduceEqDiff, reduceIte, Nat.reduceAdd, Int.reduceToNat, Int.reduceLE, Int.reduceLT, Int.reduceEq, Int.reduceNe, Int.reduceAdd, Int.reduceSub, Int.reduceNeg, Nat.reduceLT, Nat.reduceLeDiff, Nat.reduceBEq, undef, (stA), Nat.reduceMul]; try simp (disch := omega) only [(vmp)])
  refine xloop (α := Nat) T0 (fun j => [(0, gv), (1, .ref p1 0 0), (2, .ref p2 0 0), (106, i64 2), (107, i64 j)]) (fun j => if j = 0 then S0 else if j = 1 then S1 else S2) (fun _ => []) (fun j => j ≤ 2) (fun j => 2 - j) (by kernel_rfl)
    ⟨0, by omega, by (simp only [(vmA), Nat.reduceEqDiff, reduceIte, Nat.reduceAdd, Int.reduceToNat, Int.reduceLE, Int.reduceLT, Int.reduceEq, Int.reduceNe, Int.reduceAdd, Int.reduceSub, Int.reduceNeg, Nat.reduceLT, Nat.reduceLeDiff, Nat.reduceBEq, undef, (stA), Nat.reduceMul, Int.natCast_zero]; try simp (disch := omega) only [(vmp)]), rfl, rfl⟩ ?_
  rintro j hj
  obtain rfl | rfl | rfl : j = 0 ∨ j = 1 ∨ j = 2 := by omega
  · have c1 : ((0 : Nat) : Int) < 2 := by omega
    (simp only [c1, if_true, (vmA), Nat.reduceEqDiff, reduceIte, Nat.reduceAdd, Int.reduceToNat, Int.reduceLE, Int.reduceLT, Int.reduceEq, Int.reduceNe, Int.reduceAdd, Int.reduceSub, Int.reduceNeg, Nat.reduceLT, Nat.reduceLeDiff, Nat.reduceBEq, undef, (stA), Nat.reduceMul]; try simp (disch := omega) only [(vmp)])
    refine ydraw T0 [15] (by kernel_rfl) (by kernel_rfl) (by kernel_rfl) (by kernel_rfl) ?_
    (simp only [sgf1, sgf3, sgf5, sgf7, (vmA), Nat.reduceEqDiff, reduceIte, Nat.reduceAdd, Int.reduceToNat, Int.reduceLE, Int.reduceLT, Int.reduceEq, Int.reduceNe, Int.reduceAdd, Int.reduceSub, Int.reduceNeg, Nat.reduceLT, Nat.reduceLeDiff, Nat.reduceBEq, undef, (stA), Nat.reduceMul]; try simp (disch := omega) only [(vmp)])
    have u1' : ACalls E 55 [gv, .ref a 0 0, .ref b 0 0] (S0 ++ []) fun r τ => r = boolV true ∧ τ = S1 ++ [] := by rw [List.append_nil, List.append_nil]; exact u1
    refine yNext.bar (by rfl) _ rfl u1' (by omega) ?_
    (simp only [(vmA), Nat.reduceEqDiff, reduceIte, Nat.reduceAdd, Int.reduceToNat, Int.reduceLE, Int.reduceLT, Int.reduceEq, Int.reduceNe, Int.reduceAdd, Int.reduceSub, Int.reduceNeg, Nat.reduceLT, Nat.reduceLeDiff, Nat.reduceBEq, undef, (stA), Nat.reduceMul]; try simp (disch := omega) only [(vmp)])
    exact ⟨1, by omega, by omega, rfl, rfl⟩
  · have c1 : ((1 : Nat) : Int) < 2 := by omega
    have c2 : ¬ (1 : Nat) = 0 := by omega
    (simp only [c1, c2, if_true, if_false, (vmA), Nat.reduceEqDiff, reduceIte, Nat.reduceAdd, Int.reduceToNat, Int.reduceLE, Int.reduceLT, Int.reduceEq, Int.reduceNe, Int.reduceAdd, Int.reduceSub, Int.reduceNeg, Nat.reduceLT, Nat.reduceLeDiff, Nat.reduceBEq, undef, (stA), Nat.reduceMul]; try simp (disch := omega) only [(vmp)])
    refine ydraw T0 [15] (by kernel_rfl) (by kernel_rfl) (by kernel_rfl) (by kernel_rfl) ?_
    (simp only [sgk1, sgk3, sgk5, sgk7, (vmA), Nat.reduceEqDiff, reduceIte, Nat.reduceAdd, Int.reduceToNat, Int.reduceLE, Int.reduceLT, Int.reduceEq, Int.reduceNe, Int.reduceAdd, Int.reduceSub, Int.reduceNeg, Nat.reduceLT, Nat.reduceLeDiff, Nat.reduceBEq, undef, (stA), Nat.reduceMul]; try simp (disch := omega) only [(vmp)])
    have u2' : ACalls E 55 [gv, .ref i 0 0, .ref b 0 0] (S1 ++ []) fun r τ => r = boolV true ∧ τ = S2 ++ [] := by rw [List.append_nil, List.append_nil]; exact u2
    refine yNext.bar (by rfl) _ rfl u2' (by omega) ?_
    (simp only [(vmA), Nat.reduceEqDiff, reduceIte, Nat.reduceAdd, Int.reduceToNat, Int.reduceLE, Int.reduceLT, Int.reduceEq, Int.reduceNe, Int.reduceAdd, Int.reduceSub, Int.reduceNeg, Nat.reduceLT, Nat.reduceLeDiff, Nat.reduceBEq, undef, (stA), Nat.reduceMul]; try simp (disch := omega) only [(vmp)])
    exact ⟨2, by omega, by omega, rfl, rfl⟩
  · have c1 : ¬ ((2 : Nat) : Int) < 2 := by omega
    have c2 : ¬ (2 : Nat) = 0 := by omega
    have c3 : ¬ (2 : Nat) = 1 := by omega
    (simp only [c1, c2, c3, if_false, (vmA), Nat.reduceEqDiff, reduceIte, Nat.reduceAdd, Int.reduceToNat, Int.reduceLE, Int.reduceLT, Int.reduceEq, Int.reduceNe, Int.reduceAdd, Int.reduceSub, Int.reduceNeg, Nat.reduceLT, Nat.reduceLeDiff, Nat.reduceBEq, undef, (stA), Nat.reduceMul]; try simp (disch := omega) only [(vmp)])
    exact hlow
end Go.D

/- The example's nodes: no way leads round; sizes; types. -/
set_option linter.unusedVariables false
set_option linter.unusedSimpArgs false
set_option linter.unnecessarySimpa false
set_option maxRecDepth 100000
namespace Go.D
open Go Go.Vm Go.Proofs Go.RowKit

theorem conN0_ok (f : FuncId) (caps : List AV) (σ : List Ent) : ACalls E 116 [nilS, .fn f [] caps] σ fun r τ => r = boolV false ∧ τ = σ := by
  refine xacalls T0 .drop [] Tryz.func116 rfl (by kernel_rfl) (by kernel_rfl) (by simp [Tryz.ntmps116]) ?_
  (simp only [(vmA), Nat.reduceEqDiff, reduceIte, Nat.reduceAdd, Int.reduceToNat, Int.reduceLE, Int.reduceLT, Int.reduceEq, Int.reduceNe, Int.reduceAdd, Int.reduceSub, Int.reduceNeg, Nat.reduceLT, Nat.reduceLeDiff, Nat.reduceBEq, undef, (stA), Nat.reduceMul]; try simp (disch := omega) only [(vmp)])
  suffices h : ACalls E 137 [nilS, .fn f [] caps] σ fun r τ => r = i64 (-1) ∧ τ = σ by
    refine xWait.go h ?_
    (simp only [(vmA), Nat.reduceEqDiff, reduceIte, Nat.reduceAdd, Int.reduceToNat, Int.reduceLE, Int.reduceLT, Int.reduceEq, Int.reduceNe, Int.reduceAdd, Int.reduceSub, Int.reduceNeg, Nat.reduceLT, Nat.reduceLeDiff, Nat.reduceBEq, undef, (stA), Nat.reduceMul]; try simp (disch := omega) only [(vmp)])
  refine xacalls T0 .drop [] Tryz.func137 rfl (by kernel_rfl) (by kernel_rfl) (by simp [Tryz.ntmps137]) ?_
  (simp only [(vmA), Nat.reduceEqDiff, reduceIte, Nat.reduceAdd, Int.reduceToNat, Int.reduceLE, Int.reduceLT, Int.reduceEq, Int.reduceNe, Int.reduceAdd, Int.reduceSub, Int.reduceNeg, Nat.reduceLT, Nat.reduceLeDiff, Nat.reduceBEq, undef, (stA), Nat.reduceMul]; try simp (disch := omega) only [(vmp)])
  refine xloop (α := Nat) T0 (fun i => [(7, i64 0), (8, i64 0)]) (fun _ => σ) (fun _ => []) (fun i => i = 0) (fun i => i) (by kernel_rfl)
    ⟨0, rfl, by (simp only [(vmA), Nat.reduceEqDiff, reduceIte, Nat.reduceAdd, Int.reduceToNat, Int.reduceLE, Int.reduceLT, Int.reduceEq, Int.reduceNe, Int.reduceAdd, Int.reduceSub, Int.reduceNeg, Nat.reduceLT, Nat.reduceLeDiff, Nat.reduceBEq, undef, (stA), Nat.reduceMul]; try simp (disch := omega) only [(vmp)]), rfl, rfl⟩ ?_
  rintro i hi
  (simp only [(vmA), Nat.reduceEqDiff, reduceIte, Nat.reduceAdd, Int.reduceToNat, Int.reduceLE, Int.reduceLT, Int.reduceEq, Int.reduceNe, Int.reduceAdd, Int.reduceSub, Int.reduceNeg, Nat.reduceLT, Nat.reduceLeDiff, Nat.reduceBEq, undef, (stA), Nat.reduceMul]; try simp (disch := omega) only [(vmp)])

theorem Ends.push {σ : List Ent} {k p r : Nat} (h : Ends σ k p r) (l : List Ent) : Ends (σ ++ l) k p r := by
  induction h with
  | here h => exact .here (get_olds h l)
  | step h _ ih => exact .step (get_olds h l) ih
set_option maxHeartbeats 4000000 in
/-- A leaf that was not yet met. -/
theorem roundNew_ok (σ : List Ent) (p r k on done : Nat) (d n : List UInt8) (he : Ends σ k p r) (hr : σ[r]? = some (nodeE d n nilS nilP)) (hon : σ[on]? = some (.map [] 0)) (hdone : σ[done]? = some (.map [] 0)) (hne : on ≠ done) :
    ACalls E 92 [.ref p 0 0, .mp on, .mp done] σ fun x τ => x = boolV false ∧ τ = (σ.set on (.map [] 1)).set done (.map [(.ref r 0 0, boolV true, 0)] 1) := by
  have lr := lt_of_get hr
  have lo := lt_of_get hon
  have ld := lt_of_get hdone
  have gr := sget_of hr
  have go' := sget_of hon
  have gd := sget_of hdone
  simp only [nodeE] at gr
  have sGo : ∀ e, ssetG σ on e = σ.set on e := fun e => by unfold ssetG; rw [if_pos lo]
  have sLo : ∀ e l, ssetL σ l on e = l := fun e l => by unfold ssetL; rw [if_pos lo]
  obtain ⟨S1, hS1⟩ : ∃ S1, S1 = σ.set on (.map [(.ref r 0 0, boolV true, 0)] 1) := ⟨_, rfl⟩
  obtain ⟨S2, hS2⟩ : ∃ S2, S2 = σ.set on (.map [] 1) := ⟨_, rfl⟩
  have hro : on ≠ r := fun h => by subst h; rw [hr] at hon; cases hon
  have hrd : done ≠ r := fun h => by subst h; rw [hr] at hdone; cases hdone
  have r1 : S1[r]? = some (nodeE d n nilS nilP) := by rw [hS1]; exact set_get hr hro
  have o1 : S1[on]? = some (.map [(.ref r 0 0, boolV true, 0)] 1) := by rw [hS1]; exact get_set_self hon
  have r2 : S2[r]? = some (nodeE d n nilS nilP) := by rw [hS2]; exact set_get hr hro
  have d2 : S2[done]? = some (.map [] 0) := by rw [hS2]; exact set_get hdone hne
  have e12 : S1.set on (.map [] 1) = S2 := by rw [hS1, hS2, List.set_set]
  have gr1 := sget_of r1
  have go1 := sget_of o1
  have gd2 := sget_of d2
  simp only [nodeE] at gr1
  have n1 : S1.length = σ.length := by rw [hS1]; simp
  have n2 : S2.length = σ.length := by rw [hS2]; simp
  have sG1 : ∀ e, ssetG S1 on e = S1.set on e := fun e => by unfold ssetG; rw [if_pos (lt_of_get o1)]
  have sL1 : ∀ e l, ssetL S1 l on e = l := fun e l => by unfold ssetL; rw [if_pos (lt_of_get o1)]
  have sG2 : ∀ e, ssetG S2 done e = S2.set done e := fun e => by unfold ssetG; rw [if_pos (lt_of_get d2)]
  have sL2 : ∀ e l, ssetL S2 l done e = l := fun e l => by unfold ssetL; rw [if_pos (lt_of_get d2)]
  have hpt : isPtrD tab (TypeDesc.pointer 107) = true := by kernel_rfl
  simp only [boolV] at hS1 o1 go1
  refine xacalls T0 .drop [] Tryz.func92 rfl (by kernel_rfl) (by kernel_rfl) (by simp [Tryz.ntmps92]) ?_
  (simp only [(vmA), Nat.reduceEqDiff, reduceIte, Nat.reduceAdd, Int.reduceToNat, Int.reduceLE, Int.reduceLT, Int.reduceEq, Int.reduceNe, Int.reduceAdd, Int.reduceSub, Int.reduceNeg, Nat.reduceLT, Nat.reduceLeDiff, Nat.reduceBEq, undef, (stA), Nat.reduceMul]; try simp (disch := omega) only [(vmp)])
  refine xWait.go (end_ok _ p r k (he.push _)) ?_
  (simp only [gr, go', gd, sGo, sLo, Option.isSome_none, Bool.false_eq_true, if_false, ← hS1, gr1, (vmA), Nat.reduceEqDiff, reduceIte, Nat.reduceAdd, Int.reduceToNat, Int.reduceLE, Int.reduceLT, Int.reduceEq, Int.reduceNe, Int.reduceAdd, Int.reduceSub, Int.reduceNeg, Nat.reduceLT, Nat.reduceLeDiff, Nat.reduceBEq, undef, (stA), Nat.reduceMul]; try simp (disch := omega) only [(vmp)])
  refine ⟨⟨⟨hpt, plain_of hr _⟩, fun e h => by cases h⟩, ⟨⟨hpt, plain_of hr _⟩, fun e h => by cases h⟩, ⟨⟨hpt, plain_of hr _⟩, fun e h => by cases h⟩, ?_⟩
  rw [← n1]
  refine xWait.go (conN0_ok _ _ _) ?_
  (simp only [go1, sG1, sL1, mdel, keq, decide_true, Bool.and_self, e12, if_true, (vmA), Nat.reduceEqDiff, reduceIte, Nat.reduceAdd, Int.reduceToNat, Int.reduceLE, Int.reduceLT, Int.reduceEq, Int.reduceNe, Int.reduceAdd, Int.reduceSub, Int.reduceNeg, Nat.reduceLT, Nat.reduceLeDiff, Nat.reduceBEq, undef, (stA), Nat.reduceMul]; try simp (disch := omega) only [(vmp)])
  refine ⟨⟨hpt, plain_of r1 _⟩, ?_⟩
  have n12 : S1.length = S2.length := by omega
  rw [n12]
  (simp only [gd2, sG2, sL2, Option.isSome_none, Bool.false_eq_true, if_false, (vmA), Nat.reduceEqDiff, reduceIte, Nat.reduceAdd, Int.reduceToNat, Int.reduceLE, Int.reduceLT, Int.reduceEq, Int.reduceNe, Int.reduceAdd, Int.reduceSub, Int.reduceNeg, Nat.reduceLT, Nat.reduceLeDiff, Nat.reduceBEq, undef, (stA), Nat.reduceMul]; try simp (disch := omega) only [(vmp)])
  refine ⟨⟨⟨hpt, plain_of r2 _⟩, fun e h => by cases h⟩, ?_, by rw [hS2]⟩
  intro j e he
  rcases get_set he with ⟨_, rfl, _⟩ | ⟨_, he⟩
  · exact .inr (by simp only [Ent.low, List.map_cons, List.map_nil, AV.low.lows, AV.low, lr, decide_true, Bool.and_self])
  · rw [hS2] at he
    rcases get_set he with ⟨_, rfl, _⟩ | ⟨_, he⟩
    · exact .inr rfl
    · exact .inl he

set_option maxHeartbeats 4000000 in
/-- A leaf from which no way leads round. -/
theorem roundOld_ok (σ : List Ent) (p r k on done clock : Nat) (d n : List UInt8) (he : Ends σ k p r) (hr : σ[r]? = some (nodeE d n nilS nilP)) (hon : σ[on]? = some (.map [] 0)) (hdone : σ[done]? = some (.map [(.ref r 0 0, boolV true, 0)] clock)) :
    ACalls E 92 [.ref p 0 0, .mp on, .mp done] σ fun x τ => x = boolV false ∧ τ = σ := by
  have gr := sget_of hr
  have go' := sget_of hon
  have gd := sget_of hdone
  simp only [nodeE] at gr
  simp only [boolV] at gd
  have hpt : isPtrD tab (TypeDesc.pointer 107) = true := by kernel_rfl
  refine xacalls T0 .drop [] Tryz.func92 rfl (by kernel_rfl) (by kernel_rfl) (by simp [Tryz.ntmps92]) ?_
  (simp only [(vmA), Nat.reduceEqDiff, reduceIte, Nat.reduceAdd, Int.reduceToNat, Int.reduceLE, Int.reduceLT, Int.reduceEq, Int.reduceNe, Int.reduceAdd, Int.reduceSub, Int.reduceNeg, Nat.reduceLT, Nat.reduceLeDiff, Nat.reduceBEq, undef, (stA), Nat.reduceMul]; try simp (disch := omega) only [(vmp)])
  refine xWait.go (end_ok _ p r k (he.push _)) ?_
  (simp only [gr, go', gd, Option.isSome_none, Bool.false_eq_true, if_false, keq, decide_true, Bool.and_self, if_true, (vmA), Nat.reduceEqDiff, reduceIte, Nat.reduceAdd, Int.reduceToNat, Int.reduceLE, Int.reduceLT, Int.reduceEq, Int.reduceNe, Int.reduceAdd, Int.reduceSub, Int.reduceNeg, Nat.reduceLT, Nat.reduceLeDiff, Nat.reduceBEq, undef, (stA), Nat.reduceMul]; try simp (disch := omega) only [(vmp)])
  have K : ∀ l, kOK tab σ l (TypeDesc.pointer 107) (.ref r 0 0) := fun l => ⟨hpt, plain_of hr _⟩
  exact ⟨⟨K _, fun e h => by cases h⟩, K _, K _, fun e h => by cases h⟩

def sz1 : AV := .agg [i64 1, i64 1]
set_option maxHeartbeats 4000000 in
theorem sizeNew_ok (σ : List Ent) (p r k gid v z : Nat) (d n : List UInt8) (he : Ends σ k p r) (hr : σ[r]? = some (nodeE d n nilS nilP)) (hg : σ[gid]? = some (graE v z)) (hz : σ[z]? = some (.map [] 0)) :
    ACalls E 93 [.ref gid 0 0, .ref p 0 0] σ fun x τ => x = sz1 ∧ τ = σ.set z (.map [(.ref r 0 0, sz1, 0)] 1) := by
  have gr := sget_of hr
  have gg := sget_of hg
  have gz := sget_of hz
  simp only [nodeE] at gr
  simp only [graE] at gg
  have sG0 : ∀ e, ssetG σ z e = σ.set z e := fun e => by unfold ssetG; rw [if_pos (lt_of_get hz)]
  have sL0 : ∀ e l, ssetL σ l z e = l := fun e l => by unfold ssetL; rw [if_pos (lt_of_get hz)]
  have hpt : isPtrD tab (TypeDesc.pointer 107) = true := by kernel_rfl
  refine xacalls T0 .drop [] Tryz.func93 rfl (by kernel_rfl) (by kernel_rfl) (by simp [Tryz.ntmps93]) ?_
  (simp only [(vmA), Nat.reduceEqDiff, reduceIte, Nat.reduceAdd, Int.reduceToNat, Int.reduceLE, Int.reduceLT, Int.reduceEq, Int.reduceNe, Int.reduceAdd, Int.reduceSub, Int.reduceNeg, Nat.reduceLT, Nat.reduceLeDiff, Nat.reduceBEq, undef, (stA), Nat.reduceMul]; try simp (disch := omega) only [(vmp)])
  refine xWait.go (end_ok _ p r k (he.push _)) ?_
  (simp only [gr, gg, gz, sG0, sL0, Option.isSome_none, Bool.false_eq_true, if_false, (vmA), Nat.reduceEqDiff, reduceIte, Nat.reduceAdd, Int.reduceToNat, Int.reduceLE, Int.reduceLT, Int.reduceEq, Int.reduceNe, Int.reduceAdd, Int.reduceSub, Int.reduceNeg, Nat.reduceLT, Nat.reduceLeDiff, Nat.reduceBEq, undef, (stA), Nat.reduceMul]; try simp (disch := omega) only [(vmp)])
  refine ⟨⟨⟨hpt, plain_of hr _⟩, fun e h => by cases h⟩, ?_⟩
  refine xloop (α := Nat) T0 (fun i => [(0, .ref gid 0 0), (1, .ref r 0 0), (4, .ref σ.length 0 0), (7, .ref (σ.length + 2) 0 0), (29, i64 0), (30, i64 0)]) (fun _ => σ) (fun _ => [.arr 89 [i64 0, i64 0] 0 0, .arr 89 [i64 0, i64 0] 0 0, .arr 89 [i64 1, i64 1] 0 0]) (fun i => i = 0) (fun i => i) (by kernel_rfl)
    ⟨0, rfl, by (simp only [(vmA), Nat.reduceEqDiff, reduceIte, Nat.reduceAdd, Int.reduceToNat, Int.reduceLE, Int.reduceLT, Int.reduceEq, Int.reduceNe, Int.reduceAdd, Int.reduceSub, Int.reduceNeg, Nat.reduceLT, Nat.reduceLeDiff, Nat.reduceBEq, undef, (stA), Nat.reduceMul]; try simp (disch := omega) only [(vmp)]), rfl, rfl⟩ ?_
  rintro i hi
  (simp only [(vmA), Nat.reduceEqDiff, reduceIte, Nat.reduceAdd, Int.reduceToNat, Int.reduceLE, Int.reduceLT, Int.reduceEq, Int.reduceNe, Int.reduceAdd, Int.reduceSub, Int.reduceNeg, Nat.reduceLT, Nat.reduceLeDiff, Nat.reduceBEq, undef, (stA), Nat.reduceMul]; try simp (disch := omega) only [(vmp)])
  refine ydraw T0 [6] (by kernel_rfl) (by kernel_rfl) (by kernel_rfl) (by kernel_rfl) ?_
  (simp only [gr, gg, gz, sG0, sL0, Option.isSome_none, Bool.false_eq_true, if_false, (vmA), Nat.reduceEqDiff, reduceIte, Nat.reduceAdd, Int.reduceToNat, Int.reduceLE, Int.reduceLT, Int.reduceEq, Int.reduceNe, Int.reduceAdd, Int.reduceSub, Int.reduceNeg, Nat.reduceLT, Nat.reduceLeDiff, Nat.reduceBEq, undef, (stA), Nat.reduceMul]; try simp (disch := omega) only [(vmp)])
  refine ⟨⟨⟨hpt, plain_of hr _⟩, fun e h => by cases h⟩, by simp, ?_⟩
  have hn : σ.length = (σ.set z (.map [(.ref r 0 0, sz1, 0)] 1)).length := by simp
  have hlow : StoreLow σ.length σ (σ.set z (.map [(.ref r 0 0, sz1, 0)] 1)) := storeLow_set (by simp only [Ent.low, List.map_cons, List.map_nil, AV.low.lows, AV.low, sz1, lt_of_get hr, decide_true, Bool.and_self])
  simp only [sz1] at hn hlow ⊢
  generalize σ.set z (.map [(.ref r 0 0, .agg [i64 1, i64 1], 0)] 1) = S1 at *
  rw [hn]
  (simp only [(vmA), Nat.reduceEqDiff, reduceIte, Nat.reduceAdd, Int.reduceToNat, Int.reduceLE, Int.reduceLT, Int.reduceEq, Int.reduceNe, Int.reduceAdd, Int.reduceSub, Int.reduceNeg, Nat.reduceLT, Nat.reduceLeDiff, Nat.reduceBEq, undef, (stA), Nat.reduceMul]; try simp (disch := omega) only [(vmp)])
  exact hlow
set_option maxHeartbeats 4000000 in
theorem sizeOld_ok (σ : List Ent) (p r k gid v z clock : Nat) (d n : List UInt8) (he : Ends σ k p r) (hr : σ[r]? = some (nodeE d n nilS nilP)) (hg : σ[gid]? = some (graE v z)) (hz : σ[z]? = some (.map [(.ref r 0 0, sz1, 0)] clock)) :
    ACalls E 93 [.ref gid 0 0, .ref p 0 0] σ fun x τ => x = sz1 ∧ τ = σ := by
  have gr := sget_of hr
  have gg := sget_of hg
  have gz := sget_of hz
  simp only [nodeE] at gr
  simp only [graE] at gg
  simp only [sz1] at gz
  have hpt : isPtrD tab (TypeDesc.pointer 107) = true := by kernel_rfl
  refine xacalls T0 .drop [] Tryz.func93 rfl (by kernel_rfl) (by kernel_rfl) (by simp [Tryz.ntmps93]) ?_
  (simp only [(vmA), Nat.reduceEqDiff, reduceIte, Nat.reduceAdd, Int.reduceToNat, Int.reduceLE, Int.reduceLT, Int.reduceEq, Int.reduceNe, Int.reduceAdd, Int.reduceSub, Int.reduceNeg, Nat.reduceLT, Nat.reduceLeDiff, Nat.reduceBEq, undef, (stA), Nat.reduceMul]; try simp (disch := omega) only [(vmp)])
  refine xWait.go (end_ok _ p r k (he.push _)) ?_
  (simp only [gr, gg, gz, keq, decide_true, Bool.and_self, if_true, (vmA), Nat.reduceEqDiff, reduceIte, Nat.reduceAdd, Int.reduceToNat, Int.reduceLE, Int.reduceLT, Int.reduceEq, Int.reduceNe, Int.reduceAdd, Int.reduceSub, Int.reduceNeg, Nat.reduceLT, Nat.reduceLeDiff, Nat.reduceBEq, undef, (stA), Nat.reduceMul]; try simp (disch := omega) only [(vmp)])
  exact ⟨⟨hpt, plain_of hr _⟩, rfl⟩
set_option maxHeartbeats 4000000 in
theorem typ_ok (σ : List Ent) (p r k gid v z : Nat) (d n : List UInt8) (he : Ends σ k p r) (hr : σ[r]? = some (nodeE d n nilS nilP)) :
    ACalls E 94 [.ref gid 0 0, .ref p 0 0] σ fun x τ => x = .agg [.str d, .str n, nilS] ∧ τ = σ := by
  have gr := sget_of hr
  simp only [nodeE] at gr
  refine xacalls T0 .drop [] Tryz.func94 rfl (by kernel_rfl) (by kernel_rfl) (by simp [Tryz.ntmps94]) ?_
  (simp only [(vmA), Nat.reduceEqDiff, reduceIte, Nat.reduceAdd, Int.reduceToNat, Int.reduceLE, Int.reduceLT, Int.reduceEq, Int.reduceNe, Int.reduceAdd, Int.reduceSub, Int.reduceNeg, Nat.reduceLT, Nat.reduceLeDiff, Nat.reduceBEq, undef, (stA), Nat.reduceMul]; try simp (disch := omega) only [(vmp)])
  refine xWait.go (end_ok _ p r k (he.push _)) ?_
  (simp only [gr, (vmA), Nat.reduceEqDiff, reduceIte, Nat.reduceAdd, Int.reduceToNat, Int.reduceLE, Int.reduceLT, Int.reduceEq, Int.reduceNe, Int.reduceAdd, Int.reduceSub, Int.reduceNeg, Nat.reduceLT, Nat.reduceLeDiff, Nat.reduceBEq, undef, (stA), Nat.reduceMul]; try simp (disch := omega) only [(vmp)])
  refine zdraw T0 ⟨[10], [9], [1, 2, 3, 5, 6, 7, 8], some [0], true⟩ (by kernel_rfl) (by kernel_rfl) (by kernel_rfl) (by kernel_rfl) ?_
  (simp only [zDraw_nil,zDraw_go,zDraw_if,zSlot_some,zGuard_tt,zGuard_ff,zGuard_tf,zGuard_ft,zGuard_un,zOut_some,zOut_pure,zOut_cond,zNext_move,zNext_assign,zNext_buildSlice,zNext_load,zNext_store,zNext_builtin,zNext_fieldAddr,zNext_nilCheck,zNext_indexAddr, (vmA), Nat.reduceEqDiff, reduceIte, Nat.reduceAdd, Int.reduceToNat, Int.reduceLE, Int.reduceLT, Int.reduceEq, Int.reduceNe, Int.reduceAdd, Int.reduceSub, Int.reduceNeg, Nat.reduceLT, Nat.reduceLeDiff, Nat.reduceBEq, undef, (stA), Nat.reduceMul]; try simp (disch := omega) only [(vmp)])
  refine zNext.looseG (r := .ref r 0 0) rfl rfl rfl rfl rfl (fun l' hl' => ⟨True, trivial, by (simp only [gr, (vmA), Nat.reduceEqDiff, reduceIte, Nat.reduceAdd, Int.reduceToNat, Int.reduceLE, Int.reduceLT, Int.reduceEq, Int.reduceNe, Int.reduceAdd, Int.reduceSub, Int.reduceNeg, Nat.reduceLT, Nat.reduceLeDiff, Nat.reduceBEq, undef, (stA), Nat.reduceMul]; try simp (disch := omega) only [(vmp)])⟩) ?_
  (simp only [zDraw_nil,zDraw_go,zDraw_if,zSlot_some,zGuard_tt,zGuard_ff,zGuard_tf,zGuard_ft,zGuard_un,zOut_some,zOut_pure,zOut_cond,zNext_move,zNext_assign,zNext_buildSlice,zNext_load,zNext_store,zNext_builtin,zNext_fieldAddr,zNext_nilCheck,zNext_indexAddr, (vmA), Nat.reduceEqDiff, reduceIte, Nat.reduceAdd, Int.reduceToNat, Int.reduceLE, Int.reduceLT, Int.reduceEq, Int.reduceNe, Int.reduceAdd, Int.reduceSub, Int.reduceNeg, Nat.reduceLT, Nat.reduceLeDiff, Nat.reduceBEq, undef, (stA), Nat.reduceMul]; try simp (disch := omega) only [(vmp)])
  refine zNext.looseG (r := .ref r 0 0) rfl rfl rfl rfl rfl (fun l' hl' => ⟨True, trivial, by (simp only [gr, (vmA), Nat.reduceEqDiff, reduceIte, Nat.reduceAdd, Int.reduceToNat, Int.reduceLE, Int.reduceLT, Int.reduceEq, Int.reduceNe, Int.reduceAdd, Int.reduceSub, Int.reduceNeg, Nat.reduceLT, Nat.reduceLeDiff, Nat.reduceBEq, undef, (stA), Nat.reduceMul]; try simp (disch := omega) only [(vmp)])⟩) ?_
  (simp only [zDraw_nil,zDraw_go,zDraw_if,zSlot_some,zGuard_tt,zGuard_ff,zGuard_tf,zGuard_ft,zGuard_un,zOut_some,zOut_pure,zOut_cond,zNext_move,zNext_assign,zNext_buildSlice,zNext_load,zNext_store,zNext_builtin,zNext_fieldAddr,zNext_nilCheck,zNext_indexAddr, (vmA), Nat.reduceEqDiff, reduceIte, Nat.reduceAdd, Int.reduceToNat, Int.reduceLE, Int.reduceLT, Int.reduceEq, Int.reduceNe, Int.reduceAdd, Int.reduceSub, Int.reduceNeg, Nat.reduceLT, Nat.reduceLeDiff, Nat.reduceBEq, undef, (stA), Nat.reduceMul]; try simp (disch := omega) only [(vmp)])
  refine zNext.looseG (r := .str d) rfl rfl rfl rfl rfl (fun l' hl' => ⟨True, trivial, by (simp only [gr, (vmA), Nat.reduceEqDiff, reduceIte, Nat.reduceAdd, Int.reduceToNat, Int.reduceLE, Int.reduceLT, Int.reduceEq, Int.reduceNe, Int.reduceAdd, Int.reduceSub, Int.reduceNeg, Nat.reduceLT, Nat.reduceLeDiff, Nat.reduceBEq, undef, (stA), Nat.reduceMul]; try simp (disch := omega) only [(vmp)])⟩) ?_
  (simp only [zDraw_nil,zDraw_go,zDraw_if,zSlot_some,zGuard_tt,zGuard_ff,zGuard_tf,zGuard_ft,zGuard_un,zOut_some,zOut_pure,zOut_cond,zNext_move,zNext_assign,zNext_buildSlice,zNext_load,zNext_store,zNext_builtin,zNext_fieldAddr,zNext_nilCheck,zNext_indexAddr, (vmA), Nat.reduceEqDiff, reduceIte, Nat.reduceAdd, Int.reduceToNat, Int.reduceLE, Int.reduceLT, Int.reduceEq, Int.reduceNe, Int.reduceAdd, Int.reduceSub, Int.reduceNeg, Nat.reduceLT, Nat.reduceLeDiff, Nat.reduceBEq, undef, (stA), Nat.reduceMul]; try simp (disch := omega) only [(vmp)])
  refine zNext.looseG (r := .ref r 0 0) rfl rfl rfl rfl rfl (fun l' hl' => ⟨True, trivial, by (simp only [gr, (vmA), Nat.reduceEqDiff, reduceIte, Nat.reduceAdd, Int.reduceToNat, Int.reduceLE, Int.reduceLT, Int.reduceEq, Int.reduceNe, Int.reduceAdd, Int.reduceSub, Int.reduceNeg, Nat.reduceLT, Nat.reduceLeDiff, Nat.reduceBEq, undef, (stA), Nat.reduceMul]; try simp (disch := omega) only [(vmp)])⟩) ?_
  (simp only [zDraw_nil,zDraw_go,zDraw_if,zSlot_some,zGuard_tt,zGuard_ff,zGuard_tf,zGuard_ft,zGuard_un,zOut_some,zOut_pure,zOut_cond,zNext_move,zNext_assign,zNext_buildSlice,zNext_load,zNext_store,zNext_builtin,zNext_fieldAddr,zNext_nilCheck,zNext_indexAddr, (vmA), Nat.reduceEqDiff, reduceIte, Nat.reduceAdd, Int.reduceToNat, Int.reduceLE, Int.reduceLT, Int.reduceEq, Int.reduceNe, Int.reduceAdd, Int.reduceSub, Int.reduceNeg, Nat.reduceLT, Nat.reduceLeDiff, Nat.reduceBEq, undef, (stA), Nat.reduceMul]; try simp (disch := omega) only [(vmp)])
  refine zNext.looseG (r := .ref r 0 1) rfl rfl rfl rfl rfl (fun l' hl' => ⟨True, trivial, by (simp only [gr, (vmA), Nat.reduceEqDiff, reduceIte, Nat.reduceAdd, Int.reduceToNat, Int.reduceLE, Int.reduceLT, Int.reduceEq, Int.reduceNe, Int.reduceAdd, Int.reduceSub, Int.reduceNeg, Nat.reduceLT, Nat.reduceLeDiff, Nat.reduceBEq, undef, (stA), Nat.reduceMul]; try simp (disch := omega) only [(vmp)])⟩) ?_
  (simp only [zDraw_nil,zDraw_go,zDraw_if,zSlot_some,zGuard_tt,zGuard_ff,zGuard_tf,zGuard_ft,zGuard_un,zOut_some,zOut_pure,zOut_cond,zNext_move,zNext_assign,zNext_buildSlice,zNext_load,zNext_store,zNext_builtin,zNext_fieldAddr,zNext_nilCheck,zNext_indexAddr, (vmA), Nat.reduceEqDiff, reduceIte, Nat.reduceAdd, Int.reduceToNat, Int.reduceLE, Int.reduceLT, Int.reduceEq, Int.reduceNe, Int.reduceAdd, Int.reduceSub, Int.reduceNeg, Nat.reduceLT, Nat.reduceLeDiff, Nat.reduceBEq, undef, (stA), Nat.reduceMul]; try simp (disch := omega) only [(vmp)])
  refine zNext.looseG (r := .str n) rfl rfl rfl rfl rfl (fun l' hl' => ⟨True, trivial, by (simp only [gr, (vmA), Nat.reduceEqDiff, reduceIte, Nat.reduceAdd, Int.reduceToNat, Int.reduceLE, Int.reduceLT, Int.reduceEq, Int.reduceNe, Int.reduceAdd, Int.reduceSub, Int.reduceNeg, Nat.reduceLT, Nat.reduceLeDiff, Nat.reduceBEq, undef, (stA), Nat.reduceMul]; try simp (disch := omega) only [(vmp)])⟩) ?_
  (simp only [zDraw_nil,zDraw_go,zDraw_if,zSlot_some,zGuard_tt,zGuard_ff,zGuard_tf,zGuard_ft,zGuard_un,zOut_some,zOut_pure,zOut_cond,zNext_move,zNext_assign,zNext_buildSlice,zNext_load,zNext_store,zNext_builtin,zNext_fieldAddr,zNext_nilCheck,zNext_indexAddr, (vmA), Nat.reduceEqDiff, reduceIte, Nat.reduceAdd, Int.reduceToNat, Int.reduceLE, Int.reduceLT, Int.reduceEq, Int.reduceNe, Int.reduceAdd, Int.reduceSub, Int.reduceNeg, Nat.reduceLT, Nat.reduceLeDiff, Nat.reduceBEq, undef, (stA), Nat.reduceMul]; try simp (disch := omega) only [(vmp)])
  refine zNext.looseG (r := .agg [.str d, .str n, nilS]) rfl rfl rfl rfl rfl (fun l' hl' => ⟨True, trivial, by (simp only [gr, (vmA), Nat.reduceEqDiff, reduceIte, Nat.reduceAdd, Int.reduceToNat, Int.reduceLE, Int.reduceLT, Int.reduceEq, Int.reduceNe, Int.reduceAdd, Int.reduceSub, Int.reduceNeg, Nat.reduceLT, Nat.reduceLeDiff, Nat.reduceBEq, undef, (stA), Nat.reduceMul]; try simp (disch := omega) only [(vmp)])⟩) ?_
  (simp only [zDraw_nil,zDraw_go,zDraw_if,zSlot_some,zGuard_tt,zGuard_ff,zGuard_tf,zGuard_ft,zGuard_un,zOut_some,zOut_pure,zOut_cond,zNext_move,zNext_assign,zNext_buildSlice,zNext_load,zNext_store,zNext_builtin,zNext_fieldAddr,zNext_nilCheck,zNext_indexAddr, (vmA), Nat.reduceEqDiff, reduceIte, Nat.reduceAdd, Int.reduceToNat, Int.reduceLE, Int.reduceLT, Int.reduceEq, Int.reduceNe, Int.reduceAdd, Int.reduceSub, Int.reduceNeg, Nat.reduceLT, Nat.reduceLeDiff, Nat.reduceBEq, undef, (stA), Nat.reduceMul]; try simp (disch := omega) only [(vmp)])
  refine zNext.softS rfl rfl rfl (by (simp only [(vmA), Nat.reduceEqDiff, reduceIte, Nat.reduceAdd, Int.reduceToNat, Int.reduceLE, Int.reduceLT, Int.reduceEq, Int.reduceNe, Int.reduceAdd, Int.reduceSub, Int.reduceNeg, Nat.reduceLT, Nat.reduceLeDiff, Nat.reduceBEq, undef, (stA), Nat.reduceMul]; try simp (disch := omega) only [(vmp)]); exact rfl) (by trivial) rfl (by intro m hm; simp at hm; subst hm; rfl) ?_
  (simp only [zDraw_nil,zDraw_go,zDraw_if,zSlot_some,zGuard_tt,zGuard_ff,zGuard_tf,zGuard_ft,zGuard_un,zOut_some,zOut_pure,zOut_cond,zNext_move,zNext_assign,zNext_buildSlice,zNext_load,zNext_store,zNext_builtin,zNext_fieldAddr,zNext_nilCheck,zNext_indexAddr, gr, (vmA), Nat.reduceEqDiff, reduceIte, Nat.reduceAdd, Int.reduceToNat, Int.reduceLE, Int.reduceLT, Int.reduceEq, Int.reduceNe, Int.reduceAdd, Int.reduceSub, Int.reduceNeg, Nat.reduceLT, Nat.reduceLeDiff, Nat.reduceBEq, undef, (stA), Nat.reduceMul]; try simp (disch := omega) only [(vmp)])
  refine xloop (α := Nat) T0 (fun i => [(4, .ref σ.length 0 0), (5, .ref (σ.length + 1) 0 0), (23, i64 0), (24, i64 0)]) (fun _ => σ) (fun _ => [tyE [] [] nilS, tyE d n nilS]) (fun i => i = 0) (fun i => i) (by kernel_rfl)
    ⟨0, rfl, by (simp only [(vmA), Nat.reduceEqDiff, reduceIte, Nat.reduceAdd, Int.reduceToNat, Int.reduceLE, Int.reduceLT, Int.reduceEq, Int.reduceNe, Int.reduceAdd, Int.reduceSub, Int.reduceNeg, Nat.reduceLT, Nat.reduceLeDiff, Nat.reduceBEq, undef, (stA), Nat.reduceMul]; try simp (disch := omega) only [(vmp)]), rfl, rfl⟩ ?_
  rintro i hi
  (simp only [tyE, (vmA), Nat.reduceEqDiff, reduceIte, Nat.reduceAdd, Int.reduceToNat, Int.reduceLE, Int.reduceLT, Int.reduceEq, Int.reduceNe, Int.reduceAdd, Int.reduceSub, Int.reduceNeg, Nat.reduceLT, Nat.reduceLeDiff, Nat.reduceBEq, undef, (stA), Nat.reduceMul]; try simp (disch := omega) only [(vmp)])
end Go.D

/- The unifier that the example's graph is. -/
set_option linter.unusedVariables false
set_option linter.unusedSimpArgs false
set_option linter.unnecessarySimpa false
set_option maxRecDepth 100000
namespace Go.D
open Go Go.Vm Go.Proofs Go.RowKit

theorem sort_ab : sortS [na, nb] = [na, nb] := by
  unfold sortS; simp [List.mergeSort, List.MergeSort.Internal.splitInTwo, List.merge, List.splitAt, List.splitAt.go]; decide
theorem sort_ba : sortS [nb, na] = [na, nb] := by
  unfold sortS; simp [List.mergeSort, List.MergeSort.Internal.splitInTwo, List.merge, List.splitAt, List.splitAt.go]; decide
theorem xNxt_go {E : Env} {n : Nat} {T : Nat → TI} {rows : List Nat} {dst : Option Nat} {all : Array Oper} {os : List Oper} {k : Kont} {ts : Ts} {g l : List Ent} {id m since last : Nat} {seen : List Nat} {es : List MEnt} {clock : Nat}
    (h1 : sget g l id = some (.iter (some m) since seen last)) (h2 : sget g l m = some (.map es clock)) (h3 : ∀ e ∈ es, e.2.2 < since) (h4 : since ≤ last)
    (hend : (∀ e ∈ es, e.2.2 ∈ seen) → xOps E n T rows all os k (tput ts dst (.tup [boolV false])) g l)
    (hone : ∀ e ∈ es, e.2.2 ∉ seen → xOps E n T rows all os k (tput ts dst (.tup [boolV true, e.1, e.2.1])) (ssetG g id (.iter (some m) since (seen ++ [e.2.2]) clock)) (ssetL g l id (.iter (some m) since (seen ++ [e.2.2]) clock))) :
    xNxt E n T rows dst all os k ts (.ref id 0 0) g l := by
  unfold xNxt aNxt
  simp only [h1, h2]
  exact ⟨h3, h4, hend, hone⟩
def nmOf (k : Nat) : List UInt8 := if k = 0 then na else nb
def exMap (a b : Nat) : List MEnt := [(.str na, .ref a 0 0, 0), (.str nb, .ref b 0 0, 1)]
/-- What the walk over the variables has laid, behind those of 'o', in order. -/
def ownW (v i n : Nat) (o : List Nat) : List Ent := match o with
  | [] => [.map [] 0, .iter (some v) 2 [] 2]
  | [k] => [.map [(.ref i 0 0, boolV true, 0)] 1, .iter (some v) 2 [k] 2, .arr 9 [.str (nmOf k)] 0 0, .map [] 1]
  | [k, k'] => [.map [(.ref i 0 0, boolV true, 0)] 1, .iter (some v) 2 [k, k'] 2, .arr 9 [.str (nmOf k), .str (nmOf k')] 1 0, .map [] 1, .map [] 0]
  | _ => []
def rowW (n : Nat) (o : List Nat) : AV := match o with
  | [] => nilS
  | [k] => .rsl (n + 2) 0 0 1 1
  | _ => .rsl (n + 2) 1 0 2 1
set_option maxHeartbeats 8000000 in
theorem result_ok (σ : List Ent) (gid v z a b i : Nat) (hg : σ[gid]? = some (graE v z)) (hv : σ[v]? = some (.map (exMap a b) 2)) (hz : σ[z]? = some (.map [] 0))
    (ha : σ[a]? = some (nodeE kiVar na nilS (.ref i 0 0))) (hb : σ[b]? = some (nodeE kiVar nb nilS (.ref a 0 0))) (hi : σ[i]? = some (nodeE kiInt [] nilS nilP)) :
    ACalls E 57 [.ref gid 0 0] σ fun r τ => r = .tup [.sl (clsV [(na, .mk kiInt [] []), (nb, .mk kiInt [] [])]), i64 0] ∧ τ = σ.set z (.map [(.ref i 0 0, sz1, 0)] 1) := by
  have gg := sget_of hg
  have gv := sget_of hv
  have gz := sget_of hz
  simp only [graE] at gg
  simp only [exMap] at gv
  refine xacalls T0 .freeze [] Tryz.func57 rfl (by kernel_rfl) (by kernel_rfl) (by simp [Tryz.ntmps57]) ?_
  (simp only [gg, gv, (vmA), Nat.reduceEqDiff, reduceIte, Nat.reduceAdd, Int.reduceToNat, Int.reduceLE, Int.reduceLT, Int.reduceEq, Int.reduceNe, Int.reduceAdd, Int.reduceSub, Int.reduceNeg, Nat.reduceLT, Nat.reduceLeDiff, Nat.reduceBEq, undef, (stA), Nat.reduceMul]; try simp (disch := omega) only [(vmp)])
  refine xloop (α := List Nat) T0 (fun o => [(0, .ref gid 0 0), (4, rowW σ.length o), (5, .mp σ.length), (18, .ref (σ.length + 1) 0 0)]) (fun _ => σ) (fun o => ownW v i σ.length o)
    (fun o => o = [] ∨ o = [0] ∨ o = [1] ∨ o = [0, 1] ∨ o = [1, 0]) (fun o => 2 - o.length) (by kernel_rfl)
    ⟨[], .inl rfl, by (simp only [rowW, (vmA), Nat.reduceEqDiff, reduceIte, Nat.reduceAdd, Int.reduceToNat, Int.reduceLE, Int.reduceLT, Int.reduceEq, Int.reduceNe, Int.reduceAdd, Int.reduceSub, Int.reduceNeg, Nat.reduceLT, Nat.reduceLeDiff, Nat.reduceBEq, undef, (stA), Nat.reduceMul]; try simp (disch := omega) only [(vmp)]), rfl, rfl⟩ ?_
  rintro o ho
  have hb2 : ∀ e ∈ exMap a b, e.2.2 < 2 := fun e he => by
    simp only [exMap] at he
    rcases List.mem_cons.1 he with rfl | he
    · simp
    · simp at he; subst he; simp
  have find0 : List.find? (fun e : MEnt => e.2.2 == 0) (exMap a b) = some (.str na, .ref a 0 0, 0) := rfl
  have find1 : List.find? (fun e : MEnt => e.2.2 == 1) (exMap a b) = some (.str nb, .ref b 0 0, 1) := rfl
  have ea : Ends σ 1 a i := .step ha (.here hi)
  have eb : Ends σ 2 b i := .step hb ea
  have gv' := sget_of hv
  have own4 : ∀ (p k : Nat), Ends σ k p i → ∀ e1 e2, ACalls E 92 [.ref p 0 0, .mp (σ.length + 3), .mp σ.length] (σ ++ [.map [] 0, e1, e2, .map [] 0]) fun r τ => r = boolV false ∧ τ = σ ++ [.map [(.ref i 0 0, boolV true, 0)] 1, e1, e2, .map [] 1] := fun p k hk e1 e2 => by
    have h := roundNew_ok (σ ++ [.map [] 0, e1, e2, .map [] 0]) p i k (σ.length + 3) σ.length kiInt [] (hk.push _) (get_olds hi _) (by rw [List.getElem?_append_right (by omega), Nat.add_sub_cancel_left]; rfl) (by rw [List.getElem?_append_right (Nat.le_refl _), Nat.sub_self]; rfl) (by omega)
    refine h.mono fun r τ ⟨q1, q2⟩ => ⟨q1, ?_⟩
    rw [q2, List.set_append_right _ _ (by omega), List.set_append_right _ _ (by omega), Nat.add_sub_cancel_left, Nat.sub_self]; rfl
  have own5 : ∀ (p k : Nat), Ends σ k p i → ∀ e1 e2 e3, ACalls E 92 [.ref p 0 0, .mp (σ.length + 4), .mp σ.length] (σ ++ [.map [(.ref i 0 0, boolV true, 0)] 1, e1, e2, e3, .map [] 0]) fun r τ => r = boolV false ∧ τ = σ ++ [.map [(.ref i 0 0, boolV true, 0)] 1, e1, e2, e3, .map [] 0] := fun p k hk e1 e2 e3 =>
    roundOld_ok (σ ++ [.map [(.ref i 0 0, boolV true, 0)] 1, e1, e2, e3, .map [] 0]) p i k (σ.length + 4) σ.length 1 kiInt [] (hk.push _) (get_olds hi _) (by rw [List.getElem?_append_right (by omega), Nat.add_sub_cancel_left]; rfl) (by rw [List.getElem?_append_right (Nat.le_refl _), Nat.sub_self]; rfl)
  simp only [boolV] at own4 own5
  rcases ho with rfl | rfl | rfl | ho
  · (simp only [ownW, rowW, (vmA), Nat.reduceEqDiff, reduceIte, Nat.reduceAdd, Int.reduceToNat, Int.reduceLE, Int.reduceLT, Int.reduceEq, Int.reduceNe, Int.reduceAdd, Int.reduceSub, Int.reduceNeg, Nat.reduceLT, Nat.reduceLeDiff, Nat.reduceBEq, undef, (stA), Nat.reduceMul]; try simp (disch := omega) only [(vmp)])
    refine xNxt_go (by rw [sget_l]; rfl) (gv' _) hb2 (Nat.le_refl _) (fun h => ?_) (fun e he _ => ?_)
    · have := h (.str na, .ref a 0 0, 0) (by simp [exMap]); cases this
    simp only [exMap] at he
    rcases List.mem_cons.1 he with rfl | he
    · (simp only [gv', find0, List.nil_append, List.getLast?_singleton, (vmA), Nat.reduceEqDiff, reduceIte, Nat.reduceAdd, Int.reduceToNat, Int.reduceLE, Int.reduceLT, Int.reduceEq, Int.reduceNe, Int.reduceAdd, Int.reduceSub, Int.reduceNeg, Nat.reduceLT, Nat.reduceLeDiff, Nat.reduceBEq, undef, (stA), Nat.reduceMul]; try simp (disch := omega) only [(vmp)])
      refine ⟨by unfold maxRoom; omega, ?_⟩
      refine xWait.go (own4 _ _ ea _ _) ?_
      (simp only [(vmA), Nat.reduceEqDiff, reduceIte, Nat.reduceAdd, Int.reduceToNat, Int.reduceLE, Int.reduceLT, Int.reduceEq, Int.reduceNe, Int.reduceAdd, Int.reduceSub, Int.reduceNeg, Nat.reduceLT, Nat.reduceLeDiff, Nat.reduceBEq, undef, (stA), Nat.reduceMul]; try simp (disch := omega) only [(vmp)])
      exact ⟨[0], by simp, by simp, rfl, rfl⟩
    · obtain rfl : e = (.str nb, .ref b 0 0, 1) := by simpa using he
      (simp only [gv', find1, List.nil_append, List.getLast?_singleton, (vmA), Nat.reduceEqDiff, reduceIte, Nat.reduceAdd, Int.reduceToNat, Int.reduceLE, Int.reduceLT, Int.reduceEq, Int.reduceNe, Int.reduceAdd, Int.reduceSub, Int.reduceNeg, Nat.reduceLT, Nat.reduceLeDiff, Nat.reduceBEq, undef, (stA), Nat.reduceMul]; try simp (disch := omega) only [(vmp)])
      refine ⟨by unfold maxRoom; omega, ?_⟩
      refine xWait.go (own4 _ _ eb _ _) ?_
      (simp only [(vmA), Nat.reduceEqDiff, reduceIte, Nat.reduceAdd, Int.reduceToNat, Int.reduceLE, Int.reduceLT, Int.reduceEq, Int.reduceNe, Int.reduceAdd, Int.reduceSub, Int.reduceNeg, Nat.reduceLT, Nat.reduceLeDiff, Nat.reduceBEq, undef, (stA), Nat.reduceMul]; try simp (disch := omega) only [(vmp)])
      exact ⟨[1], by simp, by simp, rfl, rfl⟩
  · (simp only [ownW, rowW, nmOf, if_true, (vmA), Nat.reduceEqDiff, reduceIte, Nat.reduceAdd, Int.reduceToNat, Int.reduceLE, Int.reduceLT, Int.reduceEq, Int.reduceNe, Int.reduceAdd, Int.reduceSub, Int.reduceNeg, Nat.reduceLT, Nat.reduceLeDiff, Nat.reduceBEq, undef, (stA), Nat.reduceMul]; try simp (disch := omega) only [(vmp)])
    refine xNxt_go (by rw [sget_l]; rfl) (gv' _) hb2 (Nat.le_refl _) (fun h => ?_) (fun e he hs => ?_)
    · have := h (.str nb, .ref b 0 0, 1) (by simp [exMap]); simp at this
    simp only [exMap] at he
    rcases List.mem_cons.1 he with rfl | he
    · exact absurd (by simp) hs
    · obtain rfl : e = (.str nb, .ref b 0 0, 1) := by simpa using he
      (simp only [gv', find1, List.cons_append, List.nil_append, List.getLast?_cons_cons, List.getLast?_singleton, (vmA), Nat.reduceEqDiff, reduceIte, Nat.reduceAdd, Int.reduceToNat, Int.reduceLE, Int.reduceLT, Int.reduceEq, Int.reduceNe, Int.reduceAdd, Int.reduceSub, Int.reduceNeg, Nat.reduceLT, Nat.reduceLeDiff, Nat.reduceBEq, undef, (stA), Nat.reduceMul]; try simp (disch := omega) only [(vmp)])
      refine ⟨by unfold maxRoom; omega, ?_⟩
      refine xWait.go (own5 _ _ eb _ _ _) ?_
      (simp only [(vmA), Nat.reduceEqDiff, reduceIte, Nat.reduceAdd, Int.reduceToNat, Int.reduceLE, Int.reduceLT, Int.reduceEq, Int.reduceNe, Int.reduceAdd, Int.reduceSub, Int.reduceNeg, Nat.reduceLT, Nat.reduceLeDiff, Nat.reduceBEq, undef, (stA), Nat.reduceMul]; try simp (disch := omega) only [(vmp)])
      exact ⟨[0, 1], by simp, by simp, rfl, rfl⟩
  · have h10 : ¬ (1 : Nat) = 0 := by omega
    (simp only [ownW, rowW, nmOf, h10, if_false, (vmA), Nat.reduceEqDiff, reduceIte, Nat.reduceAdd, Int.reduceToNat, Int.reduceLE, Int.reduceLT, Int.reduceEq, Int.reduceNe, Int.reduceAdd, Int.reduceSub, Int.reduceNeg, Nat.reduceLT, Nat.reduceLeDiff, Nat.reduceBEq, undef, (stA), Nat.reduceMul]; try simp (disch := omega) only [(vmp)])
    refine xNxt_go (by rw [sget_l]; rfl) (gv' _) hb2 (Nat.le_refl _) (fun h => ?_) (fun e he hs => ?_)
    · have := h (.str na, .ref a 0 0, 0) (by simp [exMap]); simp at this
    simp only [exMap] at he
    rcases List.mem_cons.1 he with rfl | he
    · (simp only [gv', find0, List.cons_append, List.nil_append, List.getLast?_cons_cons, List.getLast?_singleton, (vmA), Nat.reduceEqDiff, reduceIte, Nat.reduceAdd, Int.reduceToNat, Int.reduceLE, Int.reduceLT, Int.reduceEq, Int.reduceNe, Int.reduceAdd, Int.reduceSub, Int.reduceNeg, Nat.reduceLT, Nat.reduceLeDiff, Nat.reduceBEq, undef, (stA), Nat.reduceMul]; try simp (disch := omega) only [(vmp)])
      refine ⟨by unfold maxRoom; omega, ?_⟩
      refine xWait.go (own5 _ _ ea _ _ _) ?_
      (simp only [(vmA), Nat.reduceEqDiff, reduceIte, Nat.reduceAdd, Int.reduceToNat, Int.reduceLE, Int.reduceLT, Int.reduceEq, Int.reduceNe, Int.reduceAdd, Int.reduceSub, Int.reduceNeg, Nat.reduceLT, Nat.reduceLeDiff, Nat.reduceBEq, undef, (stA), Nat.reduceMul]; try simp (disch := omega) only [(vmp)])
      exact ⟨[1, 0], by simp, by simp, rfl, rfl⟩
    · obtain rfl : e = (.str nb, .ref b 0 0, 1) := by simpa using he
      exact absurd (by simp) hs
  · obtain ⟨k, k', rfl, hsort, hall⟩ : ∃ k k', o = [k, k'] ∧ sortS [nmOf k, nmOf k'] = [na, nb] ∧ ∀ e ∈ exMap a b, e.2.2 ∈ [k, k'] := by
      rcases ho with rfl | rfl
      · exact ⟨0, 1, rfl, sort_ab, fun e he => by simp [exMap] at he; rcases he with rfl | rfl <;> simp⟩
      · exact ⟨1, 0, rfl, sort_ba, fun e he => by simp [exMap] at he; rcases he with rfl | rfl <;> simp⟩
    (simp only [ownW, rowW, (vmA), Nat.reduceEqDiff, reduceIte, Nat.reduceAdd, Int.reduceToNat, Int.reduceLE, Int.reduceLT, Int.reduceEq, Int.reduceNe, Int.reduceAdd, Int.reduceSub, Int.reduceNeg, Nat.reduceLT, Nat.reduceLeDiff, Nat.reduceBEq, undef, (stA), Nat.reduceMul]; try simp (disch := omega) only [(vmp)])
    refine xNxt_go (by rw [sget_l]; rfl) (gv' _) hb2 (Nat.le_refl _) (fun _ => ?_) (fun e he hs => absurd (hall e he) hs)
    (simp only [(vmA), Nat.reduceEqDiff, reduceIte, Nat.reduceAdd, Int.reduceToNat, Int.reduceLE, Int.reduceLT, Int.reduceEq, Int.reduceNe, Int.reduceAdd, Int.reduceSub, Int.reduceNeg, Nat.reduceLT, Nat.reduceLeDiff, Nat.reduceBEq, undef, (stA), Nat.reduceMul]; try simp (disch := omega) only [(vmp)])
    have hso := sortS_ok [nmOf k, nmOf k'] (by simp) (σ ++ [.map [(.ref i 0 0, boolV true, 0)] 1, .iter (some v) 2 [k, k'] 2, .arr 9 [.str (nmOf k), .str (nmOf k')] 1 0, .map [] 1, .map [] 0]) (σ.length + 2) 9 1 (by rw [List.getElem?_append_right (by omega), Nat.add_sub_cancel_left]; rfl)
    rw [hsort, List.set_append_right _ _ (by omega), Nat.add_sub_cancel_left] at hso
    refine xWait.go hso ?_
    rw [List.take_left, List.drop_left]
    generalize Ent.iter (some v) 2 [k, k'] 2 = it
    (simp only [strsV, List.map_cons, List.map_nil, List.set_cons_succ, List.set_cons_zero, (vmA), Nat.reduceEqDiff, reduceIte, Nat.reduceAdd, Int.reduceToNat, Int.reduceLE, Int.reduceLT, Int.reduceEq, Int.reduceNe, Int.reduceAdd, Int.reduceSub, Int.reduceNeg, Nat.reduceLT, Nat.reduceLeDiff, Nat.reduceBEq, undef, (stA), Nat.reduceMul]; try simp (disch := omega) only [(vmp)])
    obtain ⟨S1, hS1⟩ : ∃ S1, S1 = σ.set z (.map [(.ref i 0 0, sz1, 0)] 1) := ⟨_, rfl⟩
    have zne : ∀ {p : Nat} {e : Ent}, σ[p]? = some e → e ≠ .map [] 0 → z ≠ p := fun h hne hh => by subst hh; rw [hz] at h; cases h; exact hne rfl
    have hi1 : S1[i]? = some (nodeE kiInt [] nilS nilP) := by rw [hS1]; exact set_get hi (zne hi (by simp [nodeE]))
    have ha1 : S1[a]? = some (nodeE kiVar na nilS (.ref i 0 0)) := by rw [hS1]; exact set_get ha (zne ha (by simp [nodeE]))
    have hb1 : S1[b]? = some (nodeE kiVar nb nilS (.ref a 0 0)) := by rw [hS1]; exact set_get hb (zne hb (by simp [nodeE]))
    have hg1 : S1[gid]? = some (graE v z) := by rw [hS1]; exact set_get hg (zne hg (by simp [graE]))
    have hv1 : S1[v]? = some (.map (exMap a b) 2) := by rw [hS1]; exact set_get hv (zne hv (by simp [exMap]))
    have hz1 : S1[z]? = some (.map [(.ref i 0 0, sz1, 0)] 1) := by rw [hS1]; exact get_set_self hz
    have eb1 : Ends S1 2 b i := .step hb1 (.step ha1 (.here hi1))
    have nS1 : S1.length = σ.length := by rw [hS1]; simp
    have m0 : mget (.str na) (exMap a b) = some (.ref a 0 0) := by simp [exMap, mget, keq]
    have m1 : mget (.str nb) (exMap a b) = some (.ref b 0 0) := by simp [exMap, mget, keq]
    have hks : strK (exMap a b) := fun e he => by simp [exMap] at he; rcases he with rfl | rfl <;> exact ⟨_, rfl⟩
    have nvar : ¬ ([105, 110, 116] : List UInt8) = [118, 97, 114] := by decide
    have gi := sget_of hi
    have gi1 := sget_of hi1
    have gv1 := sget_of hv1
    have gg1 := sget_of hg1
    have hlow : StoreLow σ.length σ S1 := by rw [hS1]; exact storeLow_set (by simp only [Ent.low, List.map_cons, List.map_nil, AV.low.lows, AV.low, sz1, lt_of_get hi, decide_true, Bool.and_self])
    simp only [nodeE] at gi gi1
    simp only [graE] at gg1
    rw [← hS1]
    have hfit := fun σ' => Fits_ok (1, 1) σ'
    have hft : fitsB (1, 1) = true := by decide
    simp only [szV, hft] at hfit
    generalize hW : [Ent.map [(.ref i 0 0, .v (.bool true), 0)] 1, it, Ent.arr 9 [AV.str na, AV.str nb] 1 0, Ent.map [] 1, Ent.map [] 0] = W
    have hsz0 : ∀ L, ACalls E 93 [.ref gid 0 0, .ref i 0 0] (σ ++ L) fun x τ => x = sz1 ∧ τ = S1 ++ L := fun L => by
      have h := sizeNew_ok (σ ++ L) i i 0 gid v z kiInt [] (.here (get_olds hi L)) (get_olds hi L) (get_olds hg L) (get_olds hz L)
      rw [List.set_append_left _ _ (lt_of_get hz), ← hS1] at h
      exact h
    have hsz1 : ∀ L, ACalls E 93 [.ref gid 0 0, .ref i 0 0] (S1 ++ L) fun x τ => x = sz1 ∧ τ = S1 ++ L := fun L =>
      sizeOld_ok (S1 ++ L) i i 0 gid v z 1 kiInt [] (.here (get_olds hi1 L)) (get_olds hi1 L) (get_olds hg1 L) (get_olds hz1 L)
    have hty : ∀ L, ACalls E 94 [.ref gid 0 0, .ref i 0 0] (S1 ++ L) fun x τ => x = .agg [.str kiInt, .str [], nilS] ∧ τ = S1 ++ L := fun L =>
      typ_ok (S1 ++ L) i i 0 gid v z kiInt [] (.here (get_olds hi1 L)) (get_olds hi1 L)
    simp only [sz1] at hsz0 hsz1
    subst hW
    refine xloop (α := Nat) T0 (fun j => [(0, .ref gid 0 0), (8, if j = 0 then nilS else if j = 1 then .rsl (σ.length + 5) 0 0 1 4 else .rsl (σ.length + 5) 1 0 2 4), (9, .v (.bool false)), (34, .rsl (σ.length + 2) 1 0 2 1), (35, i64 2), (36, i64 j)])
      (fun j => if j = 0 then σ else S1)
      (fun j => [Ent.map [(.ref i 0 0, .v (.bool true), 0)] 1, it, Ent.arr 9 [AV.str na, AV.str nb] 1 0, Ent.map [] 1, Ent.map [] 0] ++
        (if j = 0 then [] else if j = 1 then [.arr 33 [.str na, .str kiInt, .str [], nilS] 0 0] else [.arr 33 [.str na, .str kiInt, .str [], nilS, .str nb, .str kiInt, .str [], nilS] 1 0]))
      (fun j => j ≤ 2) (fun j => 2 - j) (by kernel_rfl)
      ⟨0, by omega, by (simp only [(vmA), Nat.reduceEqDiff, reduceIte, Nat.reduceAdd, Int.reduceToNat, Int.reduceLE, Int.reduceLT, Int.reduceEq, Int.reduceNe, Int.reduceAdd, Int.reduceSub, Int.reduceNeg, Nat.reduceLT, Nat.reduceLeDiff, Nat.reduceBEq, undef, (stA), Nat.reduceMul, Int.natCast_zero]; try simp (disch := omega) only [(vmp)]), rfl, rfl⟩ ?_
    rintro j hj
    obtain rfl | rfl | rfl : j = 0 ∨ j = 1 ∨ j = 2 := by omega
    · have c1 : ((0 : Nat) : Int) < 2 := by omega
      (simp only [c1, if_true, gg, gv', m0, gi, (vmA), Nat.reduceEqDiff, reduceIte, Nat.reduceAdd, Int.reduceToNat, Int.reduceLE, Int.reduceLT, Int.reduceEq, Int.reduceNe, Int.reduceAdd, Int.reduceSub, Int.reduceNeg, Nat.reduceLT, Nat.reduceLeDiff, Nat.reduceBEq, undef, (stA), Nat.reduceMul]; try simp (disch := omega) only [(vmp)])
      refine ⟨⟨rfl, strK_ok hks _ _ _⟩, ?_⟩
      refine xWait.go (end_ok _ a i 1 (ea.push _)) ?_
      (simp only [gi, nvar, (vmA), Nat.reduceEqDiff, reduceIte, Nat.reduceAdd, Int.reduceToNat, Int.reduceLE, Int.reduceLT, Int.reduceEq, Int.reduceNe, Int.reduceAdd, Int.reduceSub, Int.reduceNeg, Nat.reduceLT, Nat.reduceLeDiff, Nat.reduceBEq, undef, (stA), Nat.reduceMul]; try simp (disch := omega) only [(vmp)])
      refine xWait.go (hsz0 _) ?_
      rw [← nS1, List.take_left, List.drop_left]
      (simp only [(vmA), Nat.reduceEqDiff, reduceIte, Nat.reduceAdd, Int.reduceToNat, Int.reduceLE, Int.reduceLT, Int.reduceEq, Int.reduceNe, Int.reduceAdd, Int.reduceSub, Int.reduceNeg, Nat.reduceLT, Nat.reduceLeDiff, Nat.reduceBEq, undef, (stA), Nat.reduceMul]; try simp (disch := omega) only [(vmp)])
      refine xWait.go (hfit _) ?_
      (simp only [(vmA), Nat.reduceEqDiff, reduceIte, Nat.reduceAdd, Int.reduceToNat, Int.reduceLE, Int.reduceLT, Int.reduceEq, Int.reduceNe, Int.reduceAdd, Int.reduceSub, Int.reduceNeg, Nat.reduceLT, Nat.reduceLeDiff, Nat.reduceBEq, undef, (stA), Nat.reduceMul]; try simp (disch := omega) only [(vmp)])
      refine xWait.go (hty _) ?_
      (simp only [(vmA), Nat.reduceEqDiff, reduceIte, Nat.reduceAdd, Int.reduceToNat, Int.reduceLE, Int.reduceLT, Int.reduceEq, Int.reduceNe, Int.reduceAdd, Int.reduceSub, Int.reduceNeg, Nat.reduceLT, Nat.reduceLeDiff, Nat.reduceBEq, undef, (stA), Nat.reduceMul]; try simp (disch := omega) only [(vmp)])
      exact ⟨by unfold maxRoom; omega, 1, by omega, by omega, ⟨rfl, rfl⟩, rfl, rfl⟩
    · have c1 : ((1 : Nat) : Int) < 2 := by omega
      have c2 : ¬ (1 : Nat) = 0 := by omega
      rw [← nS1]
      (simp only [c1, c2, if_true, if_false, gg1, gv1, m1, gi1, (vmA), Nat.reduceEqDiff, reduceIte, Nat.reduceAdd, Int.reduceToNat, Int.reduceLE, Int.reduceLT, Int.reduceEq, Int.reduceNe, Int.reduceAdd, Int.reduceSub, Int.reduceNeg, Nat.reduceLT, Nat.reduceLeDiff, Nat.reduceBEq, undef, (stA), Nat.reduceMul]; try simp (disch := omega) only [(vmp)])
      refine ⟨⟨rfl, strK_ok hks _ _ _⟩, ?_⟩
      refine xWait.go (end_ok _ b i 2 (eb1.push _)) ?_
      (simp only [gi1, nvar, (vmA), Nat.reduceEqDiff, reduceIte, Nat.reduceAdd, Int.reduceToNat, Int.reduceLE, Int.reduceLT, Int.reduceEq, Int.reduceNe, Int.reduceAdd, Int.reduceSub, Int.reduceNeg, Nat.reduceLT, Nat.reduceLeDiff, Nat.reduceBEq, undef, (stA), Nat.reduceMul]; try simp (disch := omega) only [(vmp)])
      refine xWait.go (hsz1 _) ?_
      (simp only [(vmA), Nat.reduceEqDiff, reduceIte, Nat.reduceAdd, Int.reduceToNat, Int.reduceLE, Int.reduceLT, Int.reduceEq, Int.reduceNe, Int.reduceAdd, Int.reduceSub, Int.reduceNeg, Nat.reduceLT, Nat.reduceLeDiff, Nat.reduceBEq, undef, (stA), Nat.reduceMul]; try simp (disch := omega) only [(vmp)])
      refine xWait.go (hfit _) ?_
      (simp only [(vmA), Nat.reduceEqDiff, reduceIte, Nat.reduceAdd, Int.reduceToNat, Int.reduceLE, Int.reduceLT, Int.reduceEq, Int.reduceNe, Int.reduceAdd, Int.reduceSub, Int.reduceNeg, Nat.reduceLT, Nat.reduceLeDiff, Nat.reduceBEq, undef, (stA), Nat.reduceMul]; try simp (disch := omega) only [(vmp)])
      refine xWait.go (hty _) ?_
      (simp only [(vmA), Nat.reduceEqDiff, reduceIte, Nat.reduceAdd, Int.reduceToNat, Int.reduceLE, Int.reduceLT, Int.reduceEq, Int.reduceNe, Int.reduceAdd, Int.reduceSub, Int.reduceNeg, Nat.reduceLT, Nat.reduceLeDiff, Nat.reduceBEq, undef, (stA), Nat.reduceMul]; try simp (disch := omega) only [(vmp)])
      exact ⟨by unfold maxRoom; omega, 2, by omega, by omega, ⟨rfl, rfl⟩, rfl, rfl⟩
    · have c1 : ¬ ((2 : Nat) : Int) < 2 := by omega
      have c2 : ¬ (2 : Nat) = 0 := by omega
      have c3 : ¬ (2 : Nat) = 1 := by omega
      (simp only [c1, c2, c3, if_false, (vmA), Nat.reduceEqDiff, reduceIte, Nat.reduceAdd, Int.reduceToNat, Int.reduceLE, Int.reduceLT, Int.reduceEq, Int.reduceNe, Int.reduceAdd, Int.reduceSub, Int.reduceNeg, Nat.reduceLT, Nat.reduceLeDiff, Nat.reduceBEq, undef, (stA), Nat.reduceMul]; try simp (disch := omega) only [(vmp)])
      refine ⟨.tup [.sl [.agg [.str na, .str kiInt, .str [], .sl []], .agg [.str nb, .str kiInt, .str [], .sl []]], i64 0], .tup (.cons (.rsl (ty := 33) (ver := 1) (imm := 0) (ag := true) (cells := [.str na, .str kiInt, .str [], nilS, .str nb, .str kiInt, .str [], nilS])
        (es := [.agg [.str na, .str kiInt, .str [], nilS], .agg [.str nb, .str kiInt, .str [], nilS]]) (by omega) (by rw [Nat.add_sub_cancel_left]; rfl) rfl (by simp) rfl (by omega) (by intro e he; simp at he; rcases he with rfl | rfl <;> rfl)
        (.cons (.agg (.cons (.refl _) (.cons (.refl _) (.cons (.refl _) (.cons .none .nil))))) (.cons (.agg (.cons (.refl _) (.cons (.refl _) (.cons (.refl _) (.cons .none .nil))))) .nil))) (.cons (.refl _) .nil)), by simp only [AV.low, AV.low.lows, Bool.and_self], hlow, rfl⟩
end Go.D
