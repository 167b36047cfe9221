/- A substitution put into a type; whether types are the same, by the document. -/
import Derived.Test.YtoobkfjkohadnaaGreatDoorFnC
import Derived.Test.YtoobkfjkohadnaaGreatDoorFnB
import Derived.Test.YtoobkfjkohadnaaGreatDoorVmF
set_option linter.unusedVariables false
set_option linter.unusedSimpArgs false
set_option linter.unnecessarySimpa false
set_option maxRecDepth 100000
namespace Go.D
open Go Go.Vm Go.Proofs Go.RowKit
mutual
def putT (s : Sub') : Tr → Tr
 | .mk d n us => if d = kiVar ∧ (Sub'.look s n).isSome = true then (Sub'.look s n).getD (.mk [] [] []) else .mk d n (putTs s us)
def putTs (s : Sub') : List Tr → List Tr
 | [] => []
 | t :: ts => putT s t :: putTs s ts
end
theorem putTs_map (s : Sub') : ∀ l : List Tr, putTs s l = l.map (putT s)
 | [] => rfl
 | t :: ts => by rw [putTs, putTs_map s ts]; rfl
def argV (nl : Bool) : List Tr → AV
 | [] => if nl = true then .v (.slice none 0 0) else .sl []
 | t :: ts => .sl (tysV (t :: ts))
def tyN (nl : Bool) : Tr → AV
 | .mk d n us => .agg [.str d, .str n, argV nl us]
def mEntsN (nl : Bool) : Nat → Sub' → List (AV × AV × Nat)
 | _, [] => []
 | k, e :: r => (.str e.1, tyN nl e.2, k) :: mEntsN nl (k + 1) r
theorem mgetN (nl : Bool) (n : List UInt8) : ∀ (k : Nat) (s : Sub'), mget (.str n) (mEntsN nl k s) = (s.look n).map (tyN nl)
 | k, [] => rfl
 | k, e :: r => by
  unfold mEntsN mget Sub'.look
  by_cases h : n = e.1
  ·simp [h, keq]
  ·simp only [keq, h, decide_false, Bool.false_eq_true, if_false]
   exact mgetN nl n (k + 1) r
theorem mputN (nl : Bool) (n : List UInt8) (t : Tr) : ∀ (k : Nat) (s : Sub'), s.look n = none → mput (.str n) (tyN nl t) (k + s.length) (mEntsN nl k s) = mEntsN nl k (s ++ [(n, t)])
 | k, [], _ => by simp [mEntsN, mput]
 | k, e :: r, h => by
  unfold Sub'.look at h
  by_cases hh : n = e.1
  ·simp [hh] at h
  ·simp only [hh, if_false] at h
   have := mputN nl n t (k + 1) r h
   unfold mEntsN mput
   simp only [keq, hh, decide_false, Bool.false_eq_true, if_false, List.cons_append, mEntsN, List.length_cons]
   rw [← this]
   congr 2
   omega
theorem keysN (nl : Bool) (T : Nat → TI) (g l : List Ent) : ∀ (k : Nat) (s : Sub'), ∀ e ∈ mEntsN nl k s, kOK T g l .string e.1
 | k, [], e, h => by simp [mEntsN] at h
 | k, a :: r, e, h => by
  simp only [mEntsN] at h
  rcases List.mem_cons.1 h with rfl | h
  ·simp [kOK]
  ·exact keysN nl T g l (k + 1) r e h
theorem argV_or (nl : Bool) (us : List Tr) : (argV nl us = .v (.slice none 0 0) ∧ us = []) ∨ argV nl us = .sl (tysV us) := by
 cases us with
 | nil =>
  cases nl
  ·exact .inr rfl
  ·exact .inl ⟨rfl, rfl⟩
 | cons t ts => exact .inr rfl
theorem sget_of2 {σ : List Ent} {p : Nat} {e : Ent} (h : σ[p]? = some e) (r : List Ent) : sget σ r p = some e := by unfold sget; rw [if_pos (lt_of_get h)]; exact h
def PT (t : Tr) : Prop := ∀ (nl : Bool) (s : Sub') (σ : List Ent) (m : Nat), okT t → σ[m]? = some (.map (mEntsN nl 0 s) s.length) → ACalls E 54 [.mp m, tyV t] σ fun r τ => r = tyV (putT s t) ∧ τ = σ
set_option maxHeartbeats 4000000 in
theorem put_step (d n : List UInt8) (us : List Tr) (ih : ∀ u ∈ us, PT u) : PT (.mk d n us) := by
 intro nl s σ m hl hm
 obtain ⟨hfew, hdn⟩ := okT_down d n us hl
 have gk := sget_of2 hm
 refine xacalls T0 .freeze [] Tryz.func54 rfl (by kernel_rfl) (by kernel_rfl) (by simp [Tryz.ntmps54]) ?_
 cases hlk : Sub'.look s n with
 | some t =>
  by_cases hd : d = kiVar
  ·have t1 : (d = [118, 97, 114]) = True := eq_true hd
   have heq : putT s (.mk d n us) = t := by unfold putT; rw [if_pos ⟨hd, by rw [hlk]; rfl⟩, hlk]; rfl
   rw [heq]
   cases t with
   | mk d2 n2 us2 =>
   rcases argV_or nl us2 with ⟨harg, rfl⟩ | harg
   ·(simp only [tyV, tyN, harg, tysV_len, gk, mgetN, hlk, t1, Option.map_some, (vmA), Nat.reduceEqDiff, reduceIte, Nat.reduceAdd, Int.reduceToNat, Int.reduceLE, Int.reduceLT, Int.reduceEq, Int.reduceNe, Int.reduceAdd, Int.reduceSub, Int.reduceNeg, Nat.reduceLT, Nat.reduceLeDiff, Nat.reduceBEq, undef, (stA), Nat.reduceMul]; try simp (disch := omega) only [(vmp)])
    refine ⟨⟨rfl, fun e he => keysN nl tab _ _ 0 s e he⟩, _, .agg (.cons (.refl _) (.cons (.refl _) (.cons .none .nil))), by simp only [AV.low, AV.low.lows, Bool.and_self], by simp only [tysV]⟩
   ·(simp only [tyV, tyN, harg, tysV_len, gk, mgetN, hlk, t1, Option.map_some, (vmA), Nat.reduceEqDiff, reduceIte, Nat.reduceAdd, Int.reduceToNat, Int.reduceLE, Int.reduceLT, Int.reduceEq, Int.reduceNe, Int.reduceAdd, Int.reduceSub, Int.reduceNeg, Nat.reduceLT, Nat.reduceLeDiff, Nat.reduceBEq, undef, (stA), Nat.reduceMul]; try simp (disch := omega) only [(vmp)])
    refine ⟨⟨rfl, fun e he => keysN nl tab _ _ 0 s e he⟩, _, .refl _, by simp only [AV.low, AV.low.lows, tysV_low, Bool.and_self], rfl⟩
  ·have n1 : ¬ d = [118, 97, 114] := hd
   have heq : putT s (.mk d n us) = .mk d n (putTs s us) := by unfold putT; rw [if_neg (fun h => hd h.1)]
   rw [heq]
   cases t with
   | mk d2 n2 us2 =>
   rcases argV_or nl us2 with ⟨harg, rfl⟩ | harg
   ·(simp only [tyV, tyN, harg, tysV_len, gk, mgetN, hlk, n1, Option.map_some, (vmA), Nat.reduceEqDiff, reduceIte, Nat.reduceAdd, Int.reduceToNat, Int.reduceLE, Int.reduceLT, Int.reduceEq, Int.reduceNe, Int.reduceAdd, Int.reduceSub, Int.reduceNeg, Nat.reduceLT, Nat.reduceLeDiff, Nat.reduceBEq, undef, (stA), Nat.reduceMul]; try simp (disch := omega) only [(vmp)])
    refine ⟨⟨rfl, fun e he => keysN nl tab _ _ 0 s e he⟩, ?_⟩
    refine xloop (α := Nat × List Ent × Nat) T0 (fun x => [(0, .mp m), (4, .ref (σ.length + 1) 0 0), (7, .ref (σ.length + 3) 0 0), (30, .sl (tysV us)), (31, i64 us.length), (32, i64 x.1)]) (fun _ => σ)
     (fun x => .arr 24 [.str d, .str n, .sl (tysV us)] 0 0 :: .arr 24 [.str [], .str [], .v (.slice none 0 0)] 0 0 :: .arr 24 [.str d2, .str n2, .v (.slice none 0 0)] 0 0 :: .arr 24 [.str d, .str n, rowT (σ.length + (x.2.2 + 4)) (putTs s (us.take x.1))] 0 0 :: x.2.1)
     (fun x => x.1 ≤ us.length ∧ (putTs s (us.take x.1) ≠ [] → x.2.1[x.2.2]? = some (.arr 24 ((putTs s (us.take x.1)).flatMap tyCells) ((putTs s (us.take x.1)).length - 1) 0))) (fun x => us.length - x.1) (by kernel_rfl)
     ⟨(0, [], 0), ⟨by simp, by simp [putTs]⟩, by (simp only [(vmA), Nat.reduceEqDiff, reduceIte, Nat.reduceAdd, Int.reduceToNat, Int.reduceLE, Int.reduceLT, Int.reduceEq, Int.reduceNe, Int.reduceAdd, Int.reduceSub, Int.reduceNeg, Nat.reduceLT, Nat.reduceLeDiff, Nat.reduceBEq, undef, (stA), Nat.reduceMul, Int.natCast_zero]; try simp (disch := omega) only [(vmp)]), rfl, by simp only [List.take_zero, putTs, rowT]⟩ ?_
    rintro ⟨i, junk, rid⟩ ⟨hi, hrow⟩
    simp only at hi hrow
    have hal : (putTs s (us.take i)).length = i := by rw [putTs_map]; simp; omega
    by_cases h : (i : Int) < us.length
    ·have hi' : i < us.length := by omega
     have hu : us[i]? = some us[i] := List.getElem?_eq_getElem hi'
     obtain ⟨s1, s2⟩ := take_split us i _ hu
     have hmem : us[i] ∈ us := List.getElem_mem hi'
     generalize us[i] = u at *
     have hg := tysV_get hu
     have hc := fun l => ih u hmem nl s (σ ++ l) m (hdn u hmem) (get_olds hm l)
     have hnext : putTs s (us.take (i + 1)) = putTs s (us.take i) ++ [putT s u] := by rw [s1, putTs_map, putTs_map]; simp
     rcases hr : putT s u with ⟨a3, b3, us3⟩
     rw [hr] at hnext
     simp only [hr] at hc
     cases u with
     | mk d4 n4 us4 =>
     simp only [tyV] at hg hc
     (simp only [h, hg, tysV_len, (vmA), Nat.reduceEqDiff, reduceIte, Nat.reduceAdd, Int.reduceToNat, Int.reduceLE, Int.reduceLT, Int.reduceEq, Int.reduceNe, Int.reduceAdd, Int.reduceSub, Int.reduceNeg, Nat.reduceLT, Nat.reduceLeDiff, Nat.reduceBEq, undef, (stA), Nat.reduceMul]; try simp (disch := omega) only [(vmp)])
     refine ydraw T0 [6, 8] (by kernel_rfl) (by kernel_rfl) (by kernel_rfl) (by kernel_rfl) ?_
     (simp only [(vmA), Nat.reduceEqDiff, reduceIte, Nat.reduceAdd, Int.reduceToNat, Int.reduceLE, Int.reduceLT, Int.reduceEq, Int.reduceNe, Int.reduceAdd, Int.reduceSub, Int.reduceNeg, Nat.reduceLT, Nat.reduceLeDiff, Nat.reduceBEq, undef, (stA), Nat.reduceMul]; try simp (disch := omega) only [(vmp)])
     refine yNext.go (by rfl) _ rfl (hc _) ?_
     generalize hacc : putTs s (us.take i) = acc at *
     rcases acc with _ | ⟨b0, r0⟩
     ·(simp only [rowT, (vmA), Nat.reduceEqDiff, reduceIte, Nat.reduceAdd, Int.reduceToNat, Int.reduceLE, Int.reduceLT, Int.reduceEq, Int.reduceNe, Int.reduceAdd, Int.reduceSub, Int.reduceNeg, Nat.reduceLT, Nat.reduceLeDiff, Nat.reduceBEq, undef, (stA), Nat.reduceMul]; try simp (disch := omega) only [(vmp)])
      refine ⟨by unfold maxRoom; omega, (i + 1, junk ++ [.arr 24 [.str d4, .str n4, .sl (tysV us4)] 0 0, .arr 24 [.str a3, .str b3, .sl (tysV us3)] 0 0], junk.length + 1), ⟨by simp only; omega, fun _ => ?_⟩, by simp only; omega, rfl, ?_⟩
      ·simp only [hnext]; simp [tyCells]
      ·simp only [hnext, List.nil_append, rowT, List.length_nil, List.append_assoc, List.cons_append, Nat.add_assoc]
       try rfl
     ·have h5 : ∀ e, (junk ++ [e])[rid]? = some (.arr 24 ((b0 :: r0).flatMap tyCells) ((b0 :: r0).length - 1) 0) := fun e => get_old (hrow (by simp))
      have e0 : (tyCells b0).length = 3 := by cases b0; rfl
      have hf0 : (List.flatMap tyCells r0).length = r0.length * 3 := tyCells_len r0
      simp only [List.length_cons] at hal
      (simp only [rowT, h5, (vmA), Nat.reduceEqDiff, reduceIte, Nat.reduceAdd, Int.reduceToNat, Int.reduceLE, Int.reduceLT, Int.reduceEq, Int.reduceNe, Int.reduceAdd, Int.reduceSub, Int.reduceNeg, Nat.reduceLT, Nat.reduceLeDiff, Nat.reduceBEq, undef, (stA), Nat.reduceMul]; try simp (disch := omega) only [(vmp)])
      refine ⟨⟨by omega, by omega, by omega, by unfold maxRoom; omega, by unfold maxRoom; omega⟩, ?_⟩
      refine ⟨(i + 1, (junk ++ [Ent.arr 24 [AV.str d4, AV.str n4, AV.sl (tysV us4)] 0 0]).set rid (Ent.arr 24 (tyCells b0 ++ (List.flatMap tyCells r0 ++ [AV.str a3, AV.str b3, AV.sl (tysV us3)])) (r0.length + 1 - 1 + 1) 0), rid), ⟨by simp only; omega, fun _ => ?_⟩, by simp only; omega, rfl, ?_⟩
      ·simp only [hnext]
       rw [get_set_self (h5 _)]
       simp [tyCells]
      ·simp only [hnext, rowT, List.cons_append, List.length_append, List.length_cons, List.length_nil]
       try rfl
    ·have hie : i = us.length := by omega
     subst hie
     rw [List.take_of_length_le (Nat.le_refl _)] at hrow
     have hpl : (putTs s us).length = us.length := by rw [putTs_map, List.length_map]
     (simp only [h, List.take_of_length_le (Nat.le_refl _), (vmA), Nat.reduceEqDiff, reduceIte, Nat.reduceAdd, Int.reduceToNat, Int.reduceLE, Int.reduceLT, Int.reduceEq, Int.reduceNe, Int.reduceAdd, Int.reduceSub, Int.reduceNeg, Nat.reduceLT, Nat.reduceLeDiff, Nat.reduceBEq, undef, (stA), Nat.reduceMul]; try simp (disch := omega) only [(vmp)])
     generalize putTs s us = ps at *
     rcases ps with _ | ⟨u0, ur⟩
     ·(simp only [rowT, (vmA), Nat.reduceEqDiff, reduceIte, Nat.reduceAdd, Int.reduceToNat, Int.reduceLE, Int.reduceLT, Int.reduceEq, Int.reduceNe, Int.reduceAdd, Int.reduceSub, Int.reduceNeg, Nat.reduceLT, Nat.reduceLeDiff, Nat.reduceBEq, undef, (stA), Nat.reduceMul]; try simp (disch := omega) only [(vmp)])
      exact ⟨_, .agg (.cons (.refl _) (.cons (.refl _) (.cons .none .nil))), by simp only [AV.low, AV.low.lows, Bool.and_self], by simp only [tysV]⟩
     ·have hr := hrow (by simp)
      simp only [List.length_cons] at hr
      (simp only [rowT, (vmA), Nat.reduceEqDiff, reduceIte, Nat.reduceAdd, Int.reduceToNat, Int.reduceLE, Int.reduceLT, Int.reduceEq, Int.reduceNe, Int.reduceAdd, Int.reduceSub, Int.reduceNeg, Nat.reduceLT, Nat.reduceLeDiff, Nat.reduceBEq, undef, (stA), Nat.reduceMul]; try simp (disch := omega) only [(vmp)])
      have hf0 := tyCells_len (u0 :: ur)
      refine ⟨_, .agg (.cons (.refl _) (.cons (.refl _) (.cons (.rsl (ty := 24) (ver := ur.length) (imm := 0) (ag := true) (cells := (u0 :: ur).flatMap tyCells) (es := tysV (u0 :: ur)) (es' := tysV (u0 :: ur)) (by omega) ?_ (by rw [List.drop_zero, tysV_cells]) (by omega) (by rw [tysV_len]; rfl) (by omega) (fun e he => by rw [tysV_map] at he; obtain ⟨x, _, rfl⟩ := List.mem_map.1 he; exact tyV_el x) FrzL.refl) .nil))), by simp only [AV.low, AV.low.lows, tysV_low, Bool.and_self], rfl⟩
      rw [Nat.add_sub_cancel_left]
      simpa using hr
   ·(simp only [tyV, tyN, harg, tysV_len, gk, mgetN, hlk, n1, Option.map_some, (vmA), Nat.reduceEqDiff, reduceIte, Nat.reduceAdd, Int.reduceToNat, Int.reduceLE, Int.reduceLT, Int.reduceEq, Int.reduceNe, Int.reduceAdd, Int.reduceSub, Int.reduceNeg, Nat.reduceLT, Nat.reduceLeDiff, Nat.reduceBEq, undef, (stA), Nat.reduceMul]; try simp (disch := omega) only [(vmp)])
    refine ⟨⟨rfl, fun e he => keysN nl tab _ _ 0 s e he⟩, ?_⟩
    refine xloop (α := Nat × List Ent × Nat) T0 (fun x => [(0, .mp m), (4, .ref (σ.length + 1) 0 0), (7, .ref (σ.length + 3) 0 0), (30, .sl (tysV us)), (31, i64 us.length), (32, i64 x.1)]) (fun _ => σ)
     (fun x => .arr 24 [.str d, .str n, .sl (tysV us)] 0 0 :: .arr 24 [.str [], .str [], .v (.slice none 0 0)] 0 0 :: .arr 24 [.str d2, .str n2, .sl (tysV us2)] 0 0 :: .arr 24 [.str d, .str n, rowT (σ.length + (x.2.2 + 4)) (putTs s (us.take x.1))] 0 0 :: x.2.1)
     (fun x => x.1 ≤ us.length ∧ (putTs s (us.take x.1) ≠ [] → x.2.1[x.2.2]? = some (.arr 24 ((putTs s (us.take x.1)).flatMap tyCells) ((putTs s (us.take x.1)).length - 1) 0))) (fun x => us.length - x.1) (by kernel_rfl)
     ⟨(0, [], 0), ⟨by simp, by simp [putTs]⟩, by (simp only [(vmA), Nat.reduceEqDiff, reduceIte, Nat.reduceAdd, Int.reduceToNat, Int.reduceLE, Int.reduceLT, Int.reduceEq, Int.reduceNe, Int.reduceAdd, Int.reduceSub, Int.reduceNeg, Nat.reduceLT, Nat.reduceLeDiff, Nat.reduceBEq, undef, (stA), Nat.reduceMul, Int.natCast_zero]; try simp (disch := omega) only [(vmp)]), rfl, by simp only [List.take_zero, putTs, rowT]⟩ ?_
    rintro ⟨i, junk, rid⟩ ⟨hi, hrow⟩
    simp only at hi hrow
    have hal : (putTs s (us.take i)).length = i := by rw [putTs_map]; simp; omega
    by_cases h : (i : Int) < us.length
    ·have hi' : i < us.length := by omega
     have hu : us[i]? = some us[i] := List.getElem?_eq_getElem hi'
     obtain ⟨s1, s2⟩ := take_split us i _ hu
     have hmem : us[i] ∈ us := List.getElem_mem hi'
     generalize us[i] = u at *
     have hg := tysV_get hu
     have hc := fun l => ih u hmem nl s (σ ++ l) m (hdn u hmem) (get_olds hm l)
     have hnext : putTs s (us.take (i + 1)) = putTs s (us.take i) ++ [putT s u] := by rw [s1, putTs_map, putTs_map]; simp
     rcases hr : putT s u with ⟨a3, b3, us3⟩
     rw [hr] at hnext
     simp only [hr] at hc
     cases u with
     | mk d4 n4 us4 =>
     simp only [tyV] at hg hc
     (simp only [h, hg, tysV_len, (vmA), Nat.reduceEqDiff, reduceIte, Nat.reduceAdd, Int.reduceToNat, Int.reduceLE, Int.reduceLT, Int.reduceEq, Int.reduceNe, Int.reduceAdd, Int.reduceSub, Int.reduceNeg, Nat.reduceLT, Nat.reduceLeDiff, Nat.reduceBEq, undef, (stA), Nat.reduceMul]; try simp (disch := omega) only [(vmp)])
     refine ydraw T0 [6, 8] (by kernel_rfl) (by kernel_rfl) (by kernel_rfl) (by kernel_rfl) ?_
     (simp only [(vmA), Nat.reduceEqDiff, reduceIte, Nat.reduceAdd, Int.reduceToNat, Int.reduceLE, Int.reduceLT, Int.reduceEq, Int.reduceNe, Int.reduceAdd, Int.reduceSub, Int.reduceNeg, Nat.reduceLT, Nat.reduceLeDiff, Nat.reduceBEq, undef, (stA), Nat.reduceMul]; try simp (disch := omega) only [(vmp)])
     refine yNext.go (by rfl) _ rfl (hc _) ?_
     generalize hacc : putTs s (us.take i) = acc at *
     rcases acc with _ | ⟨b0, r0⟩
     ·(simp only [rowT, (vmA), Nat.reduceEqDiff, reduceIte, Nat.reduceAdd, Int.reduceToNat, Int.reduceLE, Int.reduceLT, Int.reduceEq, Int.reduceNe, Int.reduceAdd, Int.reduceSub, Int.reduceNeg, Nat.reduceLT, Nat.reduceLeDiff, Nat.reduceBEq, undef, (stA), Nat.reduceMul]; try simp (disch := omega) only [(vmp)])
      refine ⟨by unfold maxRoom; omega, (i + 1, junk ++ [.arr 24 [.str d4, .str n4, .sl (tysV us4)] 0 0, .arr 24 [.str a3, .str b3, .sl (tysV us3)] 0 0], junk.length + 1), ⟨by simp only; omega, fun _ => ?_⟩, by simp only; omega, rfl, ?_⟩
      ·simp only [hnext]; simp [tyCells]
      ·simp only [hnext, List.nil_append, rowT, List.length_nil, List.append_assoc, List.cons_append, Nat.add_assoc]
       try rfl
     ·have h5 : ∀ e, (junk ++ [e])[rid]? = some (.arr 24 ((b0 :: r0).flatMap tyCells) ((b0 :: r0).length - 1) 0) := fun e => get_old (hrow (by simp))
      have e0 : (tyCells b0).length = 3 := by cases b0; rfl
      have hf0 : (List.flatMap tyCells r0).length = r0.length * 3 := tyCells_len r0
      simp only [List.length_cons] at hal
      (simp only [rowT, h5, (vmA), Nat.reduceEqDiff, reduceIte, Nat.reduceAdd, Int.reduceToNat, Int.reduceLE, Int.reduceLT, Int.reduceEq, Int.reduceNe, Int.reduceAdd, Int.reduceSub, Int.reduceNeg, Nat.reduceLT, Nat.reduceLeDiff, Nat.reduceBEq, undef, (stA), Nat.reduceMul]; try simp (disch := omega) only [(vmp)])
      refine ⟨⟨by omega, by omega, by omega, by unfold maxRoom; omega, by unfold maxRoom; omega⟩, ?_⟩
      refine ⟨(i + 1, (junk ++ [Ent.arr 24 [AV.str d4, AV.str n4, AV.sl (tysV us4)] 0 0]).set rid (Ent.arr 24 (tyCells b0 ++ (List.flatMap tyCells r0 ++ [AV.str a3, AV.str b3, AV.sl (tysV us3)])) (r0.length + 1 - 1 + 1) 0), rid), ⟨by simp only; omega, fun _ => ?_⟩, by simp only; omega, rfl, ?_⟩
      ·simp only [hnext]
       rw [get_set_self (h5 _)]
       simp [tyCells]
      ·simp only [hnext, rowT, List.cons_append, List.length_append, List.length_cons, List.length_nil]
       try rfl
    ·have hie : i = us.length := by omega
     subst hie
     rw [List.take_of_length_le (Nat.le_refl _)] at hrow
     have hpl : (putTs s us).length = us.length := by rw [putTs_map, List.length_map]
     (simp only [h, List.take_of_length_le (Nat.le_refl _), (vmA), Nat.reduceEqDiff, reduceIte, Nat.reduceAdd, Int.reduceToNat, Int.reduceLE, Int.reduceLT, Int.reduceEq, Int.reduceNe, Int.reduceAdd, Int.reduceSub, Int.reduceNeg, Nat.reduceLT, Nat.reduceLeDiff, Nat.reduceBEq, undef, (stA), Nat.reduceMul]; try simp (disch := omega) only [(vmp)])
     generalize putTs s us = ps at *
     rcases ps with _ | ⟨u0, ur⟩
     ·(simp only [rowT, (vmA), Nat.reduceEqDiff, reduceIte, Nat.reduceAdd, Int.reduceToNat, Int.reduceLE, Int.reduceLT, Int.reduceEq, Int.reduceNe, Int.reduceAdd, Int.reduceSub, Int.reduceNeg, Nat.reduceLT, Nat.reduceLeDiff, Nat.reduceBEq, undef, (stA), Nat.reduceMul]; try simp (disch := omega) only [(vmp)])
      exact ⟨_, .agg (.cons (.refl _) (.cons (.refl _) (.cons .none .nil))), by simp only [AV.low, AV.low.lows, Bool.and_self], by simp only [tysV]⟩
     ·have hr := hrow (by simp)
      simp only [List.length_cons] at hr
      (simp only [rowT, (vmA), Nat.reduceEqDiff, reduceIte, Nat.reduceAdd, Int.reduceToNat, Int.reduceLE, Int.reduceLT, Int.reduceEq, Int.reduceNe, Int.reduceAdd, Int.reduceSub, Int.reduceNeg, Nat.reduceLT, Nat.reduceLeDiff, Nat.reduceBEq, undef, (stA), Nat.reduceMul]; try simp (disch := omega) only [(vmp)])
      have hf0 := tyCells_len (u0 :: ur)
      refine ⟨_, .agg (.cons (.refl _) (.cons (.refl _) (.cons (.rsl (ty := 24) (ver := ur.length) (imm := 0) (ag := true) (cells := (u0 :: ur).flatMap tyCells) (es := tysV (u0 :: ur)) (es' := tysV (u0 :: ur)) (by omega) ?_ (by rw [List.drop_zero, tysV_cells]) (by omega) (by rw [tysV_len]; rfl) (by omega) (fun e he => by rw [tysV_map] at he; obtain ⟨x, _, rfl⟩ := List.mem_map.1 he; exact tyV_el x) FrzL.refl) .nil))), by simp only [AV.low, AV.low.lows, tysV_low, Bool.and_self], rfl⟩
      rw [Nat.add_sub_cancel_left]
      simpa using hr
 | none =>
  have heq : putT s (.mk d n us) = .mk d n (putTs s us) := by unfold putT; rw [if_neg (fun h => by rw [hlk] at h; cases h.2)]
  rw [heq]
  (simp only [tyV, tysV_len, gk, mgetN, hlk, Option.map_none, (vmA), Nat.reduceEqDiff, reduceIte, Nat.reduceAdd, Int.reduceToNat, Int.reduceLE, Int.reduceLT, Int.reduceEq, Int.reduceNe, Int.reduceAdd, Int.reduceSub, Int.reduceNeg, Nat.reduceLT, Nat.reduceLeDiff, Nat.reduceBEq, undef, (stA), Nat.reduceMul]; try simp (disch := omega) only [(vmp)])
  refine ⟨⟨rfl, fun e he => keysN nl tab _ _ 0 s e he⟩, ?_⟩
  refine xloop (α := Nat × List Ent × Nat) T0 (fun x => [(0, .mp m), (4, .ref (σ.length + 1) 0 0), (7, .ref (σ.length + 3) 0 0), (30, .sl (tysV us)), (31, i64 us.length), (32, i64 x.1)]) (fun _ => σ)
   (fun x => .arr 24 [.str d, .str n, .sl (tysV us)] 0 0 :: .arr 24 [.str [], .str [], .v (.slice none 0 0)] 0 0 :: .arr 24 [.str [], .str [], .v (.slice none 0 0)] 0 0 :: .arr 24 [.str d, .str n, rowT (σ.length + (x.2.2 + 4)) (putTs s (us.take x.1))] 0 0 :: x.2.1)
   (fun x => x.1 ≤ us.length ∧ (putTs s (us.take x.1) ≠ [] → x.2.1[x.2.2]? = some (.arr 24 ((putTs s (us.take x.1)).flatMap tyCells) ((putTs s (us.take x.1)).length - 1) 0))) (fun x => us.length - x.1) (by kernel_rfl)
   ⟨(0, [], 0), ⟨by simp, by simp [putTs]⟩, by (simp only [(vmA), Nat.reduceEqDiff, reduceIte, Nat.reduceAdd, Int.reduceToNat, Int.reduceLE, Int.reduceLT, Int.reduceEq, Int.reduceNe, Int.reduceAdd, Int.reduceSub, Int.reduceNeg, Nat.reduceLT, Nat.reduceLeDiff, Nat.reduceBEq, undef, (stA), Nat.reduceMul, Int.natCast_zero]; try simp (disch := omega) only [(vmp)]), rfl, by simp only [List.take_zero, putTs, rowT]⟩ ?_
  rintro ⟨i, junk, rid⟩ ⟨hi, hrow⟩
  simp only at hi hrow
  have hal : (putTs s (us.take i)).length = i := by rw [putTs_map]; simp; omega
  by_cases h : (i : Int) < us.length
  ·have hi' : i < us.length := by omega
   have hu : us[i]? = some us[i] := List.getElem?_eq_getElem hi'
   obtain ⟨s1, s2⟩ := take_split us i _ hu
   have hmem : us[i] ∈ us := List.getElem_mem hi'
   generalize us[i] = u at *
   have hg := tysV_get hu
   have hc := fun l => ih u hmem nl s (σ ++ l) m (hdn u hmem) (get_olds hm l)
   have hnext : putTs s (us.take (i + 1)) = putTs s (us.take i) ++ [putT s u] := by rw [s1, putTs_map, putTs_map]; simp
   rcases hr : putT s u with ⟨a3, b3, us3⟩
   rw [hr] at hnext
   simp only [hr] at hc
   cases u with
   | mk d4 n4 us4 =>
   simp only [tyV] at hg hc
   (simp only [h, hg, tysV_len, (vmA), Nat.reduceEqDiff, reduceIte, Nat.reduceAdd, Int.reduceToNat, Int.reduceLE, Int.reduceLT, Int.reduceEq, Int.reduceNe, Int.reduceAdd, Int.reduceSub, Int.reduceNeg, Nat.reduceLT, Nat.reduceLeDiff, Nat.reduceBEq, undef, (stA), Nat.reduceMul]; try simp (disch := omega) only [(vmp)])
   refine ydraw T0 [6, 8] (by kernel_rfl) (by kernel_rfl) (by kernel_rfl) (by kernel_rfl) ?_
   (simp only [(vmA), Nat.reduceEqDiff, reduceIte, Nat.reduceAdd, Int.reduceToNat, Int.reduceLE, Int.reduceLT, Int.reduceEq, Int.reduceNe, Int.reduceAdd, Int.reduceSub, Int.reduceNeg, Nat.reduceLT, Nat.reduceLeDiff, Nat.reduceBEq, undef, (stA), Nat.reduceMul]; try simp (disch := omega) only [(vmp)])
   refine yNext.go (by rfl) _ rfl (hc _) ?_
   generalize hacc : putTs s (us.take i) = acc at *
   rcases acc with _ | ⟨b0, r0⟩
   ·(simp only [rowT, (vmA), Nat.reduceEqDiff, reduceIte, Nat.reduceAdd, Int.reduceToNat, Int.reduceLE, Int.reduceLT, Int.reduceEq, Int.reduceNe, Int.reduceAdd, Int.reduceSub, Int.reduceNeg, Nat.reduceLT, Nat.reduceLeDiff, Nat.reduceBEq, undef, (stA), Nat.reduceMul]; try simp (disch := omega) only [(vmp)])
    refine ⟨by unfold maxRoom; omega, (i + 1, junk ++ [.arr 24 [.str d4, .str n4, .sl (tysV us4)] 0 0, .arr 24 [.str a3, .str b3, .sl (tysV us3)] 0 0], junk.length + 1), ⟨by simp only; omega, fun _ => ?_⟩, by simp only; omega, rfl, ?_⟩
    ·simp only [hnext]; simp [tyCells]
    ·simp only [hnext, List.nil_append, rowT, List.length_nil, List.append_assoc, List.cons_append, Nat.add_assoc]
     try rfl
   ·have h5 : ∀ e, (junk ++ [e])[rid]? = some (.arr 24 ((b0 :: r0).flatMap tyCells) ((b0 :: r0).length - 1) 0) := fun e => get_old (hrow (by simp))
    have e0 : (tyCells b0).length = 3 := by cases b0; rfl
    have hf0 : (List.flatMap tyCells r0).length = r0.length * 3 := tyCells_len r0
    simp only [List.length_cons] at hal
    (simp only [rowT, h5, (vmA), Nat.reduceEqDiff, reduceIte, Nat.reduceAdd, Int.reduceToNat, Int.reduceLE, Int.reduceLT, Int.reduceEq, Int.reduceNe, Int.reduceAdd, Int.reduceSub, Int.reduceNeg, Nat.reduceLT, Nat.reduceLeDiff, Nat.reduceBEq, undef, (stA), Nat.reduceMul]; try simp (disch := omega) only [(vmp)])
    refine ⟨⟨by omega, by omega, by omega, by unfold maxRoom; omega, by unfold maxRoom; omega⟩, ?_⟩
    refine ⟨(i + 1, (junk ++ [Ent.arr 24 [AV.str d4, AV.str n4, AV.sl (tysV us4)] 0 0]).set rid (Ent.arr 24 (tyCells b0 ++ (List.flatMap tyCells r0 ++ [AV.str a3, AV.str b3, AV.sl (tysV us3)])) (r0.length + 1 - 1 + 1) 0), rid), ⟨by simp only; omega, fun _ => ?_⟩, by simp only; omega, rfl, ?_⟩
    ·simp only [hnext]
     rw [get_set_self (h5 _)]
     simp [tyCells]
    ·simp only [hnext, rowT, List.cons_append, List.length_append, List.length_cons, List.length_nil]
     try rfl
  ·have hie : i = us.length := by omega
   subst hie
   rw [List.take_of_length_le (Nat.le_refl _)] at hrow
   have hpl : (putTs s us).length = us.length := by rw [putTs_map, List.length_map]
   (simp only [h, List.take_of_length_le (Nat.le_refl _), (vmA), Nat.reduceEqDiff, reduceIte, Nat.reduceAdd, Int.reduceToNat, Int.reduceLE, Int.reduceLT, Int.reduceEq, Int.reduceNe, Int.reduceAdd, Int.reduceSub, Int.reduceNeg, Nat.reduceLT, Nat.reduceLeDiff, Nat.reduceBEq, undef, (stA), Nat.reduceMul]; try simp (disch := omega) only [(vmp)])
   generalize putTs s us = ps at *
   rcases ps with _ | ⟨u0, ur⟩
   ·(simp only [rowT, (vmA), Nat.reduceEqDiff, reduceIte, Nat.reduceAdd, Int.reduceToNat, Int.reduceLE, Int.reduceLT, Int.reduceEq, Int.reduceNe, Int.reduceAdd, Int.reduceSub, Int.reduceNeg, Nat.reduceLT, Nat.reduceLeDiff, Nat.reduceBEq, undef, (stA), Nat.reduceMul]; try simp (disch := omega) only [(vmp)])
    exact ⟨_, .agg (.cons (.refl _) (.cons (.refl _) (.cons .none .nil))), by simp only [AV.low, AV.low.lows, Bool.and_self], by simp only [tysV]⟩
   ·have hr := hrow (by simp)
    simp only [List.length_cons] at hr
    (simp only [rowT, (vmA), Nat.reduceEqDiff, reduceIte, Nat.reduceAdd, Int.reduceToNat, Int.reduceLE, Int.reduceLT, Int.reduceEq, Int.reduceNe, Int.reduceAdd, Int.reduceSub, Int.reduceNeg, Nat.reduceLT, Nat.reduceLeDiff, Nat.reduceBEq, undef, (stA), Nat.reduceMul]; try simp (disch := omega) only [(vmp)])
    have hf0 := tyCells_len (u0 :: ur)
    refine ⟨_, .agg (.cons (.refl _) (.cons (.refl _) (.cons (.rsl (ty := 24) (ver := ur.length) (imm := 0) (ag := true) (cells := (u0 :: ur).flatMap tyCells) (es := tysV (u0 :: ur)) (es' := tysV (u0 :: ur)) (by omega) ?_ (by rw [List.drop_zero, tysV_cells]) (by omega) (by rw [tysV_len]; rfl) (by omega) (fun e he => by rw [tysV_map] at he; obtain ⟨x, _, rfl⟩ := List.mem_map.1 he; exact tyV_el x) FrzL.refl) .nil))), by simp only [AV.low, AV.low.lows, tysV_low, Bool.and_self], rfl⟩
    rw [Nat.add_sub_cancel_left]
    simpa using hr
theorem put_ok : ∀ (m : Nat) (t : Tr), SizeOf.sizeOf t ≤ m → PT t
 | 0, .mk d n us, h => by simp at h
 | m + 1, .mk d n us, h => put_step d n us fun u hu => put_ok m u (by
   have := List.sizeOf_lt_of_mem hu
   simp at h; omega)
end Go.D
namespace Go.D
open Go Go.Vm Go.Proofs Go.RowKit
mutual
theorem putT_len (s : Sub') (hs : ∀ e ∈ s, lenT e.2) : ∀ t, lenT t → lenT (putT s t)
 | .mk d n us, h => by
  unfold putT
  split
  ·rename_i hc
   obtain ⟨x, hx⟩ := Option.isSome_iff_exists.1 hc.2
   obtain ⟨e, he, rfl⟩ := look_mem hx
   rw [hx]; exact hs e he
  ·simp only [lenT] at h ⊢
   exact ⟨h.1, by rw [putTs_map, List.length_map]; exact h.2.1, putTs_len s hs us h.2.2⟩
theorem putTs_len (s : Sub') (hs : ∀ e ∈ s, lenT e.2) : ∀ l, lenTs l → lenTs (putTs s l)
 | [], _ => trivial
 | t :: ts, h => ⟨putT_len s hs t h.1, putTs_len s hs ts h.2⟩
end
mutual
theorem putT_typ (s : Sub') (hs : ∀ e ∈ s, typeB conB e.2 = true) : ∀ t, typeB conB t = true → typeB conB (putT s t) = true
 | .mk d n us, h => by
  unfold putT
  split
  ·rename_i hc
   obtain ⟨x, hx⟩ := Option.isSome_iff_exists.1 hc.2
   obtain ⟨e, he, rfl⟩ := look_mem hx
   rw [hx]; exact hs e he
  ·have hl : (putTs s us).length = us.length := by rw [putTs_map, List.length_map]
   simp only [typeB, Bool.and_eq_true] at h ⊢
   rw [hl]
   exact ⟨h.1, h.2.1, h.2.2.1, h.2.2.2.1, putTs_typ s hs us h.2.2.2.2⟩
theorem putTs_typ (s : Sub') (hs : ∀ e ∈ s, typeB conB e.2 = true) : ∀ l, typeBs conB l = true → typeBs conB (putTs s l) = true
 | [], _ => rfl
 | t :: ts, h => by
  simp only [typeBs, Bool.and_eq_true] at h
  simp only [putTs, typeBs, putT_typ s hs t h.1, putTs_typ s hs ts h.2, Bool.and_self]
end
theorem putT_ok {s : Sub'} (hs : okV s) {t : Tr} (h : okT t) : okT (putT s t) := ⟨putT_len s (fun e he => (hs e he).1) t h.1, putT_typ s (fun e he => (hs e he).2) t h.2⟩
def applyR (l : Sub') (t : Tr) : Tr × Int := if fitsB (ofT (putT l t)) = true then (putT l t, 0) else (.mk [] [] [], 4)
end Go.D
namespace Go.D
open Go Go.Vm Go.Proofs Go.RowKit
def ST2 (t : Tr) : Prop := ∀ (u : Tr) (σ : List Ent), lenT t → lenT u → ACalls E 18 [tyV t, tyV u] σ fun r τ => r = boolV (sameB t u) ∧ τ = σ
set_option maxHeartbeats 4000000 in
theorem sameTypes_ok (us us' : List Tr) (hl : us.length ≤ 9223372036854775807) (hl2 : us'.length ≤ 9223372036854775807) (hf : ∀ (u u' : Tr) (σ : List Ent), u ∈ us → u' ∈ us' → ACalls E 18 [tyV u, tyV u'] σ fun r τ => r = boolV (sameB u u') ∧ τ = σ) (σ : List Ent) :
  ACalls E 50 [.sl (tysV us), .sl (tysV us')] σ fun r τ => r = boolV (decide (us.length = us'.length) && sameBs us us') ∧ τ = σ := by
 refine xacalls T0 .drop [] Tryz.func50 rfl (by kernel_rfl) (by kernel_rfl) (by simp [Tryz.ntmps50]) ?_
 by_cases hn : (us.length : Int) = us'.length
 rotate_left
 ·have : ¬ us.length = us'.length := fun h => hn (by omega)
  (simp only [tysV_len, hn, (vmA), Nat.reduceEqDiff, reduceIte, Nat.reduceAdd, Int.reduceToNat, Int.reduceLE, Int.reduceLT, Int.reduceEq, Int.reduceNe, Int.reduceAdd, Int.reduceSub, Int.reduceNeg, Nat.reduceLT, Nat.reduceLeDiff, Nat.reduceBEq, undef, (stA), Nat.reduceMul]; try simp (disch := omega) only [(vmp)])
  simp only [this, decide_false, Bool.false_and]
 have hn' : us.length = us'.length := by omega
 (simp only [tysV_len, hn, (vmA), Nat.reduceEqDiff, reduceIte, Nat.reduceAdd, Int.reduceToNat, Int.reduceLE, Int.reduceLT, Int.reduceEq, Int.reduceNe, Int.reduceAdd, Int.reduceSub, Int.reduceNeg, Nat.reduceLT, Nat.reduceLeDiff, Nat.reduceBEq, undef, (stA), Nat.reduceMul]; try simp (disch := omega) only [(vmp)])
 refine xloop (α := Nat) T0 (fun x => [(0, .sl (tysV us)), (1, .sl (tysV us')), (12, i64 us'.length), (13, i64 x)]) (fun _ => σ) (fun x => [])
  (fun x => x ≤ us.length ∧ sameBs (us.take x) (us'.take x) = true) (fun x => us.length - x) (by kernel_rfl)
  ⟨0, ⟨by simp, by simp only [List.take_zero, sameBs]⟩, by (simp only [(vmA), Nat.reduceEqDiff, reduceIte, Nat.reduceAdd, Int.reduceToNat, Int.reduceLE, Int.reduceLT, Int.reduceEq, Int.reduceNe, Int.reduceAdd, Int.reduceSub, Int.reduceNeg, Nat.reduceLT, Nat.reduceLeDiff, Nat.reduceBEq, undef, (stA), Nat.reduceMul, Int.natCast_zero]; try simp (disch := omega) only [(vmp)]), rfl, rfl⟩ ?_
 rintro i ⟨hi, hs⟩
 by_cases h : (i : Int) < us'.length
 ·have hi1 : i < us.length := by omega
  have hi2 : i < us'.length := by omega
  have hu : us[i]? = some us[i] := List.getElem?_eq_getElem hi1
  have hu' : us'[i]? = some us'[i] := List.getElem?_eq_getElem hi2
  obtain ⟨s1, s2⟩ := take_split us i _ hu
  obtain ⟨s3, s4⟩ := take_split us' i _ hu'
  have hm := List.getElem_mem hi1
  have hm' := List.getElem_mem hi2
  generalize us[i] = u at *
  generalize us'[i] = u' at *
  have hlt : (us.take i).length = (us'.take i).length := by simp; omega
  have hg := tysV_get hu
  have hg' := tysV_get hu'
  have hc := fun σ' => hf u u' σ' hm hm'
  cases u with
  | mk a b cs =>
  cases u' with
  | mk a' b' cs' =>
  simp only [tyV] at hg hg' hc
  (simp only [h, hg, hg', tysV_len, hn, (vmA), Nat.reduceEqDiff, reduceIte, Nat.reduceAdd, Int.reduceToNat, Int.reduceLE, Int.reduceLT, Int.reduceEq, Int.reduceNe, Int.reduceAdd, Int.reduceSub, Int.reduceNeg, Nat.reduceLT, Nat.reduceLeDiff, Nat.reduceBEq, undef, (stA), Nat.reduceMul]; try simp (disch := omega) only [(vmp)])
  refine ydraw T0 [] (by kernel_rfl) (by kernel_rfl) (by kernel_rfl) (by kernel_rfl) ?_
  (simp only [h, hg, hg', tysV_len, hn, (vmA), Nat.reduceEqDiff, reduceIte, Nat.reduceAdd, Int.reduceToNat, Int.reduceLE, Int.reduceLT, Int.reduceEq, Int.reduceNe, Int.reduceAdd, Int.reduceSub, Int.reduceNeg, Nat.reduceLT, Nat.reduceLeDiff, Nat.reduceBEq, undef, (stA), Nat.reduceMul]; try simp (disch := omega) only [(vmp)])
  refine yNext.go (by rfl) _ rfl (hc _) ?_
  cases hb : sameB (.mk a b cs) (.mk a' b' cs')
  ·(simp only [(vmA), Nat.reduceEqDiff, reduceIte, Nat.reduceAdd, Int.reduceToNat, Int.reduceLE, Int.reduceLT, Int.reduceEq, Int.reduceNe, Int.reduceAdd, Int.reduceSub, Int.reduceNeg, Nat.reduceLT, Nat.reduceLeDiff, Nat.reduceBEq, undef, (stA), Nat.reduceMul]; try simp (disch := omega) only [(vmp)])
   rw [s2, s4, sameBs_app _ _ _ _ hlt]
   simp only [sameBs, hb, Bool.false_and, Bool.and_false]
  ·(simp only [(vmA), Nat.reduceEqDiff, reduceIte, Nat.reduceAdd, Int.reduceToNat, Int.reduceLE, Int.reduceLT, Int.reduceEq, Int.reduceNe, Int.reduceAdd, Int.reduceSub, Int.reduceNeg, Nat.reduceLT, Nat.reduceLeDiff, Nat.reduceBEq, undef, (stA), Nat.reduceMul]; try simp (disch := omega) only [(vmp)])
   refine ⟨i + 1, ⟨by omega, ?_⟩, by omega, rfl⟩
   rw [s1, s3, sameBs_app _ _ _ _ hlt, hs]
   simp only [sameBs, hb, Bool.and_self]
 ·have hie : i = us.length := by omega
  subst hie
  (simp only [h, (vmA), Nat.reduceEqDiff, reduceIte, Nat.reduceAdd, Int.reduceToNat, Int.reduceLE, Int.reduceLT, Int.reduceEq, Int.reduceNe, Int.reduceAdd, Int.reduceSub, Int.reduceNeg, Nat.reduceLT, Nat.reduceLeDiff, Nat.reduceBEq, undef, (stA), Nat.reduceMul]; try simp (disch := omega) only [(vmp)])
  rw [List.take_of_length_le (Nat.le_refl _), hn', List.take_of_length_le (Nat.le_refl _)] at hs
  rw [hs]; simp [hn']
set_option maxHeartbeats 4000000 in
theorem SameType2_step (d n : List UInt8) (us : List Tr) (ih : ∀ u ∈ us, ST2 u) : ST2 (.mk d n us) := by
 intro u σ hl hl2
 cases u with
 | mk d' n' us' =>
 simp only [lenT] at hl hl2
 refine xacalls T0 .drop [] Tryz.func18 rfl (by kernel_rfl) (by kernel_rfl) (by simp [Tryz.ntmps18]) ?_
 simp only [sameB]
 by_cases hd : d = d'
 rotate_left
 ·(simp only [tyV, hd, (vmA), Nat.reduceEqDiff, reduceIte, Nat.reduceAdd, Int.reduceToNat, Int.reduceLE, Int.reduceLT, Int.reduceEq, Int.reduceNe, Int.reduceAdd, Int.reduceSub, Int.reduceNeg, Nat.reduceLT, Nat.reduceLeDiff, Nat.reduceBEq, undef, (stA), Nat.reduceMul]; try simp (disch := omega) only [(vmp)])
 by_cases hn : n = n'
 rotate_left
 ·(simp only [tyV, hd, hn, (vmA), Nat.reduceEqDiff, reduceIte, Nat.reduceAdd, Int.reduceToNat, Int.reduceLE, Int.reduceLT, Int.reduceEq, Int.reduceNe, Int.reduceAdd, Int.reduceSub, Int.reduceNeg, Nat.reduceLT, Nat.reduceLeDiff, Nat.reduceBEq, undef, (stA), Nat.reduceMul]; try simp (disch := omega) only [(vmp)])
 ·(simp only [tyV, hd, hn, (vmA), Nat.reduceEqDiff, reduceIte, Nat.reduceAdd, Int.reduceToNat, Int.reduceLE, Int.reduceLT, Int.reduceEq, Int.reduceNe, Int.reduceAdd, Int.reduceSub, Int.reduceNeg, Nat.reduceLT, Nat.reduceLeDiff, Nat.reduceBEq, undef, (stA), Nat.reduceMul]; try simp (disch := omega) only [(vmp)])
  refine xWait.go (sameTypes_ok us us' hl.2.1 hl2.2.1 (fun u u' σ' h h' => ih u h u' σ' (lenTs_mem hl.2.2 h) (lenTs_mem hl2.2.2 h')) _) ?_
  (simp only [(vmA), Nat.reduceEqDiff, reduceIte, Nat.reduceAdd, Int.reduceToNat, Int.reduceLE, Int.reduceLT, Int.reduceEq, Int.reduceNe, Int.reduceAdd, Int.reduceSub, Int.reduceNeg, Nat.reduceLT, Nat.reduceLeDiff, Nat.reduceBEq, undef, (stA), Nat.reduceMul]; try simp (disch := omega) only [(vmp)])
  try rfl
theorem SameType2_ok : ∀ (m : Nat) (t : Tr), SizeOf.sizeOf t ≤ m → ST2 t
 | 0, .mk d n us, h => by simp at h
 | m + 1, .mk d n us, h => SameType2_step d n us fun u hu => SameType2_ok m u (by
   have := List.sizeOf_lt_of_mem hu
   simp at h; omega)
end Go.D
namespace Go.D
open Go Go.Vm Go.Proofs Go.RowKit
def lenC (l : List Cl) : Prop := l.length ≤ 9223372036854775807 ∧ ∀ c ∈ l, c.1.length ≤ 9223372036854775807 ∧ lenT c.2
theorem take_splitC {α : Type} (us : List α) (i : Nat) (u : α) (hu : us[i]? = some u) : us.take (i + 1) = us.take i ++ [u] ∧ us = us.take i ++ u :: us.drop (i + 1) := by
 obtain ⟨hi, rfl⟩ := List.getElem?_eq_some_iff.1 hu
 exact ⟨by rw [List.take_add_one, hu]; rfl, by rw [← List.drop_eq_getElem_cons hi, List.take_append_drop]⟩
theorem clsV_get {l : List Cl} {i : Nat} {c : Cl} (h : l[i]? = some c) : (clsV l).getD i .un = clV c := by simp [clsV, List.getD, h]
end Go.D
namespace Go.D
open Go Go.Vm Go.Proofs Go.RowKit
def nextC (l : List Cl) (c : Cl) : Bool := varB c.1 && (validT conB c.2 && (match l.getLast? with | none => true | some p => Op.bytesLess p.1 c.1))
def substAt (l : List Cl) (i : Nat) : Bool := match l[i]? with | none => true | some c => nextC (l.take i) c
def substB (l : List Cl) : Bool := (List.range l.length).all (substAt l)
theorem substB_not {l : List Cl} {i : Nat} (hi : i < l.length) (h : substAt l i = false) : substB l = false := by
 rw [← Bool.not_eq_true]
 intro hh
 have := List.all_eq_true.1 hh i (List.mem_range.2 hi)
 rw [h] at this; cases this
theorem substB_of {l : List Cl} (h : ∀ i, i < l.length → substAt l i = true) : substB l = true := List.all_eq_true.2 fun i hi => h i (List.mem_range.1 hi)
set_option maxHeartbeats 8000000 in
theorem isSubst_ok (l : List Cl) (hl : lenC l) (σ : List Ent) : ACalls E 48 [.sl (clsV l)] σ fun r τ => r = boolV (substB l) ∧ τ = σ := by
 refine xacalls T0 .drop [] Tryz.func48 rfl (by kernel_rfl) (by kernel_rfl) (by simp [Tryz.ntmps48]) ?_
 have hb := hl.1
 (simp only [clsV_len, (vmA), Nat.reduceEqDiff, reduceIte, Nat.reduceAdd, Int.reduceToNat, Int.reduceLE, Int.reduceLT, Int.reduceEq, Int.reduceNe, Int.reduceAdd, Int.reduceSub, Int.reduceNeg, Nat.reduceLT, Nat.reduceLeDiff, Nat.reduceBEq, undef, (stA), Nat.reduceMul]; try simp (disch := omega) only [(vmp)])
 refine xloop (α := Nat × List Ent) T0 (fun x => [(0, .sl (clsV l)), (5, .sl (clsV l)), (6, i64 l.length), (7, i64 x.1)]) (fun _ => σ) (fun x => x.2)
  (fun x => x.1 ≤ l.length ∧ ∀ j, j < x.1 → substAt l j = true) (fun x => l.length - x.1) (by kernel_rfl)
  ⟨(0, []), ⟨by simp, fun j hj => absurd hj (by simp)⟩, by (simp only [(vmA), Nat.reduceEqDiff, reduceIte, Nat.reduceAdd, Int.reduceToNat, Int.reduceLE, Int.reduceLT, Int.reduceEq, Int.reduceNe, Int.reduceAdd, Int.reduceSub, Int.reduceNeg, Nat.reduceLT, Nat.reduceLeDiff, Nat.reduceBEq, undef, (stA), Nat.reduceMul, Int.natCast_zero]; try simp (disch := omega) only [(vmp)]), rfl, rfl⟩ ?_
 rintro ⟨i, junk⟩ ⟨hi, hs⟩
 simp only at hi hs
 by_cases h : (i : Int) < l.length
 ·have hi1 : i < l.length := by omega
  have hu : l[i]? = some l[i] := List.getElem?_eq_getElem hi1
  have hm := hl.2 _ (List.getElem_mem hi1)
  have hat : substAt l i = nextC (l.take i) l[i] := by unfold substAt; rw [hu]
  generalize l[i] = u at *
  have hg := clsV_get hu
  obtain ⟨a, t⟩ := u
  have hv := fun σ' => IsVar_ok a hm.1 σ'
  have hty := fun σ' => ValidType_ok t hm.2 σ'
  simp only [nextC] at hat
  cases t with
  | mk b c cs =>
  simp only [clV, clC, tyCells] at hg
  simp only [tyV] at hty
  have next : substAt l i = true → ∀ j, j < i + 1 → substAt l j = true := fun hh j hj => by
   rcases Nat.lt_or_ge j i with h1 | h1
   ·exact hs j h1
   ·have : j = i := by omega
    subst this; exact hh
  (simp only [h, hg, clsV_len, (vmA), Nat.reduceEqDiff, reduceIte, Nat.reduceAdd, Int.reduceToNat, Int.reduceLE, Int.reduceLT, Int.reduceEq, Int.reduceNe, Int.reduceAdd, Int.reduceSub, Int.reduceNeg, Nat.reduceLT, Nat.reduceLeDiff, Nat.reduceBEq, undef, (stA), Nat.reduceMul]; try simp (disch := omega) only [(vmp)])
  refine ydraw T0 [] (by kernel_rfl) (by kernel_rfl) (by kernel_rfl) (by kernel_rfl) ?_
  (simp only [(vmA), Nat.reduceEqDiff, reduceIte, Nat.reduceAdd, Int.reduceToNat, Int.reduceLE, Int.reduceLT, Int.reduceEq, Int.reduceNe, Int.reduceAdd, Int.reduceSub, Int.reduceNeg, Nat.reduceLT, Nat.reduceLeDiff, Nat.reduceBEq, undef, (stA), Nat.reduceMul]; try simp (disch := omega) only [(vmp)])
  refine yNext.go (by rfl) _ rfl (hv _) ?_
  cases hva : varB a
  ·have hat' : substAt l i = false := by rw [hat, hva]; rfl
   (simp only [(vmA), Nat.reduceEqDiff, reduceIte, Nat.reduceAdd, Int.reduceToNat, Int.reduceLE, Int.reduceLT, Int.reduceEq, Int.reduceNe, Int.reduceAdd, Int.reduceSub, Int.reduceNeg, Nat.reduceLT, Nat.reduceLeDiff, Nat.reduceBEq, undef, (stA), Nat.reduceMul]; try simp (disch := omega) only [(vmp)])
   rw [substB_not hi1 hat']
  (simp only [(vmA), Nat.reduceEqDiff, reduceIte, Nat.reduceAdd, Int.reduceToNat, Int.reduceLE, Int.reduceLT, Int.reduceEq, Int.reduceNe, Int.reduceAdd, Int.reduceSub, Int.reduceNeg, Nat.reduceLT, Nat.reduceLeDiff, Nat.reduceBEq, undef, (stA), Nat.reduceMul]; try simp (disch := omega) only [(vmp)])
  refine yNext.go (by rfl) _ rfl (hty _) ?_
  cases hvt : validT conB (.mk b c cs)
  ·have hat' : substAt l i = false := by rw [hat, hva, hvt]; rfl
   (simp only [(vmA), Nat.reduceEqDiff, reduceIte, Nat.reduceAdd, Int.reduceToNat, Int.reduceLE, Int.reduceLT, Int.reduceEq, Int.reduceNe, Int.reduceAdd, Int.reduceSub, Int.reduceNeg, Nat.reduceLT, Nat.reduceLeDiff, Nat.reduceBEq, undef, (stA), Nat.reduceMul]; try simp (disch := omega) only [(vmp)])
   rw [substB_not hi1 hat']
  rcases i with _ | k
  ·(simp only [(vmA), Nat.reduceEqDiff, reduceIte, Nat.reduceAdd, Int.reduceToNat, Int.reduceLE, Int.reduceLT, Int.reduceEq, Int.reduceNe, Int.reduceAdd, Int.reduceSub, Int.reduceNeg, Nat.reduceLT, Nat.reduceLeDiff, Nat.reduceBEq, undef, (stA), Nat.reduceMul]; try simp (disch := omega) only [(vmp)])
   have hat' : substAt l 0 = true := by rw [hat, hva, hvt]; simp
   exact ⟨(1, _), ⟨by simp only; omega, next hat'⟩, by simp only; omega, rfl, rfl⟩
  ·have hk0 : (0 : Int) < ((k + 1 : Nat) : Int) := by omega
   have hp : l[k]? = some l[k] := List.getElem?_eq_getElem (by omega)
   have hlast : (l.take (k + 1)).getLast? = some l[k] := by rw [(take_splitC l k _ hp).1, List.getLast?_concat]
   have hgp := clsV_get hp
   generalize l[k] = p at *
   obtain ⟨a', t'⟩ := p
   cases t' with
   | mk b' c' cs' =>
   simp only [clV, clC, tyCells] at hgp
   simp only [hlast] at hat
   have hsub : (((k + 1 : Nat) : Int) - 1) = (k : Int) := by omega
   cases hlt : Op.bytesLess a' a
   ·(simp only [hk0, hsub, hgp, hlt, clsV_len, (vmA), Nat.reduceEqDiff, reduceIte, Nat.reduceAdd, Int.reduceToNat, Int.reduceLE, Int.reduceLT, Int.reduceEq, Int.reduceNe, Int.reduceAdd, Int.reduceSub, Int.reduceNeg, Nat.reduceLT, Nat.reduceLeDiff, Nat.reduceBEq, undef, (stA), Nat.reduceMul]; try simp (disch := omega) only [(vmp)])
    have hat' : substAt l (k + 1) = false := by rw [hat, hva, hvt, hlt]; rfl
    refine ⟨⟨by omega, by omega, by rw [hgp]; rfl⟩, ?_⟩
    (simp only [hgp, hlt, (vmA), Nat.reduceEqDiff, reduceIte, Nat.reduceAdd, Int.reduceToNat, Int.reduceLE, Int.reduceLT, Int.reduceEq, Int.reduceNe, Int.reduceAdd, Int.reduceSub, Int.reduceNeg, Nat.reduceLT, Nat.reduceLeDiff, Nat.reduceBEq, undef, (stA), Nat.reduceMul]; try simp (disch := omega) only [(vmp)])
    rw [substB_not hi1 hat']
   ·(simp only [hk0, hsub, hgp, hlt, clsV_len, (vmA), Nat.reduceEqDiff, reduceIte, Nat.reduceAdd, Int.reduceToNat, Int.reduceLE, Int.reduceLT, Int.reduceEq, Int.reduceNe, Int.reduceAdd, Int.reduceSub, Int.reduceNeg, Nat.reduceLT, Nat.reduceLeDiff, Nat.reduceBEq, undef, (stA), Nat.reduceMul]; try simp (disch := omega) only [(vmp)])
    have hat' : substAt l (k + 1) = true := by rw [hat, hva, hvt, hlt]; rfl
    refine ⟨⟨by omega, by omega, by rw [hgp]; rfl⟩, ?_⟩
    (simp only [hgp, hlt, (vmA), Nat.reduceEqDiff, reduceIte, Nat.reduceAdd, Int.reduceToNat, Int.reduceLE, Int.reduceLT, Int.reduceEq, Int.reduceNe, Int.reduceAdd, Int.reduceSub, Int.reduceNeg, Nat.reduceLT, Nat.reduceLeDiff, Nat.reduceBEq, undef, (stA), Nat.reduceMul]; try simp (disch := omega) only [(vmp)])
    exact ⟨(k + 1 + 1, _), ⟨by simp only; omega, next hat'⟩, by simp only; omega, rfl, rfl⟩
 ·have hie : i = l.length := by omega
  subst hie
  (simp only [h, (vmA), Nat.reduceEqDiff, reduceIte, Nat.reduceAdd, Int.reduceToNat, Int.reduceLE, Int.reduceLT, Int.reduceEq, Int.reduceNe, Int.reduceAdd, Int.reduceSub, Int.reduceNeg, Nat.reduceLT, Nat.reduceLeDiff, Nat.reduceBEq, undef, (stA), Nat.reduceMul]; try simp (disch := omega) only [(vmp)])
  rw [substB_of hs]
end Go.D
namespace Go.D
open Go Go.Vm Go.Proofs Go.RowKit
theorem tyN_false (t : Tr) : tyN false t = tyV t := by
 cases t with
 | mk d n us => cases us <;> simp [tyN, argV, tyV, tysV]
def distC (l : List Cl) : Prop := ∀ i c, l[i]? = some c → Sub'.look (l.take i) c.1 = none
def clE (c : Cl) : Ent := .arr 33 (clC c) 0 0
set_option maxHeartbeats 4000000 in
theorem table_ok (l : List Cl) (hl : l.length ≤ 26) (hd : distC l) (σ : List Ent) : ACalls E 51 [.sl (clsV l)] σ fun r τ => r = .mp σ.length ∧ τ = σ ++ .map (mEntsN false 0 l) l.length :: l.map clE := by
 refine xacalls T0 .stay [] Tryz.func51 rfl (by kernel_rfl) (by kernel_rfl) (by simp [Tryz.ntmps51]) ?_
 (simp only [clsV_len, (vmA), Nat.reduceEqDiff, reduceIte, Nat.reduceAdd, Int.reduceToNat, Int.reduceLE, Int.reduceLT, Int.reduceEq, Int.reduceNe, Int.reduceAdd, Int.reduceSub, Int.reduceNeg, Nat.reduceLT, Nat.reduceLeDiff, Nat.reduceBEq, undef, (stA), Nat.reduceMul]; try simp (disch := omega) only [(vmp)])
 refine xloop (α := Nat) T0 (fun x => [(3, .mp σ.length), (7, .sl (clsV l)), (8, i64 l.length), (9, i64 x)]) (fun _ => σ) (fun x => .map (mEntsN false 0 (l.take x)) (l.take x).length :: (l.take x).map clE)
  (fun x => x ≤ l.length) (fun x => l.length - x) (by kernel_rfl)
  ⟨0, by simp, by (simp only [(vmA), Nat.reduceEqDiff, reduceIte, Nat.reduceAdd, Int.reduceToNat, Int.reduceLE, Int.reduceLT, Int.reduceEq, Int.reduceNe, Int.reduceAdd, Int.reduceSub, Int.reduceNeg, Nat.reduceLT, Nat.reduceLeDiff, Nat.reduceBEq, undef, (stA), Nat.reduceMul, Int.natCast_zero]; try simp (disch := omega) only [(vmp)]), rfl, rfl⟩ ?_
 rintro i hi
 by_cases h : (i : Int) < l.length
 ·have hi1 : i < l.length := by omega
  have hu : l[i]? = some l[i] := List.getElem?_eq_getElem hi1
  have hlk := hd i _ hu
  have s1 := (take_splitC l i _ hu).1
  have hlen : (l.take i).length = i := by simp; omega
  generalize l[i] = u at *
  have hg := clsV_get hu
  obtain ⟨a, t⟩ := u
  have hput := mputN false a t 0 (l.take i) hlk
  rw [Nat.zero_add, hlen, tyN_false] at hput
  cases t with
  | mk b c cs =>
  simp only [clV, clC, tyCells] at hg
  simp only [tyV] at hput
  generalize hti : l.take i = ti at *
  generalize hjj : ti.map clE = jj
  (simp only [h, hg, clsV_len, hlen, mgetN, hlk, hput, Option.map_none, Option.isSome_none, Bool.false_eq_true, if_false, (vmA), Nat.reduceEqDiff, reduceIte, Nat.reduceAdd, Int.reduceToNat, Int.reduceLE, Int.reduceLT, Int.reduceEq, Int.reduceNe, Int.reduceAdd, Int.reduceSub, Int.reduceNeg, Nat.reduceLT, Nat.reduceLeDiff, Nat.reduceBEq, undef, (stA), Nat.reduceMul]; try simp (disch := omega) only [(vmp)])
  refine ⟨⟨rfl, fun e he => keysN false tab _ _ 0 ti e he⟩, i + 1, by omega, by omega, rfl, ?_⟩
  simp only [s1, List.length_append, List.length_cons, List.length_nil, hlen, List.map_append, List.map_cons, List.map_nil, hjj, clE, clC, tyCells]
 ·have hie : i = l.length := by omega
  subst hie
  (simp only [h, List.take_of_length_le (Nat.le_refl _), (vmA), Nat.reduceEqDiff, reduceIte, Nat.reduceAdd, Int.reduceToNat, Int.reduceLE, Int.reduceLT, Int.reduceEq, Int.reduceNe, Int.reduceAdd, Int.reduceSub, Int.reduceNeg, Nat.reduceLT, Nat.reduceLeDiff, Nat.reduceBEq, undef, (stA), Nat.reduceMul]; try simp (disch := omega) only [(vmp)])
end Go.D
namespace Go.D
open Go Go.Vm Go.Proofs Go.RowKit
def letA (i : Nat) : List UInt8 := [39, (97 + i).toUInt8]
theorem letter_inj {i j : Nat} (hi : i < 26) (hj : j < 26) (h : letA i = letA j) : i = j := by
 simp only [letA, List.cons.injEq, and_true, true_and] at h
 have h2 := congrArg UInt8.toNat h
 have e : ∀ k, k < 26 → ((97 + k).toUInt8).toNat = 97 + k := fun k hk => by
  show (UInt8.ofNat (97 + k)).toNat = 97 + k
  rw [UInt8.toNat_ofNat']
  exact Nat.mod_eq_of_lt (by omega)
 rw [e i hi, e j hj] at h2
 omega
theorem letter_varB {i : Nat} (hi : i < 26) : varB (letA i) = true := by
 have e : ((97 + i).toUInt8).toNat = 97 + i := by
  show (UInt8.ofNat (97 + i)).toNat = 97 + i
  rw [UInt8.toNat_ofNat']
  exact Nat.mod_eq_of_lt (by omega)
 simp only [varB, letA, btw, List.getD_cons_zero, List.getD_cons_succ, e, Bool.and_eq_true, decide_eq_true_eq]
 exact ⟨rfl, rfl, by omega, by omega⟩
theorem varB_letter {n : List UInt8} (h : varB n = true) : ∃ i, i < 26 ∧ n = letA i := by
 obtain ⟨b, rfl, h1, h2⟩ := varB_shape h
 refine ⟨b.toNat - 97, by omega, ?_⟩
 have e : ((97 + (b.toNat - 97)).toUInt8).toNat = b.toNat := by
  show (UInt8.ofNat _).toNat = _
  rw [UInt8.toNat_ofNat']
  have := b.toNat_lt
  omega
 simp only [letA, List.cons.injEq, and_true, true_and]
 exact (UInt8.toNat_inj.1 e).symm
theorem letter_less {i j : Nat} (hi : i < 26) (hj : j < 26) : Op.bytesLess (letA i) (letA j) = decide (i < j) := by
 have e : ∀ k, k < 26 → ((97 + k).toUInt8).toNat = 97 + k := fun k hk => by
  show (UInt8.ofNat (97 + k)).toNat = 97 + k
  rw [UInt8.toNat_ofNat']
  exact Nat.mod_eq_of_lt (by omega)
 have e1 : ((97 + i).toUInt8 < (97 + j).toUInt8) ↔ i < j := by rw [UInt8.lt_iff_toNat_lt, e i hi, e j hj]; omega
 have e2 : ((97 + i).toUInt8 = (97 + j).toUInt8) ↔ i = j := by rw [← UInt8.toNat_inj, e i hi, e j hj]; omega
 simp only [letA, Op.bytesLess]
 have h2 : decide ((97 + i).toUInt8 < (97 + j).toUInt8) = decide (i < j) := decide_eq_decide.2 e1
 rw [h2]
 simp only [Bool.and_false, Bool.or_false, beq_self_eq_true, Bool.true_and]
 rfl
theorem valid_typ {t : Tr} (h : validT conB t = true) : typeB conB t = true := by unfold validT at h; simp only [Bool.and_eq_true] at h; exact h.1
def vT (n : List UInt8) : Tr := .mk kiVar n []
theorem vT_args {us : List Tr} {n : List UInt8} (h : typeB conB (.mk kiVar n us) = true) : us = [] ∧ varB n = true := by
 simp only [typeB, Bool.and_eq_true, decide_eq_true_eq] at h
 obtain ⟨_, h2, _, h3, _⟩ := h
 have hp : partsI kiVar = 0 := rfl
 rw [hp] at h3
 refine ⟨List.length_eq_zero_iff.1 (by omega), ?_⟩
 simpa using h2
theorem vT_typ {i : Nat} (h : i < 26) : typeB conB (vT (letA i)) = true := by
 have := letter_varB h
 simp only [vT, typeB, typeBs, this, List.length_nil, Bool.and_true, Bool.or_true, decide_true, Bool.true_or, Bool.true_and]
 rfl
end Go.D
namespace Go.D
open Go Go.Vm Go.Proofs Go.RowKit
theorem substB_at {l : List Cl} (h : substB l = true) {i : Nat} {c : Cl} (hc : l[i]? = some c) : nextC (l.take i) c = true := by
 have hi := (List.getElem?_eq_some_iff.1 hc).1
 have := List.all_eq_true.1 h i (List.mem_range.2 hi)
 unfold substAt at this
 rw [hc] at this; exact this
theorem substB_mem {l : List Cl} (h : substB l = true) {c : Cl} (hc : c ∈ l) : varB c.1 = true ∧ validT conB c.2 = true := by
 obtain ⟨i, hi⟩ := List.getElem?_of_mem hc
 have := substB_at h hi
 unfold nextC at this
 simp only [Bool.and_eq_true] at this
 exact ⟨this.1, this.2.1⟩
theorem substB_okV {l : List Cl} (h : substB l = true) (hl : lenC l) : okV l := fun e he => ⟨(hl.2 e he).2, valid_typ (substB_mem h he).2⟩
theorem substB_letter {l : List Cl} (h : substB l = true) {i : Nat} {c : Cl} (hc : l[i]? = some c) : ∃ k, k < 26 ∧ c.1 = letA k :=
 varB_letter (substB_mem h (List.mem_of_getElem? hc)).1
theorem substB_asc {l : List Cl} (h : substB l = true) : ∀ (j i : Nat) (a b : Nat) (c c' : Cl), i < j → l[i]? = some c → l[j]? = some c' → a < 26 → b < 26 → c.1 = letA a → c'.1 = letA b → a < b
 | j + 1, i, a, b, c, c', hij, hc, hc', ha, hb, ea, eb => by
  have hj : j < l.length := by have := (List.getElem?_eq_some_iff.1 hc').1; omega
  have hp : l[j]? = some l[j] := List.getElem?_eq_getElem hj
  obtain ⟨m, hm, em⟩ := substB_letter h hp
  have hn := substB_at h hc'
  unfold nextC at hn
  rw [(take_splitC l j _ hp).1, List.getLast?_concat] at hn
  simp only [Bool.and_eq_true, em, eb, letter_less hm hb, decide_eq_true_eq] at hn
  rcases Nat.lt_or_ge i j with h1 | h1
  ·have := substB_asc h j i a m c _ h1 hc hp ha hm ea em
   omega
  ·have hij' : i = j := by omega
   subst hij'
   rw [hc] at hp; cases hp
   have := letter_inj ha hm (ea.symm.trans em)
   omega
theorem look_none {l : List Cl} {n : List UInt8} (h : ∀ c ∈ l, ¬ n = c.1) : Sub'.look l n = none := by
 induction l with
 | nil => rfl
 | cons a r ih => unfold Sub'.look; rw [if_neg (h a (by simp))]; exact ih fun c hc => h c (by simp [hc])
theorem substB_dist {l : List Cl} (h : substB l = true) : distC l := fun i c hc => look_none fun c' hc' he => by
 obtain ⟨j, hj⟩ := List.getElem?_of_mem hc'
 have hji : j < i := by
  have := (List.getElem?_eq_some_iff.1 hj).1
  simp at this; omega
 rw [List.getElem?_take_of_lt hji] at hj
 obtain ⟨a, ha, ea⟩ := substB_letter h hj
 obtain ⟨b, hb, eb⟩ := substB_letter h hc
 have := substB_asc h i j a b _ _ hji hj hc ha hb ea eb
 have := letter_inj ha hb (ea.symm.trans (he.symm.trans eb))
 omega
theorem substB_nodup {l : List Cl} (h : substB l = true) : (l.map (·.1)).Nodup := by
 refine List.pairwise_iff_getElem.2 fun i j hi hj hij he => ?_
 simp only [List.length_map] at hi hj
 simp only [List.getElem_map] at he
 have hi' : l[i]? = some l[i] := List.getElem?_eq_getElem hi
 have hj' : l[j]? = some l[j] := List.getElem?_eq_getElem hj
 obtain ⟨a, ha, ea⟩ := substB_letter h hi'
 obtain ⟨b, hb, eb⟩ := substB_letter h hj'
 have := substB_asc h j i a b _ _ hij hi' hj' ha hb ea eb
 have := letter_inj ha hb (ea.symm.trans (he.trans eb))
 omega
theorem substB_few {l : List Cl} (h : substB l = true) : l.length ≤ 26 := by
 have := vars_few (substB_nodup h) (fun n hn => by obtain ⟨c, hc, rfl⟩ := List.mem_map.1 hn; exact (substB_mem h hc).1)
 simpa using this
end Go.D
namespace Go.D
open Go Go.Vm Go.Proofs Go.RowKit
theorem put_vT (s : Sub') (n : List UInt8) : putT s (vT n) = (Sub'.look s n).getD (vT n) := by
 unfold vT putT
 cases h : Sub'.look s n with
 | none => rw [if_neg (by rintro ⟨_, h⟩; cases h)]; rfl
 | some u => rw [if_pos ⟨rfl, rfl⟩]; rfl
def two (s t : Sub') (n : List UInt8) : Tr := putT t (putT s (vT n))
end Go.D
namespace Go.D
open Go Go.Vm Go.Proofs Go.RowKit
def sEnts : Nat → Sub' → List (AV × AV × Nat)
 | _, [] => []
 | k, e :: r => (.str e.1, szV (ofT e.2), k) :: sEnts (k + 1) r
theorem mgetS (n : List UInt8) : ∀ (k : Nat) (s : Sub'), mget (.str n) (sEnts k s) = (s.look n).map fun t => szV (ofT t)
 | k, [] => rfl
 | k, e :: r => by
  unfold sEnts mget Sub'.look
  by_cases h : n = e.1
  ·simp [h, keq]
  ·simp only [keq, h, decide_false, Bool.false_eq_true, if_false]
   exact mgetS n (k + 1) r
theorem mputS (n : List UInt8) (t : Tr) : ∀ (k : Nat) (s : Sub'), s.look n = none → mput (.str n) (szV (ofT t)) (k + s.length) (sEnts k s) = sEnts k (s ++ [(n, t)])
 | k, [], _ => by simp [sEnts, mput]
 | k, e :: r, h => by
  unfold Sub'.look at h
  by_cases hh : n = e.1
  ·simp [hh] at h
  ·simp only [hh, if_false] at h
   have := mputS n t (k + 1) r h
   unfold sEnts mput
   simp only [keq, hh, decide_false, Bool.false_eq_true, if_false, List.cons_append, sEnts, List.length_cons]
   rw [← this]
   congr 2
   omega
theorem keysS (T : Nat → TI) (g l : List Ent) : ∀ (k : Nat) (s : Sub'), ∀ e ∈ sEnts k s, kOK T g l .string e.1
 | k, [], e, h => by simp [sEnts] at h
 | k, a :: r, e, h => by
  simp only [sEnts] at h
  rcases List.mem_cons.1 h with rfl | h
  ·simp [kOK]
  ·exact keysS T g l (k + 1) r e h
theorem ofTs_app (a b : List Tr) : ofTs (a ++ b) = ofTs a ++ ofTs b := by simp [ofTs_map]
def ZT (t : Tr) : Prop := ∀ (s : Sub') (σ : List Ent) (m : Nat), okT t → σ[m]? = some (.map (sEnts 0 s) s.length) → ACalls E 88 [.mp m, tyV t] σ fun r τ => r = szV (ofT (putT s t)) ∧ τ = σ
set_option maxHeartbeats 4000000 in
theorem size_step (d n : List UInt8) (us : List Tr) (ih : ∀ u ∈ us, ZT u) : ZT (.mk d n us) := by
 intro s σ m hl hm
 obtain ⟨hfew, hdn⟩ := okT_down d n us hl
 have gk := sget_of2 hm
 refine xacalls T0 .drop [] Tryz.func88 rfl (by kernel_rfl) (by kernel_rfl) (by simp [Tryz.ntmps88]) ?_
 have hs := keysS tab
 obtain ⟨z, hz⟩ : ∃ z : Int × Int, (∃ t, Sub'.look s n = some t ∧ ¬ d = kiVar ∧ z = ofT t) ∨ (Sub'.look s n = none ∧ z = (0, 0)) ∨ (∃ t, Sub'.look s n = some t ∧ d = kiVar) := by
  cases hlk : Sub'.look s n with
  | none => exact ⟨_, .inr (.inl ⟨rfl, rfl⟩)⟩
  | some t =>
   by_cases hd : d = kiVar
   ·exact ⟨(0, 0), .inr (.inr ⟨t, rfl, hd⟩)⟩
   ·exact ⟨_, .inl ⟨t, rfl, hd, rfl⟩⟩
 rw [← or_assoc] at hz
 rcases hz with hz | ⟨t, hlk, hd⟩
 rotate_left
 ·have t1 : (d = [118, 97, 114]) = True := eq_true hd
  have heq : putT s (.mk d n us) = t := by unfold putT; rw [if_pos ⟨hd, by rw [hlk]; rfl⟩, hlk]; rfl
  rw [heq]
  (simp only [tyV, szV, tysV_len, gk, mgetS, hlk, t1, Option.map_some, (vmA), Nat.reduceEqDiff, reduceIte, Nat.reduceAdd, Int.reduceToNat, Int.reduceLE, Int.reduceLT, Int.reduceEq, Int.reduceNe, Int.reduceAdd, Int.reduceSub, Int.reduceNeg, Nat.reduceLT, Nat.reduceLeDiff, Nat.reduceBEq, undef, (stA), Nat.reduceMul]; try simp (disch := omega) only [(vmp)])
  exact ⟨rfl, fun e he => keysS tab _ _ 0 s e he⟩
 have heq : putT s (.mk d n us) = .mk d n (putTs s us) := by
  unfold putT
  rcases hz with ⟨t, hlk, n1, _⟩ | ⟨hlk, _⟩
  ·rw [if_neg (fun h => n1 h.1)]
  ·rw [if_neg (fun h => by rw [hlk] at h; cases h.2)]
 rw [heq]
 rcases hz with ⟨t, hlk, n1, hz⟩ | ⟨hlk, hz⟩
 rotate_left
 (simp only [tyV, szV, tysV_len, gk, mgetS, hlk, Option.map_none, (vmA), Nat.reduceEqDiff, reduceIte, Nat.reduceAdd, Int.reduceToNat, Int.reduceLE, Int.reduceLT, Int.reduceEq, Int.reduceNe, Int.reduceAdd, Int.reduceSub, Int.reduceNeg, Nat.reduceLT, Nat.reduceLeDiff, Nat.reduceBEq, undef, (stA), Nat.reduceMul]; try simp (disch := omega) only [(vmp)])
 refine ⟨⟨rfl, fun e he => keysS tab _ _ 0 s e he⟩, ?_⟩
 rotate_left
 have n1 : ¬ d = [118, 97, 114] := n1
 (simp only [tyV, szV, tysV_len, gk, mgetS, hlk, n1, Option.map_some, (vmA), Nat.reduceEqDiff, reduceIte, Nat.reduceAdd, Int.reduceToNat, Int.reduceLE, Int.reduceLT, Int.reduceEq, Int.reduceNe, Int.reduceAdd, Int.reduceSub, Int.reduceNeg, Nat.reduceLT, Nat.reduceLeDiff, Nat.reduceBEq, undef, (stA), Nat.reduceMul]; try simp (disch := omega) only [(vmp)])
 refine ⟨⟨rfl, fun e he => keysS tab _ _ 0 s e he⟩, ?_⟩
 all_goals
  refine xloop (α := Nat × List Ent) T0 (fun x => [(0, .mp m), (4, .ref (σ.length + 1) 0 0), (7, .ref (σ.length + 3) 0 0), (27, .sl (tysV us)), (28, i64 us.length), (29, i64 x.1)]) (fun _ => σ)
   (fun x => .arr 24 [.str d, .str n, .sl (tysV us)] 0 0 :: .arr 89 [i64 0, i64 0] 0 0 :: .arr 89 [i64 z.1, i64 z.2] 0 0 :: .arr 89 [i64 (aboveS (1, 1) (ofTs (putTs s (us.take x.1)))).1, i64 (aboveS (1, 1) (ofTs (putTs s (us.take x.1)))).2] 0 0 :: x.2)
   (fun x => x.1 ≤ us.length) (fun x => us.length - x.1) (by kernel_rfl)
   ⟨(0, []), by simp, by (simp only [(vmA), Nat.reduceEqDiff, reduceIte, Nat.reduceAdd, Int.reduceToNat, Int.reduceLE, Int.reduceLT, Int.reduceEq, Int.reduceNe, Int.reduceAdd, Int.reduceSub, Int.reduceNeg, Nat.reduceLT, Nat.reduceLeDiff, Nat.reduceBEq, undef, (stA), Nat.reduceMul, Int.natCast_zero]; try simp (disch := omega) only [(vmp)]), rfl, by subst hz; rfl⟩ ?_
  rintro ⟨i, junk⟩ hi
  simp only at hi
  by_cases h : (i : Int) < us.length
  ·have hi' : i < us.length := by omega
   have hu : us[i]? = some us[i] := List.getElem?_eq_getElem hi'
   obtain ⟨s1, s2⟩ := take_split us i _ hu
   have hmem : us[i] ∈ us := List.getElem_mem hi'
   generalize us[i] = u at *
   have hg := tysV_get hu
   have hc := fun l => ih u hmem s (σ ++ l) m (hdn u hmem) (get_olds hm l)
   have hnext : aboveS (1, 1) (ofTs (putTs s (us.take (i + 1)))) = (wr ((aboveS (1, 1) (ofTs (putTs s (us.take i)))).1 + (ofT (putT s u)).1), max (aboveS (1, 1) (ofTs (putTs s (us.take i)))).2 (wr ((ofT (putT s u)).2 + 1))) := by
    have e1 : putTs s (us.take (i + 1)) = putTs s (us.take i) ++ [putT s u] := by rw [s1, putTs_map, putTs_map]; simp
    rw [e1, ofTs_app]
    exact aboveS_app _ _ _
   generalize ofT (putT s u) = zz at *
   cases u with
   | mk d4 n4 us4 =>
   simp only [tyV, szV] at hg hc
   (simp only [h, hg, tysV_len, (vmA), Nat.reduceEqDiff, reduceIte, Nat.reduceAdd, Int.reduceToNat, Int.reduceLE, Int.reduceLT, Int.reduceEq, Int.reduceNe, Int.reduceAdd, Int.reduceSub, Int.reduceNeg, Nat.reduceLT, Nat.reduceLeDiff, Nat.reduceBEq, undef, (stA), Nat.reduceMul]; try simp (disch := omega) only [(vmp)])
   refine xWait.go (hc _) ?_
   (simp only [(vmA), Nat.reduceEqDiff, reduceIte, Nat.reduceAdd, Int.reduceToNat, Int.reduceLE, Int.reduceLT, Int.reduceEq, Int.reduceNe, Int.reduceAdd, Int.reduceSub, Int.reduceNeg, Nat.reduceLT, Nat.reduceLeDiff, Nat.reduceBEq, undef, (stA), Nat.reduceMul]; try simp (disch := omega) only [(vmp)])
   exact ⟨(i + 1, junk ++ [.arr 24 [.str d4, .str n4, .sl (tysV us4)] 0 0, .arr 89 [i64 zz.1, i64 zz.2] 0 0]), by simp only; omega, by simp only; omega, rfl, by simp only [hnext, wr]⟩
  ·have hie : i = us.length := by omega
   subst hie
   (simp only [h, List.take_of_length_le (Nat.le_refl _), (vmA), Nat.reduceEqDiff, reduceIte, Nat.reduceAdd, Int.reduceToNat, Int.reduceLE, Int.reduceLT, Int.reduceEq, Int.reduceNe, Int.reduceAdd, Int.reduceSub, Int.reduceNeg, Nat.reduceLT, Nat.reduceLeDiff, Nat.reduceBEq, undef, (stA), Nat.reduceMul]; try simp (disch := omega) only [(vmp)])
   simp only [ofT]
   try rfl
theorem size_ok : ∀ (m : Nat) (t : Tr), SizeOf.sizeOf t ≤ m → ZT t
 | 0, .mk d n us, h => by simp at h
 | m + 1, .mk d n us, h => size_step d n us fun u hu => size_ok m u (by
   have := List.sizeOf_lt_of_mem hu
   simp at h; omega)
end Go.D
namespace Go.D
open Go Go.Vm Go.Proofs Go.RowKit
set_option maxHeartbeats 8000000 in
theorem apply_ok (l : List Cl) (hl : l.length ≤ 26) (hd : distC l) (hk : okV l) (t : Tr) (ht : okT t) (σ : List Ent) :
  ACalls E 49 [.sl (clsV l), tyV t] σ fun r τ => r = .tup [tyV (applyR l t).1, i64 (applyR l t).2] ∧ τ = σ := by
 refine xacalls T0 .freeze [] Tryz.func49 rfl (by kernel_rfl) (by kernel_rfl) (by simp [Tryz.ntmps49]) ?_
 have hp := putT_ok hk ht
 have c1 := fun σ' m hm => size_ok _ t (Nat.le_refl _) l σ' m ht hm
 have c2 := fun σ' m hm => put_ok _ t (Nat.le_refl _) false l σ' m ht hm
 have c3 := fun σ' => clone_ok _ _ (Nat.le_refl _) σ' hp
 have c4 : ∀ A, ACalls E 51 [.sl (clsV l)] (σ ++ A) fun r τ => r = .mp (σ.length + A.length) ∧ τ = σ ++ (A ++ .map (mEntsN false 0 l) l.length :: l.map clE) := fun A => by
  have := table_ok l hl hd (σ ++ A)
  rw [List.append_assoc, List.length_append] at this
  exact this
 have c5 := fun σ' => Fits_ok (ofT (putT l t)) σ'
 unfold applyR
 cases t with
 | mk d n us =>
 simp only [tyV] at c1 c2
 (simp only [tyV, clsV_len, (vmA), Nat.reduceEqDiff, reduceIte, Nat.reduceAdd, Int.reduceToNat, Int.reduceLE, Int.reduceLT, Int.reduceEq, Int.reduceNe, Int.reduceAdd, Int.reduceSub, Int.reduceNeg, Nat.reduceLT, Nat.reduceLeDiff, Nat.reduceBEq, undef, (stA), Nat.reduceMul]; try simp (disch := omega) only [(vmp)])
 refine xloop (α := Nat × List Ent) T0 (fun x => [(0, .sl (clsV l)), (3, .ref σ.length 0 0), (4, .ref (σ.length + 1) 0 0), (6, .mp (σ.length + 2)), (10, .sl (clsV l)), (11, i64 l.length), (12, i64 x.1)]) (fun _ => σ)
  (fun x => .arr 24 [.str d, .str n, .sl (tysV us)] 0 0 :: .arr 24 [.str [], .str [], .v (.slice none 0 0)] 0 0 :: .map (sEnts 0 (l.take x.1)) (l.take x.1).length :: x.2)
  (fun x => x.1 ≤ l.length) (fun x => l.length - x.1) (by kernel_rfl)
  ⟨(0, []), by simp, by (simp only [(vmA), Nat.reduceEqDiff, reduceIte, Nat.reduceAdd, Int.reduceToNat, Int.reduceLE, Int.reduceLT, Int.reduceEq, Int.reduceNe, Int.reduceAdd, Int.reduceSub, Int.reduceNeg, Nat.reduceLT, Nat.reduceLeDiff, Nat.reduceBEq, undef, (stA), Nat.reduceMul, Int.natCast_zero]; try simp (disch := omega) only [(vmp)]), rfl, rfl⟩ ?_
 rintro ⟨i, junk⟩ hi
 simp only at hi
 by_cases h : (i : Int) < l.length
 ·have hi1 : i < l.length := by omega
  have hu : l[i]? = some l[i] := List.getElem?_eq_getElem hi1
  have hm := hk _ (List.getElem_mem hi1)
  have hlk := hd i _ hu
  have s1 := (take_splitC l i _ hu).1
  have hlen : (l.take i).length = i := by simp; omega
  generalize l[i] = u at *
  have hg := clsV_get hu
  obtain ⟨a, t2⟩ := u
  have hput := mputS a t2 0 (l.take i) hlk
  have hc := fun σ' => OfType_ok _ t2 (Nat.le_refl _) σ' hm
  rw [Nat.zero_add, hlen] at hput
  rcases hof : ofT t2 with ⟨z1, z2⟩
  simp only [hof, szV] at hc hput
  cases t2 with
  | mk b c cs =>
  simp only [clV, clC, tyCells] at hg
  simp only [tyV] at hc
  generalize hti : l.take i = ti at *
  (simp only [h, hg, clsV_len, (vmA), Nat.reduceEqDiff, reduceIte, Nat.reduceAdd, Int.reduceToNat, Int.reduceLE, Int.reduceLT, Int.reduceEq, Int.reduceNe, Int.reduceAdd, Int.reduceSub, Int.reduceNeg, Nat.reduceLT, Nat.reduceLeDiff, Nat.reduceBEq, undef, (stA), Nat.reduceMul]; try simp (disch := omega) only [(vmp)])
  refine ydraw T0 [6] (by kernel_rfl) (by kernel_rfl) (by kernel_rfl) (by kernel_rfl) ?_
  (simp only [(vmA), Nat.reduceEqDiff, reduceIte, Nat.reduceAdd, Int.reduceToNat, Int.reduceLE, Int.reduceLT, Int.reduceEq, Int.reduceNe, Int.reduceAdd, Int.reduceSub, Int.reduceNeg, Nat.reduceLT, Nat.reduceLeDiff, Nat.reduceBEq, undef, (stA), Nat.reduceMul]; try simp (disch := omega) only [(vmp)])
  refine yNext.go (by rfl) _ rfl (hc _) ?_
  (simp only [hlen, mgetS, hlk, hput, Option.map_none, Option.isSome_none, Bool.false_eq_true, if_false, (vmA), Nat.reduceEqDiff, reduceIte, Nat.reduceAdd, Int.reduceToNat, Int.reduceLE, Int.reduceLT, Int.reduceEq, Int.reduceNe, Int.reduceAdd, Int.reduceSub, Int.reduceNeg, Nat.reduceLT, Nat.reduceLeDiff, Nat.reduceBEq, undef, (stA), Nat.reduceMul]; try simp (disch := omega) only [(vmp)])
  refine ⟨⟨rfl, fun e he => keysS tab _ _ 0 ti e he⟩, (i + 1, junk ++ [Ent.arr 33 [AV.str a, AV.str b, AV.str c, AV.sl (tysV cs)] 0 0]), by simp only; omega, by simp only; omega, rfl, ?_⟩
  simp only [s1, List.length_append, List.length_cons, List.length_nil, hlen]
 ·have hie : i = l.length := by omega
  subst hie
  (simp only [h, List.take_of_length_le (Nat.le_refl _), (vmA), Nat.reduceEqDiff, reduceIte, Nat.reduceAdd, Int.reduceToNat, Int.reduceLE, Int.reduceLT, Int.reduceEq, Int.reduceNe, Int.reduceAdd, Int.reduceSub, Int.reduceNeg, Nat.reduceLT, Nat.reduceLeDiff, Nat.reduceBEq, undef, (stA), Nat.reduceMul]; try simp (disch := omega) only [(vmp)])
  refine xWait.go (c1 _ _ (by rw [List.getElem?_append_right (by omega), Nat.add_sub_cancel_left]; rfl)) ?_
  rcases hof : ofT (putT l (.mk d n us)) with ⟨z1, z2⟩
  simp only [hof, szV] at c5
  (simp only [szV, (vmA), Nat.reduceEqDiff, reduceIte, Nat.reduceAdd, Int.reduceToNat, Int.reduceLE, Int.reduceLT, Int.reduceEq, Int.reduceNe, Int.reduceAdd, Int.reduceSub, Int.reduceNeg, Nat.reduceLT, Nat.reduceLeDiff, Nat.reduceBEq, undef, (stA), Nat.reduceMul]; try simp (disch := omega) only [(vmp)])
  refine xWait.go (c5 _) ?_
  cases hf : fitsB (z1, z2)
  ·(simp only [Bool.false_eq_true, if_false, tysV, (vmA), Nat.reduceEqDiff, reduceIte, Nat.reduceAdd, Int.reduceToNat, Int.reduceLE, Int.reduceLT, Int.reduceEq, Int.reduceNe, Int.reduceAdd, Int.reduceSub, Int.reduceNeg, Nat.reduceLT, Nat.reduceLeDiff, Nat.reduceBEq, undef, (stA), Nat.reduceMul]; try simp (disch := omega) only [(vmp)])
   exact ⟨_, .tup (.cons (.agg (.cons (.refl _) (.cons (.refl _) (.cons .none .nil)))) (.cons (.refl _) .nil)), by simp only [AV.low, AV.low.lows, Bool.and_self], rfl⟩
  ·(simp only [if_true, (vmA), Nat.reduceEqDiff, reduceIte, Nat.reduceAdd, Int.reduceToNat, Int.reduceLE, Int.reduceLT, Int.reduceEq, Int.reduceNe, Int.reduceAdd, Int.reduceSub, Int.reduceNeg, Nat.reduceLT, Nat.reduceLeDiff, Nat.reduceBEq, undef, (stA), Nat.reduceMul]; try simp (disch := omega) only [(vmp)])
   refine zdraw T0 ⟨[5], [1], [2], some [0], false⟩ (by kernel_rfl) (by kernel_rfl) (by kernel_rfl) (by kernel_rfl) ?_
   (simp only [zDraw_nil,zDraw_go,zDraw_if,zSlot_some,zGuard_tt,zGuard_ff,zGuard_tf,zGuard_ft,zGuard_un,zOut_some,zOut_pure,zOut_cond,zNext_move,zNext_assign,zNext_pick,zNext_buildSlice,zNext_build,zNext_load,zNext_store,zNext_builtin,zNext_fieldAddr,zNext_nilCheck,zNext_indexAddr,zNext_unOp,zNext_binOp, (vmA), Nat.reduceEqDiff, reduceIte, Nat.reduceAdd, Int.reduceToNat, Int.reduceLE, Int.reduceLT, Int.reduceEq, Int.reduceNe, Int.reduceAdd, Int.reduceSub, Int.reduceNeg, Nat.reduceLT, Nat.reduceLeDiff, Nat.reduceBEq, undef, (stA), Nat.reduceMul]; try simp (disch := omega) only [(vmp)])
   refine zNext.softC (by rfl) (by rfl) _ rfl (c4 _) rfl (by intro n hn; simp at hn; subst hn; rfl) ?_
   (simp only [zDraw_nil,zDraw_go,zDraw_if,zSlot_some,zGuard_tt,zGuard_ff,zGuard_tf,zGuard_ft,zGuard_un,zOut_some,zOut_pure,zOut_cond,zNext_move,zNext_assign,zNext_pick,zNext_buildSlice,zNext_build,zNext_load,zNext_store,zNext_builtin,zNext_fieldAddr,zNext_nilCheck,zNext_indexAddr,zNext_unOp,zNext_binOp, (vmA), Nat.reduceEqDiff, reduceIte, Nat.reduceAdd, Int.reduceToNat, Int.reduceLE, Int.reduceLT, Int.reduceEq, Int.reduceNe, Int.reduceAdd, Int.reduceSub, Int.reduceNeg, Nat.reduceLT, Nat.reduceLeDiff, Nat.reduceBEq, undef, (stA), Nat.reduceMul]; try simp (disch := omega) only [(vmp)])
   refine zNext.looseS (r := .agg [.str d, .str n, .sl (tysV us)]) rfl rfl rfl rfl (fun g' l' hg' hl' => ⟨True, trivial, ?_⟩) ?_
   ·have q1 := hl' 0 (by simp)
    have s1 : sget g' l' σ.length = some (.arr 24 [.str d, .str n, .sl (tysV us)] 0 0) := by unfold sget; rw [hg', if_neg (by omega), Nat.sub_self, q1]; rfl
    (simp only [s1, (vmA), Nat.reduceEqDiff, reduceIte, Nat.reduceAdd, Int.reduceToNat, Int.reduceLE, Int.reduceLT, Int.reduceEq, Int.reduceNe, Int.reduceAdd, Int.reduceSub, Int.reduceNeg, Nat.reduceLT, Nat.reduceLeDiff, Nat.reduceBEq, undef, (stA), Nat.reduceMul]; try simp (disch := omega) only [(vmp)])
   (simp only [zDraw_nil,zDraw_go,zDraw_if,zSlot_some,zGuard_tt,zGuard_ff,zGuard_tf,zGuard_ft,zGuard_un,zOut_some,zOut_pure,zOut_cond,zNext_move,zNext_assign,zNext_pick,zNext_buildSlice,zNext_build,zNext_load,zNext_store,zNext_builtin,zNext_fieldAddr,zNext_nilCheck,zNext_indexAddr,zNext_unOp,zNext_binOp, (vmA), Nat.reduceEqDiff, reduceIte, Nat.reduceAdd, Int.reduceToNat, Int.reduceLE, Int.reduceLT, Int.reduceEq, Int.reduceNe, Int.reduceAdd, Int.reduceSub, Int.reduceNeg, Nat.reduceLT, Nat.reduceLeDiff, Nat.reduceBEq, undef, (stA), Nat.reduceMul]; try simp (disch := omega) only [(vmp)])
   refine zNext.go (by rfl) (by rfl) (by rfl) _ rfl (c2 _ _ ?_) ?_
   ·rw [List.getElem?_append_right (by omega), Nat.add_sub_cancel_left]
    show (junk ++ Ent.map (mEntsN false 0 l) l.length :: List.map clE l)[junk.length]? = _
    rw [List.getElem?_append_right (Nat.le_refl _), Nat.sub_self]
    rfl
   (simp only [zDraw_nil,zDraw_go,zDraw_if,zSlot_some,zGuard_tt,zGuard_ff,zGuard_tf,zGuard_ft,zGuard_un,zOut_some,zOut_pure,zOut_cond,zNext_move,zNext_assign,zNext_pick,zNext_buildSlice,zNext_build,zNext_load,zNext_store,zNext_builtin,zNext_fieldAddr,zNext_nilCheck,zNext_indexAddr,zNext_unOp,zNext_binOp, (vmA), Nat.reduceEqDiff, reduceIte, Nat.reduceAdd, Int.reduceToNat, Int.reduceLE, Int.reduceLT, Int.reduceEq, Int.reduceNe, Int.reduceAdd, Int.reduceSub, Int.reduceNeg, Nat.reduceLT, Nat.reduceLeDiff, Nat.reduceBEq, undef, (stA), Nat.reduceMul]; try simp (disch := omega) only [(vmp)])
   refine zNext.go (by rfl) (by rfl) (by rfl) _ rfl (c3 _) ?_
   rcases hq : putT l (.mk d n us) with ⟨q1, q2, q3⟩
   (simp only [tyV, zDraw_nil,zDraw_go,zDraw_if,zSlot_some,zGuard_tt,zGuard_ff,zGuard_tf,zGuard_ft,zGuard_un,zOut_some,zOut_pure,zOut_cond,zNext_move,zNext_assign,zNext_pick,zNext_buildSlice,zNext_build,zNext_load,zNext_store,zNext_builtin,zNext_fieldAddr,zNext_nilCheck,zNext_indexAddr,zNext_unOp,zNext_binOp, (vmA), Nat.reduceEqDiff, reduceIte, Nat.reduceAdd, Int.reduceToNat, Int.reduceLE, Int.reduceLT, Int.reduceEq, Int.reduceNe, Int.reduceAdd, Int.reduceSub, Int.reduceNeg, Nat.reduceLT, Nat.reduceLeDiff, Nat.reduceBEq, undef, (stA), Nat.reduceMul]; try simp (disch := omega) only [(vmp)])
   exact ⟨_, .refl _, by simp only [AV.low, AV.low.lows, tysV_low, Bool.and_self], rfl⟩
end Go.D
