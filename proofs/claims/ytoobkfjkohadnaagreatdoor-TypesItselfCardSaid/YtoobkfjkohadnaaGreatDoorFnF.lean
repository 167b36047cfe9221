/- What makes a type another one: the walk. -/
import Derived.Test.YtoobkfjkohadnaaGreatDoorFnE
import Derived.Test.YtoobkfjkohadnaaGreatDoorVmF
import Derived.Test.YtoobkfjkohadnaaGreatDoorVmE
set_option linter.unusedVariables false
set_option linter.unusedSimpArgs false
set_option linter.unnecessarySimpa false
set_option maxRecDepth 100000
namespace Go.D
open Go Go.Vm Go.Proofs Go.RowKit

def okM (s : Sub') : Prop := ∀ e ∈ s, lenT e.2
theorem look_mem {s : Sub'} {n : List UInt8} {t : Tr} (h : s.look n = some t) : ∃ e ∈ s, e.2 = t := by
  induction s with
  | nil => cases h
  | cons e r ih =>
    unfold Sub'.look at h
    by_cases hh : n = e.1
    · simp [hh] at h; exact ⟨e, by simp, h⟩
    · simp only [hh, if_false] at h
      obtain ⟨e', h1, h2⟩ := ih h
      exact ⟨e', by simp [h1], h2⟩
theorem ents_low (n : Nat) : ∀ (k : Nat) (s : Sub'), AV.low.lows n ((mEnts k s).map (·.1)) = true ∧ AV.low.lows n ((mEnts k s).map (·.2.1)) = true
  | k, [] => ⟨rfl, rfl⟩
  | k, e :: r => by
    obtain ⟨h1, h2⟩ := ents_low n (k + 1) r
    simp only [mEnts, List.map_cons, AV.low.lows, AV.low, tyV_low, h1, h2, Bool.and_self, and_self]
theorem mapE_low (n : Nat) (s : Sub') : (mapE s).low n = true := by
  obtain ⟨h1, h2⟩ := ents_low n 0 s
  simp only [mapE, Ent.low, h1, h2, Bool.and_self]
theorem storeLow_set {n : Nat} {σ : List Ent} {id : Nat} {e : Ent} (h : e.low n = true) : StoreLow n σ (σ.set id e) := fun i x hx => by
  rcases get_set hx with ⟨_, rfl, _⟩ | ⟨_, hx⟩
  · exact .inr h
  · exact .inl hx
mutual
theorem matT_okM : ∀ (t u : Tr) (s : Sub'), lenT u → okM s → okM (matT t u s).2
  | .mk d n us, .mk d' n' us', s, hu, hs => by
    unfold matT
    split
    · split
      · intro e he
        rcases List.mem_append.1 he with he | he
        · exact hs e he
        · simp at he; subst he; exact hu
      · exact hs
    · split
      · simp only [lenT] at hu
        exact matTs_okM us us' s hu.2.2 hs
      · exact hs
theorem matTs_okM : ∀ (l l' : List Tr) (s : Sub'), lenTs l' → okM s → okM (matTs l l' s).2
  | [], _, s, _, hs => by simp only [matTs]; exact hs
  | _ :: _, [], s, _, hs => by simp only [matTs]; exact hs
  | t :: ts, u :: us, s, hu, hs => by
    simp only [lenTs] at hu
    simp only [matTs]
    split
    · exact matTs_okM ts us _ hu.2 (matT_okM t u s hu.1 hs)
    · exact matT_okM t u s hu.1 hs
end
/-- What is asked of a type, with a map. -/
def MT (t : Tr) : Prop := ∀ (u : Tr) (s : Sub') (σ : List Ent) (m : Nat), okT t → lenT u → okM s → σ[m]? = some (mapE s) →
  ACalls E 45 [tyV t, tyV u, .mp m] σ fun r τ => r = boolV (matT t u s).1 ∧ τ = σ.set m (mapE (matT t u s).2) ∧ okM (matT t u s).2
theorem matTs_one : ∀ (l l' : List Tr) (a b : Tr) (s : Sub'), l.length = l'.length → (matTs l l' s).1 = true → (matT a b (matTs l l' s).2).1 = true → matTs (l ++ [a]) (l' ++ [b]) s = (true, (matT a b (matTs l l' s).2).2)
  | [], [], a, b, s, _, _, h2 => by
    simp only [List.nil_append, matTs] at h2 ⊢
    rw [if_pos h2]
  | t :: l, t' :: l', a, b, s, h, h1, h2 => by
    simp only [List.cons_append, matTs] at h1 h2 ⊢
    by_cases hh : (matT t t' s).1 = true
    · rw [if_pos hh] at h1 h2 ⊢
      rw [if_pos hh]
      exact matTs_one l l' a b _ (by simpa using h) h1 h2
    · rw [if_neg hh] at h1; simp at h1
theorem matTs_stop : ∀ (l l' : List Tr) (a b : Tr) (r r' : List Tr) (s : Sub'), l.length = l'.length → (matTs l l' s).1 = true → (matT a b (matTs l l' s).2).1 = false → matTs (l ++ a :: r) (l' ++ b :: r') s = (false, (matT a b (matTs l l' s).2).2)
  | [], [], a, b, r, r', s, _, _, h2 => by
    simp only [List.nil_append, matTs] at h2 ⊢
    rw [if_neg (by rw [h2]; simp)]
  | t :: l, t' :: l', a, b, r, r', s, h, h1, h2 => by
    simp only [List.cons_append, matTs] at h1 h2 ⊢
    by_cases hh : (matT t t' s).1 = true
    · rw [if_pos hh] at h1 h2 ⊢
      rw [if_pos hh]
      exact matTs_stop l l' a b r r' _ (by simpa using h) h1 h2
    · rw [if_neg hh] at h1; simp at h1
set_option maxHeartbeats 4000000 in
theorem match1_ok (d n : List UInt8) (us us' : List Tr) (σ : List Ent) (m i : Nat) (a b : Tr) (si : Sub') (hu1 : us[i]? = some a) (hu2 : us'[i]? = some b) (hi : i < us.length) (hi' : i < us'.length) {e0 : Ent} (hm : σ[m]? = some e0) (L : List Ent)
    (hL : [Ent.arr 24 [AV.str d, AV.str n, AV.sl (tysV us)] 0 0, Ent.arr 24 [AV.str d, AV.str n, AV.sl (tysV us')] 0 0, Ent.arr 57 [AV.mp m] 0 0] = L)
    (h : MT a) (ha : okT a) (hb : lenT b) (hsi : okM si) :
    ACalls E 86 [i64 (i : Nat), .ref σ.length 0 0, .ref (σ.length + 1) 0 0, .ref (σ.length + 2) 0 0] (σ.set m (mapE si) ++ L) fun r τ => r = boolV (!(matT a b si).1) ∧ τ = σ.set m (mapE (matT a b si).2) ++ L ∧ okM (matT a b si).2 := by
  have hlt := lt_of_get hm
  have hg1 := tysV_get hu1
  have hg2 := tysV_get hu2
  have hh := h b si (σ.set m (mapE si) ++ L) m ha hb hsi (by rw [List.getElem?_append_left (by simpa using hlt)]; simp [hlt])
  rw [List.set_append_left _ _ (by simpa using hlt), List.set_set] at hh
  have hln : σ.length = (σ.set m (mapE si)).length := by simp
  subst hL
  refine xacalls T0 .drop [] Tryz.func86 rfl (by kernel_rfl) (by kernel_rfl) (by simp [Tryz.ntmps86]) ?_
  have hlow : StoreLow (σ.set m (mapE si) ++ [Ent.arr 24 [AV.str d, AV.str n, AV.sl (tysV us)] 0 0, Ent.arr 24 [AV.str d, AV.str n, AV.sl (tysV us')] 0 0, Ent.arr 57 [AV.mp m] 0 0]).length
      (σ.set m (mapE si) ++ [Ent.arr 24 [AV.str d, AV.str n, AV.sl (tysV us)] 0 0, Ent.arr 24 [AV.str d, AV.str n, AV.sl (tysV us')] 0 0, Ent.arr 57 [AV.mp m] 0 0])
      (σ.set m (mapE (matT a b si).2) ++ [Ent.arr 24 [AV.str d, AV.str n, AV.sl (tysV us)] 0 0, Ent.arr 24 [AV.str d, AV.str n, AV.sl (tysV us')] 0 0, Ent.arr 57 [AV.mp m] 0 0]) := by
    have := storeLow_set (n := (σ.set m (mapE si) ++ [Ent.arr 24 [AV.str d, AV.str n, AV.sl (tysV us)] 0 0, Ent.arr 24 [AV.str d, AV.str n, AV.sl (tysV us')] 0 0, Ent.arr 57 [AV.mp m] 0 0]).length)
      (σ := σ.set m (mapE si) ++ [Ent.arr 24 [AV.str d, AV.str n, AV.sl (tysV us)] 0 0, Ent.arr 24 [AV.str d, AV.str n, AV.sl (tysV us')] 0 0, Ent.arr 57 [AV.mp m] 0 0]) (id := m) (mapE_low _ (matT a b si).2)
    rw [List.set_append_left _ _ (by simpa using hlt), List.set_set] at this
    exact this
  simp only [hln]
  generalize hS : σ.set m (mapE si) = S at *
  generalize hS2 : σ.set m (mapE (matT a b si).2) = S2 at *
  have hl2 : S2.length = S.length := by rw [← hS, ← hS2]; simp
  cases a with
  | mk d1 n1 us1 =>
  cases b with
  | mk d2 n2 us2 =>
  simp only [tyV] at hg1 hg2 hh
  have gg2 : ∀ (a b c : Ent) (l : List Ent), sget (S ++ [a, b, c]) l (S.length + 2) = some c := fun a b c l => by simp [sget]
  (simp only [gg2, (vm1), (vm2), (vm3), (vm4), aDet, ev, tget, tput, ofC, ofC1, pureR, condR, abin, aun, alen, gslot, Nat.reduceEqDiff, reduceIte, argTs, asliceS, asliceL, bnd, boolV, intV, retQ, aRes, aResV, oneAV, AV.low, AV.low.lows, Nat.reduceAdd, isStringD, isSliceD, isBoolD, setRange, AV.cells, AV.isCell, AV.isAgg, abytes, aconv, aeq, isConst, isByteD, isIfaceD, endQ, Int.reduceToNat, Int.reduceLE, Int.reduceLT, Int.reduceEq, Int.reduceNe, Int.reduceAdd, Int.reduceSub, Int.reduceNeg, Nat.reduceLT, Nat.reduceLeDiff, Ent.ver, Ent.imm, Ent.ty, lits, isEl, newCells, aappend, Nat.reduceBEq, fill, undef, (st1), (st2), (st3), (st4), (st5), (st6), (st7), (st8), aMap, mget, mput, mclock, ksOK, keq, mres, fillA, isArrD, arrE, Nat.reduceMul]; try simp (disch := omega) only [wrapI64, Int.toNat_natCast, ← Int.natCast_add, nat_add_one, nat_add_two, take_drop_all, List.drop_zero, Nat.sub_zero, Nat.add_sub_cancel_left])
  refine ydraw T0 [11] (by kernel_rfl) (by kernel_rfl) (by kernel_rfl) (by kernel_rfl) ?_
  (simp only [gg2, hg1, hg2, tysV_len, (vm1), (vm2), (vm3), (vm4), aDet, ev, tget, tput, ofC, ofC1, pureR, condR, abin, aun, alen, gslot, Nat.reduceEqDiff, reduceIte, argTs, asliceS, asliceL, bnd, boolV, intV, retQ, aRes, aResV, oneAV, AV.low, AV.low.lows, Nat.reduceAdd, isStringD, isSliceD, isBoolD, setRange, AV.cells, AV.isCell, AV.isAgg, abytes, aconv, aeq, isConst, isByteD, isIfaceD, endQ, Int.reduceToNat, Int.reduceLE, Int.reduceLT, Int.reduceEq, Int.reduceNe, Int.reduceAdd, Int.reduceSub, Int.reduceNeg, Nat.reduceLT, Nat.reduceLeDiff, Ent.ver, Ent.imm, Ent.ty, lits, isEl, newCells, aappend, Nat.reduceBEq, fill, undef, (st1), (st2), (st3), (st4), (st5), (st6), (st7), (st8), aMap, mget, mput, mclock, ksOK, keq, mres, fillA, isArrD, arrE, Nat.reduceMul]; try simp (disch := omega) only [wrapI64, Int.toNat_natCast, ← Int.natCast_add, nat_add_one, nat_add_two, take_drop_all, List.drop_zero, Nat.sub_zero, Nat.add_sub_cancel_left])
  refine ⟨by omega, by omega, ?_⟩
  have hok := matT_okM (.mk d1 n1 us1) (.mk d2 n2 us2) si hb hsi
  have hh2 : ACalls E 45 [.agg [.str d1, .str n1, .sl (tysV us1)], .agg [.str d2, .str n2, .sl (tysV us2)], .mp m] ((S ++ [Ent.arr 24 [AV.str d, AV.str n, AV.sl (tysV us)] 0 0, Ent.arr 24 [AV.str d, AV.str n, AV.sl (tysV us')] 0 0, Ent.arr 57 [AV.mp m] 0 0]) ++ []) fun r τ => r = boolV (matT (.mk d1 n1 us1) (.mk d2 n2 us2) si).1 ∧ τ = (S2 ++ [Ent.arr 24 [AV.str d, AV.str n, AV.sl (tysV us)] 0 0, Ent.arr 24 [AV.str d, AV.str n, AV.sl (tysV us')] 0 0, Ent.arr 57 [AV.mp m] 0 0]) ++ [] := by
    rw [List.append_nil, List.append_nil]
    exact hh.mono fun r τ ⟨q1, q2, _⟩ => ⟨q1, q2⟩
  refine yNext.bar (by rfl) _ rfl hh2 (by simp; omega) ?_
  (simp only [(vm1), (vm2), (vm3), (vm4), aDet, ev, tget, tput, ofC, ofC1, pureR, condR, abin, aun, alen, gslot, Nat.reduceEqDiff, reduceIte, argTs, asliceS, asliceL, bnd, boolV, intV, retQ, aRes, aResV, oneAV, AV.low, AV.low.lows, Nat.reduceAdd, isStringD, isSliceD, isBoolD, setRange, AV.cells, AV.isCell, AV.isAgg, abytes, aconv, aeq, isConst, isByteD, isIfaceD, endQ, Int.reduceToNat, Int.reduceLE, Int.reduceLT, Int.reduceEq, Int.reduceNe, Int.reduceAdd, Int.reduceSub, Int.reduceNeg, Nat.reduceLT, Nat.reduceLeDiff, Ent.ver, Ent.imm, Ent.ty, lits, isEl, newCells, aappend, Nat.reduceBEq, fill, undef, (st1), (st2), (st3), (st4), (st5), (st6), (st7), (st8), aMap, mget, mput, mclock, ksOK, keq, mres, fillA, isArrD, arrE, Nat.reduceMul]; try simp (disch := omega) only [wrapI64, Int.toNat_natCast, ← Int.natCast_add, nat_add_one, nat_add_two, take_drop_all, List.drop_zero, Nat.sub_zero, Nat.add_sub_cancel_left])
  rw [List.length_append] at hlow
  exact ⟨hlow, hok⟩
set_option maxHeartbeats 4000000 in
theorem match_step (d n : List UInt8) (us : List Tr) (ih : ∀ u ∈ us, MT u) : MT (.mk d n us) := by
  intro u s σ m ht hu hs hm
  obtain ⟨hfew, hdn⟩ := okT_down d n us ht
  cases u with
  | mk d' n' us' =>
  have hlt := lt_of_get hm
  have gk : ∀ r, sget σ r m = some (mapE s) := fun r => by unfold sget; rw [if_pos hlt, hm]
  have sG0 : ∀ e, ssetG σ m e = σ.set m e := fun e => by unfold ssetG; rw [if_pos hlt]
  have sL0 : ∀ e l, ssetL σ l m e = l := fun e l => by unfold ssetL; rw [if_pos hlt]
  refine xacalls T0 .drop [] Tryz.func45 rfl (by kernel_rfl) (by kernel_rfl) (by simp [Tryz.ntmps45]) ?_
  have hself : σ = σ.set m (mapE s) := (list_set_self hm).symm
  by_cases hd : d = kiVar
  · have t1 : (d = [118, 97, 114]) = True := eq_true hd
    have hdk : (d = kiVar) = True := eq_true hd
    simp only [mapE] at gk
    cases hlk : s.look n with
    | none =>
      have hput := mput_ents n (.mk d' n' us') 0 s hlk
      have hok : okM (s ++ [(n, .mk d' n' us')]) := fun e he => by
        rcases List.mem_append.1 he with he | he
        · exact hs e he
        · simp at he; subst he; exact hu
      have heq : matT (.mk d n us) (.mk d' n' us') s = (true, s ++ [(n, .mk d' n' us')]) := by unfold matT; rw [if_pos hd, hlk]
      rw [heq]
      simp only [tyV, Nat.zero_add] at hput
      (simp only [tyV, t1, gk, sG0, sL0, mget_ents, hlk, hput, Option.map_none, Option.isSome_none, Bool.false_eq_true, if_false, (vm1), (vm2), (vm3), (vm4), aDet, ev, tget, tput, ofC, ofC1, pureR, condR, abin, aun, alen, gslot, Nat.reduceEqDiff, reduceIte, argTs, asliceS, asliceL, bnd, boolV, intV, retQ, aRes, aResV, oneAV, AV.low, AV.low.lows, Nat.reduceAdd, isStringD, isSliceD, isBoolD, setRange, AV.cells, AV.isCell, AV.isAgg, abytes, aconv, aeq, isConst, isByteD, isIfaceD, endQ, Int.reduceToNat, Int.reduceLE, Int.reduceLT, Int.reduceEq, Int.reduceNe, Int.reduceAdd, Int.reduceSub, Int.reduceNeg, Nat.reduceLT, Nat.reduceLeDiff, Ent.ver, Ent.imm, Ent.ty, lits, isEl, newCells, aappend, Nat.reduceBEq, fill, undef, (st1), (st2), (st3), (st4), (st5), (st6), (st7), (st8), aMap, mget, mput, mclock, ksOK, keq, mres, fillA, isArrD, arrE, Nat.reduceMul]; try simp (disch := omega) only [wrapI64, Int.toNat_natCast, ← Int.natCast_add, nat_add_one, nat_add_two, take_drop_all, List.drop_zero, Nat.sub_zero, Nat.add_sub_cancel_left])
      refine ⟨⟨rfl, fun e he => ents_keys tab _ _ 0 s e he⟩, ⟨rfl, fun e he => ents_keys tab _ _ 0 s e he⟩, ?_, ?_, hok⟩
      · exact storeLow_set (by have := mapE_low σ.length (s ++ [(n, .mk d' n' us')]); simpa only [mapE, List.length_append, List.length_cons, List.length_nil] using this)
      · simp only [mapE, List.length_append, List.length_cons, List.length_nil]
    | some t =>
      have heq : matT (.mk d n us) (.mk d' n' us') s = (sameB t (.mk d' n' us'), s) := by unfold matT; rw [if_pos hd, hlk]
      rw [heq]
      obtain ⟨e0, he0, rfl⟩ := look_mem hlk
      have hst := fun σ' => SameType_ok _ e0.2 (Nat.le_refl _) (.mk d' n' us') σ' (hs e0 he0) hu
      generalize e0.2 = t at *
      cases t with
      | mk d2 n2 us2 =>
      simp only [tyV] at hst
      (simp only [tyV, t1, gk, sG0, sL0, mget_ents, hlk, Option.map_some, Option.isSome_some, if_true, (vm1), (vm2), (vm3), (vm4), aDet, ev, tget, tput, ofC, ofC1, pureR, condR, abin, aun, alen, gslot, Nat.reduceEqDiff, reduceIte, argTs, asliceS, asliceL, bnd, boolV, intV, retQ, aRes, aResV, oneAV, AV.low, AV.low.lows, Nat.reduceAdd, isStringD, isSliceD, isBoolD, setRange, AV.cells, AV.isCell, AV.isAgg, abytes, aconv, aeq, isConst, isByteD, isIfaceD, endQ, Int.reduceToNat, Int.reduceLE, Int.reduceLT, Int.reduceEq, Int.reduceNe, Int.reduceAdd, Int.reduceSub, Int.reduceNeg, Nat.reduceLT, Nat.reduceLeDiff, Ent.ver, Ent.imm, Ent.ty, lits, isEl, newCells, aappend, Nat.reduceBEq, fill, undef, (st1), (st2), (st3), (st4), (st5), (st6), (st7), (st8), aMap, mget, mput, mclock, ksOK, keq, mres, fillA, isArrD, arrE, Nat.reduceMul]; try simp (disch := omega) only [wrapI64, Int.toNat_natCast, ← Int.natCast_add, nat_add_one, nat_add_two, take_drop_all, List.drop_zero, Nat.sub_zero, Nat.add_sub_cancel_left])
      refine ⟨⟨rfl, fun e he => ents_keys tab _ _ 0 s e he⟩, ?_⟩
      refine xWait.go (hst _) ?_
      (simp only [(vm1), (vm2), (vm3), (vm4), aDet, ev, tget, tput, ofC, ofC1, pureR, condR, abin, aun, alen, gslot, Nat.reduceEqDiff, reduceIte, argTs, asliceS, asliceL, bnd, boolV, intV, retQ, aRes, aResV, oneAV, AV.low, AV.low.lows, Nat.reduceAdd, isStringD, isSliceD, isBoolD, setRange, AV.cells, AV.isCell, AV.isAgg, abytes, aconv, aeq, isConst, isByteD, isIfaceD, endQ, Int.reduceToNat, Int.reduceLE, Int.reduceLT, Int.reduceEq, Int.reduceNe, Int.reduceAdd, Int.reduceSub, Int.reduceNeg, Nat.reduceLT, Nat.reduceLeDiff, Ent.ver, Ent.imm, Ent.ty, lits, isEl, newCells, aappend, Nat.reduceBEq, fill, undef, (st1), (st2), (st3), (st4), (st5), (st6), (st7), (st8), aMap, mget, mput, mclock, ksOK, keq, mres, fillA, isArrD, arrE, Nat.reduceMul]; try simp (disch := omega) only [wrapI64, Int.toNat_natCast, ← Int.natCast_add, nat_add_one, nat_add_two, take_drop_all, List.drop_zero, Nat.sub_zero, Nat.add_sub_cancel_left])
      exact ⟨hself, hs⟩
  · have n1 : ¬ d = [118, 97, 114] := hd
    by_cases h1 : d = d'
    rotate_left
    · have heq : matT (.mk d n us) (.mk d' n' us') s = (false, s) := by unfold matT; rw [if_neg hd, if_neg (fun h => h1 h.1)]
      rw [heq]
      (simp only [tyV, n1, h1, (vm1), (vm2), (vm3), (vm4), aDet, ev, tget, tput, ofC, ofC1, pureR, condR, abin, aun, alen, gslot, Nat.reduceEqDiff, reduceIte, argTs, asliceS, asliceL, bnd, boolV, intV, retQ, aRes, aResV, oneAV, AV.low, AV.low.lows, Nat.reduceAdd, isStringD, isSliceD, isBoolD, setRange, AV.cells, AV.isCell, AV.isAgg, abytes, aconv, aeq, isConst, isByteD, isIfaceD, endQ, Int.reduceToNat, Int.reduceLE, Int.reduceLT, Int.reduceEq, Int.reduceNe, Int.reduceAdd, Int.reduceSub, Int.reduceNeg, Nat.reduceLT, Nat.reduceLeDiff, Ent.ver, Ent.imm, Ent.ty, lits, isEl, newCells, aappend, Nat.reduceBEq, fill, undef, (st1), (st2), (st3), (st4), (st5), (st6), (st7), (st8), aMap, mget, mput, mclock, ksOK, keq, mres, fillA, isArrD, arrE, Nat.reduceMul]; try simp (disch := omega) only [wrapI64, Int.toNat_natCast, ← Int.natCast_add, nat_add_one, nat_add_two, take_drop_all, List.drop_zero, Nat.sub_zero, Nat.add_sub_cancel_left])
      exact ⟨hself, hs⟩
    subst h1
    by_cases h2 : n = n'
    rotate_left
    · have heq : matT (.mk d n us) (.mk d n' us') s = (false, s) := by unfold matT; rw [if_neg hd, if_neg (fun h => h2 h.2.1)]
      rw [heq]
      (simp only [tyV, n1, h2, eq_self, (vm1), (vm2), (vm3), (vm4), aDet, ev, tget, tput, ofC, ofC1, pureR, condR, abin, aun, alen, gslot, Nat.reduceEqDiff, reduceIte, argTs, asliceS, asliceL, bnd, boolV, intV, retQ, aRes, aResV, oneAV, AV.low, AV.low.lows, Nat.reduceAdd, isStringD, isSliceD, isBoolD, setRange, AV.cells, AV.isCell, AV.isAgg, abytes, aconv, aeq, isConst, isByteD, isIfaceD, endQ, Int.reduceToNat, Int.reduceLE, Int.reduceLT, Int.reduceEq, Int.reduceNe, Int.reduceAdd, Int.reduceSub, Int.reduceNeg, Nat.reduceLT, Nat.reduceLeDiff, Ent.ver, Ent.imm, Ent.ty, lits, isEl, newCells, aappend, Nat.reduceBEq, fill, undef, (st1), (st2), (st3), (st4), (st5), (st6), (st7), (st8), aMap, mget, mput, mclock, ksOK, keq, mres, fillA, isArrD, arrE, Nat.reduceMul]; try simp (disch := omega) only [wrapI64, Int.toNat_natCast, ← Int.natCast_add, nat_add_one, nat_add_two, take_drop_all, List.drop_zero, Nat.sub_zero, Nat.add_sub_cancel_left])
      exact ⟨hself, hs⟩
    subst h2
    by_cases h3 : (us.length : Int) = us'.length
    rotate_left
    · have heq : matT (.mk d n us) (.mk d n us') s = (false, s) := by unfold matT; rw [if_neg hd, if_neg (fun h => h3 (by omega))]
      rw [heq]
      (simp only [tyV, n1, h3, eq_self, tysV_len, (vm1), (vm2), (vm3), (vm4), aDet, ev, tget, tput, ofC, ofC1, pureR, condR, abin, aun, alen, gslot, Nat.reduceEqDiff, reduceIte, argTs, asliceS, asliceL, bnd, boolV, intV, retQ, aRes, aResV, oneAV, AV.low, AV.low.lows, Nat.reduceAdd, isStringD, isSliceD, isBoolD, setRange, AV.cells, AV.isCell, AV.isAgg, abytes, aconv, aeq, isConst, isByteD, isIfaceD, endQ, Int.reduceToNat, Int.reduceLE, Int.reduceLT, Int.reduceEq, Int.reduceNe, Int.reduceAdd, Int.reduceSub, Int.reduceNeg, Nat.reduceLT, Nat.reduceLeDiff, Ent.ver, Ent.imm, Ent.ty, lits, isEl, newCells, aappend, Nat.reduceBEq, fill, undef, (st1), (st2), (st3), (st4), (st5), (st6), (st7), (st8), aMap, mget, mput, mclock, ksOK, keq, mres, fillA, isArrD, arrE, Nat.reduceMul]; try simp (disch := omega) only [wrapI64, Int.toNat_natCast, ← Int.natCast_add, nat_add_one, nat_add_two, take_drop_all, List.drop_zero, Nat.sub_zero, Nat.add_sub_cancel_left])
      exact ⟨hself, hs⟩
    · have heq : matT (.mk d n us) (.mk d n us') s = matTs us us' s := by unfold matT; rw [if_neg hd, if_pos ⟨rfl, rfl, by omega⟩]
      rw [heq]
      (simp only [tyV, n1, h3, eq_self, tysV_len, (vm1), (vm2), (vm3), (vm4), aDet, ev, tget, tput, ofC, ofC1, pureR, condR, abin, aun, alen, gslot, Nat.reduceEqDiff, reduceIte, argTs, asliceS, asliceL, bnd, boolV, intV, retQ, aRes, aResV, oneAV, AV.low, AV.low.lows, Nat.reduceAdd, isStringD, isSliceD, isBoolD, setRange, AV.cells, AV.isCell, AV.isAgg, abytes, aconv, aeq, isConst, isByteD, isIfaceD, endQ, Int.reduceToNat, Int.reduceLE, Int.reduceLT, Int.reduceEq, Int.reduceNe, Int.reduceAdd, Int.reduceSub, Int.reduceNeg, Nat.reduceLT, Nat.reduceLeDiff, Ent.ver, Ent.imm, Ent.ty, lits, isEl, newCells, aappend, Nat.reduceBEq, fill, undef, (st1), (st2), (st3), (st4), (st5), (st6), (st7), (st8), aMap, mget, mput, mclock, ksOK, keq, mres, fillA, isArrD, arrE, Nat.reduceMul]; try simp (disch := omega) only [wrapI64, Int.toNat_natCast, ← Int.natCast_add, nat_add_one, nat_add_two, take_drop_all, List.drop_zero, Nat.sub_zero, Nat.add_sub_cancel_left])
      have hix := fun σ' => indexes_ok us hfew σ'
      refine xWait.go (hix _) ?_
      (simp only [(vm1), (vm2), (vm3), (vm4), aDet, ev, tget, tput, ofC, ofC1, pureR, condR, abin, aun, alen, gslot, Nat.reduceEqDiff, reduceIte, argTs, asliceS, asliceL, bnd, boolV, intV, retQ, aRes, aResV, oneAV, AV.low, AV.low.lows, Nat.reduceAdd, isStringD, isSliceD, isBoolD, setRange, AV.cells, AV.isCell, AV.isAgg, abytes, aconv, aeq, isConst, isByteD, isIfaceD, endQ, Int.reduceToNat, Int.reduceLE, Int.reduceLT, Int.reduceEq, Int.reduceNe, Int.reduceAdd, Int.reduceSub, Int.reduceNeg, Nat.reduceLT, Nat.reduceLeDiff, Ent.ver, Ent.imm, Ent.ty, lits, isEl, newCells, aappend, Nat.reduceBEq, fill, undef, (st1), (st2), (st3), (st4), (st5), (st6), (st7), (st8), aMap, mget, mput, mclock, ksOK, keq, mres, fillA, isArrD, arrE, Nat.reduceMul]; try simp (disch := omega) only [wrapI64, Int.toNat_natCast, ← Int.natCast_add, nat_add_one, nat_add_two, take_drop_all, List.drop_zero, Nat.sub_zero, Nat.add_sub_cancel_left])
      have h3' : us.length = us'.length := by omega
      generalize hL : [Ent.arr 24 [AV.str d, AV.str n, AV.sl (tysV us)] 0 0, Ent.arr 24 [AV.str d, AV.str n, AV.sl (tysV us')] 0 0, Ent.arr 57 [AV.mp m] 0 0] = L
      have key := conI_ok 86 [.ref σ.length 0 0, .ref (σ.length + 1) 0 0, .ref (σ.length + 2) 0 0] us.length (by omega)
        (fun i => σ.set m (mapE (matTs (us.take i) (us'.take i) s).2) ++ L) (fun i => (matTs (us.take i) (us'.take i) s).1 = true ∧ okM (matTs (us.take i) (us'.take i) s).2)
        (fun i τ => (matTs us us' s).1 = false ∧ okM (matTs us us' s).2 ∧ τ = σ.set m (mapE (matTs us us' s).2) ++ L)
        (fun i j => by simp) ⟨by simp only [List.take_zero, matTs], by simpa only [List.take_zero, matTs] using hs⟩ ?_
      · simp only [List.take_zero, matTs] at key
        rw [← hself] at key
        refine xWait.of key ?_
        have h4 : us'.take us.length = us' := List.take_of_length_le (by omega)
        have h5 : us.take us.length = us := List.take_of_length_le (Nat.le_refl _)
        rintro r τ (⟨rfl, ⟨q1, q2⟩, rfl⟩ | ⟨rfl, i, hi, _, q1, q2, rfl⟩)
        · rw [h4, h5] at q1 q2 ⊢
          have e1 : List.take σ.length (σ.set m (mapE (matTs us us' s).2) ++ L) = σ.set m (mapE (matTs us us' s).2) := by rw [List.take_append_of_le_length (by simp), List.take_of_length_le (by simp)]
          have e2 : List.drop σ.length (σ.set m (mapE (matTs us us' s).2) ++ L) = L := by rw [List.drop_append_of_le_length (by simp), List.drop_of_length_le (by simp), List.nil_append]
          (simp only [e1, e2, (vm1), (vm2), (vm3), (vm4), aDet, ev, tget, tput, ofC, ofC1, pureR, condR, abin, aun, alen, gslot, Nat.reduceEqDiff, reduceIte, argTs, asliceS, asliceL, bnd, boolV, intV, retQ, aRes, aResV, oneAV, AV.low, AV.low.lows, Nat.reduceAdd, isStringD, isSliceD, isBoolD, setRange, AV.cells, AV.isCell, AV.isAgg, abytes, aconv, aeq, isConst, isByteD, isIfaceD, endQ, Int.reduceToNat, Int.reduceLE, Int.reduceLT, Int.reduceEq, Int.reduceNe, Int.reduceAdd, Int.reduceSub, Int.reduceNeg, Nat.reduceLT, Nat.reduceLeDiff, Ent.ver, Ent.imm, Ent.ty, lits, isEl, newCells, aappend, Nat.reduceBEq, fill, undef, (st1), (st2), (st3), (st4), (st5), (st6), (st7), (st8), aMap, mget, mput, mclock, ksOK, keq, mres, fillA, isArrD, arrE, Nat.reduceMul]; try simp (disch := omega) only [wrapI64, Int.toNat_natCast, ← Int.natCast_add, nat_add_one, nat_add_two, take_drop_all, List.drop_zero, Nat.sub_zero, Nat.add_sub_cancel_left])
          exact ⟨storeLow_set (mapE_low _ _), by rw [q1], q2⟩
        · have e1 : List.take σ.length (σ.set m (mapE (matTs us us' s).2) ++ L) = σ.set m (mapE (matTs us us' s).2) := by rw [List.take_append_of_le_length (by simp), List.take_of_length_le (by simp)]
          have e2 : List.drop σ.length (σ.set m (mapE (matTs us us' s).2) ++ L) = L := by rw [List.drop_append_of_le_length (by simp), List.drop_of_length_le (by simp), List.nil_append]
          (simp only [e1, e2, (vm1), (vm2), (vm3), (vm4), aDet, ev, tget, tput, ofC, ofC1, pureR, condR, abin, aun, alen, gslot, Nat.reduceEqDiff, reduceIte, argTs, asliceS, asliceL, bnd, boolV, intV, retQ, aRes, aResV, oneAV, AV.low, AV.low.lows, Nat.reduceAdd, isStringD, isSliceD, isBoolD, setRange, AV.cells, AV.isCell, AV.isAgg, abytes, aconv, aeq, isConst, isByteD, isIfaceD, endQ, Int.reduceToNat, Int.reduceLE, Int.reduceLT, Int.reduceEq, Int.reduceNe, Int.reduceAdd, Int.reduceSub, Int.reduceNeg, Nat.reduceLT, Nat.reduceLeDiff, Ent.ver, Ent.imm, Ent.ty, lits, isEl, newCells, aappend, Nat.reduceBEq, fill, undef, (st1), (st2), (st3), (st4), (st5), (st6), (st7), (st8), aMap, mget, mput, mclock, ksOK, keq, mres, fillA, isArrD, arrE, Nat.reduceMul]; try simp (disch := omega) only [wrapI64, Int.toNat_natCast, ← Int.natCast_add, nat_add_one, nat_add_two, take_drop_all, List.drop_zero, Nat.sub_zero, Nat.add_sub_cancel_left])
          exact ⟨storeLow_set (mapE_low _ _), by rw [q1], q2⟩
      · intro i hi ⟨hI1, hI2⟩
        have hu1 : us[i]? = some us[i] := List.getElem?_eq_getElem hi
        have hi' : i < us'.length := by omega
        have hu2 : us'[i]? = some us'[i] := List.getElem?_eq_getElem hi'
        obtain ⟨s1, s2⟩ := take_split us i _ hu1
        obtain ⟨s3, s4⟩ := take_split us' i _ hu2
        have hm1 : us[i] ∈ us := List.getElem_mem hi
        have hm2 : us'[i] ∈ us' := List.getElem_mem hi'
        generalize us[i] = a at *
        generalize us'[i] = b at *
        have hlen : (us.take i).length = (us'.take i).length := by simp; omega
        generalize hsi : (matTs (us.take i) (us'.take i) s).2 = si at *
        have hlow : lenTs us' := by simp only [lenT] at hu; exact hu.2.2
        refine (match1_ok d n us us' σ m i a b si hu1 hu2 hi hi' hm L hL (ih a hm1) (hdn a hm1) (lenTs_mem hlow hm2) hI2).mono fun r τ ⟨r1, r2, r3⟩ => ?_
        cases hb : (matT a b si).1
        · right
          rw [hb] at r1
          have hall := matTs_stop (us.take i) (us'.take i) a b (us.drop (i + 1)) (us'.drop (i + 1)) s hlen hI1 (by rw [hsi]; exact hb)
          rw [← s2, ← s4, hsi] at hall
          exact ⟨r1, by rw [hall], by rw [hall]; exact r3, by rw [hall]; exact r2⟩
        · left
          rw [hb] at r1
          have hone := matTs_one (us.take i) (us'.take i) a b s hlen hI1 (by rw [hsi]; exact hb)
          rw [← s1, ← s3, hsi] at hone
          exact ⟨r1, ⟨by rw [hone], by rw [hone]; exact r3⟩, by rw [hone]; exact r2⟩
theorem match_ok : ∀ (m : Nat) (t : Tr), SizeOf.sizeOf t ≤ m → MT t
  | 0, .mk d n us, h => by simp at h
  | m + 1, .mk d n us, h => match_step d n us fun u hu => match_ok m u (by
      have := List.sizeOf_lt_of_mem hu
      simp at h; omega)
end Go.D

/- What makes a type another one: what is found. (No program in sight.) -/
set_option linter.unusedVariables false
set_option linter.unusedSimpArgs false
namespace Go.D
open Go Go.Vm

theorem look_app : ∀ (s : Sub') (n m : List UInt8) (t : Tr), Sub'.look (s ++ [(n, t)]) m = match Sub'.look s m with | some x => some x | none => if m = n then some t else none
  | [], n, m, t => by simp [Sub'.look]
  | e :: r, n, m, t => by
    simp only [List.cons_append, Sub'.look]
    by_cases h : m = e.1
    · simp [h]
    · simp only [h, if_false]; exact look_app r n m t
mutual
theorem matT_mono : ∀ (t u : Tr) (s : Sub') (n : List UInt8) (x : Tr), Sub'.look s n = some x → Sub'.look (matT t u s).2 n = some x
  | .mk d n us, .mk d' n' us', s, m, x, h => by
    unfold matT
    split
    · split
      · simp only [look_app, h]
      · exact h
    · split
      · exact matTs_mono us us' s m x h
      · exact h
theorem matTs_mono : ∀ (l l' : List Tr) (s : Sub') (n : List UInt8) (x : Tr), Sub'.look s n = some x → Sub'.look (matTs l l' s).2 n = some x
  | [], _, s, _, _, h => by simp only [matTs]; exact h
  | _ :: _, [], s, _, _, h => by simp only [matTs]; exact h
  | t :: ts, u :: us, s, m, x, h => by
    simp only [matTs]
    split
    · exact matTs_mono ts us _ m x (matT_mono t u s m x h)
    · exact matT_mono t u s m x h
end
mutual
/-- Where it matches, each variable has become something. -/
theorem matT_dom : ∀ (t u : Tr) (s : Sub') (acc : List (List UInt8)), typeB conB t = true → (matT t u s).1 = true → (∀ n ∈ acc, (Sub'.look s n).isSome = true) → ∀ n ∈ ordT t acc, (Sub'.look (matT t u s).2 n).isSome = true
  | .mk d n us, .mk d' n' us', s, acc, ht, h, ha, m, hm => by
    simp only [typeB, Bool.and_eq_true, decide_eq_true_eq] at ht
    unfold matT at h ⊢
    by_cases hd : d = kiVar
    · have hus : us = [] := by
        have : partsI kiVar = 0 := by decide
        have h4 := ht.2.2.2.1
        rw [hd, this] at h4
        exact List.length_eq_zero_iff.1 (by omega)
      subst hus
      simp only [if_pos hd] at h ⊢
      simp only [ordT, ordTs, hd, true_and] at hm
      cases hlk : Sub'.look s n with
      | none =>
        simp only [look_app]
        by_cases hmn : m = n
        · subst hmn; simp [hlk]
        · have hma : m ∈ acc := by
            split at hm
            · rcases List.mem_append.1 hm with hm | hm
              · exact hm
              · simp at hm; exact absurd hm hmn
            · exact hm
          obtain ⟨x, hx⟩ := Option.isSome_iff_exists.1 (ha m hma)
          simp [hx]
      | some t =>
        simp only
        split at hm
        · rcases List.mem_append.1 hm with hm | hm
          · exact ha m hm
          · simp at hm; subst hm; rw [hlk]; rfl
        · exact ha m hm
    · simp only [if_neg hd] at h ⊢
      simp only [ordT, hd, false_and, if_false] at hm
      by_cases hc : d = d' ∧ n = n' ∧ us.length = us'.length
      · simp only [if_pos hc] at h ⊢
        exact matTs_dom us us' s acc ht.2.2.2.2 hc.2.2 h ha m hm
      · simp only [if_neg hc] at h; cases h
theorem matTs_dom : ∀ (l l' : List Tr) (s : Sub') (acc : List (List UInt8)), typeBs conB l = true → l.length = l'.length → (matTs l l' s).1 = true → (∀ n ∈ acc, (Sub'.look s n).isSome = true) → ∀ n ∈ ordTs l acc, (Sub'.look (matTs l l' s).2 n).isSome = true
  | [], [], s, acc, _, _, h, ha, m, hm => by simp only [ordTs] at hm; simp only [matTs]; exact ha m hm
  | t :: ts, u :: us, s, acc, ht, hl, h, ha, m, hm => by
    simp only [typeBs, Bool.and_eq_true] at ht
    simp only [matTs] at h ⊢
    by_cases hh : (matT t u s).1 = true
    · simp only [hh, if_true] at h ⊢
      simp only [ordTs] at hm
      exact matTs_dom ts us _ _ ht.2 (by simpa using hl) h (matT_dom t u s acc ht.1 hh ha) m hm
    · simp [hh] at h
end
mutual
theorem ordT_names : ∀ (t : Tr) (acc : List (List UInt8)), typeB conB t = true → acc.Nodup → (∀ n ∈ acc, varB n = true) → (ordT t acc).Nodup ∧ ∀ n ∈ ordT t acc, varB n = true
  | .mk d n us, acc, ht, h1, h2 => by
    simp only [typeB, Bool.and_eq_true] at ht
    simp only [ordT]
    split
    · rename_i hc
      have hv : varB n = true := by have := ht.2.1; rw [hc.1] at this; simpa using this
      refine ordTs_names us _ ht.2.2.2.2 ?_ ?_
      · rw [List.nodup_append]; exact ⟨h1, by simp, fun a ha b hb => by simp at hb; subst hb; exact fun h => hc.2 (h ▸ ha)⟩
      · intro m hm
        rcases List.mem_append.1 hm with hm | hm
        · exact h2 m hm
        · simp at hm; subst hm; exact hv
    · exact ordTs_names us _ ht.2.2.2.2 h1 h2
theorem ordTs_names : ∀ (l : List Tr) (acc : List (List UInt8)), typeBs conB l = true → acc.Nodup → (∀ n ∈ acc, varB n = true) → (ordTs l acc).Nodup ∧ ∀ n ∈ ordTs l acc, varB n = true
  | [], acc, _, h1, h2 => by simp only [ordTs]; exact ⟨h1, h2⟩
  | t :: ts, acc, ht, h1, h2 => by
    simp only [typeBs, Bool.and_eq_true] at ht
    obtain ⟨a, b⟩ := ordT_names t acc ht.1 h1 h2
    simp only [ordTs]
    exact ordTs_names ts _ ht.2 a b
end
/-- All values of a map have the shape of types. -/
def okV (s : Sub') : Prop := ∀ e ∈ s, okT e.2
mutual
theorem matT_okV : ∀ (t u : Tr) (s : Sub'), okT u → okV s → okV (matT t u s).2
  | .mk d n us, .mk d' n' us', s, hu, hs => by
    unfold matT
    split
    · split
      · intro e he
        rcases List.mem_append.1 he with he | he
        · exact hs e he
        · simp at he; subst he; exact hu
      · exact hs
    · split
      · exact matTs_okV us us' s (okT_down _ _ _ hu).2 hs
      · exact hs
theorem matTs_okV : ∀ (l l' : List Tr) (s : Sub'), (∀ u ∈ l', okT u) → okV s → okV (matTs l l' s).2
  | [], _, s, _, hs => by simp only [matTs]; exact hs
  | _ :: _, [], s, _, hs => by simp only [matTs]; exact hs
  | t :: ts, u :: us, s, hu, hs => by
    simp only [matTs]
    split
    · exact matTs_okV ts us _ (fun x hx => hu x (by simp [hx])) (matT_okV t u s (hu u (by simp)) hs)
    · exact matT_okV t u s (hu u (by simp)) hs
end
end Go.D

/- The substitution that makes a type another one. -/
set_option linter.unusedVariables false
set_option linter.unusedSimpArgs false
set_option linter.unnecessarySimpa false
set_option maxRecDepth 100000
namespace Go.D
open Go Go.Vm Go.Proofs Go.RowKit

/-- A claim: a name and a type. -/
abbrev Cl := List UInt8 × Tr
def clC (c : Cl) : List AV := .str c.1 :: tyCells c.2
def clV (c : Cl) : AV := .agg (clC c)
def clsV (l : List Cl) : List AV := l.map clV
theorem clsV_len (l : List Cl) : (clsV l).length = l.length := by simp [clsV]
theorem clC_len (c : Cl) : (clC c).length = 4 := by obtain ⟨n, t⟩ := c; cases t; rfl
theorem clCs_len (l : List Cl) : (l.flatMap clC).length = l.length * 4 := by
  induction l with
  | nil => rfl
  | cons a r ih => rw [List.flatMap_cons, List.length_append, ih, clC_len]; simp only [List.length_cons]; omega
theorem clsV_cells (l : List Cl) : (clsV l).flatMap AV.cells = l.flatMap clC := by
  induction l with
  | nil => rfl
  | cons a r ih => simp only [clsV, List.map_cons, List.flatMap_cons] at ih ⊢; rw [ih]; rfl
theorem clC_low (n : Nat) (c : Cl) : AV.low.lows n (clC c) = true := by
  obtain ⟨m, t⟩ := c; cases t
  simp only [clC, tyCells, AV.low.lows, AV.low, tysV_low, Bool.and_self]
theorem clsV_low (n : Nat) : ∀ l : List Cl, AV.low.lows n (clsV l) = true
  | [] => rfl
  | a :: r => by
    have := clsV_low n r
    simp only [clsV, List.map_cons, AV.low.lows] at this ⊢
    rw [this]; simp only [clV, AV.low, clC_low, Bool.and_self]
theorem clV_el (c : Cl) : isEl 4 true (clV c) = true := by obtain ⟨m, t⟩ := c; cases t; rfl
def rowC (n : Nat) (acc : List Cl) : AV := match acc with
  | [] => .v (.slice none 0 0)
  | _ :: r => .rsl n r.length 0 (r.length + 1) 4
/-- What is found, by names in order. -/
def clsOf (s : Sub') (l : List (List UInt8)) : List Cl := l.map fun n => (n, (Sub'.look s n).getD (.mk [] [] []))
def instR (g u : Tr) : List Cl × Int :=
  if validT conB g = true ∧ validT conB u = true then
    if (matT g u []).1 = true then (clsOf (matT g u []).2 (sortS (ordT g [])), 0) else ([], 5)
  else ([], 40)
theorem set_l2' (σ : List Ent) (a b c x : Ent) : (σ ++ [a, b, c]).set (σ.length + 2) x = σ ++ [a, b, x] := by
  rw [List.set_append, if_neg (by omega)]; simp
set_option maxHeartbeats 4000000 in
theorem Instance_ok (g u : Tr) (hg : lenT g) (hu : lenT u) (σ : List Ent) : ACalls E 13 [tyV g, tyV u] σ fun r τ => r = .tup [.sl (clsV (instR g u).1), i64 (instR g u).2] ∧ τ = σ := by
  refine xacalls T0 .freeze [] Tryz.func13 rfl (by kernel_rfl) (by kernel_rfl) (by simp [Tryz.ntmps13]) ?_
  have hv1 := fun σ' => ValidType_ok g hg σ'
  have hv2 := fun σ' => ValidType_ok u hu σ'
  have hok : ∀ t, lenT t → validT conB t = true → okT t := fun t h1 h2 => ⟨h1, by unfold validT at h2; simp only [Bool.and_eq_true] at h2; exact h2.1⟩
  cases hb1 : validT conB g
  · have heq : instR g u = ([], 40) := by unfold instR; rw [if_neg (by rw [hb1]; simp)]
    rw [heq]
    cases g with
    | mk d n us =>
    cases u with
    | mk d' n' us' =>
    simp only [tyV, hb1] at hv1 hv2
    (simp only [tyV, (vm1), (vm2), (vm3), (vm4), aDet, ev, tget, tput, ofC, ofC1, pureR, condR, abin, aun, alen, gslot, Nat.reduceEqDiff, reduceIte, argTs, asliceS, asliceL, bnd, boolV, intV, retQ, aRes, aResV, oneAV, AV.low, AV.low.lows, Nat.reduceAdd, isStringD, isSliceD, isBoolD, setRange, AV.cells, AV.isCell, AV.isAgg, abytes, aconv, aeq, isConst, isByteD, isIfaceD, endQ, Int.reduceToNat, Int.reduceLE, Int.reduceLT, Int.reduceEq, Int.reduceNe, Int.reduceAdd, Int.reduceSub, Int.reduceNeg, Nat.reduceLT, Nat.reduceLeDiff, Ent.ver, Ent.imm, Ent.ty, lits, isEl, newCells, aappend, Nat.reduceBEq, fill, undef, (st1), (st2), (st3), (st4), (st5), (st6), (st7), (st8), aMap, mget, mput, mclock, ksOK, keq, mres, fillA, isArrD, arrE, Nat.reduceMul]; try simp (disch := omega) only [wrapI64, Int.toNat_natCast, ← Int.natCast_add, nat_add_one, nat_add_two, take_drop_all, List.drop_zero, Nat.sub_zero, Nat.add_sub_cancel_left])
    refine xWait.go (hv1 _) ?_
    (simp only [(vm1), (vm2), (vm3), (vm4), aDet, ev, tget, tput, ofC, ofC1, pureR, condR, abin, aun, alen, gslot, Nat.reduceEqDiff, reduceIte, argTs, asliceS, asliceL, bnd, boolV, intV, retQ, aRes, aResV, oneAV, AV.low, AV.low.lows, Nat.reduceAdd, isStringD, isSliceD, isBoolD, setRange, AV.cells, AV.isCell, AV.isAgg, abytes, aconv, aeq, isConst, isByteD, isIfaceD, endQ, Int.reduceToNat, Int.reduceLE, Int.reduceLT, Int.reduceEq, Int.reduceNe, Int.reduceAdd, Int.reduceSub, Int.reduceNeg, Nat.reduceLT, Nat.reduceLeDiff, Ent.ver, Ent.imm, Ent.ty, lits, isEl, newCells, aappend, Nat.reduceBEq, fill, undef, (st1), (st2), (st3), (st4), (st5), (st6), (st7), (st8), aMap, mget, mput, mclock, ksOK, keq, mres, fillA, isArrD, arrE, Nat.reduceMul]; try simp (disch := omega) only [wrapI64, Int.toNat_natCast, ← Int.natCast_add, nat_add_one, nat_add_two, take_drop_all, List.drop_zero, Nat.sub_zero, Nat.add_sub_cancel_left])
    exact ⟨_, .tup (.cons .none (.cons (.refl _) .nil)), by simp only [AV.low, AV.low.lows, Bool.and_self], rfl⟩
  cases hb2 : validT conB u
  · have heq : instR g u = ([], 40) := by unfold instR; rw [if_neg (by rw [hb2]; simp)]
    rw [heq]
    cases g with
    | mk d n us =>
    cases u with
    | mk d' n' us' =>
    simp only [tyV, hb1, hb2] at hv1 hv2
    (simp only [tyV, (vm1), (vm2), (vm3), (vm4), aDet, ev, tget, tput, ofC, ofC1, pureR, condR, abin, aun, alen, gslot, Nat.reduceEqDiff, reduceIte, argTs, asliceS, asliceL, bnd, boolV, intV, retQ, aRes, aResV, oneAV, AV.low, AV.low.lows, Nat.reduceAdd, isStringD, isSliceD, isBoolD, setRange, AV.cells, AV.isCell, AV.isAgg, abytes, aconv, aeq, isConst, isByteD, isIfaceD, endQ, Int.reduceToNat, Int.reduceLE, Int.reduceLT, Int.reduceEq, Int.reduceNe, Int.reduceAdd, Int.reduceSub, Int.reduceNeg, Nat.reduceLT, Nat.reduceLeDiff, Ent.ver, Ent.imm, Ent.ty, lits, isEl, newCells, aappend, Nat.reduceBEq, fill, undef, (st1), (st2), (st3), (st4), (st5), (st6), (st7), (st8), aMap, mget, mput, mclock, ksOK, keq, mres, fillA, isArrD, arrE, Nat.reduceMul]; try simp (disch := omega) only [wrapI64, Int.toNat_natCast, ← Int.natCast_add, nat_add_one, nat_add_two, take_drop_all, List.drop_zero, Nat.sub_zero, Nat.add_sub_cancel_left])
    refine xWait.go (hv1 _) ?_
    (simp only [(vm1), (vm2), (vm3), (vm4), aDet, ev, tget, tput, ofC, ofC1, pureR, condR, abin, aun, alen, gslot, Nat.reduceEqDiff, reduceIte, argTs, asliceS, asliceL, bnd, boolV, intV, retQ, aRes, aResV, oneAV, AV.low, AV.low.lows, Nat.reduceAdd, isStringD, isSliceD, isBoolD, setRange, AV.cells, AV.isCell, AV.isAgg, abytes, aconv, aeq, isConst, isByteD, isIfaceD, endQ, Int.reduceToNat, Int.reduceLE, Int.reduceLT, Int.reduceEq, Int.reduceNe, Int.reduceAdd, Int.reduceSub, Int.reduceNeg, Nat.reduceLT, Nat.reduceLeDiff, Ent.ver, Ent.imm, Ent.ty, lits, isEl, newCells, aappend, Nat.reduceBEq, fill, undef, (st1), (st2), (st3), (st4), (st5), (st6), (st7), (st8), aMap, mget, mput, mclock, ksOK, keq, mres, fillA, isArrD, arrE, Nat.reduceMul]; try simp (disch := omega) only [wrapI64, Int.toNat_natCast, ← Int.natCast_add, nat_add_one, nat_add_two, take_drop_all, List.drop_zero, Nat.sub_zero, Nat.add_sub_cancel_left])
    refine xWait.go (hv2 _) ?_
    (simp only [(vm1), (vm2), (vm3), (vm4), aDet, ev, tget, tput, ofC, ofC1, pureR, condR, abin, aun, alen, gslot, Nat.reduceEqDiff, reduceIte, argTs, asliceS, asliceL, bnd, boolV, intV, retQ, aRes, aResV, oneAV, AV.low, AV.low.lows, Nat.reduceAdd, isStringD, isSliceD, isBoolD, setRange, AV.cells, AV.isCell, AV.isAgg, abytes, aconv, aeq, isConst, isByteD, isIfaceD, endQ, Int.reduceToNat, Int.reduceLE, Int.reduceLT, Int.reduceEq, Int.reduceNe, Int.reduceAdd, Int.reduceSub, Int.reduceNeg, Nat.reduceLT, Nat.reduceLeDiff, Ent.ver, Ent.imm, Ent.ty, lits, isEl, newCells, aappend, Nat.reduceBEq, fill, undef, (st1), (st2), (st3), (st4), (st5), (st6), (st7), (st8), aMap, mget, mput, mclock, ksOK, keq, mres, fillA, isArrD, arrE, Nat.reduceMul]; try simp (disch := omega) only [wrapI64, Int.toNat_natCast, ← Int.natCast_add, nat_add_one, nat_add_two, take_drop_all, List.drop_zero, Nat.sub_zero, Nat.add_sub_cancel_left])
    exact ⟨_, .tup (.cons .none (.cons (.refl _) .nil)), by simp only [AV.low, AV.low.lows, Bool.and_self], rfl⟩
  have og := hok g hg hb1
  have ou := hok u hu hb2
  have hma := fun σ' mm hm => match_ok _ g (Nat.le_refl _) u [] σ' mm og hu (fun e he => by cases he) hm
  have hva := fun σ' => vars_ok g og σ'
  have hdom := fun h => matT_dom g u [] [] og.2 h (fun n hn => by cases hn)
  have hval := matT_okV g u [] ou (fun e he => by cases he)
  have hnm := ordT_names g [] og.2 (by simp) (by simp)
  have hvar : (sortS (ordT g [])).length ≤ 26 := by unfold sortS; rw [List.length_mergeSort]; exact vars_few hnm.1 hnm.2
  have hmem : ∀ n, n ∈ sortS (ordT g []) ↔ n ∈ ordT g [] := fun n => List.mem_mergeSort
  cases hb3 : (matT g u []).1
  · have heq : instR g u = ([], 5) := by unfold instR; rw [if_pos ⟨hb1, hb2⟩, if_neg (by rw [hb3]; simp)]
    rw [heq]
    cases g with
    | mk d n us =>
    cases u with
    | mk d' n' us' =>
    simp only [tyV, hb1, hb2, hb3] at hv1 hv2 hma
    (simp only [tyV, (vm1), (vm2), (vm3), (vm4), aDet, ev, tget, tput, ofC, ofC1, pureR, condR, abin, aun, alen, gslot, Nat.reduceEqDiff, reduceIte, argTs, asliceS, asliceL, bnd, boolV, intV, retQ, aRes, aResV, oneAV, AV.low, AV.low.lows, Nat.reduceAdd, isStringD, isSliceD, isBoolD, setRange, AV.cells, AV.isCell, AV.isAgg, abytes, aconv, aeq, isConst, isByteD, isIfaceD, endQ, Int.reduceToNat, Int.reduceLE, Int.reduceLT, Int.reduceEq, Int.reduceNe, Int.reduceAdd, Int.reduceSub, Int.reduceNeg, Nat.reduceLT, Nat.reduceLeDiff, Ent.ver, Ent.imm, Ent.ty, lits, isEl, newCells, aappend, Nat.reduceBEq, fill, undef, (st1), (st2), (st3), (st4), (st5), (st6), (st7), (st8), aMap, mget, mput, mclock, ksOK, keq, mres, fillA, isArrD, arrE, Nat.reduceMul]; try simp (disch := omega) only [wrapI64, Int.toNat_natCast, ← Int.natCast_add, nat_add_one, nat_add_two, take_drop_all, List.drop_zero, Nat.sub_zero, Nat.add_sub_cancel_left])
    refine xWait.go (hv1 _) ?_
    (simp only [(vm1), (vm2), (vm3), (vm4), aDet, ev, tget, tput, ofC, ofC1, pureR, condR, abin, aun, alen, gslot, Nat.reduceEqDiff, reduceIte, argTs, asliceS, asliceL, bnd, boolV, intV, retQ, aRes, aResV, oneAV, AV.low, AV.low.lows, Nat.reduceAdd, isStringD, isSliceD, isBoolD, setRange, AV.cells, AV.isCell, AV.isAgg, abytes, aconv, aeq, isConst, isByteD, isIfaceD, endQ, Int.reduceToNat, Int.reduceLE, Int.reduceLT, Int.reduceEq, Int.reduceNe, Int.reduceAdd, Int.reduceSub, Int.reduceNeg, Nat.reduceLT, Nat.reduceLeDiff, Ent.ver, Ent.imm, Ent.ty, lits, isEl, newCells, aappend, Nat.reduceBEq, fill, undef, (st1), (st2), (st3), (st4), (st5), (st6), (st7), (st8), aMap, mget, mput, mclock, ksOK, keq, mres, fillA, isArrD, arrE, Nat.reduceMul]; try simp (disch := omega) only [wrapI64, Int.toNat_natCast, ← Int.natCast_add, nat_add_one, nat_add_two, take_drop_all, List.drop_zero, Nat.sub_zero, Nat.add_sub_cancel_left])
    refine xWait.go (hv2 _) ?_
    (simp only [(vm1), (vm2), (vm3), (vm4), aDet, ev, tget, tput, ofC, ofC1, pureR, condR, abin, aun, alen, gslot, Nat.reduceEqDiff, reduceIte, argTs, asliceS, asliceL, bnd, boolV, intV, retQ, aRes, aResV, oneAV, AV.low, AV.low.lows, Nat.reduceAdd, isStringD, isSliceD, isBoolD, setRange, AV.cells, AV.isCell, AV.isAgg, abytes, aconv, aeq, isConst, isByteD, isIfaceD, endQ, Int.reduceToNat, Int.reduceLE, Int.reduceLT, Int.reduceEq, Int.reduceNe, Int.reduceAdd, Int.reduceSub, Int.reduceNeg, Nat.reduceLT, Nat.reduceLeDiff, Ent.ver, Ent.imm, Ent.ty, lits, isEl, newCells, aappend, Nat.reduceBEq, fill, undef, (st1), (st2), (st3), (st4), (st5), (st6), (st7), (st8), aMap, mget, mput, mclock, ksOK, keq, mres, fillA, isArrD, arrE, Nat.reduceMul]; try simp (disch := omega) only [wrapI64, Int.toNat_natCast, ← Int.natCast_add, nat_add_one, nat_add_two, take_drop_all, List.drop_zero, Nat.sub_zero, Nat.add_sub_cancel_left])
    have hm0 := fun a b => hma (σ ++ [a, b, Ent.map [] 0]) (σ.length + 2) (by rw [List.getElem?_append_right (by omega), Nat.add_sub_cancel_left]; rfl)
    simp only [set_l2'] at hm0
    refine xWait.of (hm0 _ _) ?_
    rintro r τ ⟨rfl, rfl, _⟩
    rw [List.take_left, List.drop_left]
    (simp only [(vm1), (vm2), (vm3), (vm4), aDet, ev, tget, tput, ofC, ofC1, pureR, condR, abin, aun, alen, gslot, Nat.reduceEqDiff, reduceIte, argTs, asliceS, asliceL, bnd, boolV, intV, retQ, aRes, aResV, oneAV, AV.low, AV.low.lows, Nat.reduceAdd, isStringD, isSliceD, isBoolD, setRange, AV.cells, AV.isCell, AV.isAgg, abytes, aconv, aeq, isConst, isByteD, isIfaceD, endQ, Int.reduceToNat, Int.reduceLE, Int.reduceLT, Int.reduceEq, Int.reduceNe, Int.reduceAdd, Int.reduceSub, Int.reduceNeg, Nat.reduceLT, Nat.reduceLeDiff, Ent.ver, Ent.imm, Ent.ty, lits, isEl, newCells, aappend, Nat.reduceBEq, fill, undef, (st1), (st2), (st3), (st4), (st5), (st6), (st7), (st8), aMap, mget, mput, mclock, ksOK, keq, mres, fillA, isArrD, arrE, Nat.reduceMul]; try simp (disch := omega) only [wrapI64, Int.toNat_natCast, ← Int.natCast_add, nat_add_one, nat_add_two, take_drop_all, List.drop_zero, Nat.sub_zero, Nat.add_sub_cancel_left])
    exact ⟨_, .tup (.cons .none (.cons (.refl _) .nil)), by simp only [AV.low, AV.low.lows, Bool.and_self], rfl⟩
  have heq : instR g u = (clsOf (matT g u []).2 (sortS (ordT g [])), 0) := by unfold instR; rw [if_pos ⟨hb1, hb2⟩, if_pos hb3]
  rw [heq]
  have hdom' := hdom hb3
  generalize hs' : (matT g u []).2 = s' at *
  generalize hns : sortS (ordT g []) = names at *
  have hlook : ∀ n ∈ names, ∃ t, Sub'.look s' n = some t ∧ okT t := fun n hn => by
    obtain ⟨t, ht⟩ := Option.isSome_iff_exists.1 (hdom' n ((hmem n).1 hn))
    obtain ⟨e, he, rfl⟩ := look_mem ht
    exact ⟨_, ht, hval e he⟩
  cases g with
  | mk d n us =>
  cases u with
  | mk d' n' us' =>
  simp only [tyV, hb1, hb2, hb3] at hv1 hv2 hma hva
  (simp only [tyV, (vm1), (vm2), (vm3), (vm4), aDet, ev, tget, tput, ofC, ofC1, pureR, condR, abin, aun, alen, gslot, Nat.reduceEqDiff, reduceIte, argTs, asliceS, asliceL, bnd, boolV, intV, retQ, aRes, aResV, oneAV, AV.low, AV.low.lows, Nat.reduceAdd, isStringD, isSliceD, isBoolD, setRange, AV.cells, AV.isCell, AV.isAgg, abytes, aconv, aeq, isConst, isByteD, isIfaceD, endQ, Int.reduceToNat, Int.reduceLE, Int.reduceLT, Int.reduceEq, Int.reduceNe, Int.reduceAdd, Int.reduceSub, Int.reduceNeg, Nat.reduceLT, Nat.reduceLeDiff, Ent.ver, Ent.imm, Ent.ty, lits, isEl, newCells, aappend, Nat.reduceBEq, fill, undef, (st1), (st2), (st3), (st4), (st5), (st6), (st7), (st8), aMap, mget, mput, mclock, ksOK, keq, mres, fillA, isArrD, arrE, Nat.reduceMul]; try simp (disch := omega) only [wrapI64, Int.toNat_natCast, ← Int.natCast_add, nat_add_one, nat_add_two, take_drop_all, List.drop_zero, Nat.sub_zero, Nat.add_sub_cancel_left])
  refine xWait.go (hv1 _) ?_
  (simp only [(vm1), (vm2), (vm3), (vm4), aDet, ev, tget, tput, ofC, ofC1, pureR, condR, abin, aun, alen, gslot, Nat.reduceEqDiff, reduceIte, argTs, asliceS, asliceL, bnd, boolV, intV, retQ, aRes, aResV, oneAV, AV.low, AV.low.lows, Nat.reduceAdd, isStringD, isSliceD, isBoolD, setRange, AV.cells, AV.isCell, AV.isAgg, abytes, aconv, aeq, isConst, isByteD, isIfaceD, endQ, Int.reduceToNat, Int.reduceLE, Int.reduceLT, Int.reduceEq, Int.reduceNe, Int.reduceAdd, Int.reduceSub, Int.reduceNeg, Nat.reduceLT, Nat.reduceLeDiff, Ent.ver, Ent.imm, Ent.ty, lits, isEl, newCells, aappend, Nat.reduceBEq, fill, undef, (st1), (st2), (st3), (st4), (st5), (st6), (st7), (st8), aMap, mget, mput, mclock, ksOK, keq, mres, fillA, isArrD, arrE, Nat.reduceMul]; try simp (disch := omega) only [wrapI64, Int.toNat_natCast, ← Int.natCast_add, nat_add_one, nat_add_two, take_drop_all, List.drop_zero, Nat.sub_zero, Nat.add_sub_cancel_left])
  refine xWait.go (hv2 _) ?_
  (simp only [(vm1), (vm2), (vm3), (vm4), aDet, ev, tget, tput, ofC, ofC1, pureR, condR, abin, aun, alen, gslot, Nat.reduceEqDiff, reduceIte, argTs, asliceS, asliceL, bnd, boolV, intV, retQ, aRes, aResV, oneAV, AV.low, AV.low.lows, Nat.reduceAdd, isStringD, isSliceD, isBoolD, setRange, AV.cells, AV.isCell, AV.isAgg, abytes, aconv, aeq, isConst, isByteD, isIfaceD, endQ, Int.reduceToNat, Int.reduceLE, Int.reduceLT, Int.reduceEq, Int.reduceNe, Int.reduceAdd, Int.reduceSub, Int.reduceNeg, Nat.reduceLT, Nat.reduceLeDiff, Ent.ver, Ent.imm, Ent.ty, lits, isEl, newCells, aappend, Nat.reduceBEq, fill, undef, (st1), (st2), (st3), (st4), (st5), (st6), (st7), (st8), aMap, mget, mput, mclock, ksOK, keq, mres, fillA, isArrD, arrE, Nat.reduceMul]; try simp (disch := omega) only [wrapI64, Int.toNat_natCast, ← Int.natCast_add, nat_add_one, nat_add_two, take_drop_all, List.drop_zero, Nat.sub_zero, Nat.add_sub_cancel_left])
  have hm0 := fun a b => hma (σ ++ [a, b, Ent.map [] 0]) (σ.length + 2) (by rw [List.getElem?_append_right (by omega), Nat.add_sub_cancel_left]; rfl)
  simp only [set_l2'] at hm0
  refine xWait.of (hm0 _ _) ?_
  rintro r τ ⟨rfl, rfl, _⟩
  rw [List.take_left, List.drop_left]
  (simp only [(vm1), (vm2), (vm3), (vm4), aDet, ev, tget, tput, ofC, ofC1, pureR, condR, abin, aun, alen, gslot, Nat.reduceEqDiff, reduceIte, argTs, asliceS, asliceL, bnd, boolV, intV, retQ, aRes, aResV, oneAV, AV.low, AV.low.lows, Nat.reduceAdd, isStringD, isSliceD, isBoolD, setRange, AV.cells, AV.isCell, AV.isAgg, abytes, aconv, aeq, isConst, isByteD, isIfaceD, endQ, Int.reduceToNat, Int.reduceLE, Int.reduceLT, Int.reduceEq, Int.reduceNe, Int.reduceAdd, Int.reduceSub, Int.reduceNeg, Nat.reduceLT, Nat.reduceLeDiff, Ent.ver, Ent.imm, Ent.ty, lits, isEl, newCells, aappend, Nat.reduceBEq, fill, undef, (st1), (st2), (st3), (st4), (st5), (st6), (st7), (st8), aMap, mget, mput, mclock, ksOK, keq, mres, fillA, isArrD, arrE, Nat.reduceMul]; try simp (disch := omega) only [wrapI64, Int.toNat_natCast, ← Int.natCast_add, nat_add_one, nat_add_two, take_drop_all, List.drop_zero, Nat.sub_zero, Nat.add_sub_cancel_left])
  refine xWait.go (hva _) ?_
  (simp only [strsV_len, (vm1), (vm2), (vm3), (vm4), aDet, ev, tget, tput, ofC, ofC1, pureR, condR, abin, aun, alen, gslot, Nat.reduceEqDiff, reduceIte, argTs, asliceS, asliceL, bnd, boolV, intV, retQ, aRes, aResV, oneAV, AV.low, AV.low.lows, Nat.reduceAdd, isStringD, isSliceD, isBoolD, setRange, AV.cells, AV.isCell, AV.isAgg, abytes, aconv, aeq, isConst, isByteD, isIfaceD, endQ, Int.reduceToNat, Int.reduceLE, Int.reduceLT, Int.reduceEq, Int.reduceNe, Int.reduceAdd, Int.reduceSub, Int.reduceNeg, Nat.reduceLT, Nat.reduceLeDiff, Ent.ver, Ent.imm, Ent.ty, lits, isEl, newCells, aappend, Nat.reduceBEq, fill, undef, (st1), (st2), (st3), (st4), (st5), (st6), (st7), (st8), aMap, mget, mput, mclock, ksOK, keq, mres, fillA, isArrD, arrE, Nat.reduceMul]; try simp (disch := omega) only [wrapI64, Int.toNat_natCast, ← Int.natCast_add, nat_add_one, nat_add_two, take_drop_all, List.drop_zero, Nat.sub_zero, Nat.add_sub_cancel_left])
  refine xloop (α := Nat × List Ent × Nat) T0 (fun x => [(6, .mp (σ.length + 2)), (7, rowC (σ.length + (x.2.2 + 3)) (clsOf s' (names.take x.1))), (25, .sl (strsV names)), (26, i64 names.length), (27, i64 x.1)]) (fun _ => σ)
    (fun x => .arr 24 [.str d, .str n, .sl (tysV us)] 0 0 :: .arr 24 [.str d', .str n', .sl (tysV us')] 0 0 :: mapE s' :: x.2.1)
    (fun x => x.1 ≤ names.length ∧ (clsOf s' (names.take x.1) ≠ [] → x.2.1[x.2.2]? = some (.arr 33 ((clsOf s' (names.take x.1)).flatMap clC) ((clsOf s' (names.take x.1)).length - 1) 0))) (fun x => names.length - x.1) (by kernel_rfl)
    ⟨(0, [], 0), ⟨by simp, by simp [clsOf]⟩, by (simp only [List.take_zero, clsOf, List.map_nil, rowC, (vm1), (vm2), (vm3), (vm4), aDet, ev, tget, tput, ofC, ofC1, pureR, condR, abin, aun, alen, gslot, Nat.reduceEqDiff, reduceIte, argTs, asliceS, asliceL, bnd, boolV, intV, retQ, aRes, aResV, oneAV, AV.low, AV.low.lows, Nat.reduceAdd, isStringD, isSliceD, isBoolD, setRange, AV.cells, AV.isCell, AV.isAgg, abytes, aconv, aeq, isConst, isByteD, isIfaceD, endQ, Int.reduceToNat, Int.reduceLE, Int.reduceLT, Int.reduceEq, Int.reduceNe, Int.reduceAdd, Int.reduceSub, Int.reduceNeg, Nat.reduceLT, Nat.reduceLeDiff, Ent.ver, Ent.imm, Ent.ty, lits, isEl, newCells, aappend, Nat.reduceBEq, fill, undef, (st1), (st2), (st3), (st4), (st5), (st6), (st7), (st8), aMap, mget, mput, mclock, ksOK, keq, mres, fillA, isArrD, arrE, Nat.reduceMul, Int.natCast_zero]; try simp (disch := omega) only [wrapI64, Int.toNat_natCast, ← Int.natCast_add, nat_add_one, nat_add_two, take_drop_all, List.drop_zero, Nat.sub_zero, Nat.add_sub_cancel_left]), rfl, rfl⟩ ?_
  rintro ⟨i, junk, rid⟩ ⟨hi, hrow⟩
  simp only at hi hrow
  have hal : (clsOf s' (names.take i)).length = i := by simp [clsOf]; omega
  by_cases h : (i : Int) < names.length
  · have hi' : i < names.length := by omega
    have hu : names[i]? = some names[i] := List.getElem?_eq_getElem hi'
    have hmm : names[i] ∈ names := List.getElem_mem hi'
    generalize names[i] = nm at *
    have hg : (strsV names).getD i .un = .str nm := by simp [strsV, List.getD, hu]
    obtain ⟨t, ht, hto⟩ := hlook nm hmm
    have hnext : clsOf s' (names.take (i + 1)) = clsOf s' (names.take i) ++ [(nm, t)] := by
      rw [List.take_add_one, hu]; simp [clsOf, ht]
    have hc := fun σ' => clone_ok _ t (Nat.le_refl _) σ' hto
    cases t with
    | mk d2 n2 us2 =>
    simp only [tyV] at hc
    generalize hacc : clsOf s' (names.take i) = acc at *
    rcases acc with _ | ⟨b0, r0⟩
    · (simp only [h, hg, strsV_len, mapE, mget_ents, ht, Option.map_some, tyV, rowC, (vm1), (vm2), (vm3), (vm4), aDet, ev, tget, tput, ofC, ofC1, pureR, condR, abin, aun, alen, gslot, Nat.reduceEqDiff, reduceIte, argTs, asliceS, asliceL, bnd, boolV, intV, retQ, aRes, aResV, oneAV, AV.low, AV.low.lows, Nat.reduceAdd, isStringD, isSliceD, isBoolD, setRange, AV.cells, AV.isCell, AV.isAgg, abytes, aconv, aeq, isConst, isByteD, isIfaceD, endQ, Int.reduceToNat, Int.reduceLE, Int.reduceLT, Int.reduceEq, Int.reduceNe, Int.reduceAdd, Int.reduceSub, Int.reduceNeg, Nat.reduceLT, Nat.reduceLeDiff, Ent.ver, Ent.imm, Ent.ty, lits, isEl, newCells, aappend, Nat.reduceBEq, fill, undef, (st1), (st2), (st3), (st4), (st5), (st6), (st7), (st8), aMap, mget, mput, mclock, ksOK, keq, mres, fillA, isArrD, arrE, Nat.reduceMul]; try simp (disch := omega) only [wrapI64, Int.toNat_natCast, ← Int.natCast_add, nat_add_one, nat_add_two, take_drop_all, List.drop_zero, Nat.sub_zero, Nat.add_sub_cancel_left])
      refine ⟨⟨rfl, fun e he => ents_keys tab _ _ 0 s' e he⟩, ?_⟩
      refine xWait.go (hc _) ?_
      (simp only [(vm1), (vm2), (vm3), (vm4), aDet, ev, tget, tput, ofC, ofC1, pureR, condR, abin, aun, alen, gslot, Nat.reduceEqDiff, reduceIte, argTs, asliceS, asliceL, bnd, boolV, intV, retQ, aRes, aResV, oneAV, AV.low, AV.low.lows, Nat.reduceAdd, isStringD, isSliceD, isBoolD, setRange, AV.cells, AV.isCell, AV.isAgg, abytes, aconv, aeq, isConst, isByteD, isIfaceD, endQ, Int.reduceToNat, Int.reduceLE, Int.reduceLT, Int.reduceEq, Int.reduceNe, Int.reduceAdd, Int.reduceSub, Int.reduceNeg, Nat.reduceLT, Nat.reduceLeDiff, Ent.ver, Ent.imm, Ent.ty, lits, isEl, newCells, aappend, Nat.reduceBEq, fill, undef, (st1), (st2), (st3), (st4), (st5), (st6), (st7), (st8), aMap, mget, mput, mclock, ksOK, keq, mres, fillA, isArrD, arrE, Nat.reduceMul]; try simp (disch := omega) only [wrapI64, Int.toNat_natCast, ← Int.natCast_add, nat_add_one, nat_add_two, take_drop_all, List.drop_zero, Nat.sub_zero, Nat.add_sub_cancel_left])
      refine ⟨by unfold maxRoom; omega, (i + 1, junk ++ [.arr 33 [.str nm, .str d2, .str n2, .sl (tysV us2)] 0 0], junk.length), ⟨by simp only; omega, fun _ => ?_⟩, by simp only; omega, ?_, rfl⟩
      · simp only [hnext]; simp [clC, tyCells]
      · simp only [hnext]; first | trivial | exact ⟨rfl, rfl⟩ | (constructor <;> first | rfl | trivial)
    · have h5 := hrow (by simp)
      have e0 : (clC b0).length = 4 := clC_len b0
      have hf0 : (List.flatMap clC r0).length = r0.length * 4 := clCs_len r0
      simp only [List.length_cons] at hal
      (simp only [h, hg, strsV_len, mapE, mget_ents, ht, Option.map_some, tyV, rowC, h5, (vm1), (vm2), (vm3), (vm4), aDet, ev, tget, tput, ofC, ofC1, pureR, condR, abin, aun, alen, gslot, Nat.reduceEqDiff, reduceIte, argTs, asliceS, asliceL, bnd, boolV, intV, retQ, aRes, aResV, oneAV, AV.low, AV.low.lows, Nat.reduceAdd, isStringD, isSliceD, isBoolD, setRange, AV.cells, AV.isCell, AV.isAgg, abytes, aconv, aeq, isConst, isByteD, isIfaceD, endQ, Int.reduceToNat, Int.reduceLE, Int.reduceLT, Int.reduceEq, Int.reduceNe, Int.reduceAdd, Int.reduceSub, Int.reduceNeg, Nat.reduceLT, Nat.reduceLeDiff, Ent.ver, Ent.imm, Ent.ty, lits, isEl, newCells, aappend, Nat.reduceBEq, fill, undef, (st1), (st2), (st3), (st4), (st5), (st6), (st7), (st8), aMap, mget, mput, mclock, ksOK, keq, mres, fillA, isArrD, arrE, Nat.reduceMul]; try simp (disch := omega) only [wrapI64, Int.toNat_natCast, ← Int.natCast_add, nat_add_one, nat_add_two, take_drop_all, List.drop_zero, Nat.sub_zero, Nat.add_sub_cancel_left])
      refine ⟨⟨rfl, fun e he => ents_keys tab _ _ 0 s' e he⟩, ?_⟩
      refine xWait.go (hc _) ?_
      (simp only [h5, (vm1), (vm2), (vm3), (vm4), aDet, ev, tget, tput, ofC, ofC1, pureR, condR, abin, aun, alen, gslot, Nat.reduceEqDiff, reduceIte, argTs, asliceS, asliceL, bnd, boolV, intV, retQ, aRes, aResV, oneAV, AV.low, AV.low.lows, Nat.reduceAdd, isStringD, isSliceD, isBoolD, setRange, AV.cells, AV.isCell, AV.isAgg, abytes, aconv, aeq, isConst, isByteD, isIfaceD, endQ, Int.reduceToNat, Int.reduceLE, Int.reduceLT, Int.reduceEq, Int.reduceNe, Int.reduceAdd, Int.reduceSub, Int.reduceNeg, Nat.reduceLT, Nat.reduceLeDiff, Ent.ver, Ent.imm, Ent.ty, lits, isEl, newCells, aappend, Nat.reduceBEq, fill, undef, (st1), (st2), (st3), (st4), (st5), (st6), (st7), (st8), aMap, mget, mput, mclock, ksOK, keq, mres, fillA, isArrD, arrE, Nat.reduceMul]; try simp (disch := omega) only [wrapI64, Int.toNat_natCast, ← Int.natCast_add, nat_add_one, nat_add_two, take_drop_all, List.drop_zero, Nat.sub_zero, Nat.add_sub_cancel_left])
      refine ⟨⟨by omega, by omega, by omega, by unfold maxRoom; omega, by unfold maxRoom; omega⟩, ?_⟩
      refine ⟨(i + 1, junk.set rid (Ent.arr 33 (clC b0 ++ (List.flatMap clC r0 ++ [AV.str nm, AV.str d2, AV.str n2, AV.sl (tysV us2)])) (r0.length + 1 - 1 + 1) 0), rid), ⟨by simp only; omega, fun _ => ?_⟩, by simp only; omega, ?_, rfl⟩
      · simp only [hnext]
        rw [get_set_self h5]
        simp [clC, tyCells]
      · simp only [hnext, List.cons_append, List.length_append, List.length_cons, List.length_nil]; first | trivial | exact ⟨rfl, rfl⟩ | (constructor <;> first | rfl | trivial)
  · have hie : i = names.length := by omega
    subst hie
    rw [List.take_of_length_le (Nat.le_refl _)] at hrow hal
    (simp only [h, List.take_of_length_le (Nat.le_refl _), (vm1), (vm2), (vm3), (vm4), aDet, ev, tget, tput, ofC, ofC1, pureR, condR, abin, aun, alen, gslot, Nat.reduceEqDiff, reduceIte, argTs, asliceS, asliceL, bnd, boolV, intV, retQ, aRes, aResV, oneAV, AV.low, AV.low.lows, Nat.reduceAdd, isStringD, isSliceD, isBoolD, setRange, AV.cells, AV.isCell, AV.isAgg, abytes, aconv, aeq, isConst, isByteD, isIfaceD, endQ, Int.reduceToNat, Int.reduceLE, Int.reduceLT, Int.reduceEq, Int.reduceNe, Int.reduceAdd, Int.reduceSub, Int.reduceNeg, Nat.reduceLT, Nat.reduceLeDiff, Ent.ver, Ent.imm, Ent.ty, lits, isEl, newCells, aappend, Nat.reduceBEq, fill, undef, (st1), (st2), (st3), (st4), (st5), (st6), (st7), (st8), aMap, mget, mput, mclock, ksOK, keq, mres, fillA, isArrD, arrE, Nat.reduceMul]; try simp (disch := omega) only [wrapI64, Int.toNat_natCast, ← Int.natCast_add, nat_add_one, nat_add_two, take_drop_all, List.drop_zero, Nat.sub_zero, Nat.add_sub_cancel_left])
    generalize clsOf s' names = acc at *
    rcases acc with _ | ⟨b0, r0⟩
    · exact ⟨_, .tup (.cons .none (.cons (.refl _) .nil)), by simp only [AV.low, AV.low.lows, Bool.and_self], rfl⟩
    · have h5 := hrow (by simp)
      have hf0 := clCs_len (b0 :: r0)
      simp only [rowC]
      refine ⟨_, .tup (.cons (.rsl (ty := 33) (ver := r0.length) (imm := 0) (ag := true) (cells := (b0 :: r0).flatMap clC) (es := clsV (b0 :: r0)) (es' := clsV (b0 :: r0)) (by omega) ?_ (by rw [List.drop_zero, clsV_cells]) (by omega) (by rw [clsV_len]; rfl) (by omega) (fun e he => by obtain ⟨x, _, rfl⟩ := List.mem_map.1 he; exact clV_el x) FrzL.refl) (.cons (.refl _) .nil)), by simp only [AV.low, AV.low.lows, clsV_low, Bool.and_self], rfl⟩
      rw [Nat.add_sub_cancel_left]
      simpa using h5
end Go.D

/- A type is an instance of itself: the law, but for its example. -/
set_option linter.unusedVariables false
set_option linter.unusedSimpArgs false
set_option linter.unnecessarySimpa false
set_option maxRecDepth 100000
namespace Go.D
open Go Go.Vm Go.Proofs Go.RowKit

/-- The example holds. -/
def AwakeOK : Prop := ∀ σ : List Ent, ACalls E 15 [] σ fun r τ => r = boolV true ∧ τ = σ
def selfC (names : List (List UInt8)) : List Cl := names.map fun n => (n, .mk kiVar n [])
theorem instR_self (t : Tr) : instR t t = if validT conB t = true then (selfC (sortS (ordT t [])), 0) else ([], 40) := by
  unfold instR
  by_cases hv : validT conB t = true
  · rw [if_pos ⟨hv, hv⟩, if_pos hv]
    have ht : typeB conB t = true := by unfold validT at hv; simp only [Bool.and_eq_true] at hv; exact hv.1
    have := matT_self conB t [] ht
    simp only [idS, List.map_nil] at this
    rw [this, if_pos rfl]
    congr 1
    unfold clsOf selfC
    refine List.map_congr_left fun n hn => ?_
    have hm : n ∈ ordT t [] := List.mem_mergeSort.1 hn
    have h2 := idS_look (ordT t []) n
    simp only [idS] at h2
    rw [h2, if_pos hm]; rfl
  · rw [if_neg (fun h => hv h.1), if_neg hv]
set_option maxHeartbeats 4000000 in
theorem law_itself (haw : AwakeOK) (t : Tr) (hl : lenT t) (σ : List Ent) :
    HasBody E 3 ∧ ∀ (s : S) (vs : List Value), s.σ = σ → HInv s → E.Γ s.B s.w → RepL s [tyV t] vs →
      Calls E.P 3 vs.toArray s.w fun e w' => ∃ v r s', e = .returned v ∧ s'.w = w' ∧ HInv s' ∧ Ext s s' ∧ Rep s' r v ∧ (r = boolV true ∧ s'.σ = σ) := by
  refine xbody T0 .drop [] Tryz.func3 rfl (by kernel_rfl) (by kernel_rfl) (by simp [Tryz.ntmps3]) (R := fun r τ => r = boolV true ∧ τ = σ) ?_
  have h1 := fun σ' => Instance_ok t t hl hl σ'
  have h2 := fun σ' => Vars_ok t hl σ'
  rw [instR_self] at h1
  have hok : validT conB t = true → okT t := fun h2 => ⟨hl, by unfold validT at h2; simp only [Bool.and_eq_true] at h2; exact h2.1⟩
  have hnm : validT conB t = true → (sortS (ordT t [])).length ≤ 26 := fun h => by
    have := ordT_names t [] (hok h).2 (by simp) (by simp)
    unfold sortS; rw [List.length_mergeSort]; exact vars_few this.1 this.2
  cases hv : validT conB t
  · simp only [hv, Bool.false_eq_true, if_false] at h1 h2
    cases t with
    | mk d n us =>
    simp only [tyV] at h1 h2
    (simp only [tyV, (vm1), (vm2), (vm3), (vm4), aDet, ev, tget, tput, ofC, ofC1, pureR, condR, abin, aun, alen, gslot, Nat.reduceEqDiff, reduceIte, argTs, asliceS, asliceL, bnd, boolV, intV, retQ, aRes, aResV, oneAV, AV.low, AV.low.lows, Nat.reduceAdd, isStringD, isSliceD, isBoolD, setRange, AV.cells, AV.isCell, AV.isAgg, abytes, aconv, aeq, isConst, isByteD, isIfaceD, endQ, Int.reduceToNat, Int.reduceLE, Int.reduceLT, Int.reduceEq, Int.reduceNe, Int.reduceAdd, Int.reduceSub, Int.reduceNeg, Nat.reduceLT, Nat.reduceLeDiff, Ent.ver, Ent.imm, Ent.ty, lits, isEl, newCells, aappend, Nat.reduceBEq, fill, undef, (st1), (st2), (st3), (st4), (st5), (st6), (st7), (st8), aMap, mget, mput, mclock, ksOK, keq, mres, fillA, isArrD, arrE, Nat.reduceMul]; try simp (disch := omega) only [wrapI64, Int.toNat_natCast, ← Int.natCast_add, nat_add_one, nat_add_two, take_drop_all, List.drop_zero, Nat.sub_zero, Nat.add_sub_cancel_left])
    refine xWait.go (h1 _) ?_
    (simp only [clsV, List.map_nil, (vm1), (vm2), (vm3), (vm4), aDet, ev, tget, tput, ofC, ofC1, pureR, condR, abin, aun, alen, gslot, Nat.reduceEqDiff, reduceIte, argTs, asliceS, asliceL, bnd, boolV, intV, retQ, aRes, aResV, oneAV, AV.low, AV.low.lows, Nat.reduceAdd, isStringD, isSliceD, isBoolD, setRange, AV.cells, AV.isCell, AV.isAgg, abytes, aconv, aeq, isConst, isByteD, isIfaceD, endQ, Int.reduceToNat, Int.reduceLE, Int.reduceLT, Int.reduceEq, Int.reduceNe, Int.reduceAdd, Int.reduceSub, Int.reduceNeg, Nat.reduceLT, Nat.reduceLeDiff, Ent.ver, Ent.imm, Ent.ty, lits, isEl, newCells, aappend, Nat.reduceBEq, fill, undef, (st1), (st2), (st3), (st4), (st5), (st6), (st7), (st8), aMap, mget, mput, mclock, ksOK, keq, mres, fillA, isArrD, arrE, Nat.reduceMul]; try simp (disch := omega) only [wrapI64, Int.toNat_natCast, ← Int.natCast_add, nat_add_one, nat_add_two, take_drop_all, List.drop_zero, Nat.sub_zero, Nat.add_sub_cancel_left])
    refine xWait.go (h2 _) ?_
    (simp only [(vm1), (vm2), (vm3), (vm4), aDet, ev, tget, tput, ofC, ofC1, pureR, condR, abin, aun, alen, gslot, Nat.reduceEqDiff, reduceIte, argTs, asliceS, asliceL, bnd, boolV, intV, retQ, aRes, aResV, oneAV, AV.low, AV.low.lows, Nat.reduceAdd, isStringD, isSliceD, isBoolD, setRange, AV.cells, AV.isCell, AV.isAgg, abytes, aconv, aeq, isConst, isByteD, isIfaceD, endQ, Int.reduceToNat, Int.reduceLE, Int.reduceLT, Int.reduceEq, Int.reduceNe, Int.reduceAdd, Int.reduceSub, Int.reduceNeg, Nat.reduceLT, Nat.reduceLeDiff, Ent.ver, Ent.imm, Ent.ty, lits, isEl, newCells, aappend, Nat.reduceBEq, fill, undef, (st1), (st2), (st3), (st4), (st5), (st6), (st7), (st8), aMap, mget, mput, mclock, ksOK, keq, mres, fillA, isArrD, arrE, Nat.reduceMul]; try simp (disch := omega) only [wrapI64, Int.toNat_natCast, ← Int.natCast_add, nat_add_one, nat_add_two, take_drop_all, List.drop_zero, Nat.sub_zero, Nat.add_sub_cancel_left])
    refine xloop (α := Nat) T0 (fun i => [(31, i64 0), (32, i64 0)]) (fun _ => σ) (fun _ => [.arr 24 [.str d, .str n, .sl (tysV us)] 0 0]) (fun i => i = 0) (fun i => i) (by kernel_rfl)
      ⟨0, rfl, by (simp only [(vm1), (vm2), (vm3), (vm4), aDet, ev, tget, tput, ofC, ofC1, pureR, condR, abin, aun, alen, gslot, Nat.reduceEqDiff, reduceIte, argTs, asliceS, asliceL, bnd, boolV, intV, retQ, aRes, aResV, oneAV, AV.low, AV.low.lows, Nat.reduceAdd, isStringD, isSliceD, isBoolD, setRange, AV.cells, AV.isCell, AV.isAgg, abytes, aconv, aeq, isConst, isByteD, isIfaceD, endQ, Int.reduceToNat, Int.reduceLE, Int.reduceLT, Int.reduceEq, Int.reduceNe, Int.reduceAdd, Int.reduceSub, Int.reduceNeg, Nat.reduceLT, Nat.reduceLeDiff, Ent.ver, Ent.imm, Ent.ty, lits, isEl, newCells, aappend, Nat.reduceBEq, fill, undef, (st1), (st2), (st3), (st4), (st5), (st6), (st7), (st8), aMap, mget, mput, mclock, ksOK, keq, mres, fillA, isArrD, arrE, Nat.reduceMul]; try simp (disch := omega) only [wrapI64, Int.toNat_natCast, ← Int.natCast_add, nat_add_one, nat_add_two, take_drop_all, List.drop_zero, Nat.sub_zero, Nat.add_sub_cancel_left]), rfl, rfl⟩ ?_
    rintro i hi
    (simp only [(vm1), (vm2), (vm3), (vm4), aDet, ev, tget, tput, ofC, ofC1, pureR, condR, abin, aun, alen, gslot, Nat.reduceEqDiff, reduceIte, argTs, asliceS, asliceL, bnd, boolV, intV, retQ, aRes, aResV, oneAV, AV.low, AV.low.lows, Nat.reduceAdd, isStringD, isSliceD, isBoolD, setRange, AV.cells, AV.isCell, AV.isAgg, abytes, aconv, aeq, isConst, isByteD, isIfaceD, endQ, Int.reduceToNat, Int.reduceLE, Int.reduceLT, Int.reduceEq, Int.reduceNe, Int.reduceAdd, Int.reduceSub, Int.reduceNeg, Nat.reduceLT, Nat.reduceLeDiff, Ent.ver, Ent.imm, Ent.ty, lits, isEl, newCells, aappend, Nat.reduceBEq, fill, undef, (st1), (st2), (st3), (st4), (st5), (st6), (st7), (st8), aMap, mget, mput, mclock, ksOK, keq, mres, fillA, isArrD, arrE, Nat.reduceMul]; try simp (disch := omega) only [wrapI64, Int.toNat_natCast, ← Int.natCast_add, nat_add_one, nat_add_two, take_drop_all, List.drop_zero, Nat.sub_zero, Nat.add_sub_cancel_left])
    refine xWait.go (haw _) ?_
    (simp only [(vm1), (vm2), (vm3), (vm4), aDet, ev, tget, tput, ofC, ofC1, pureR, condR, abin, aun, alen, gslot, Nat.reduceEqDiff, reduceIte, argTs, asliceS, asliceL, bnd, boolV, intV, retQ, aRes, aResV, oneAV, AV.low, AV.low.lows, Nat.reduceAdd, isStringD, isSliceD, isBoolD, setRange, AV.cells, AV.isCell, AV.isAgg, abytes, aconv, aeq, isConst, isByteD, isIfaceD, endQ, Int.reduceToNat, Int.reduceLE, Int.reduceLT, Int.reduceEq, Int.reduceNe, Int.reduceAdd, Int.reduceSub, Int.reduceNeg, Nat.reduceLT, Nat.reduceLeDiff, Ent.ver, Ent.imm, Ent.ty, lits, isEl, newCells, aappend, Nat.reduceBEq, fill, undef, (st1), (st2), (st3), (st4), (st5), (st6), (st7), (st8), aMap, mget, mput, mclock, ksOK, keq, mres, fillA, isArrD, arrE, Nat.reduceMul]; try simp (disch := omega) only [wrapI64, Int.toNat_natCast, ← Int.natCast_add, nat_add_one, nat_add_two, take_drop_all, List.drop_zero, Nat.sub_zero, Nat.add_sub_cancel_left])
  · have hfew := hnm hv
    simp only [hv, if_true] at h1 h2
    generalize sortS (ordT t []) = names at *
    cases t with
    | mk d n us =>
    simp only [tyV] at h1 h2
    (simp only [tyV, (vm1), (vm2), (vm3), (vm4), aDet, ev, tget, tput, ofC, ofC1, pureR, condR, abin, aun, alen, gslot, Nat.reduceEqDiff, reduceIte, argTs, asliceS, asliceL, bnd, boolV, intV, retQ, aRes, aResV, oneAV, AV.low, AV.low.lows, Nat.reduceAdd, isStringD, isSliceD, isBoolD, setRange, AV.cells, AV.isCell, AV.isAgg, abytes, aconv, aeq, isConst, isByteD, isIfaceD, endQ, Int.reduceToNat, Int.reduceLE, Int.reduceLT, Int.reduceEq, Int.reduceNe, Int.reduceAdd, Int.reduceSub, Int.reduceNeg, Nat.reduceLT, Nat.reduceLeDiff, Ent.ver, Ent.imm, Ent.ty, lits, isEl, newCells, aappend, Nat.reduceBEq, fill, undef, (st1), (st2), (st3), (st4), (st5), (st6), (st7), (st8), aMap, mget, mput, mclock, ksOK, keq, mres, fillA, isArrD, arrE, Nat.reduceMul]; try simp (disch := omega) only [wrapI64, Int.toNat_natCast, ← Int.natCast_add, nat_add_one, nat_add_two, take_drop_all, List.drop_zero, Nat.sub_zero, Nat.add_sub_cancel_left])
    refine xWait.go (h1 _) ?_
    (simp only [clsV_len, (vm1), (vm2), (vm3), (vm4), aDet, ev, tget, tput, ofC, ofC1, pureR, condR, abin, aun, alen, gslot, Nat.reduceEqDiff, reduceIte, argTs, asliceS, asliceL, bnd, boolV, intV, retQ, aRes, aResV, oneAV, AV.low, AV.low.lows, Nat.reduceAdd, isStringD, isSliceD, isBoolD, setRange, AV.cells, AV.isCell, AV.isAgg, abytes, aconv, aeq, isConst, isByteD, isIfaceD, endQ, Int.reduceToNat, Int.reduceLE, Int.reduceLT, Int.reduceEq, Int.reduceNe, Int.reduceAdd, Int.reduceSub, Int.reduceNeg, Nat.reduceLT, Nat.reduceLeDiff, Ent.ver, Ent.imm, Ent.ty, lits, isEl, newCells, aappend, Nat.reduceBEq, fill, undef, (st1), (st2), (st3), (st4), (st5), (st6), (st7), (st8), aMap, mget, mput, mclock, ksOK, keq, mres, fillA, isArrD, arrE, Nat.reduceMul]; try simp (disch := omega) only [wrapI64, Int.toNat_natCast, ← Int.natCast_add, nat_add_one, nat_add_two, take_drop_all, List.drop_zero, Nat.sub_zero, Nat.add_sub_cancel_left])
    refine xWait.go (h2 _) ?_
    have hsl : (selfC names).length = names.length := by simp [selfC]
    (simp only [clsV_len, strsV_len, hsl, (vm1), (vm2), (vm3), (vm4), aDet, ev, tget, tput, ofC, ofC1, pureR, condR, abin, aun, alen, gslot, Nat.reduceEqDiff, reduceIte, argTs, asliceS, asliceL, bnd, boolV, intV, retQ, aRes, aResV, oneAV, AV.low, AV.low.lows, Nat.reduceAdd, isStringD, isSliceD, isBoolD, setRange, AV.cells, AV.isCell, AV.isAgg, abytes, aconv, aeq, isConst, isByteD, isIfaceD, endQ, Int.reduceToNat, Int.reduceLE, Int.reduceLT, Int.reduceEq, Int.reduceNe, Int.reduceAdd, Int.reduceSub, Int.reduceNeg, Nat.reduceLT, Nat.reduceLeDiff, Ent.ver, Ent.imm, Ent.ty, lits, isEl, newCells, aappend, Nat.reduceBEq, fill, undef, (st1), (st2), (st3), (st4), (st5), (st6), (st7), (st8), aMap, mget, mput, mclock, ksOK, keq, mres, fillA, isArrD, arrE, Nat.reduceMul]; try simp (disch := omega) only [wrapI64, Int.toNat_natCast, ← Int.natCast_add, nat_add_one, nat_add_two, take_drop_all, List.drop_zero, Nat.sub_zero, Nat.add_sub_cancel_left])
    refine xloop (α := Nat × List Ent) T0 (fun x => [(5, .sl (strsV names)), (30, .sl (clsV (selfC names))), (31, i64 names.length), (32, i64 x.1)]) (fun _ => σ) (fun x => .arr 24 [.str d, .str n, .sl (tysV us)] 0 0 :: x.2)
      (fun x => x.1 ≤ names.length) (fun x => names.length - x.1) (by kernel_rfl)
      ⟨(0, []), by simp, by (simp only [(vm1), (vm2), (vm3), (vm4), aDet, ev, tget, tput, ofC, ofC1, pureR, condR, abin, aun, alen, gslot, Nat.reduceEqDiff, reduceIte, argTs, asliceS, asliceL, bnd, boolV, intV, retQ, aRes, aResV, oneAV, AV.low, AV.low.lows, Nat.reduceAdd, isStringD, isSliceD, isBoolD, setRange, AV.cells, AV.isCell, AV.isAgg, abytes, aconv, aeq, isConst, isByteD, isIfaceD, endQ, Int.reduceToNat, Int.reduceLE, Int.reduceLT, Int.reduceEq, Int.reduceNe, Int.reduceAdd, Int.reduceSub, Int.reduceNeg, Nat.reduceLT, Nat.reduceLeDiff, Ent.ver, Ent.imm, Ent.ty, lits, isEl, newCells, aappend, Nat.reduceBEq, fill, undef, (st1), (st2), (st3), (st4), (st5), (st6), (st7), (st8), aMap, mget, mput, mclock, ksOK, keq, mres, fillA, isArrD, arrE, Nat.reduceMul, Int.natCast_zero]; try simp (disch := omega) only [wrapI64, Int.toNat_natCast, ← Int.natCast_add, nat_add_one, nat_add_two, take_drop_all, List.drop_zero, Nat.sub_zero, Nat.add_sub_cancel_left]), rfl, rfl⟩ ?_
    rintro ⟨i, junk⟩ hi
    simp only at hi
    by_cases h : (i : Int) < names.length
    · have hi' : i < names.length := by omega
      have hg1 : (strsV names).getD i .un = .str names[i] := by simp [strsV, List.getD, hi']
      have hg2 : (clsV (selfC names)).getD i .un = .agg [.str names[i], .str kiVar, .str names[i], .sl []] := by simp [clsV, selfC, List.getD, hi', clV, clC, tyCells, tysV]
      generalize names[i] = nm at *
      (simp only [h, hg1, hg2, clsV_len, strsV_len, hsl, (vm1), (vm2), (vm3), (vm4), aDet, ev, tget, tput, ofC, ofC1, pureR, condR, abin, aun, alen, gslot, Nat.reduceEqDiff, reduceIte, argTs, asliceS, asliceL, bnd, boolV, intV, retQ, aRes, aResV, oneAV, AV.low, AV.low.lows, Nat.reduceAdd, isStringD, isSliceD, isBoolD, setRange, AV.cells, AV.isCell, AV.isAgg, abytes, aconv, aeq, isConst, isByteD, isIfaceD, endQ, Int.reduceToNat, Int.reduceLE, Int.reduceLT, Int.reduceEq, Int.reduceNe, Int.reduceAdd, Int.reduceSub, Int.reduceNeg, Nat.reduceLT, Nat.reduceLeDiff, Ent.ver, Ent.imm, Ent.ty, lits, isEl, newCells, aappend, Nat.reduceBEq, fill, undef, (st1), (st2), (st3), (st4), (st5), (st6), (st7), (st8), aMap, mget, mput, mclock, ksOK, keq, mres, fillA, isArrD, arrE, Nat.reduceMul]; try simp (disch := omega) only [wrapI64, Int.toNat_natCast, ← Int.natCast_add, nat_add_one, nat_add_two, take_drop_all, List.drop_zero, Nat.sub_zero, Nat.add_sub_cancel_left])
      refine ydraw T0 [] (by kernel_rfl) (by kernel_rfl) (by kernel_rfl) (by kernel_rfl) ?_
      (simp only [h, hg1, hg2, clsV_len, strsV_len, hsl, (vm1), (vm2), (vm3), (vm4), aDet, ev, tget, tput, ofC, ofC1, pureR, condR, abin, aun, alen, gslot, Nat.reduceEqDiff, reduceIte, argTs, asliceS, asliceL, bnd, boolV, intV, retQ, aRes, aResV, oneAV, AV.low, AV.low.lows, Nat.reduceAdd, isStringD, isSliceD, isBoolD, setRange, AV.cells, AV.isCell, AV.isAgg, abytes, aconv, aeq, isConst, isByteD, isIfaceD, endQ, Int.reduceToNat, Int.reduceLE, Int.reduceLT, Int.reduceEq, Int.reduceNe, Int.reduceAdd, Int.reduceSub, Int.reduceNeg, Nat.reduceLT, Nat.reduceLeDiff, Ent.ver, Ent.imm, Ent.ty, lits, isEl, newCells, aappend, Nat.reduceBEq, fill, undef, (st1), (st2), (st3), (st4), (st5), (st6), (st7), (st8), aMap, mget, mput, mclock, ksOK, keq, mres, fillA, isArrD, arrE, Nat.reduceMul]; try simp (disch := omega) only [wrapI64, Int.toNat_natCast, ← Int.natCast_add, nat_add_one, nat_add_two, take_drop_all, List.drop_zero, Nat.sub_zero, Nat.add_sub_cancel_left])
      exact ⟨(i + 1, _), by simp only; omega, by simp only; omega, rfl, rfl⟩
    · (simp only [h, (vm1), (vm2), (vm3), (vm4), aDet, ev, tget, tput, ofC, ofC1, pureR, condR, abin, aun, alen, gslot, Nat.reduceEqDiff, reduceIte, argTs, asliceS, asliceL, bnd, boolV, intV, retQ, aRes, aResV, oneAV, AV.low, AV.low.lows, Nat.reduceAdd, isStringD, isSliceD, isBoolD, setRange, AV.cells, AV.isCell, AV.isAgg, abytes, aconv, aeq, isConst, isByteD, isIfaceD, endQ, Int.reduceToNat, Int.reduceLE, Int.reduceLT, Int.reduceEq, Int.reduceNe, Int.reduceAdd, Int.reduceSub, Int.reduceNeg, Nat.reduceLT, Nat.reduceLeDiff, Ent.ver, Ent.imm, Ent.ty, lits, isEl, newCells, aappend, Nat.reduceBEq, fill, undef, (st1), (st2), (st3), (st4), (st5), (st6), (st7), (st8), aMap, mget, mput, mclock, ksOK, keq, mres, fillA, isArrD, arrE, Nat.reduceMul]; try simp (disch := omega) only [wrapI64, Int.toNat_natCast, ← Int.natCast_add, nat_add_one, nat_add_two, take_drop_all, List.drop_zero, Nat.sub_zero, Nat.add_sub_cancel_left])
      refine xWait.go (haw _) ?_
      (simp only [(vm1), (vm2), (vm3), (vm4), aDet, ev, tget, tput, ofC, ofC1, pureR, condR, abin, aun, alen, gslot, Nat.reduceEqDiff, reduceIte, argTs, asliceS, asliceL, bnd, boolV, intV, retQ, aRes, aResV, oneAV, AV.low, AV.low.lows, Nat.reduceAdd, isStringD, isSliceD, isBoolD, setRange, AV.cells, AV.isCell, AV.isAgg, abytes, aconv, aeq, isConst, isByteD, isIfaceD, endQ, Int.reduceToNat, Int.reduceLE, Int.reduceLT, Int.reduceEq, Int.reduceNe, Int.reduceAdd, Int.reduceSub, Int.reduceNeg, Nat.reduceLT, Nat.reduceLeDiff, Ent.ver, Ent.imm, Ent.ty, lits, isEl, newCells, aappend, Nat.reduceBEq, fill, undef, (st1), (st2), (st3), (st4), (st5), (st6), (st7), (st8), aMap, mget, mput, mclock, ksOK, keq, mres, fillA, isArrD, arrE, Nat.reduceMul]; try simp (disch := omega) only [wrapI64, Int.toNat_natCast, ← Int.natCast_add, nat_add_one, nat_add_two, take_drop_all, List.drop_zero, Nat.sub_zero, Nat.add_sub_cancel_left])
end Go.D

/- Nodes of a graph of types: where links lead; new nodes. -/
set_option linter.unusedVariables false
set_option linter.unusedSimpArgs false
set_option linter.unnecessarySimpa false
set_option maxRecDepth 100000
namespace Go.D
open Go Go.Vm Go.Proofs Go.RowKit

abbrev nilP : AV := .v (.pointer none)
abbrev nilS : AV := .v (.slice none 0 0)
def nodeE (d n : List UInt8) (args link : AV) : Ent := .arr 107 [.str d, .str n, args, link] 0 0
theorem sget_of {σ : List Ent} {p : Nat} {e : Ent} (h : σ[p]? = some e) (r : List Ent) : sget σ r p = some e := by unfold sget; rw [if_pos (lt_of_get h)]; exact h
/-- Where links lead, and in how many steps. -/
inductive Ends (σ : List Ent) : Nat → Nat → Nat → Prop
  | here {p : Nat} {d n : List UInt8} {a : AV} : σ[p]? = some (nodeE d n a nilP) → Ends σ 0 p p
  | step {k p q r : Nat} {d n : List UInt8} {a : AV} : σ[p]? = some (nodeE d n a (.ref q 0 0)) → Ends σ k q r → Ends σ (k + 1) p r
set_option maxHeartbeats 4000000 in
theorem end_ok (σ : List Ent) (p r k : Nat) (h : Ends σ k p r) : ACalls E 91 [.ref p 0 0] σ fun x τ => x = .ref r 0 0 ∧ τ = σ := by
  refine xacalls T0 .drop [] Tryz.func91 rfl (by kernel_rfl) (by kernel_rfl) (by simp [Tryz.ntmps91]) ?_
  (simp only [(vm1), (vm2), (vm3), (vm4), aDet, ev, tget, tput, ofC, ofC1, pureR, condR, abin, aun, alen, gslot, Nat.reduceEqDiff, reduceIte, argTs, asliceS, asliceL, bnd, boolV, intV, retQ, aRes, aResV, oneAV, AV.low, AV.low.lows, Nat.reduceAdd, isStringD, isSliceD, isBoolD, setRange, AV.cells, AV.isCell, AV.isAgg, abytes, aconv, aeq, isConst, isByteD, isIfaceD, endQ, Int.reduceToNat, Int.reduceLE, Int.reduceLT, Int.reduceEq, Int.reduceNe, Int.reduceAdd, Int.reduceSub, Int.reduceNeg, Nat.reduceLT, Nat.reduceLeDiff, Ent.ver, Ent.imm, Ent.ty, lits, isEl, newCells, aappend, Nat.reduceBEq, fill, undef, (st1), (st2), (st3), (st4), (st5), (st6), (st7), (st8), aMap, mget, mput, mclock, ksOK, keq, mres, fillA, isArrD, arrE, Nat.reduceMul]; try simp (disch := omega) only [wrapI64, Int.toNat_natCast, ← Int.natCast_add, nat_add_one, nat_add_two, take_drop_all, List.drop_zero, Nat.sub_zero, Nat.add_sub_cancel_left])
  refine xloop (α := Nat × Nat) T0 (fun x => [(0, .ref x.2 0 0)]) (fun _ => σ) (fun _ => []) (fun x => Ends σ x.1 x.2 r) (fun x => x.1) (by kernel_rfl)
    ⟨(k, p), h, by (simp only [(vm1), (vm2), (vm3), (vm4), aDet, ev, tget, tput, ofC, ofC1, pureR, condR, abin, aun, alen, gslot, Nat.reduceEqDiff, reduceIte, argTs, asliceS, asliceL, bnd, boolV, intV, retQ, aRes, aResV, oneAV, AV.low, AV.low.lows, Nat.reduceAdd, isStringD, isSliceD, isBoolD, setRange, AV.cells, AV.isCell, AV.isAgg, abytes, aconv, aeq, isConst, isByteD, isIfaceD, endQ, Int.reduceToNat, Int.reduceLE, Int.reduceLT, Int.reduceEq, Int.reduceNe, Int.reduceAdd, Int.reduceSub, Int.reduceNeg, Nat.reduceLT, Nat.reduceLeDiff, Ent.ver, Ent.imm, Ent.ty, lits, isEl, newCells, aappend, Nat.reduceBEq, fill, undef, (st1), (st2), (st3), (st4), (st5), (st6), (st7), (st8), aMap, mget, mput, mclock, ksOK, keq, mres, fillA, isArrD, arrE, Nat.reduceMul]; try simp (disch := omega) only [wrapI64, Int.toNat_natCast, ← Int.natCast_add, nat_add_one, nat_add_two, take_drop_all, List.drop_zero, Nat.sub_zero, Nat.add_sub_cancel_left]), rfl, rfl⟩ ?_
  rintro ⟨k, p⟩ hk
  simp only at hk
  cases hk with
  | here h1 =>
    have g1 := sget_of h1
    simp only [nodeE] at g1
    (simp only [g1, (vm1), (vm2), (vm3), (vm4), aDet, ev, tget, tput, ofC, ofC1, pureR, condR, abin, aun, alen, gslot, Nat.reduceEqDiff, reduceIte, argTs, asliceS, asliceL, bnd, boolV, intV, retQ, aRes, aResV, oneAV, AV.low, AV.low.lows, Nat.reduceAdd, isStringD, isSliceD, isBoolD, setRange, AV.cells, AV.isCell, AV.isAgg, abytes, aconv, aeq, isConst, isByteD, isIfaceD, endQ, Int.reduceToNat, Int.reduceLE, Int.reduceLT, Int.reduceEq, Int.reduceNe, Int.reduceAdd, Int.reduceSub, Int.reduceNeg, Nat.reduceLT, Nat.reduceLeDiff, Ent.ver, Ent.imm, Ent.ty, lits, isEl, newCells, aappend, Nat.reduceBEq, fill, undef, (st1), (st2), (st3), (st4), (st5), (st6), (st7), (st8), aMap, mget, mput, mclock, ksOK, keq, mres, fillA, isArrD, arrE, Nat.reduceMul]; try simp (disch := omega) only [wrapI64, Int.toNat_natCast, ← Int.natCast_add, nat_add_one, nat_add_two, take_drop_all, List.drop_zero, Nat.sub_zero, Nat.add_sub_cancel_left])
    exact decide_eq_true (lt_of_get h1)
  | step h1 h2 =>
    have g1 := sget_of h1
    simp only [nodeE] at g1
    (simp only [g1, (vm1), (vm2), (vm3), (vm4), aDet, ev, tget, tput, ofC, ofC1, pureR, condR, abin, aun, alen, gslot, Nat.reduceEqDiff, reduceIte, argTs, asliceS, asliceL, bnd, boolV, intV, retQ, aRes, aResV, oneAV, AV.low, AV.low.lows, Nat.reduceAdd, isStringD, isSliceD, isBoolD, setRange, AV.cells, AV.isCell, AV.isAgg, abytes, aconv, aeq, isConst, isByteD, isIfaceD, endQ, Int.reduceToNat, Int.reduceLE, Int.reduceLT, Int.reduceEq, Int.reduceNe, Int.reduceAdd, Int.reduceSub, Int.reduceNeg, Nat.reduceLT, Nat.reduceLeDiff, Ent.ver, Ent.imm, Ent.ty, lits, isEl, newCells, aappend, Nat.reduceBEq, fill, undef, (st1), (st2), (st3), (st4), (st5), (st6), (st7), (st8), aMap, mget, mput, mclock, ksOK, keq, mres, fillA, isArrD, arrE, Nat.reduceMul]; try simp (disch := omega) only [wrapI64, Int.toNat_natCast, ← Int.natCast_add, nat_add_one, nat_add_two, take_drop_all, List.drop_zero, Nat.sub_zero, Nat.add_sub_cancel_left])
    exact ⟨(_, _), h2, by simp, rfl⟩

theorem variable_ok (n : List UInt8) (σ : List Ent) : ACalls E 41 [.str n] σ fun r τ => r = .agg [.str kiVar, .str n, nilS] ∧ τ = σ := by
  refine xacalls T0 .drop [] Tryz.func41 rfl (by kernel_rfl) (by kernel_rfl) (by simp [Tryz.ntmps41]) ?_
  (simp only [(vm1), (vm2), (vm3), (vm4), aDet, ev, tget, tput, ofC, ofC1, pureR, condR, abin, aun, alen, gslot, Nat.reduceEqDiff, reduceIte, argTs, asliceS, asliceL, bnd, boolV, intV, retQ, aRes, aResV, oneAV, AV.low, AV.low.lows, Nat.reduceAdd, isStringD, isSliceD, isBoolD, setRange, AV.cells, AV.isCell, AV.isAgg, abytes, aconv, aeq, isConst, isByteD, isIfaceD, endQ, Int.reduceToNat, Int.reduceLE, Int.reduceLT, Int.reduceEq, Int.reduceNe, Int.reduceAdd, Int.reduceSub, Int.reduceNeg, Nat.reduceLT, Nat.reduceLeDiff, Ent.ver, Ent.imm, Ent.ty, lits, isEl, newCells, aappend, Nat.reduceBEq, fill, undef, (st1), (st2), (st3), (st4), (st5), (st6), (st7), (st8), aMap, mget, mput, mclock, ksOK, keq, mres, fillA, isArrD, arrE, Nat.reduceMul]; try simp (disch := omega) only [wrapI64, Int.toNat_natCast, ← Int.natCast_add, nat_add_one, nat_add_two, take_drop_all, List.drop_zero, Nat.sub_zero, Nat.add_sub_cancel_left])
theorem ty0_ok (d : List UInt8) (σ : List Ent) : ACalls E 39 [.str d, nilS] σ fun r τ => r = .agg [.str d, .str [], nilS] ∧ τ = σ := by
  refine xacalls T0 .drop [] Tryz.func39 rfl (by kernel_rfl) (by kernel_rfl) (by simp [Tryz.ntmps39]) ?_
  (simp only [(vm1), (vm2), (vm3), (vm4), aDet, ev, tget, tput, ofC, ofC1, pureR, condR, abin, aun, alen, gslot, Nat.reduceEqDiff, reduceIte, argTs, asliceS, asliceL, bnd, boolV, intV, retQ, aRes, aResV, oneAV, AV.low, AV.low.lows, Nat.reduceAdd, isStringD, isSliceD, isBoolD, setRange, AV.cells, AV.isCell, AV.isAgg, abytes, aconv, aeq, isConst, isByteD, isIfaceD, endQ, Int.reduceToNat, Int.reduceLE, Int.reduceLT, Int.reduceEq, Int.reduceNe, Int.reduceAdd, Int.reduceSub, Int.reduceNeg, Nat.reduceLT, Nat.reduceLeDiff, Ent.ver, Ent.imm, Ent.ty, lits, isEl, newCells, aappend, Nat.reduceBEq, fill, undef, (st1), (st2), (st3), (st4), (st5), (st6), (st7), (st8), aMap, mget, mput, mclock, ksOK, keq, mres, fillA, isArrD, arrE, Nat.reduceMul]; try simp (disch := omega) only [wrapI64, Int.toNat_natCast, ← Int.natCast_add, nat_add_one, nat_add_two, take_drop_all, List.drop_zero, Nat.sub_zero, Nat.add_sub_cancel_left])
theorem ty_ok (d : List UInt8) (es : List AV) (hus : ∀ n, AV.low.lows n es = true) (σ : List Ent) : ACalls E 39 [.str d, .sl es] σ fun r τ => r = .agg [.str d, .str [], .sl es] ∧ τ = σ := by
  refine xacalls T0 .drop [] Tryz.func39 rfl (by kernel_rfl) (by kernel_rfl) (by simp [Tryz.ntmps39]) ?_
  (simp only [hus, (vm1), (vm2), (vm3), (vm4), aDet, ev, tget, tput, ofC, ofC1, pureR, condR, abin, aun, alen, gslot, Nat.reduceEqDiff, reduceIte, argTs, asliceS, asliceL, bnd, boolV, intV, retQ, aRes, aResV, oneAV, AV.low, AV.low.lows, Nat.reduceAdd, isStringD, isSliceD, isBoolD, setRange, AV.cells, AV.isCell, AV.isAgg, abytes, aconv, aeq, isConst, isByteD, isIfaceD, endQ, Int.reduceToNat, Int.reduceLE, Int.reduceLT, Int.reduceEq, Int.reduceNe, Int.reduceAdd, Int.reduceSub, Int.reduceNeg, Nat.reduceLT, Nat.reduceLeDiff, Ent.ver, Ent.imm, Ent.ty, lits, isEl, newCells, aappend, Nat.reduceBEq, fill, undef, (st1), (st2), (st3), (st4), (st5), (st6), (st7), (st8), aMap, mget, mput, mclock, ksOK, keq, mres, fillA, isArrD, arrE, Nat.reduceMul]; try simp (disch := omega) only [wrapI64, Int.toNat_natCast, ← Int.natCast_add, nat_add_one, nat_add_two, take_drop_all, List.drop_zero, Nat.sub_zero, Nat.add_sub_cancel_left])

def tyE (d n : List UInt8) (us : AV) : Ent := .arr 24 [.str d, .str n, us] 0 0
def graE (v z : Nat) : Ent := .arr 72 [.mp v, .mp z] 0 0
def strK (es : List MEnt) : Prop := ∀ e ∈ es, ∃ s, e.1 = .str s
theorem strK_ok {es : List MEnt} (h : strK es) (T : Nat → TI) (g l : List Ent) : ∀ e ∈ es, kOK T g l .string e.1 := fun e he => by
  obtain ⟨s, hs⟩ := h e he; rw [hs]; rfl
set_option maxHeartbeats 4000000 in
theorem nodeNew_ok (n : List UInt8) (σ : List Ent) (gid v z clock : Nat) (es : List MEnt) (hg : σ[gid]? = some (graE v z)) (hv : σ[v]? = some (.map es clock)) (hn : mget (.str n) es = none) (hk : strK es) :
    ACalls E 56 [.ref gid 0 0, .agg [.str kiVar, .str n, nilS]] σ fun r τ => r = .ref (σ.length + 1) 0 0 ∧ τ = σ.set v (.map (mput (.str n) (.ref (σ.length + 1) 0 0) clock es) (clock + 1)) ++ [tyE kiVar n nilS, nodeE kiVar n nilS nilP] := by
  have gg := sget_of hg
  have gv := sget_of hv
  have sG0 : ∀ e, ssetG σ v e = σ.set v e := fun e => by unfold ssetG; rw [if_pos (lt_of_get hv)]
  have sL0 : ∀ e l, ssetL σ l v e = l := fun e l => by unfold ssetL; rw [if_pos (lt_of_get hv)]
  have hln : ∀ e, (σ.set v e).length = σ.length := fun e => by simp
  simp only [graE] at gg
  refine xacalls T0 .stay [] Tryz.func56 rfl (by kernel_rfl) (by kernel_rfl) (by simp [Tryz.ntmps56]) ?_
  (simp only [(vm1), (vm2), (vm3), (vm4), aDet, ev, tget, tput, ofC, ofC1, pureR, condR, abin, aun, alen, gslot, Nat.reduceEqDiff, reduceIte, argTs, asliceS, asliceL, bnd, boolV, intV, retQ, aRes, aResV, oneAV, AV.low, AV.low.lows, Nat.reduceAdd, isStringD, isSliceD, isBoolD, setRange, AV.cells, AV.isCell, AV.isAgg, abytes, aconv, aeq, isConst, isByteD, isIfaceD, endQ, Int.reduceToNat, Int.reduceLE, Int.reduceLT, Int.reduceEq, Int.reduceNe, Int.reduceAdd, Int.reduceSub, Int.reduceNeg, Nat.reduceLT, Nat.reduceLeDiff, Ent.ver, Ent.imm, Ent.ty, lits, isEl, newCells, aappend, Nat.reduceBEq, fill, undef, (st1), (st2), (st3), (st4), (st5), (st6), (st7), (st8), aMap, mget, mput, mclock, ksOK, keq, mres, fillA, isArrD, arrE, Nat.reduceMul]; try simp (disch := omega) only [wrapI64, Int.toNat_natCast, ← Int.natCast_add, nat_add_one, nat_add_two, take_drop_all, List.drop_zero, Nat.sub_zero, Nat.add_sub_cancel_left])
  refine ydraw T0 [] (by kernel_rfl) (by kernel_rfl) (by kernel_rfl) (by kernel_rfl) ?_
  (simp only [gg, gv, hn, sG0, sL0, (vm1), (vm2), (vm3), (vm4), aDet, ev, tget, tput, ofC, ofC1, pureR, condR, abin, aun, alen, gslot, Nat.reduceEqDiff, reduceIte, argTs, asliceS, asliceL, bnd, boolV, intV, retQ, aRes, aResV, oneAV, AV.low, AV.low.lows, Nat.reduceAdd, isStringD, isSliceD, isBoolD, setRange, AV.cells, AV.isCell, AV.isAgg, abytes, aconv, aeq, isConst, isByteD, isIfaceD, endQ, Int.reduceToNat, Int.reduceLE, Int.reduceLT, Int.reduceEq, Int.reduceNe, Int.reduceAdd, Int.reduceSub, Int.reduceNeg, Nat.reduceLT, Nat.reduceLeDiff, Ent.ver, Ent.imm, Ent.ty, lits, isEl, newCells, aappend, Nat.reduceBEq, fill, undef, (st1), (st2), (st3), (st4), (st5), (st6), (st7), (st8), aMap, mget, mput, mclock, ksOK, keq, mres, fillA, isArrD, arrE, Nat.reduceMul]; try simp (disch := omega) only [wrapI64, Int.toNat_natCast, ← Int.natCast_add, nat_add_one, nat_add_two, take_drop_all, List.drop_zero, Nat.sub_zero, Nat.add_sub_cancel_left])
  refine ⟨⟨rfl, strK_ok hk _ _ _⟩, ?_⟩
  refine ydraw T0 [7] (by kernel_rfl) (by kernel_rfl) (by kernel_rfl) (by kernel_rfl) ?_
  (simp only [gg, gv, hn, sG0, sL0, Option.isSome_none, Bool.false_eq_true, if_false, (vm1), (vm2), (vm3), (vm4), aDet, ev, tget, tput, ofC, ofC1, pureR, condR, abin, aun, alen, gslot, Nat.reduceEqDiff, reduceIte, argTs, asliceS, asliceL, bnd, boolV, intV, retQ, aRes, aResV, oneAV, AV.low, AV.low.lows, Nat.reduceAdd, isStringD, isSliceD, isBoolD, setRange, AV.cells, AV.isCell, AV.isAgg, abytes, aconv, aeq, isConst, isByteD, isIfaceD, endQ, Int.reduceToNat, Int.reduceLE, Int.reduceLT, Int.reduceEq, Int.reduceNe, Int.reduceAdd, Int.reduceSub, Int.reduceNeg, Nat.reduceLT, Nat.reduceLeDiff, Ent.ver, Ent.imm, Ent.ty, lits, isEl, newCells, aappend, Nat.reduceBEq, fill, undef, (st1), (st2), (st3), (st4), (st5), (st6), (st7), (st8), aMap, mget, mput, mclock, ksOK, keq, mres, fillA, isArrD, arrE, Nat.reduceMul]; try simp (disch := omega) only [wrapI64, Int.toNat_natCast, ← Int.natCast_add, nat_add_one, nat_add_two, take_drop_all, List.drop_zero, Nat.sub_zero, Nat.add_sub_cancel_left])
  refine ⟨⟨rfl, strK_ok hk _ _ _⟩, hln _, ?_⟩
  have hGl := hln (.map (mput (.str n) (.ref (σ.length + 1) 0 0) clock es) (clock + 1))
  generalize σ.set v (.map (mput (.str n) (.ref (σ.length + 1) 0 0) clock es) (clock + 1)) = G at *
  rw [← hGl]
  (simp only [(vm1), (vm2), (vm3), (vm4), aDet, ev, tget, tput, ofC, ofC1, pureR, condR, abin, aun, alen, gslot, Nat.reduceEqDiff, reduceIte, argTs, asliceS, asliceL, bnd, boolV, intV, retQ, aRes, aResV, oneAV, AV.low, AV.low.lows, Nat.reduceAdd, isStringD, isSliceD, isBoolD, setRange, AV.cells, AV.isCell, AV.isAgg, abytes, aconv, aeq, isConst, isByteD, isIfaceD, endQ, Int.reduceToNat, Int.reduceLE, Int.reduceLT, Int.reduceEq, Int.reduceNe, Int.reduceAdd, Int.reduceSub, Int.reduceNeg, Nat.reduceLT, Nat.reduceLeDiff, Ent.ver, Ent.imm, Ent.ty, lits, isEl, newCells, aappend, Nat.reduceBEq, fill, undef, (st1), (st2), (st3), (st4), (st5), (st6), (st7), (st8), aMap, mget, mput, mclock, ksOK, keq, mres, fillA, isArrD, arrE, Nat.reduceMul]; try simp (disch := omega) only [wrapI64, Int.toNat_natCast, ← Int.natCast_add, nat_add_one, nat_add_two, take_drop_all, List.drop_zero, Nat.sub_zero, Nat.add_sub_cancel_left])
  refine xloop (α := Nat) T0 (fun i => [(7, .ref (G.length + 1) 0 0), (45, i64 0), (46, i64 0)]) (fun _ => G) (fun _ => [tyE kiVar n nilS, nodeE kiVar n nilS nilP]) (fun i => i = 0) (fun i => i) (by kernel_rfl)
    ⟨0, rfl, by (simp only [(vm1), (vm2), (vm3), (vm4), aDet, ev, tget, tput, ofC, ofC1, pureR, condR, abin, aun, alen, gslot, Nat.reduceEqDiff, reduceIte, argTs, asliceS, asliceL, bnd, boolV, intV, retQ, aRes, aResV, oneAV, AV.low, AV.low.lows, Nat.reduceAdd, isStringD, isSliceD, isBoolD, setRange, AV.cells, AV.isCell, AV.isAgg, abytes, aconv, aeq, isConst, isByteD, isIfaceD, endQ, Int.reduceToNat, Int.reduceLE, Int.reduceLT, Int.reduceEq, Int.reduceNe, Int.reduceAdd, Int.reduceSub, Int.reduceNeg, Nat.reduceLT, Nat.reduceLeDiff, Ent.ver, Ent.imm, Ent.ty, lits, isEl, newCells, aappend, Nat.reduceBEq, fill, undef, (st1), (st2), (st3), (st4), (st5), (st6), (st7), (st8), aMap, mget, mput, mclock, ksOK, keq, mres, fillA, isArrD, arrE, Nat.reduceMul]; try simp (disch := omega) only [wrapI64, Int.toNat_natCast, ← Int.natCast_add, nat_add_one, nat_add_two, take_drop_all, List.drop_zero, Nat.sub_zero, Nat.add_sub_cancel_left]), rfl, rfl⟩ ?_
  rintro i hi
  (simp only [(vm1), (vm2), (vm3), (vm4), aDet, ev, tget, tput, ofC, ofC1, pureR, condR, abin, aun, alen, gslot, Nat.reduceEqDiff, reduceIte, argTs, asliceS, asliceL, bnd, boolV, intV, retQ, aRes, aResV, oneAV, AV.low, AV.low.lows, Nat.reduceAdd, isStringD, isSliceD, isBoolD, setRange, AV.cells, AV.isCell, AV.isAgg, abytes, aconv, aeq, isConst, isByteD, isIfaceD, endQ, Int.reduceToNat, Int.reduceLE, Int.reduceLT, Int.reduceEq, Int.reduceNe, Int.reduceAdd, Int.reduceSub, Int.reduceNeg, Nat.reduceLT, Nat.reduceLeDiff, Ent.ver, Ent.imm, Ent.ty, lits, isEl, newCells, aappend, Nat.reduceBEq, fill, undef, (st1), (st2), (st3), (st4), (st5), (st6), (st7), (st8), aMap, mget, mput, mclock, ksOK, keq, mres, fillA, isArrD, arrE, Nat.reduceMul]; try simp (disch := omega) only [wrapI64, Int.toNat_natCast, ← Int.natCast_add, nat_add_one, nat_add_two, take_drop_all, List.drop_zero, Nat.sub_zero, Nat.add_sub_cancel_left])
set_option maxHeartbeats 4000000 in
theorem nodeLeaf_ok (d : List UInt8) (hd : ¬ d = kiVar) (σ : List Ent) (gid v z clock : Nat) (es : List MEnt) (hg : σ[gid]? = some (graE v z)) (hv : σ[v]? = some (.map es clock)) (hn : mget (.str []) es = none) (hk : strK es) :
    ACalls E 56 [.ref gid 0 0, .agg [.str d, .str [], nilS]] σ fun r τ => r = .ref (σ.length + 1) 0 0 ∧ τ = σ ++ [tyE d [] nilS, nodeE d [] nilS nilP] := by
  have gg := sget_of hg
  have gv := sget_of hv
  have n1 : ¬ d = [118, 97, 114] := hd
  simp only [graE] at gg
  refine xacalls T0 .stay [] Tryz.func56 rfl (by kernel_rfl) (by kernel_rfl) (by simp [Tryz.ntmps56]) ?_
  (simp only [(vm1), (vm2), (vm3), (vm4), aDet, ev, tget, tput, ofC, ofC1, pureR, condR, abin, aun, alen, gslot, Nat.reduceEqDiff, reduceIte, argTs, asliceS, asliceL, bnd, boolV, intV, retQ, aRes, aResV, oneAV, AV.low, AV.low.lows, Nat.reduceAdd, isStringD, isSliceD, isBoolD, setRange, AV.cells, AV.isCell, AV.isAgg, abytes, aconv, aeq, isConst, isByteD, isIfaceD, endQ, Int.reduceToNat, Int.reduceLE, Int.reduceLT, Int.reduceEq, Int.reduceNe, Int.reduceAdd, Int.reduceSub, Int.reduceNeg, Nat.reduceLT, Nat.reduceLeDiff, Ent.ver, Ent.imm, Ent.ty, lits, isEl, newCells, aappend, Nat.reduceBEq, fill, undef, (st1), (st2), (st3), (st4), (st5), (st6), (st7), (st8), aMap, mget, mput, mclock, ksOK, keq, mres, fillA, isArrD, arrE, Nat.reduceMul]; try simp (disch := omega) only [wrapI64, Int.toNat_natCast, ← Int.natCast_add, nat_add_one, nat_add_two, take_drop_all, List.drop_zero, Nat.sub_zero, Nat.add_sub_cancel_left])
  refine ydraw T0 [] (by kernel_rfl) (by kernel_rfl) (by kernel_rfl) (by kernel_rfl) ?_
  (simp only [gg, gv, hn, n1, Option.isSome_none, Bool.false_eq_true, if_false, (vm1), (vm2), (vm3), (vm4), aDet, ev, tget, tput, ofC, ofC1, pureR, condR, abin, aun, alen, gslot, Nat.reduceEqDiff, reduceIte, argTs, asliceS, asliceL, bnd, boolV, intV, retQ, aRes, aResV, oneAV, AV.low, AV.low.lows, Nat.reduceAdd, isStringD, isSliceD, isBoolD, setRange, AV.cells, AV.isCell, AV.isAgg, abytes, aconv, aeq, isConst, isByteD, isIfaceD, endQ, Int.reduceToNat, Int.reduceLE, Int.reduceLT, Int.reduceEq, Int.reduceNe, Int.reduceAdd, Int.reduceSub, Int.reduceNeg, Nat.reduceLT, Nat.reduceLeDiff, Ent.ver, Ent.imm, Ent.ty, lits, isEl, newCells, aappend, Nat.reduceBEq, fill, undef, (st1), (st2), (st3), (st4), (st5), (st6), (st7), (st8), aMap, mget, mput, mclock, ksOK, keq, mres, fillA, isArrD, arrE, Nat.reduceMul]; try simp (disch := omega) only [wrapI64, Int.toNat_natCast, ← Int.natCast_add, nat_add_one, nat_add_two, take_drop_all, List.drop_zero, Nat.sub_zero, Nat.add_sub_cancel_left])
  refine ⟨⟨rfl, strK_ok hk _ _ _⟩, ?_⟩
  refine xloop (α := Nat) T0 (fun i => [(7, .ref (σ.length + 1) 0 0), (45, i64 0), (46, i64 0)]) (fun _ => σ) (fun _ => [tyE d [] nilS, nodeE d [] nilS nilP]) (fun i => i = 0) (fun i => i) (by kernel_rfl)
    ⟨0, rfl, by (simp only [(vm1), (vm2), (vm3), (vm4), aDet, ev, tget, tput, ofC, ofC1, pureR, condR, abin, aun, alen, gslot, Nat.reduceEqDiff, reduceIte, argTs, asliceS, asliceL, bnd, boolV, intV, retQ, aRes, aResV, oneAV, AV.low, AV.low.lows, Nat.reduceAdd, isStringD, isSliceD, isBoolD, setRange, AV.cells, AV.isCell, AV.isAgg, abytes, aconv, aeq, isConst, isByteD, isIfaceD, endQ, Int.reduceToNat, Int.reduceLE, Int.reduceLT, Int.reduceEq, Int.reduceNe, Int.reduceAdd, Int.reduceSub, Int.reduceNeg, Nat.reduceLT, Nat.reduceLeDiff, Ent.ver, Ent.imm, Ent.ty, lits, isEl, newCells, aappend, Nat.reduceBEq, fill, undef, (st1), (st2), (st3), (st4), (st5), (st6), (st7), (st8), aMap, mget, mput, mclock, ksOK, keq, mres, fillA, isArrD, arrE, Nat.reduceMul]; try simp (disch := omega) only [wrapI64, Int.toNat_natCast, ← Int.natCast_add, nat_add_one, nat_add_two, take_drop_all, List.drop_zero, Nat.sub_zero, Nat.add_sub_cancel_left]), rfl, rfl⟩ ?_
  rintro i hi
  (simp only [(vm1), (vm2), (vm3), (vm4), aDet, ev, tget, tput, ofC, ofC1, pureR, condR, abin, aun, alen, gslot, Nat.reduceEqDiff, reduceIte, argTs, asliceS, asliceL, bnd, boolV, intV, retQ, aRes, aResV, oneAV, AV.low, AV.low.lows, Nat.reduceAdd, isStringD, isSliceD, isBoolD, setRange, AV.cells, AV.isCell, AV.isAgg, abytes, aconv, aeq, isConst, isByteD, isIfaceD, endQ, Int.reduceToNat, Int.reduceLE, Int.reduceLT, Int.reduceEq, Int.reduceNe, Int.reduceAdd, Int.reduceSub, Int.reduceNeg, Nat.reduceLT, Nat.reduceLeDiff, Ent.ver, Ent.imm, Ent.ty, lits, isEl, newCells, aappend, Nat.reduceBEq, fill, undef, (st1), (st2), (st3), (st4), (st5), (st6), (st7), (st8), aMap, mget, mput, mclock, ksOK, keq, mres, fillA, isArrD, arrE, Nat.reduceMul]; try simp (disch := omega) only [wrapI64, Int.toNat_natCast, ← Int.natCast_add, nat_add_one, nat_add_two, take_drop_all, List.drop_zero, Nat.sub_zero, Nat.add_sub_cancel_left])
set_option maxHeartbeats 4000000 in
theorem nodeOld_ok (n : List UInt8) (p : Nat) (σ : List Ent) (gid v z clock : Nat) (es : List MEnt) (hg : σ[gid]? = some (graE v z)) (hv : σ[v]? = some (.map es clock)) (hn : mget (.str n) es = some (.ref p 0 0)) (hk : strK es) (hp : p < σ.length) :
    ACalls E 56 [.ref gid 0 0, .agg [.str kiVar, .str n, nilS]] σ fun r τ => r = .ref p 0 0 ∧ τ = σ := by
  have gg := sget_of hg
  have gv := sget_of hv
  simp only [graE] at gg
  refine xacalls T0 .drop [] Tryz.func56 rfl (by kernel_rfl) (by kernel_rfl) (by simp [Tryz.ntmps56]) ?_
  (simp only [(vm1), (vm2), (vm3), (vm4), aDet, ev, tget, tput, ofC, ofC1, pureR, condR, abin, aun, alen, gslot, Nat.reduceEqDiff, reduceIte, argTs, asliceS, asliceL, bnd, boolV, intV, retQ, aRes, aResV, oneAV, AV.low, AV.low.lows, Nat.reduceAdd, isStringD, isSliceD, isBoolD, setRange, AV.cells, AV.isCell, AV.isAgg, abytes, aconv, aeq, isConst, isByteD, isIfaceD, endQ, Int.reduceToNat, Int.reduceLE, Int.reduceLT, Int.reduceEq, Int.reduceNe, Int.reduceAdd, Int.reduceSub, Int.reduceNeg, Nat.reduceLT, Nat.reduceLeDiff, Ent.ver, Ent.imm, Ent.ty, lits, isEl, newCells, aappend, Nat.reduceBEq, fill, undef, (st1), (st2), (st3), (st4), (st5), (st6), (st7), (st8), aMap, mget, mput, mclock, ksOK, keq, mres, fillA, isArrD, arrE, Nat.reduceMul]; try simp (disch := omega) only [wrapI64, Int.toNat_natCast, ← Int.natCast_add, nat_add_one, nat_add_two, take_drop_all, List.drop_zero, Nat.sub_zero, Nat.add_sub_cancel_left])
  refine ydraw T0 [] (by kernel_rfl) (by kernel_rfl) (by kernel_rfl) (by kernel_rfl) ?_
  (simp only [gg, gv, hn, Option.isSome_some, if_true, (vm1), (vm2), (vm3), (vm4), aDet, ev, tget, tput, ofC, ofC1, pureR, condR, abin, aun, alen, gslot, Nat.reduceEqDiff, reduceIte, argTs, asliceS, asliceL, bnd, boolV, intV, retQ, aRes, aResV, oneAV, AV.low, AV.low.lows, Nat.reduceAdd, isStringD, isSliceD, isBoolD, setRange, AV.cells, AV.isCell, AV.isAgg, abytes, aconv, aeq, isConst, isByteD, isIfaceD, endQ, Int.reduceToNat, Int.reduceLE, Int.reduceLT, Int.reduceEq, Int.reduceNe, Int.reduceAdd, Int.reduceSub, Int.reduceNeg, Nat.reduceLT, Nat.reduceLeDiff, Ent.ver, Ent.imm, Ent.ty, lits, isEl, newCells, aappend, Nat.reduceBEq, fill, undef, (st1), (st2), (st3), (st4), (st5), (st6), (st7), (st8), aMap, mget, mput, mclock, ksOK, keq, mres, fillA, isArrD, arrE, Nat.reduceMul]; try simp (disch := omega) only [wrapI64, Int.toNat_natCast, ← Int.natCast_add, nat_add_one, nat_add_two, take_drop_all, List.drop_zero, Nat.sub_zero, Nat.add_sub_cancel_left])
  refine ⟨⟨rfl, strK_ok hk _ _ _⟩, ?_⟩
  exact decide_eq_true hp
end Go.D
