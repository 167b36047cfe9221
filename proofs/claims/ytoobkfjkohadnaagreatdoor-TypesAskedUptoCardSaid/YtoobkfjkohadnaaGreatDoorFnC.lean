/- What makes a type another one: the walk. -/
import Derived.Test.YtoobkfjkohadnaaGreatDoorFnB
import Derived.Test.YtoobkfjkohadnaaGreatDoorVmF
set_option linter.unusedVariables false
set_option linter.unusedSimpArgs false
set_option linter.unnecessarySimpa false
set_option maxRecDepth 100000
namespace Go.D
open Go Go.Vm Go.Proofs Go.RowKit

def okM (s : Sub') : Prop := ∀ e ∈ s, lenT e.2
theorem look_mem {s : Sub'} {n : List UInt8} {t : Tr} (h : s.look n = some t) : ∃ e ∈ s, e.2 = t := by
  induction s with
  | nil => cases h
  | cons e r ih =>
    unfold Sub'.look at h
    by_cases hh : n = e.1
    · simp [hh] at h; exact ⟨e, by simp, h⟩
    · simp only [hh, if_false] at h
      obtain ⟨e', h1, h2⟩ := ih h
      exact ⟨e', by simp [h1], h2⟩
theorem ents_low (n : Nat) : ∀ (k : Nat) (s : Sub'), AV.low.lows n ((mEnts k s).map (·.1)) = true ∧ AV.low.lows n ((mEnts k s).map (·.2.1)) = true
  | k, [] => ⟨rfl, rfl⟩
  | k, e :: r => by
    obtain ⟨h1, h2⟩ := ents_low n (k + 1) r
    simp only [mEnts, List.map_cons, AV.low.lows, AV.low, tyV_low, h1, h2, Bool.and_self, and_self]
theorem mapE_low (n : Nat) (s : Sub') : (mapE s).low n = true := by
  obtain ⟨h1, h2⟩ := ents_low n 0 s
  simp only [mapE, Ent.low, h1, h2, Bool.and_self]
theorem storeLow_set {n : Nat} {σ : List Ent} {id : Nat} {e : Ent} (h : e.low n = true) : StoreLow n σ (σ.set id e) := fun i x hx => by
  rcases get_set hx with ⟨_, rfl, _⟩ | ⟨_, hx⟩
  · exact .inr h
  · exact .inl hx
mutual
theorem matT_okM : ∀ (t u : Tr) (s : Sub'), lenT u → okM s → okM (matT t u s).2
  | .mk d n us, .mk d' n' us', s, hu, hs => by
    unfold matT
    split
    · split
      · intro e he
        rcases List.mem_append.1 he with he | he
        · exact hs e he
        · simp at he; subst he; exact hu
      · exact hs
    · split
      · simp only [lenT] at hu
        exact matTs_okM us us' s hu.2.2 hs
      · exact hs
theorem matTs_okM : ∀ (l l' : List Tr) (s : Sub'), lenTs l' → okM s → okM (matTs l l' s).2
  | [], _, s, _, hs => by simp only [matTs]; exact hs
  | _ :: _, [], s, _, hs => by simp only [matTs]; exact hs
  | t :: ts, u :: us, s, hu, hs => by
    simp only [lenTs] at hu
    simp only [matTs]
    split
    · exact matTs_okM ts us _ hu.2 (matT_okM t u s hu.1 hs)
    · exact matT_okM t u s hu.1 hs
end
/-- What is asked of a type, with a map. -/
def MT (t : Tr) : Prop := ∀ (u : Tr) (s : Sub') (σ : List Ent) (m : Nat), okT t → lenT u → okM s → σ[m]? = some (mapE s) →
  ACalls E 45 [tyV t, tyV u, .mp m] σ fun r τ => r = boolV (matT t u s).1 ∧ τ = σ.set m (mapE (matT t u s).2) ∧ okM (matT t u s).2
theorem matTs_one : ∀ (l l' : List Tr) (a b : Tr) (s : Sub'), l.length = l'.length → (matTs l l' s).1 = true → (matT a b (matTs l l' s).2).1 = true → matTs (l ++ [a]) (l' ++ [b]) s = (true, (matT a b (matTs l l' s).2).2)
  | [], [], a, b, s, _, _, h2 => by
    simp only [List.nil_append, matTs] at h2 ⊢
    rw [if_pos h2]
  | t :: l, t' :: l', a, b, s, h, h1, h2 => by
    simp only [List.cons_append, matTs] at h1 h2 ⊢
    by_cases hh : (matT t t' s).1 = true
    · rw [if_pos hh] at h1 h2 ⊢
      rw [if_pos hh]
      exact matTs_one l l' a b _ (by simpa using h) h1 h2
    · rw [if_neg hh] at h1; simp at h1
theorem matTs_stop : ∀ (l l' : List Tr) (a b : Tr) (r r' : List Tr) (s : Sub'), l.length = l'.length → (matTs l l' s).1 = true → (matT a b (matTs l l' s).2).1 = false → matTs (l ++ a :: r) (l' ++ b :: r') s = (false, (matT a b (matTs l l' s).2).2)
  | [], [], a, b, r, r', s, _, _, h2 => by
    simp only [List.nil_append, matTs] at h2 ⊢
    rw [if_neg (by rw [h2]; simp)]
  | t :: l, t' :: l', a, b, r, r', s, h, h1, h2 => by
    simp only [List.cons_append, matTs] at h1 h2 ⊢
    by_cases hh : (matT t t' s).1 = true
    · rw [if_pos hh] at h1 h2 ⊢
      rw [if_pos hh]
      exact matTs_stop l l' a b r r' _ (by simpa using h) h1 h2
    · rw [if_neg hh] at h1; simp at h1
set_option maxHeartbeats 4000000 in
theorem match1_ok (d n : List UInt8) (us us' : List Tr) (σ : List Ent) (m i : Nat) (a b : Tr) (si : Sub') (hu1 : us[i]? = some a) (hu2 : us'[i]? = some b) (hi : i < us.length) (hi' : i < us'.length) {e0 : Ent} (hm : σ[m]? = some e0) (L : List Ent)
    (hL : [Ent.arr 24 [AV.str d, AV.str n, AV.sl (tysV us)] 0 0, Ent.arr 24 [AV.str d, AV.str n, AV.sl (tysV us')] 0 0, Ent.arr 57 [AV.mp m] 0 0] = L)
    (h : MT a) (ha : okT a) (hb : lenT b) (hsi : okM si) :
    ACalls E 86 [i64 (i : Nat), .ref σ.length 0 0, .ref (σ.length + 1) 0 0, .ref (σ.length + 2) 0 0] (σ.set m (mapE si) ++ L) fun r τ => r = boolV (!(matT a b si).1) ∧ τ = σ.set m (mapE (matT a b si).2) ++ L ∧ okM (matT a b si).2 := by
  have hlt := lt_of_get hm
  have hg1 := tysV_get hu1
  have hg2 := tysV_get hu2
  have hh := h b si (σ.set m (mapE si) ++ L) m ha hb hsi (by rw [List.getElem?_append_left (by simpa using hlt)]; simp [hlt])
  rw [List.set_append_left _ _ (by simpa using hlt), List.set_set] at hh
  have hln : σ.length = (σ.set m (mapE si)).length := by simp
  subst hL
  refine xacalls T0 .drop [] Tryz.func86 rfl (by kernel_rfl) (by kernel_rfl) (by simp [Tryz.ntmps86]) ?_
  have hlow : StoreLow (σ.set m (mapE si) ++ [Ent.arr 24 [AV.str d, AV.str n, AV.sl (tysV us)] 0 0, Ent.arr 24 [AV.str d, AV.str n, AV.sl (tysV us')] 0 0, Ent.arr 57 [AV.mp m] 0 0]).length
      (σ.set m (mapE si) ++ [Ent.arr 24 [AV.str d, AV.str n, AV.sl (tysV us)] 0 0, Ent.arr 24 [AV.str d, AV.str n, AV.sl (tysV us')] 0 0, Ent.arr 57 [AV.mp m] 0 0])
      (σ.set m (mapE (matT a b si).2) ++ [Ent.arr 24 [AV.str d, AV.str n, AV.sl (tysV us)] 0 0, Ent.arr 24 [AV.str d, AV.str n, AV.sl (tysV us')] 0 0, Ent.arr 57 [AV.mp m] 0 0]) := by
    have := storeLow_set (n := (σ.set m (mapE si) ++ [Ent.arr 24 [AV.str d, AV.str n, AV.sl (tysV us)] 0 0, Ent.arr 24 [AV.str d, AV.str n, AV.sl (tysV us')] 0 0, Ent.arr 57 [AV.mp m] 0 0]).length)
      (σ := σ.set m (mapE si) ++ [Ent.arr 24 [AV.str d, AV.str n, AV.sl (tysV us)] 0 0, Ent.arr 24 [AV.str d, AV.str n, AV.sl (tysV us')] 0 0, Ent.arr 57 [AV.mp m] 0 0]) (id := m) (mapE_low _ (matT a b si).2)
    rw [List.set_append_left _ _ (by simpa using hlt), List.set_set] at this
    exact this
  simp only [hln]
  generalize hS : σ.set m (mapE si) = S at *
  generalize hS2 : σ.set m (mapE (matT a b si).2) = S2 at *
  have hl2 : S2.length = S.length := by rw [← hS, ← hS2]; simp
  cases a with
  | mk d1 n1 us1 =>
  cases b with
  | mk d2 n2 us2 =>
  simp only [tyV] at hg1 hg2 hh
  have gg2 : ∀ (a b c : Ent) (l : List Ent), sget (S ++ [a, b, c]) l (S.length + 2) = some c := fun a b c l => by simp [sget]
  (simp only [gg2, (vmA), Nat.reduceEqDiff, reduceIte, Nat.reduceAdd, Int.reduceToNat, Int.reduceLE, Int.reduceLT, Int.reduceEq, Int.reduceNe, Int.reduceAdd, Int.reduceSub, Int.reduceNeg, Nat.reduceLT, Nat.reduceLeDiff, Nat.reduceBEq, undef, (stA), Nat.reduceMul]; try simp (disch := omega) only [(vmp)])
  refine ydraw T0 [11] (by kernel_rfl) (by kernel_rfl) (by kernel_rfl) (by kernel_rfl) ?_
  (simp only [gg2, hg1, hg2, tysV_len, (vmA), Nat.reduceEqDiff, reduceIte, Nat.reduceAdd, Int.reduceToNat, Int.reduceLE, Int.reduceLT, Int.reduceEq, Int.reduceNe, Int.reduceAdd, Int.reduceSub, Int.reduceNeg, Nat.reduceLT, Nat.reduceLeDiff, Nat.reduceBEq, undef, (stA), Nat.reduceMul]; try simp (disch := omega) only [(vmp)])
  refine ⟨by omega, by omega, ?_⟩
  have hok := matT_okM (.mk d1 n1 us1) (.mk d2 n2 us2) si hb hsi
  have hh2 : ACalls E 45 [.agg [.str d1, .str n1, .sl (tysV us1)], .agg [.str d2, .str n2, .sl (tysV us2)], .mp m] ((S ++ [Ent.arr 24 [AV.str d, AV.str n, AV.sl (tysV us)] 0 0, Ent.arr 24 [AV.str d, AV.str n, AV.sl (tysV us')] 0 0, Ent.arr 57 [AV.mp m] 0 0]) ++ []) fun r τ => r = boolV (matT (.mk d1 n1 us1) (.mk d2 n2 us2) si).1 ∧ τ = (S2 ++ [Ent.arr 24 [AV.str d, AV.str n, AV.sl (tysV us)] 0 0, Ent.arr 24 [AV.str d, AV.str n, AV.sl (tysV us')] 0 0, Ent.arr 57 [AV.mp m] 0 0]) ++ [] := by
    rw [List.append_nil, List.append_nil]
    exact hh.mono fun r τ ⟨q1, q2, _⟩ => ⟨q1, q2⟩
  refine yNext.bar (by rfl) _ rfl hh2 (by simp; omega) ?_
  (simp only [(vmA), Nat.reduceEqDiff, reduceIte, Nat.reduceAdd, Int.reduceToNat, Int.reduceLE, Int.reduceLT, Int.reduceEq, Int.reduceNe, Int.reduceAdd, Int.reduceSub, Int.reduceNeg, Nat.reduceLT, Nat.reduceLeDiff, Nat.reduceBEq, undef, (stA), Nat.reduceMul]; try simp (disch := omega) only [(vmp)])
  rw [List.length_append] at hlow
  exact ⟨hlow, hok⟩
set_option maxHeartbeats 4000000 in
theorem match_step (d n : List UInt8) (us : List Tr) (ih : ∀ u ∈ us, MT u) : MT (.mk d n us) := by
  intro u s σ m ht hu hs hm
  obtain ⟨hfew, hdn⟩ := okT_down d n us ht
  cases u with
  | mk d' n' us' =>
  have hlt := lt_of_get hm
  have gk : ∀ r, sget σ r m = some (mapE s) := fun r => by unfold sget; rw [if_pos hlt, hm]
  have sG0 : ∀ e, ssetG σ m e = σ.set m e := fun e => by unfold ssetG; rw [if_pos hlt]
  have sL0 : ∀ e l, ssetL σ l m e = l := fun e l => by unfold ssetL; rw [if_pos hlt]
  refine xacalls T0 .drop [] Tryz.func45 rfl (by kernel_rfl) (by kernel_rfl) (by simp [Tryz.ntmps45]) ?_
  have hself : σ = σ.set m (mapE s) := (list_set_self hm).symm
  by_cases hd : d = kiVar
  · have t1 : (d = [118, 97, 114]) = True := eq_true hd
    have hdk : (d = kiVar) = True := eq_true hd
    simp only [mapE] at gk
    cases hlk : s.look n with
    | none =>
      have hput := mput_ents n (.mk d' n' us') 0 s hlk
      have hok : okM (s ++ [(n, .mk d' n' us')]) := fun e he => by
        rcases List.mem_append.1 he with he | he
        · exact hs e he
        · simp at he; subst he; exact hu
      have heq : matT (.mk d n us) (.mk d' n' us') s = (true, s ++ [(n, .mk d' n' us')]) := by unfold matT; rw [if_pos hd, hlk]
      rw [heq]
      simp only [tyV, Nat.zero_add] at hput
      (simp only [tyV, t1, gk, sG0, sL0, mget_ents, hlk, hput, Option.map_none, Option.isSome_none, Bool.false_eq_true, if_false, (vmA), Nat.reduceEqDiff, reduceIte, Nat.reduceAdd, Int.reduceToNat, Int.reduceLE, Int.reduceLT, Int.reduceEq, Int.reduceNe, Int.reduceAdd, Int.reduceSub, Int.reduceNeg, Nat.reduceLT, Nat.reduceLeDiff, Nat.reduceBEq, undef, (stA), Nat.reduceMul]; try simp (disch := omega) only [(vmp)])
      refine ⟨⟨rfl, fun e he => ents_keys tab _ _ 0 s e he⟩, ⟨rfl, fun e he => ents_keys tab _ _ 0 s e he⟩, ?_, ?_, hok⟩
      · exact storeLow_set (by have := mapE_low σ.length (s ++ [(n, .mk d' n' us')]); simpa only [mapE, List.length_append, List.length_cons, List.length_nil] using this)
      · simp only [mapE, List.length_append, List.length_cons, List.length_nil]
    | some t =>
      have heq : matT (.mk d n us) (.mk d' n' us') s = (sameB t (.mk d' n' us'), s) := by unfold matT; rw [if_pos hd, hlk]
      rw [heq]
      obtain ⟨e0, he0, rfl⟩ := look_mem hlk
      have hst := fun σ' => SameType_ok _ e0.2 (Nat.le_refl _) (.mk d' n' us') σ' (hs e0 he0) hu
      generalize e0.2 = t at *
      cases t with
      | mk d2 n2 us2 =>
      simp only [tyV] at hst
      (simp only [tyV, t1, gk, sG0, sL0, mget_ents, hlk, Option.map_some, Option.isSome_some, if_true, (vmA), Nat.reduceEqDiff, reduceIte, Nat.reduceAdd, Int.reduceToNat, Int.reduceLE, Int.reduceLT, Int.reduceEq, Int.reduceNe, Int.reduceAdd, Int.reduceSub, Int.reduceNeg, Nat.reduceLT, Nat.reduceLeDiff, Nat.reduceBEq, undef, (stA), Nat.reduceMul]; try simp (disch := omega) only [(vmp)])
      refine ⟨⟨rfl, fun e he => ents_keys tab _ _ 0 s e he⟩, ?_⟩
      refine xWait.go (hst _) ?_
      (simp only [(vmA), Nat.reduceEqDiff, reduceIte, Nat.reduceAdd, Int.reduceToNat, Int.reduceLE, Int.reduceLT, Int.reduceEq, Int.reduceNe, Int.reduceAdd, Int.reduceSub, Int.reduceNeg, Nat.reduceLT, Nat.reduceLeDiff, Nat.reduceBEq, undef, (stA), Nat.reduceMul]; try simp (disch := omega) only [(vmp)])
      exact ⟨hself, hs⟩
  · have n1 : ¬ d = [118, 97, 114] := hd
    by_cases h1 : d = d'
    rotate_left
    · have heq : matT (.mk d n us) (.mk d' n' us') s = (false, s) := by unfold matT; rw [if_neg hd, if_neg (fun h => h1 h.1)]
      rw [heq]
      (simp only [tyV, n1, h1, (vmA), Nat.reduceEqDiff, reduceIte, Nat.reduceAdd, Int.reduceToNat, Int.reduceLE, Int.reduceLT, Int.reduceEq, Int.reduceNe, Int.reduceAdd, Int.reduceSub, Int.reduceNeg, Nat.reduceLT, Nat.reduceLeDiff, Nat.reduceBEq, undef, (stA), Nat.reduceMul]; try simp (disch := omega) only [(vmp)])
      exact ⟨hself, hs⟩
    subst h1
    by_cases h2 : n = n'
    rotate_left
    · have heq : matT (.mk d n us) (.mk d n' us') s = (false, s) := by unfold matT; rw [if_neg hd, if_neg (fun h => h2 h.2.1)]
      rw [heq]
      (simp only [tyV, n1, h2, eq_self, (vmA), Nat.reduceEqDiff, reduceIte, Nat.reduceAdd, Int.reduceToNat, Int.reduceLE, Int.reduceLT, Int.reduceEq, Int.reduceNe, Int.reduceAdd, Int.reduceSub, Int.reduceNeg, Nat.reduceLT, Nat.reduceLeDiff, Nat.reduceBEq, undef, (stA), Nat.reduceMul]; try simp (disch := omega) only [(vmp)])
      exact ⟨hself, hs⟩
    subst h2
    by_cases h3 : (us.length : Int) = us'.length
    rotate_left
    · have heq : matT (.mk d n us) (.mk d n us') s = (false, s) := by unfold matT; rw [if_neg hd, if_neg (fun h => h3 (by omega))]
      rw [heq]
      (simp only [tyV, n1, h3, eq_self, tysV_len, (vmA), Nat.reduceEqDiff, reduceIte, Nat.reduceAdd, Int.reduceToNat, Int.reduceLE, Int.reduceLT, Int.reduceEq, Int.reduceNe, Int.reduceAdd, Int.reduceSub, Int.reduceNeg, Nat.reduceLT, Nat.reduceLeDiff, Nat.reduceBEq, undef, (stA), Nat.reduceMul]; try simp (disch := omega) only [(vmp)])
      exact ⟨hself, hs⟩
    · have heq : matT (.mk d n us) (.mk d n us') s = matTs us us' s := by unfold matT; rw [if_neg hd, if_pos ⟨rfl, rfl, by omega⟩]
      rw [heq]
      (simp only [tyV, n1, h3, eq_self, tysV_len, (vmA), Nat.reduceEqDiff, reduceIte, Nat.reduceAdd, Int.reduceToNat, Int.reduceLE, Int.reduceLT, Int.reduceEq, Int.reduceNe, Int.reduceAdd, Int.reduceSub, Int.reduceNeg, Nat.reduceLT, Nat.reduceLeDiff, Nat.reduceBEq, undef, (stA), Nat.reduceMul]; try simp (disch := omega) only [(vmp)])
      have hix := fun σ' => indexes_ok us hfew σ'
      refine xWait.go (hix _) ?_
      (simp only [(vmA), Nat.reduceEqDiff, reduceIte, Nat.reduceAdd, Int.reduceToNat, Int.reduceLE, Int.reduceLT, Int.reduceEq, Int.reduceNe, Int.reduceAdd, Int.reduceSub, Int.reduceNeg, Nat.reduceLT, Nat.reduceLeDiff, Nat.reduceBEq, undef, (stA), Nat.reduceMul]; try simp (disch := omega) only [(vmp)])
      have h3' : us.length = us'.length := by omega
      generalize hL : [Ent.arr 24 [AV.str d, AV.str n, AV.sl (tysV us)] 0 0, Ent.arr 24 [AV.str d, AV.str n, AV.sl (tysV us')] 0 0, Ent.arr 57 [AV.mp m] 0 0] = L
      have key := conI_ok 86 [.ref σ.length 0 0, .ref (σ.length + 1) 0 0, .ref (σ.length + 2) 0 0] us.length (by omega)
        (fun i => σ.set m (mapE (matTs (us.take i) (us'.take i) s).2) ++ L) (fun i => (matTs (us.take i) (us'.take i) s).1 = true ∧ okM (matTs (us.take i) (us'.take i) s).2)
        (fun i τ => (matTs us us' s).1 = false ∧ okM (matTs us us' s).2 ∧ τ = σ.set m (mapE (matTs us us' s).2) ++ L)
        (fun i j => by simp) ⟨by simp only [List.take_zero, matTs], by simpa only [List.take_zero, matTs] using hs⟩ ?_
      · simp only [List.take_zero, matTs] at key
        rw [← hself] at key
        refine xWait.of key ?_
        have h4 : us'.take us.length = us' := List.take_of_length_le (by omega)
        have h5 : us.take us.length = us := List.take_of_length_le (Nat.le_refl _)
        rintro r τ (⟨rfl, ⟨q1, q2⟩, rfl⟩ | ⟨rfl, i, hi, _, q1, q2, rfl⟩)
        · rw [h4, h5] at q1 q2 ⊢
          have e1 : List.take σ.length (σ.set m (mapE (matTs us us' s).2) ++ L) = σ.set m (mapE (matTs us us' s).2) := by rw [List.take_append_of_le_length (by simp), List.take_of_length_le (by simp)]
          have e2 : List.drop σ.length (σ.set m (mapE (matTs us us' s).2) ++ L) = L := by rw [List.drop_append_of_le_length (by simp), List.drop_of_length_le (by simp), List.nil_append]
          (simp only [e1, e2, (vmA), Nat.reduceEqDiff, reduceIte, Nat.reduceAdd, Int.reduceToNat, Int.reduceLE, Int.reduceLT, Int.reduceEq, Int.reduceNe, Int.reduceAdd, Int.reduceSub, Int.reduceNeg, Nat.reduceLT, Nat.reduceLeDiff, Nat.reduceBEq, undef, (stA), Nat.reduceMul]; try simp (disch := omega) only [(vmp)])
          exact ⟨storeLow_set (mapE_low _ _), by rw [q1], q2⟩
        · have e1 : List.take σ.length (σ.set m (mapE (matTs us us' s).2) ++ L) = σ.set m (mapE (matTs us us' s).2) := by rw [List.take_append_of_le_length (by simp), List.take_of_length_le (by simp)]
          have e2 : List.drop σ.length (σ.set m (mapE (matTs us us' s).2) ++ L) = L := by rw [List.drop_append_of_le_length (by simp), List.drop_of_length_le (by simp), List.nil_append]
          (simp only [e1, e2, (vmA), Nat.reduceEqDiff, reduceIte, Nat.reduceAdd, Int.reduceToNat, Int.reduceLE, Int.reduceLT, Int.reduceEq, Int.reduceNe, Int.reduceAdd, Int.reduceSub, Int.reduceNeg, Nat.reduceLT, Nat.reduceLeDiff, Nat.reduceBEq, undef, (stA), Nat.reduceMul]; try simp (disch := omega) only [(vmp)])
          exact ⟨storeLow_set (mapE_low _ _), by rw [q1], q2⟩
      · intro i hi ⟨hI1, hI2⟩
        have hu1 : us[i]? = some us[i] := List.getElem?_eq_getElem hi
        have hi' : i < us'.length := by omega
        have hu2 : us'[i]? = some us'[i] := List.getElem?_eq_getElem hi'
        obtain ⟨s1, s2⟩ := take_split us i _ hu1
        obtain ⟨s3, s4⟩ := take_split us' i _ hu2
        have hm1 : us[i] ∈ us := List.getElem_mem hi
        have hm2 : us'[i] ∈ us' := List.getElem_mem hi'
        generalize us[i] = a at *
        generalize us'[i] = b at *
        have hlen : (us.take i).length = (us'.take i).length := by simp; omega
        generalize hsi : (matTs (us.take i) (us'.take i) s).2 = si at *
        have hlow : lenTs us' := by simp only [lenT] at hu; exact hu.2.2
        refine (match1_ok d n us us' σ m i a b si hu1 hu2 hi hi' hm L hL (ih a hm1) (hdn a hm1) (lenTs_mem hlow hm2) hI2).mono fun r τ ⟨r1, r2, r3⟩ => ?_
        cases hb : (matT a b si).1
        · right
          rw [hb] at r1
          have hall := matTs_stop (us.take i) (us'.take i) a b (us.drop (i + 1)) (us'.drop (i + 1)) s hlen hI1 (by rw [hsi]; exact hb)
          rw [← s2, ← s4, hsi] at hall
          exact ⟨r1, by rw [hall], by rw [hall]; exact r3, by rw [hall]; exact r2⟩
        · left
          rw [hb] at r1
          have hone := matTs_one (us.take i) (us'.take i) a b s hlen hI1 (by rw [hsi]; exact hb)
          rw [← s1, ← s3, hsi] at hone
          exact ⟨r1, ⟨by rw [hone], by rw [hone]; exact r3⟩, by rw [hone]; exact r2⟩
theorem match_ok : ∀ (m : Nat) (t : Tr), SizeOf.sizeOf t ≤ m → MT t
  | 0, .mk d n us, h => by simp at h
  | m + 1, .mk d n us, h => match_step d n us fun u hu => match_ok m u (by
      have := List.sizeOf_lt_of_mem hu
      simp at h; omega)
end Go.D

/- What makes a type another one: what is found. (No program in sight.) -/
set_option linter.unusedVariables false
set_option linter.unusedSimpArgs false
namespace Go.D
open Go Go.Vm

theorem look_app : ∀ (s : Sub') (n m : List UInt8) (t : Tr), Sub'.look (s ++ [(n, t)]) m = match Sub'.look s m with | some x => some x | none => if m = n then some t else none
  | [], n, m, t => by simp [Sub'.look]
  | e :: r, n, m, t => by
    simp only [List.cons_append, Sub'.look]
    by_cases h : m = e.1
    · simp [h]
    · simp only [h, if_false]; exact look_app r n m t
mutual
theorem matT_mono : ∀ (t u : Tr) (s : Sub') (n : List UInt8) (x : Tr), Sub'.look s n = some x → Sub'.look (matT t u s).2 n = some x
  | .mk d n us, .mk d' n' us', s, m, x, h => by
    unfold matT
    split
    · split
      · simp only [look_app, h]
      · exact h
    · split
      · exact matTs_mono us us' s m x h
      · exact h
theorem matTs_mono : ∀ (l l' : List Tr) (s : Sub') (n : List UInt8) (x : Tr), Sub'.look s n = some x → Sub'.look (matTs l l' s).2 n = some x
  | [], _, s, _, _, h => by simp only [matTs]; exact h
  | _ :: _, [], s, _, _, h => by simp only [matTs]; exact h
  | t :: ts, u :: us, s, m, x, h => by
    simp only [matTs]
    split
    · exact matTs_mono ts us _ m x (matT_mono t u s m x h)
    · exact matT_mono t u s m x h
end
mutual
/-- Where it matches, each variable has become something. -/
theorem matT_dom : ∀ (t u : Tr) (s : Sub') (acc : List (List UInt8)), typeB conB t = true → (matT t u s).1 = true → (∀ n ∈ acc, (Sub'.look s n).isSome = true) → ∀ n ∈ ordT t acc, (Sub'.look (matT t u s).2 n).isSome = true
  | .mk d n us, .mk d' n' us', s, acc, ht, h, ha, m, hm => by
    simp only [typeB, Bool.and_eq_true, decide_eq_true_eq] at ht
    unfold matT at h ⊢
    by_cases hd : d = kiVar
    · have hus : us = [] := by
        have : partsI kiVar = 0 := by decide
        have h4 := ht.2.2.2.1
        rw [hd, this] at h4
        exact List.length_eq_zero_iff.1 (by omega)
      subst hus
      simp only [if_pos hd] at h ⊢
      simp only [ordT, ordTs, hd, true_and] at hm
      cases hlk : Sub'.look s n with
      | none =>
        simp only [look_app]
        by_cases hmn : m = n
        · subst hmn; simp [hlk]
        · have hma : m ∈ acc := by
            split at hm
            · rcases List.mem_append.1 hm with hm | hm
              · exact hm
              · simp at hm; exact absurd hm hmn
            · exact hm
          obtain ⟨x, hx⟩ := Option.isSome_iff_exists.1 (ha m hma)
          simp [hx]
      | some t =>
        simp only
        split at hm
        · rcases List.mem_append.1 hm with hm | hm
          · exact ha m hm
          · simp at hm; subst hm; rw [hlk]; rfl
        · exact ha m hm
    · simp only [if_neg hd] at h ⊢
      simp only [ordT, hd, false_and, if_false] at hm
      by_cases hc : d = d' ∧ n = n' ∧ us.length = us'.length
      · simp only [if_pos hc] at h ⊢
        exact matTs_dom us us' s acc ht.2.2.2.2 hc.2.2 h ha m hm
      · simp only [if_neg hc] at h; cases h
theorem matTs_dom : ∀ (l l' : List Tr) (s : Sub') (acc : List (List UInt8)), typeBs conB l = true → l.length = l'.length → (matTs l l' s).1 = true → (∀ n ∈ acc, (Sub'.look s n).isSome = true) → ∀ n ∈ ordTs l acc, (Sub'.look (matTs l l' s).2 n).isSome = true
  | [], [], s, acc, _, _, h, ha, m, hm => by simp only [ordTs] at hm; simp only [matTs]; exact ha m hm
  | t :: ts, u :: us, s, acc, ht, hl, h, ha, m, hm => by
    simp only [typeBs, Bool.and_eq_true] at ht
    simp only [matTs] at h ⊢
    by_cases hh : (matT t u s).1 = true
    · simp only [hh, if_true] at h ⊢
      simp only [ordTs] at hm
      exact matTs_dom ts us _ _ ht.2 (by simpa using hl) h (matT_dom t u s acc ht.1 hh ha) m hm
    · simp [hh] at h
end
mutual
theorem ordT_names : ∀ (t : Tr) (acc : List (List UInt8)), typeB conB t = true → acc.Nodup → (∀ n ∈ acc, varB n = true) → (ordT t acc).Nodup ∧ ∀ n ∈ ordT t acc, varB n = true
  | .mk d n us, acc, ht, h1, h2 => by
    simp only [typeB, Bool.and_eq_true] at ht
    simp only [ordT]
    split
    · rename_i hc
      have hv : varB n = true := by have := ht.2.1; rw [hc.1] at this; simpa using this
      refine ordTs_names us _ ht.2.2.2.2 ?_ ?_
      · rw [List.nodup_append]; exact ⟨h1, by simp, fun a ha b hb => by simp at hb; subst hb; exact fun h => hc.2 (h ▸ ha)⟩
      · intro m hm
        rcases List.mem_append.1 hm with hm | hm
        · exact h2 m hm
        · simp at hm; subst hm; exact hv
    · exact ordTs_names us _ ht.2.2.2.2 h1 h2
theorem ordTs_names : ∀ (l : List Tr) (acc : List (List UInt8)), typeBs conB l = true → acc.Nodup → (∀ n ∈ acc, varB n = true) → (ordTs l acc).Nodup ∧ ∀ n ∈ ordTs l acc, varB n = true
  | [], acc, _, h1, h2 => by simp only [ordTs]; exact ⟨h1, h2⟩
  | t :: ts, acc, ht, h1, h2 => by
    simp only [typeBs, Bool.and_eq_true] at ht
    obtain ⟨a, b⟩ := ordT_names t acc ht.1 h1 h2
    simp only [ordTs]
    exact ordTs_names ts _ ht.2 a b
end
/-- All values of a map have the shape of types. -/
def okV (s : Sub') : Prop := ∀ e ∈ s, okT e.2
mutual
theorem matT_okV : ∀ (t u : Tr) (s : Sub'), okT u → okV s → okV (matT t u s).2
  | .mk d n us, .mk d' n' us', s, hu, hs => by
    unfold matT
    split
    · split
      · intro e he
        rcases List.mem_append.1 he with he | he
        · exact hs e he
        · simp at he; subst he; exact hu
      · exact hs
    · split
      · exact matTs_okV us us' s (okT_down _ _ _ hu).2 hs
      · exact hs
theorem matTs_okV : ∀ (l l' : List Tr) (s : Sub'), (∀ u ∈ l', okT u) → okV s → okV (matTs l l' s).2
  | [], _, s, _, hs => by simp only [matTs]; exact hs
  | _ :: _, [], s, _, hs => by simp only [matTs]; exact hs
  | t :: ts, u :: us, s, hu, hs => by
    simp only [matTs]
    split
    · exact matTs_okV ts us _ (fun x hx => hu x (by simp [hx])) (matT_okV t u s (hu u (by simp)) hs)
    · exact matT_okV t u s (hu u (by simp)) hs
end
end Go.D

/- The substitution that makes a type another one. -/
set_option linter.unusedVariables false
set_option linter.unusedSimpArgs false
set_option linter.unnecessarySimpa false
set_option maxRecDepth 100000
namespace Go.D
open Go Go.Vm Go.Proofs Go.RowKit

/-- A claim: a name and a type. -/
abbrev Cl := List UInt8 × Tr
def clC (c : Cl) : List AV := .str c.1 :: tyCells c.2
def clV (c : Cl) : AV := .agg (clC c)
def clsV (l : List Cl) : List AV := l.map clV
theorem clsV_len (l : List Cl) : (clsV l).length = l.length := by simp [clsV]
theorem clC_len (c : Cl) : (clC c).length = 4 := by obtain ⟨n, t⟩ := c; cases t; rfl
theorem clCs_len (l : List Cl) : (l.flatMap clC).length = l.length * 4 := by
  induction l with
  | nil => rfl
  | cons a r ih => rw [List.flatMap_cons, List.length_append, ih, clC_len]; simp only [List.length_cons]; omega
theorem clsV_cells (l : List Cl) : (clsV l).flatMap AV.cells = l.flatMap clC := by
  induction l with
  | nil => rfl
  | cons a r ih => simp only [clsV, List.map_cons, List.flatMap_cons] at ih ⊢; rw [ih]; rfl
theorem clC_low (n : Nat) (c : Cl) : AV.low.lows n (clC c) = true := by
  obtain ⟨m, t⟩ := c; cases t
  simp only [clC, tyCells, AV.low.lows, AV.low, tysV_low, Bool.and_self]
theorem clsV_low (n : Nat) : ∀ l : List Cl, AV.low.lows n (clsV l) = true
  | [] => rfl
  | a :: r => by
    have := clsV_low n r
    simp only [clsV, List.map_cons, AV.low.lows] at this ⊢
    rw [this]; simp only [clV, AV.low, clC_low, Bool.and_self]
theorem clV_el (c : Cl) : isEl 4 true (clV c) = true := by obtain ⟨m, t⟩ := c; cases t; rfl
def rowC (n : Nat) (acc : List Cl) : AV := match acc with
  | [] => .v (.slice none 0 0)
  | _ :: r => .rsl n r.length 0 (r.length + 1) 4
/-- What is found, by names in order. -/
def clsOf (s : Sub') (l : List (List UInt8)) : List Cl := l.map fun n => (n, (Sub'.look s n).getD (.mk [] [] []))
def instR (g u : Tr) : List Cl × Int :=
  if validT conB g = true ∧ validT conB u = true then
    if (matT g u []).1 = true then (clsOf (matT g u []).2 (sortS (ordT g [])), 0) else ([], 5)
  else ([], 40)
theorem set_l2' (σ : List Ent) (a b c x : Ent) : (σ ++ [a, b, c]).set (σ.length + 2) x = σ ++ [a, b, x] := by
  rw [List.set_append, if_neg (by omega)]; simp
set_option maxHeartbeats 4000000 in
theorem Instance_ok (g u : Tr) (hg : lenT g) (hu : lenT u) (σ : List Ent) : ACalls E 13 [tyV g, tyV u] σ fun r τ => r = .tup [.sl (clsV (instR g u).1), i64 (instR g u).2] ∧ τ = σ := by
  refine xacalls T0 .freeze [] Tryz.func13 rfl (by kernel_rfl) (by kernel_rfl) (by simp [Tryz.ntmps13]) ?_
  have hv1 := fun σ' => ValidType_ok g hg σ'
  have hv2 := fun σ' => ValidType_ok u hu σ'
  have hok : ∀ t, lenT t → validT conB t = true → okT t := fun t h1 h2 => ⟨h1, by unfold validT at h2; simp only [Bool.and_eq_true] at h2; exact h2.1⟩
  cases hb1 : validT conB g
  · have heq : instR g u = ([], 40) := by unfold instR; rw [if_neg (by rw [hb1]; simp)]
    rw [heq]
    cases g with
    | mk d n us =>
    cases u with
    | mk d' n' us' =>
    simp only [tyV, hb1] at hv1 hv2
    (simp only [tyV, (vmA), Nat.reduceEqDiff, reduceIte, Nat.reduceAdd, Int.reduceToNat, Int.reduceLE, Int.reduceLT, Int.reduceEq, Int.reduceNe, Int.reduceAdd, Int.reduceSub, Int.reduceNeg, Nat.reduceLT, Nat.reduceLeDiff, Nat.reduceBEq, undef, (stA), Nat.reduceMul]; try simp (disch := omega) only [(vmp)])
    refine xWait.go (hv1 _) ?_
    (simp only [(vmA), Nat.reduceEqDiff, reduceIte, Nat.reduceAdd, Int.reduceToNat, Int.reduceLE, Int.reduceLT, Int.reduceEq, Int.reduceNe, Int.reduceAdd, Int.reduceSub, Int.reduceNeg, Nat.reduceLT, Nat.reduceLeDiff, Nat.reduceBEq, undef, (stA), Nat.reduceMul]; try simp (disch := omega) only [(vmp)])
    exact ⟨_, .tup (.cons .none (.cons (.refl _) .nil)), by simp only [AV.low, AV.low.lows, Bool.and_self], rfl⟩
  cases hb2 : validT conB u
  · have heq : instR g u = ([], 40) := by unfold instR; rw [if_neg (by rw [hb2]; simp)]
    rw [heq]
    cases g with
    | mk d n us =>
    cases u with
    | mk d' n' us' =>
    simp only [tyV, hb1, hb2] at hv1 hv2
    (simp only [tyV, (vmA), Nat.reduceEqDiff, reduceIte, Nat.reduceAdd, Int.reduceToNat, Int.reduceLE, Int.reduceLT, Int.reduceEq, Int.reduceNe, Int.reduceAdd, Int.reduceSub, Int.reduceNeg, Nat.reduceLT, Nat.reduceLeDiff, Nat.reduceBEq, undef, (stA), Nat.reduceMul]; try simp (disch := omega) only [(vmp)])
    refine xWait.go (hv1 _) ?_
    (simp only [(vmA), Nat.reduceEqDiff, reduceIte, Nat.reduceAdd, Int.reduceToNat, Int.reduceLE, Int.reduceLT, Int.reduceEq, Int.reduceNe, Int.reduceAdd, Int.reduceSub, Int.reduceNeg, Nat.reduceLT, Nat.reduceLeDiff, Nat.reduceBEq, undef, (stA), Nat.reduceMul]; try simp (disch := omega) only [(vmp)])
    refine xWait.go (hv2 _) ?_
    (simp only [(vmA), Nat.reduceEqDiff, reduceIte, Nat.reduceAdd, Int.reduceToNat, Int.reduceLE, Int.reduceLT, Int.reduceEq, Int.reduceNe, Int.reduceAdd, Int.reduceSub, Int.reduceNeg, Nat.reduceLT, Nat.reduceLeDiff, Nat.reduceBEq, undef, (stA), Nat.reduceMul]; try simp (disch := omega) only [(vmp)])
    exact ⟨_, .tup (.cons .none (.cons (.refl _) .nil)), by simp only [AV.low, AV.low.lows, Bool.and_self], rfl⟩
  have og := hok g hg hb1
  have ou := hok u hu hb2
  have hma := fun σ' mm hm => match_ok _ g (Nat.le_refl _) u [] σ' mm og hu (fun e he => by cases he) hm
  have hva := fun σ' => vars_ok g og σ'
  have hdom := fun h => matT_dom g u [] [] og.2 h (fun n hn => by cases hn)
  have hval := matT_okV g u [] ou (fun e he => by cases he)
  have hnm := ordT_names g [] og.2 (by simp) (by simp)
  have hvar : (sortS (ordT g [])).length ≤ 26 := by unfold sortS; rw [List.length_mergeSort]; exact vars_few hnm.1 hnm.2
  have hmem : ∀ n, n ∈ sortS (ordT g []) ↔ n ∈ ordT g [] := fun n => List.mem_mergeSort
  cases hb3 : (matT g u []).1
  · have heq : instR g u = ([], 5) := by unfold instR; rw [if_pos ⟨hb1, hb2⟩, if_neg (by rw [hb3]; simp)]
    rw [heq]
    cases g with
    | mk d n us =>
    cases u with
    | mk d' n' us' =>
    simp only [tyV, hb1, hb2, hb3] at hv1 hv2 hma
    (simp only [tyV, (vmA), Nat.reduceEqDiff, reduceIte, Nat.reduceAdd, Int.reduceToNat, Int.reduceLE, Int.reduceLT, Int.reduceEq, Int.reduceNe, Int.reduceAdd, Int.reduceSub, Int.reduceNeg, Nat.reduceLT, Nat.reduceLeDiff, Nat.reduceBEq, undef, (stA), Nat.reduceMul]; try simp (disch := omega) only [(vmp)])
    refine xWait.go (hv1 _) ?_
    (simp only [(vmA), Nat.reduceEqDiff, reduceIte, Nat.reduceAdd, Int.reduceToNat, Int.reduceLE, Int.reduceLT, Int.reduceEq, Int.reduceNe, Int.reduceAdd, Int.reduceSub, Int.reduceNeg, Nat.reduceLT, Nat.reduceLeDiff, Nat.reduceBEq, undef, (stA), Nat.reduceMul]; try simp (disch := omega) only [(vmp)])
    refine xWait.go (hv2 _) ?_
    (simp only [(vmA), Nat.reduceEqDiff, reduceIte, Nat.reduceAdd, Int.reduceToNat, Int.reduceLE, Int.reduceLT, Int.reduceEq, Int.reduceNe, Int.reduceAdd, Int.reduceSub, Int.reduceNeg, Nat.reduceLT, Nat.reduceLeDiff, Nat.reduceBEq, undef, (stA), Nat.reduceMul]; try simp (disch := omega) only [(vmp)])
    have hm0 := fun a b => hma (σ ++ [a, b, Ent.map [] 0]) (σ.length + 2) (by rw [List.getElem?_append_right (by omega), Nat.add_sub_cancel_left]; rfl)
    simp only [set_l2'] at hm0
    refine xWait.of (hm0 _ _) ?_
    rintro r τ ⟨rfl, rfl, _⟩
    rw [List.take_left, List.drop_left]
    (simp only [(vmA), Nat.reduceEqDiff, reduceIte, Nat.reduceAdd, Int.reduceToNat, Int.reduceLE, Int.reduceLT, Int.reduceEq, Int.reduceNe, Int.reduceAdd, Int.reduceSub, Int.reduceNeg, Nat.reduceLT, Nat.reduceLeDiff, Nat.reduceBEq, undef, (stA), Nat.reduceMul]; try simp (disch := omega) only [(vmp)])
    exact ⟨_, .tup (.cons .none (.cons (.refl _) .nil)), by simp only [AV.low, AV.low.lows, Bool.and_self], rfl⟩
  have heq : instR g u = (clsOf (matT g u []).2 (sortS (ordT g [])), 0) := by unfold instR; rw [if_pos ⟨hb1, hb2⟩, if_pos hb3]
  rw [heq]
  have hdom' := hdom hb3
  generalize hs' : (matT g u []).2 = s' at *
  generalize hns : sortS (ordT g []) = names at *
  have hlook : ∀ n ∈ names, ∃ t, Sub'.look s' n = some t ∧ okT t := fun n hn => by
    obtain ⟨t, ht⟩ := Option.isSome_iff_exists.1 (hdom' n ((hmem n).1 hn))
    obtain ⟨e, he, rfl⟩ := look_mem ht
    exact ⟨_, ht, hval e he⟩
  cases g with
  | mk d n us =>
  cases u with
  | mk d' n' us' =>
  simp only [tyV, hb1, hb2, hb3] at hv1 hv2 hma hva
  (simp only [tyV, (vmA), Nat.reduceEqDiff, reduceIte, Nat.reduceAdd, Int.reduceToNat, Int.reduceLE, Int.reduceLT, Int.reduceEq, Int.reduceNe, Int.reduceAdd, Int.reduceSub, Int.reduceNeg, Nat.reduceLT, Nat.reduceLeDiff, Nat.reduceBEq, undef, (stA), Nat.reduceMul]; try simp (disch := omega) only [(vmp)])
  refine xWait.go (hv1 _) ?_
  (simp only [(vmA), Nat.reduceEqDiff, reduceIte, Nat.reduceAdd, Int.reduceToNat, Int.reduceLE, Int.reduceLT, Int.reduceEq, Int.reduceNe, Int.reduceAdd, Int.reduceSub, Int.reduceNeg, Nat.reduceLT, Nat.reduceLeDiff, Nat.reduceBEq, undef, (stA), Nat.reduceMul]; try simp (disch := omega) only [(vmp)])
  refine xWait.go (hv2 _) ?_
  (simp only [(vmA), Nat.reduceEqDiff, reduceIte, Nat.reduceAdd, Int.reduceToNat, Int.reduceLE, Int.reduceLT, Int.reduceEq, Int.reduceNe, Int.reduceAdd, Int.reduceSub, Int.reduceNeg, Nat.reduceLT, Nat.reduceLeDiff, Nat.reduceBEq, undef, (stA), Nat.reduceMul]; try simp (disch := omega) only [(vmp)])
  have hm0 := fun a b => hma (σ ++ [a, b, Ent.map [] 0]) (σ.length + 2) (by rw [List.getElem?_append_right (by omega), Nat.add_sub_cancel_left]; rfl)
  simp only [set_l2'] at hm0
  refine xWait.of (hm0 _ _) ?_
  rintro r τ ⟨rfl, rfl, _⟩
  rw [List.take_left, List.drop_left]
  (simp only [(vmA), Nat.reduceEqDiff, reduceIte, Nat.reduceAdd, Int.reduceToNat, Int.reduceLE, Int.reduceLT, Int.reduceEq, Int.reduceNe, Int.reduceAdd, Int.reduceSub, Int.reduceNeg, Nat.reduceLT, Nat.reduceLeDiff, Nat.reduceBEq, undef, (stA), Nat.reduceMul]; try simp (disch := omega) only [(vmp)])
  refine xWait.go (hva _) ?_
  (simp only [strsV_len, (vmA), Nat.reduceEqDiff, reduceIte, Nat.reduceAdd, Int.reduceToNat, Int.reduceLE, Int.reduceLT, Int.reduceEq, Int.reduceNe, Int.reduceAdd, Int.reduceSub, Int.reduceNeg, Nat.reduceLT, Nat.reduceLeDiff, Nat.reduceBEq, undef, (stA), Nat.reduceMul]; try simp (disch := omega) only [(vmp)])
  refine xloop (α := Nat × List Ent × Nat) T0 (fun x => [(6, .mp (σ.length + 2)), (7, rowC (σ.length + (x.2.2 + 3)) (clsOf s' (names.take x.1))), (25, .sl (strsV names)), (26, i64 names.length), (27, i64 x.1)]) (fun _ => σ)
    (fun x => .arr 24 [.str d, .str n, .sl (tysV us)] 0 0 :: .arr 24 [.str d', .str n', .sl (tysV us')] 0 0 :: mapE s' :: x.2.1)
    (fun x => x.1 ≤ names.length ∧ (clsOf s' (names.take x.1) ≠ [] → x.2.1[x.2.2]? = some (.arr 33 ((clsOf s' (names.take x.1)).flatMap clC) ((clsOf s' (names.take x.1)).length - 1) 0))) (fun x => names.length - x.1) (by kernel_rfl)
    ⟨(0, [], 0), ⟨by simp, by simp [clsOf]⟩, by (simp only [List.take_zero, clsOf, List.map_nil, rowC, (vmA), Nat.reduceEqDiff, reduceIte, Nat.reduceAdd, Int.reduceToNat, Int.reduceLE, Int.reduceLT, Int.reduceEq, Int.reduceNe, Int.reduceAdd, Int.reduceSub, Int.reduceNeg, Nat.reduceLT, Nat.reduceLeDiff, Nat.reduceBEq, undef, (stA), Nat.reduceMul, Int.natCast_zero]; try simp (disch := omega) only [(vmp)]), rfl, rfl⟩ ?_
  rintro ⟨i, junk, rid⟩ ⟨hi, hrow⟩
  simp only at hi hrow
  have hal : (clsOf s' (names.take i)).length = i := by simp [clsOf]; omega
  by_cases h : (i : Int) < names.length
  · have hi' : i < names.length := by omega
    have hu : names[i]? = some names[i] := List.getElem?_eq_getElem hi'
    have hmm : names[i] ∈ names := List.getElem_mem hi'
    generalize names[i] = nm at *
    have hg : (strsV names).getD i .un = .str nm := by simp [strsV, List.getD, hu]
    obtain ⟨t, ht, hto⟩ := hlook nm hmm
    have hnext : clsOf s' (names.take (i + 1)) = clsOf s' (names.take i) ++ [(nm, t)] := by
      rw [List.take_add_one, hu]; simp [clsOf, ht]
    have hc := fun σ' => clone_ok _ t (Nat.le_refl _) σ' hto
    cases t with
    | mk d2 n2 us2 =>
    simp only [tyV] at hc
    generalize hacc : clsOf s' (names.take i) = acc at *
    rcases acc with _ | ⟨b0, r0⟩
    · (simp only [h, hg, strsV_len, mapE, mget_ents, ht, Option.map_some, tyV, rowC, (vmA), Nat.reduceEqDiff, reduceIte, Nat.reduceAdd, Int.reduceToNat, Int.reduceLE, Int.reduceLT, Int.reduceEq, Int.reduceNe, Int.reduceAdd, Int.reduceSub, Int.reduceNeg, Nat.reduceLT, Nat.reduceLeDiff, Nat.reduceBEq, undef, (stA), Nat.reduceMul]; try simp (disch := omega) only [(vmp)])
      refine ⟨⟨rfl, fun e he => ents_keys tab _ _ 0 s' e he⟩, ?_⟩
      refine xWait.go (hc _) ?_
      (simp only [(vmA), Nat.reduceEqDiff, reduceIte, Nat.reduceAdd, Int.reduceToNat, Int.reduceLE, Int.reduceLT, Int.reduceEq, Int.reduceNe, Int.reduceAdd, Int.reduceSub, Int.reduceNeg, Nat.reduceLT, Nat.reduceLeDiff, Nat.reduceBEq, undef, (stA), Nat.reduceMul]; try simp (disch := omega) only [(vmp)])
      refine ⟨by unfold maxRoom; omega, (i + 1, junk ++ [.arr 33 [.str nm, .str d2, .str n2, .sl (tysV us2)] 0 0], junk.length), ⟨by simp only; omega, fun _ => ?_⟩, by simp only; omega, ?_, rfl⟩
      · simp only [hnext]; simp [clC, tyCells]
      · simp only [hnext]; first | trivial | exact ⟨rfl, rfl⟩ | (constructor <;> first | rfl | trivial)
    · have h5 := hrow (by simp)
      have e0 : (clC b0).length = 4 := clC_len b0
      have hf0 : (List.flatMap clC r0).length = r0.length * 4 := clCs_len r0
      simp only [List.length_cons] at hal
      (simp only [h, hg, strsV_len, mapE, mget_ents, ht, Option.map_some, tyV, rowC, h5, (vmA), Nat.reduceEqDiff, reduceIte, Nat.reduceAdd, Int.reduceToNat, Int.reduceLE, Int.reduceLT, Int.reduceEq, Int.reduceNe, Int.reduceAdd, Int.reduceSub, Int.reduceNeg, Nat.reduceLT, Nat.reduceLeDiff, Nat.reduceBEq, undef, (stA), Nat.reduceMul]; try simp (disch := omega) only [(vmp)])
      refine ⟨⟨rfl, fun e he => ents_keys tab _ _ 0 s' e he⟩, ?_⟩
      refine xWait.go (hc _) ?_
      (simp only [h5, (vmA), Nat.reduceEqDiff, reduceIte, Nat.reduceAdd, Int.reduceToNat, Int.reduceLE, Int.reduceLT, Int.reduceEq, Int.reduceNe, Int.reduceAdd, Int.reduceSub, Int.reduceNeg, Nat.reduceLT, Nat.reduceLeDiff, Nat.reduceBEq, undef, (stA), Nat.reduceMul]; try simp (disch := omega) only [(vmp)])
      refine ⟨⟨by omega, by omega, by omega, by unfold maxRoom; omega, by unfold maxRoom; omega⟩, ?_⟩
      refine ⟨(i + 1, junk.set rid (Ent.arr 33 (clC b0 ++ (List.flatMap clC r0 ++ [AV.str nm, AV.str d2, AV.str n2, AV.sl (tysV us2)])) (r0.length + 1 - 1 + 1) 0), rid), ⟨by simp only; omega, fun _ => ?_⟩, by simp only; omega, ?_, rfl⟩
      · simp only [hnext]
        rw [get_set_self h5]
        simp [clC, tyCells]
      · simp only [hnext, List.cons_append, List.length_append, List.length_cons, List.length_nil]; first | trivial | exact ⟨rfl, rfl⟩ | (constructor <;> first | rfl | trivial)
  · have hie : i = names.length := by omega
    subst hie
    rw [List.take_of_length_le (Nat.le_refl _)] at hrow hal
    (simp only [h, List.take_of_length_le (Nat.le_refl _), (vmA), Nat.reduceEqDiff, reduceIte, Nat.reduceAdd, Int.reduceToNat, Int.reduceLE, Int.reduceLT, Int.reduceEq, Int.reduceNe, Int.reduceAdd, Int.reduceSub, Int.reduceNeg, Nat.reduceLT, Nat.reduceLeDiff, Nat.reduceBEq, undef, (stA), Nat.reduceMul]; try simp (disch := omega) only [(vmp)])
    generalize clsOf s' names = acc at *
    rcases acc with _ | ⟨b0, r0⟩
    · exact ⟨_, .tup (.cons .none (.cons (.refl _) .nil)), by simp only [AV.low, AV.low.lows, Bool.and_self], rfl⟩
    · have h5 := hrow (by simp)
      have hf0 := clCs_len (b0 :: r0)
      simp only [rowC]
      refine ⟨_, .tup (.cons (.rsl (ty := 33) (ver := r0.length) (imm := 0) (ag := true) (cells := (b0 :: r0).flatMap clC) (es := clsV (b0 :: r0)) (es' := clsV (b0 :: r0)) (by omega) ?_ (by rw [List.drop_zero, clsV_cells]) (by omega) (by rw [clsV_len]; rfl) (by omega) (fun e he => by obtain ⟨x, _, rfl⟩ := List.mem_map.1 he; exact clV_el x) FrzL.refl) (.cons (.refl _) .nil)), by simp only [AV.low, AV.low.lows, clsV_low, Bool.and_self], rfl⟩
      rw [Nat.add_sub_cancel_left]
      simpa using h5
end Go.D

/- A substitution put into a type; whether types are the same, by the document. -/
set_option linter.unusedVariables false
set_option linter.unusedSimpArgs false
set_option linter.unnecessarySimpa false
set_option maxRecDepth 100000
namespace Go.D
open Go Go.Vm Go.Proofs Go.RowKit

mutual
def putT (s : Sub') : Tr → Tr
  | .mk d n us => if d = kiVar ∧ (Sub'.look s n).isSome = true then (Sub'.look s n).getD (.mk [] [] []) else .mk d n (putTs s us)
def putTs (s : Sub') : List Tr → List Tr
  | [] => []
  | t :: ts => putT s t :: putTs s ts
end
theorem putTs_map (s : Sub') : ∀ l : List Tr, putTs s l = l.map (putT s)
  | [] => rfl
  | t :: ts => by rw [putTs, putTs_map s ts]; rfl
/-- A type whose Args may be nil, and a map of such. -/
def argV (nl : Bool) : List Tr → AV
  | [] => if nl = true then .v (.slice none 0 0) else .sl []
  | t :: ts => .sl (tysV (t :: ts))
def tyN (nl : Bool) : Tr → AV
  | .mk d n us => .agg [.str d, .str n, argV nl us]
def mEntsN (nl : Bool) : Nat → Sub' → List (AV × AV × Nat)
  | _, [] => []
  | k, e :: r => (.str e.1, tyN nl e.2, k) :: mEntsN nl (k + 1) r
theorem mgetN (nl : Bool) (n : List UInt8) : ∀ (k : Nat) (s : Sub'), mget (.str n) (mEntsN nl k s) = (s.look n).map (tyN nl)
  | k, [] => rfl
  | k, e :: r => by
    unfold mEntsN mget Sub'.look
    by_cases h : n = e.1
    · simp [h, keq]
    · simp only [keq, h, decide_false, Bool.false_eq_true, if_false]
      exact mgetN nl n (k + 1) r
theorem mputN (nl : Bool) (n : List UInt8) (t : Tr) : ∀ (k : Nat) (s : Sub'), s.look n = none → mput (.str n) (tyN nl t) (k + s.length) (mEntsN nl k s) = mEntsN nl k (s ++ [(n, t)])
  | k, [], _ => by simp [mEntsN, mput]
  | k, e :: r, h => by
    unfold Sub'.look at h
    by_cases hh : n = e.1
    · simp [hh] at h
    · simp only [hh, if_false] at h
      have := mputN nl n t (k + 1) r h
      unfold mEntsN mput
      simp only [keq, hh, decide_false, Bool.false_eq_true, if_false, List.cons_append, mEntsN, List.length_cons]
      rw [← this]
      congr 2
      omega
theorem keysN (nl : Bool) (T : Nat → TI) (g l : List Ent) : ∀ (k : Nat) (s : Sub'), ∀ e ∈ mEntsN nl k s, kOK T g l .string e.1
  | k, [], e, h => by simp [mEntsN] at h
  | k, a :: r, e, h => by
    simp only [mEntsN] at h
    rcases List.mem_cons.1 h with rfl | h
    · simp [kOK]
    · exact keysN nl T g l (k + 1) r e h
theorem argV_or (nl : Bool) (us : List Tr) : (argV nl us = .v (.slice none 0 0) ∧ us = []) ∨ argV nl us = .sl (tysV us) := by
  cases us with
  | nil =>
    cases nl
    · exact .inr rfl
    · exact .inl ⟨rfl, rfl⟩
  | cons t ts => exact .inr rfl
theorem sget_of2 {σ : List Ent} {p : Nat} {e : Ent} (h : σ[p]? = some e) (r : List Ent) : sget σ r p = some e := by unfold sget; rw [if_pos (lt_of_get h)]; exact h
def PT (t : Tr) : Prop := ∀ (nl : Bool) (s : Sub') (σ : List Ent) (m : Nat), okT t → σ[m]? = some (.map (mEntsN nl 0 s) s.length) → ACalls E 54 [.mp m, tyV t] σ fun r τ => r = tyV (putT s t) ∧ τ = σ
set_option maxHeartbeats 4000000 in
theorem put_step (d n : List UInt8) (us : List Tr) (ih : ∀ u ∈ us, PT u) : PT (.mk d n us) := by
  intro nl s σ m hl hm
  obtain ⟨hfew, hdn⟩ := okT_down d n us hl
  have gk := sget_of2 hm
  refine xacalls T0 .freeze [] Tryz.func54 rfl (by kernel_rfl) (by kernel_rfl) (by simp [Tryz.ntmps54]) ?_
  cases hlk : Sub'.look s n with
  | some t =>
    by_cases hd : d = kiVar
    · have t1 : (d = [118, 97, 114]) = True := eq_true hd
      have heq : putT s (.mk d n us) = t := by unfold putT; rw [if_pos ⟨hd, by rw [hlk]; rfl⟩, hlk]; rfl
      rw [heq]
      cases t with
      | mk d2 n2 us2 =>
      rcases argV_or nl us2 with ⟨harg, rfl⟩ | harg
      · (simp only [tyV, tyN, harg, tysV_len, gk, mgetN, hlk, t1, Option.map_some, (vmA), Nat.reduceEqDiff, reduceIte, Nat.reduceAdd, Int.reduceToNat, Int.reduceLE, Int.reduceLT, Int.reduceEq, Int.reduceNe, Int.reduceAdd, Int.reduceSub, Int.reduceNeg, Nat.reduceLT, Nat.reduceLeDiff, Nat.reduceBEq, undef, (stA), Nat.reduceMul]; try simp (disch := omega) only [(vmp)])
        refine ⟨⟨rfl, fun e he => keysN nl tab _ _ 0 s e he⟩, _, .agg (.cons (.refl _) (.cons (.refl _) (.cons .none .nil))), by simp only [AV.low, AV.low.lows, Bool.and_self], by simp only [tysV]⟩
      · (simp only [tyV, tyN, harg, tysV_len, gk, mgetN, hlk, t1, Option.map_some, (vmA), Nat.reduceEqDiff, reduceIte, Nat.reduceAdd, Int.reduceToNat, Int.reduceLE, Int.reduceLT, Int.reduceEq, Int.reduceNe, Int.reduceAdd, Int.reduceSub, Int.reduceNeg, Nat.reduceLT, Nat.reduceLeDiff, Nat.reduceBEq, undef, (stA), Nat.reduceMul]; try simp (disch := omega) only [(vmp)])
        refine ⟨⟨rfl, fun e he => keysN nl tab _ _ 0 s e he⟩, _, .refl _, by simp only [AV.low, AV.low.lows, tysV_low, Bool.and_self], rfl⟩
    · have n1 : ¬ d = [118, 97, 114] := hd
      have heq : putT s (.mk d n us) = .mk d n (putTs s us) := by unfold putT; rw [if_neg (fun h => hd h.1)]
      rw [heq]
      cases t with
      | mk d2 n2 us2 =>
      rcases argV_or nl us2 with ⟨harg, rfl⟩ | harg
      · (simp only [tyV, tyN, harg, tysV_len, gk, mgetN, hlk, n1, Option.map_some, (vmA), Nat.reduceEqDiff, reduceIte, Nat.reduceAdd, Int.reduceToNat, Int.reduceLE, Int.reduceLT, Int.reduceEq, Int.reduceNe, Int.reduceAdd, Int.reduceSub, Int.reduceNeg, Nat.reduceLT, Nat.reduceLeDiff, Nat.reduceBEq, undef, (stA), Nat.reduceMul]; try simp (disch := omega) only [(vmp)])
        refine ⟨⟨rfl, fun e he => keysN nl tab _ _ 0 s e he⟩, ?_⟩
        refine xloop (α := Nat × List Ent × Nat) T0 (fun x => [(0, .mp m), (4, .ref (σ.length + 1) 0 0), (7, .ref (σ.length + 3) 0 0), (30, .sl (tysV us)), (31, i64 us.length), (32, i64 x.1)]) (fun _ => σ)
          (fun x => .arr 24 [.str d, .str n, .sl (tysV us)] 0 0 :: .arr 24 [.str [], .str [], .v (.slice none 0 0)] 0 0 :: .arr 24 [.str d2, .str n2, .v (.slice none 0 0)] 0 0 :: .arr 24 [.str d, .str n, rowT (σ.length + (x.2.2 + 4)) (putTs s (us.take x.1))] 0 0 :: x.2.1)
          (fun x => x.1 ≤ us.length ∧ (putTs s (us.take x.1) ≠ [] → x.2.1[x.2.2]? = some (.arr 24 ((putTs s (us.take x.1)).flatMap tyCells) ((putTs s (us.take x.1)).length - 1) 0))) (fun x => us.length - x.1) (by kernel_rfl)
          ⟨(0, [], 0), ⟨by simp, by simp [putTs]⟩, by (simp only [(vmA), Nat.reduceEqDiff, reduceIte, Nat.reduceAdd, Int.reduceToNat, Int.reduceLE, Int.reduceLT, Int.reduceEq, Int.reduceNe, Int.reduceAdd, Int.reduceSub, Int.reduceNeg, Nat.reduceLT, Nat.reduceLeDiff, Nat.reduceBEq, undef, (stA), Nat.reduceMul, Int.natCast_zero]; try simp (disch := omega) only [(vmp)]), rfl, by simp only [List.take_zero, putTs, rowT]⟩ ?_
        rintro ⟨i, junk, rid⟩ ⟨hi, hrow⟩
        simp only at hi hrow
        have hal : (putTs s (us.take i)).length = i := by rw [putTs_map]; simp; omega
        by_cases h : (i : Int) < us.length
        · have hi' : i < us.length := by omega
          have hu : us[i]? = some us[i] := List.getElem?_eq_getElem hi'
          obtain ⟨s1, s2⟩ := take_split us i _ hu
          have hmem : us[i] ∈ us := List.getElem_mem hi'
          generalize us[i] = u at *
          have hg := tysV_get hu
          have hc := fun l => ih u hmem nl s (σ ++ l) m (hdn u hmem) (get_olds hm l)
          have hnext : putTs s (us.take (i + 1)) = putTs s (us.take i) ++ [putT s u] := by rw [s1, putTs_map, putTs_map]; simp
          rcases hr : putT s u with ⟨a3, b3, us3⟩
          rw [hr] at hnext
          simp only [hr] at hc
          cases u with
          | mk d4 n4 us4 =>
          simp only [tyV] at hg hc
          (simp only [h, hg, tysV_len, (vmA), Nat.reduceEqDiff, reduceIte, Nat.reduceAdd, Int.reduceToNat, Int.reduceLE, Int.reduceLT, Int.reduceEq, Int.reduceNe, Int.reduceAdd, Int.reduceSub, Int.reduceNeg, Nat.reduceLT, Nat.reduceLeDiff, Nat.reduceBEq, undef, (stA), Nat.reduceMul]; try simp (disch := omega) only [(vmp)])
          refine ydraw T0 [6, 8] (by kernel_rfl) (by kernel_rfl) (by kernel_rfl) (by kernel_rfl) ?_
          (simp only [(vmA), Nat.reduceEqDiff, reduceIte, Nat.reduceAdd, Int.reduceToNat, Int.reduceLE, Int.reduceLT, Int.reduceEq, Int.reduceNe, Int.reduceAdd, Int.reduceSub, Int.reduceNeg, Nat.reduceLT, Nat.reduceLeDiff, Nat.reduceBEq, undef, (stA), Nat.reduceMul]; try simp (disch := omega) only [(vmp)])
          refine yNext.go (by rfl) _ rfl (hc _) ?_
          generalize hacc : putTs s (us.take i) = acc at *
          rcases acc with _ | ⟨b0, r0⟩
          · (simp only [rowT, (vmA), Nat.reduceEqDiff, reduceIte, Nat.reduceAdd, Int.reduceToNat, Int.reduceLE, Int.reduceLT, Int.reduceEq, Int.reduceNe, Int.reduceAdd, Int.reduceSub, Int.reduceNeg, Nat.reduceLT, Nat.reduceLeDiff, Nat.reduceBEq, undef, (stA), Nat.reduceMul]; try simp (disch := omega) only [(vmp)])
            refine ⟨by unfold maxRoom; omega, (i + 1, junk ++ [.arr 24 [.str d4, .str n4, .sl (tysV us4)] 0 0, .arr 24 [.str a3, .str b3, .sl (tysV us3)] 0 0], junk.length + 1), ⟨by simp only; omega, fun _ => ?_⟩, by simp only; omega, rfl, ?_⟩
            · simp only [hnext]; simp [tyCells]
            · simp only [hnext, List.nil_append, rowT, List.length_nil, List.append_assoc, List.cons_append, Nat.add_assoc]
              try rfl
          · have h5 : ∀ e, (junk ++ [e])[rid]? = some (.arr 24 ((b0 :: r0).flatMap tyCells) ((b0 :: r0).length - 1) 0) := fun e => get_old (hrow (by simp))
            have e0 : (tyCells b0).length = 3 := by cases b0; rfl
            have hf0 : (List.flatMap tyCells r0).length = r0.length * 3 := tyCells_len r0
            simp only [List.length_cons] at hal
            (simp only [rowT, h5, (vmA), Nat.reduceEqDiff, reduceIte, Nat.reduceAdd, Int.reduceToNat, Int.reduceLE, Int.reduceLT, Int.reduceEq, Int.reduceNe, Int.reduceAdd, Int.reduceSub, Int.reduceNeg, Nat.reduceLT, Nat.reduceLeDiff, Nat.reduceBEq, undef, (stA), Nat.reduceMul]; try simp (disch := omega) only [(vmp)])
            refine ⟨⟨by omega, by omega, by omega, by unfold maxRoom; omega, by unfold maxRoom; omega⟩, ?_⟩
            refine ⟨(i + 1, (junk ++ [Ent.arr 24 [AV.str d4, AV.str n4, AV.sl (tysV us4)] 0 0]).set rid (Ent.arr 24 (tyCells b0 ++ (List.flatMap tyCells r0 ++ [AV.str a3, AV.str b3, AV.sl (tysV us3)])) (r0.length + 1 - 1 + 1) 0), rid), ⟨by simp only; omega, fun _ => ?_⟩, by simp only; omega, rfl, ?_⟩
            · simp only [hnext]
              rw [get_set_self (h5 _)]
              simp [tyCells]
            · simp only [hnext, rowT, List.cons_append, List.length_append, List.length_cons, List.length_nil]
              try rfl
        · have hie : i = us.length := by omega
          subst hie
          rw [List.take_of_length_le (Nat.le_refl _)] at hrow
          have hpl : (putTs s us).length = us.length := by rw [putTs_map, List.length_map]
          (simp only [h, List.take_of_length_le (Nat.le_refl _), (vmA), Nat.reduceEqDiff, reduceIte, Nat.reduceAdd, Int.reduceToNat, Int.reduceLE, Int.reduceLT, Int.reduceEq, Int.reduceNe, Int.reduceAdd, Int.reduceSub, Int.reduceNeg, Nat.reduceLT, Nat.reduceLeDiff, Nat.reduceBEq, undef, (stA), Nat.reduceMul]; try simp (disch := omega) only [(vmp)])
          generalize putTs s us = ps at *
          rcases ps with _ | ⟨u0, ur⟩
          · (simp only [rowT, (vmA), Nat.reduceEqDiff, reduceIte, Nat.reduceAdd, Int.reduceToNat, Int.reduceLE, Int.reduceLT, Int.reduceEq, Int.reduceNe, Int.reduceAdd, Int.reduceSub, Int.reduceNeg, Nat.reduceLT, Nat.reduceLeDiff, Nat.reduceBEq, undef, (stA), Nat.reduceMul]; try simp (disch := omega) only [(vmp)])
            exact ⟨_, .agg (.cons (.refl _) (.cons (.refl _) (.cons .none .nil))), by simp only [AV.low, AV.low.lows, Bool.and_self], by simp only [tysV]⟩
          · have hr := hrow (by simp)
            simp only [List.length_cons] at hr
            (simp only [rowT, (vmA), Nat.reduceEqDiff, reduceIte, Nat.reduceAdd, Int.reduceToNat, Int.reduceLE, Int.reduceLT, Int.reduceEq, Int.reduceNe, Int.reduceAdd, Int.reduceSub, Int.reduceNeg, Nat.reduceLT, Nat.reduceLeDiff, Nat.reduceBEq, undef, (stA), Nat.reduceMul]; try simp (disch := omega) only [(vmp)])
            have hf0 := tyCells_len (u0 :: ur)
            refine ⟨_, .agg (.cons (.refl _) (.cons (.refl _) (.cons (.rsl (ty := 24) (ver := ur.length) (imm := 0) (ag := true) (cells := (u0 :: ur).flatMap tyCells) (es := tysV (u0 :: ur)) (es' := tysV (u0 :: ur)) (by omega) ?_ (by rw [List.drop_zero, tysV_cells]) (by omega) (by rw [tysV_len]; rfl) (by omega) (fun e he => by rw [tysV_map] at he; obtain ⟨x, _, rfl⟩ := List.mem_map.1 he; exact tyV_el x) FrzL.refl) .nil))), by simp only [AV.low, AV.low.lows, tysV_low, Bool.and_self], rfl⟩
            rw [Nat.add_sub_cancel_left]
            simpa using hr
      · (simp only [tyV, tyN, harg, tysV_len, gk, mgetN, hlk, n1, Option.map_some, (vmA), Nat.reduceEqDiff, reduceIte, Nat.reduceAdd, Int.reduceToNat, Int.reduceLE, Int.reduceLT, Int.reduceEq, Int.reduceNe, Int.reduceAdd, Int.reduceSub, Int.reduceNeg, Nat.reduceLT, Nat.reduceLeDiff, Nat.reduceBEq, undef, (stA), Nat.reduceMul]; try simp (disch := omega) only [(vmp)])
        refine ⟨⟨rfl, fun e he => keysN nl tab _ _ 0 s e he⟩, ?_⟩
        refine xloop (α := Nat × List Ent × Nat) T0 (fun x => [(0, .mp m), (4, .ref (σ.length + 1) 0 0), (7, .ref (σ.length + 3) 0 0), (30, .sl (tysV us)), (31, i64 us.length), (32, i64 x.1)]) (fun _ => σ)
          (fun x => .arr 24 [.str d, .str n, .sl (tysV us)] 0 0 :: .arr 24 [.str [], .str [], .v (.slice none 0 0)] 0 0 :: .arr 24 [.str d2, .str n2, .sl (tysV us2)] 0 0 :: .arr 24 [.str d, .str n, rowT (σ.length + (x.2.2 + 4)) (putTs s (us.take x.1))] 0 0 :: x.2.1)
          (fun x => x.1 ≤ us.length ∧ (putTs s (us.take x.1) ≠ [] → x.2.1[x.2.2]? = some (.arr 24 ((putTs s (us.take x.1)).flatMap tyCells) ((putTs s (us.take x.1)).length - 1) 0))) (fun x => us.length - x.1) (by kernel_rfl)
          ⟨(0, [], 0), ⟨by simp, by simp [putTs]⟩, by (simp only [(vmA), Nat.reduceEqDiff, reduceIte, Nat.reduceAdd, Int.reduceToNat, Int.reduceLE, Int.reduceLT, Int.reduceEq, Int.reduceNe, Int.reduceAdd, Int.reduceSub, Int.reduceNeg, Nat.reduceLT, Nat.reduceLeDiff, Nat.reduceBEq, undef, (stA), Nat.reduceMul, Int.natCast_zero]; try simp (disch := omega) only [(vmp)]), rfl, by simp only [List.take_zero, putTs, rowT]⟩ ?_
        rintro ⟨i, junk, rid⟩ ⟨hi, hrow⟩
        simp only at hi hrow
        have hal : (putTs s (us.take i)).length = i := by rw [putTs_map]; simp; omega
        by_cases h : (i : Int) < us.length
        · have hi' : i < us.length := by omega
          have hu : us[i]? = some us[i] := List.getElem?_eq_getElem hi'
          obtain ⟨s1, s2⟩ := take_split us i _ hu
          have hmem : us[i] ∈ us := List.getElem_mem hi'
          generalize us[i] = u at *
          have hg := tysV_get hu
          have hc := fun l => ih u hmem nl s (σ ++ l) m (hdn u hmem) (get_olds hm l)
          have hnext : putTs s (us.take (i + 1)) = putTs s (us.take i) ++ [putT s u] := by rw [s1, putTs_map, putTs_map]; simp
          rcases hr : putT s u with ⟨a3, b3, us3⟩
          rw [hr] at hnext
          simp only [hr] at hc
          cases u with
          | mk d4 n4 us4 =>
          simp only [tyV] at hg hc
          (simp only [h, hg, tysV_len, (vmA), Nat.reduceEqDiff, reduceIte, Nat.reduceAdd, Int.reduceToNat, Int.reduceLE, Int.reduceLT, Int.reduceEq, Int.reduceNe, Int.reduceAdd, Int.reduceSub, Int.reduceNeg, Nat.reduceLT, Nat.reduceLeDiff, Nat.reduceBEq, undef, (stA), Nat.reduceMul]; try simp (disch := omega) only [(vmp)])
          refine ydraw T0 [6, 8] (by kernel_rfl) (by kernel_rfl) (by kernel_rfl) (by kernel_rfl) ?_
          (simp only [(vmA), Nat.reduceEqDiff, reduceIte, Nat.reduceAdd, Int.reduceToNat, Int.reduceLE, Int.reduceLT, Int.reduceEq, Int.reduceNe, Int.reduceAdd, Int.reduceSub, Int.reduceNeg, Nat.reduceLT, Nat.reduceLeDiff, Nat.reduceBEq, undef, (stA), Nat.reduceMul]; try simp (disch := omega) only [(vmp)])
          refine yNext.go (by rfl) _ rfl (hc _) ?_
          generalize hacc : putTs s (us.take i) = acc at *
          rcases acc with _ | ⟨b0, r0⟩
          · (simp only [rowT, (vmA), Nat.reduceEqDiff, reduceIte, Nat.reduceAdd, Int.reduceToNat, Int.reduceLE, Int.reduceLT, Int.reduceEq, Int.reduceNe, Int.reduceAdd, Int.reduceSub, Int.reduceNeg, Nat.reduceLT, Nat.reduceLeDiff, Nat.reduceBEq, undef, (stA), Nat.reduceMul]; try simp (disch := omega) only [(vmp)])
            refine ⟨by unfold maxRoom; omega, (i + 1, junk ++ [.arr 24 [.str d4, .str n4, .sl (tysV us4)] 0 0, .arr 24 [.str a3, .str b3, .sl (tysV us3)] 0 0], junk.length + 1), ⟨by simp only; omega, fun _ => ?_⟩, by simp only; omega, rfl, ?_⟩
            · simp only [hnext]; simp [tyCells]
            · simp only [hnext, List.nil_append, rowT, List.length_nil, List.append_assoc, List.cons_append, Nat.add_assoc]
              try rfl
          · have h5 : ∀ e, (junk ++ [e])[rid]? = some (.arr 24 ((b0 :: r0).flatMap tyCells) ((b0 :: r0).length - 1) 0) := fun e => get_old (hrow (by simp))
            have e0 : (tyCells b0).length = 3 := by cases b0; rfl
            have hf0 : (List.flatMap tyCells r0).length = r0.length * 3 := tyCells_len r0
            simp only [List.length_cons] at hal
            (simp only [rowT, h5, (vmA), Nat.reduceEqDiff, reduceIte, Nat.reduceAdd, Int.reduceToNat, Int.reduceLE, Int.reduceLT, Int.reduceEq, Int.reduceNe, Int.reduceAdd, Int.reduceSub, Int.reduceNeg, Nat.reduceLT, Nat.reduceLeDiff, Nat.reduceBEq, undef, (stA), Nat.reduceMul]; try simp (disch := omega) only [(vmp)])
            refine ⟨⟨by omega, by omega, by omega, by unfold maxRoom; omega, by unfold maxRoom; omega⟩, ?_⟩
            refine ⟨(i + 1, (junk ++ [Ent.arr 24 [AV.str d4, AV.str n4, AV.sl (tysV us4)] 0 0]).set rid (Ent.arr 24 (tyCells b0 ++ (List.flatMap tyCells r0 ++ [AV.str a3, AV.str b3, AV.sl (tysV us3)])) (r0.length + 1 - 1 + 1) 0), rid), ⟨by simp only; omega, fun _ => ?_⟩, by simp only; omega, rfl, ?_⟩
            · simp only [hnext]
              rw [get_set_self (h5 _)]
              simp [tyCells]
            · simp only [hnext, rowT, List.cons_append, List.length_append, List.length_cons, List.length_nil]
              try rfl
        · have hie : i = us.length := by omega
          subst hie
          rw [List.take_of_length_le (Nat.le_refl _)] at hrow
          have hpl : (putTs s us).length = us.length := by rw [putTs_map, List.length_map]
          (simp only [h, List.take_of_length_le (Nat.le_refl _), (vmA), Nat.reduceEqDiff, reduceIte, Nat.reduceAdd, Int.reduceToNat, Int.reduceLE, Int.reduceLT, Int.reduceEq, Int.reduceNe, Int.reduceAdd, Int.reduceSub, Int.reduceNeg, Nat.reduceLT, Nat.reduceLeDiff, Nat.reduceBEq, undef, (stA), Nat.reduceMul]; try simp (disch := omega) only [(vmp)])
          generalize putTs s us = ps at *
          rcases ps with _ | ⟨u0, ur⟩
          · (simp only [rowT, (vmA), Nat.reduceEqDiff, reduceIte, Nat.reduceAdd, Int.reduceToNat, Int.reduceLE, Int.reduceLT, Int.reduceEq, Int.reduceNe, Int.reduceAdd, Int.reduceSub, Int.reduceNeg, Nat.reduceLT, Nat.reduceLeDiff, Nat.reduceBEq, undef, (stA), Nat.reduceMul]; try simp (disch := omega) only [(vmp)])
            exact ⟨_, .agg (.cons (.refl _) (.cons (.refl _) (.cons .none .nil))), by simp only [AV.low, AV.low.lows, Bool.and_self], by simp only [tysV]⟩
          · have hr := hrow (by simp)
            simp only [List.length_cons] at hr
            (simp only [rowT, (vmA), Nat.reduceEqDiff, reduceIte, Nat.reduceAdd, Int.reduceToNat, Int.reduceLE, Int.reduceLT, Int.reduceEq, Int.reduceNe, Int.reduceAdd, Int.reduceSub, Int.reduceNeg, Nat.reduceLT, Nat.reduceLeDiff, Nat.reduceBEq, undef, (stA), Nat.reduceMul]; try simp (disch := omega) only [(vmp)])
            have hf0 := tyCells_len (u0 :: ur)
            refine ⟨_, .agg (.cons (.refl _) (.cons (.refl _) (.cons (.rsl (ty := 24) (ver := ur.length) (imm := 0) (ag := true) (cells := (u0 :: ur).flatMap tyCells) (es := tysV (u0 :: ur)) (es' := tysV (u0 :: ur)) (by omega) ?_ (by rw [List.drop_zero, tysV_cells]) (by omega) (by rw [tysV_len]; rfl) (by omega) (fun e he => by rw [tysV_map] at he; obtain ⟨x, _, rfl⟩ := List.mem_map.1 he; exact tyV_el x) FrzL.refl) .nil))), by simp only [AV.low, AV.low.lows, tysV_low, Bool.and_self], rfl⟩
            rw [Nat.add_sub_cancel_left]
            simpa using hr
  | none =>
    have heq : putT s (.mk d n us) = .mk d n (putTs s us) := by unfold putT; rw [if_neg (fun h => by rw [hlk] at h; cases h.2)]
    rw [heq]
    (simp only [tyV, tysV_len, gk, mgetN, hlk, Option.map_none, (vmA), Nat.reduceEqDiff, reduceIte, Nat.reduceAdd, Int.reduceToNat, Int.reduceLE, Int.reduceLT, Int.reduceEq, Int.reduceNe, Int.reduceAdd, Int.reduceSub, Int.reduceNeg, Nat.reduceLT, Nat.reduceLeDiff, Nat.reduceBEq, undef, (stA), Nat.reduceMul]; try simp (disch := omega) only [(vmp)])
    refine ⟨⟨rfl, fun e he => keysN nl tab _ _ 0 s e he⟩, ?_⟩
    refine xloop (α := Nat × List Ent × Nat) T0 (fun x => [(0, .mp m), (4, .ref (σ.length + 1) 0 0), (7, .ref (σ.length + 3) 0 0), (30, .sl (tysV us)), (31, i64 us.length), (32, i64 x.1)]) (fun _ => σ)
      (fun x => .arr 24 [.str d, .str n, .sl (tysV us)] 0 0 :: .arr 24 [.str [], .str [], .v (.slice none 0 0)] 0 0 :: .arr 24 [.str [], .str [], .v (.slice none 0 0)] 0 0 :: .arr 24 [.str d, .str n, rowT (σ.length + (x.2.2 + 4)) (putTs s (us.take x.1))] 0 0 :: x.2.1)
      (fun x => x.1 ≤ us.length ∧ (putTs s (us.take x.1) ≠ [] → x.2.1[x.2.2]? = some (.arr 24 ((putTs s (us.take x.1)).flatMap tyCells) ((putTs s (us.take x.1)).length - 1) 0))) (fun x => us.length - x.1) (by kernel_rfl)
      ⟨(0, [], 0), ⟨by simp, by simp [putTs]⟩, by (simp only [(vmA), Nat.reduceEqDiff, reduceIte, Nat.reduceAdd, Int.reduceToNat, Int.reduceLE, Int.reduceLT, Int.reduceEq, Int.reduceNe, Int.reduceAdd, Int.reduceSub, Int.reduceNeg, Nat.reduceLT, Nat.reduceLeDiff, Nat.reduceBEq, undef, (stA), Nat.reduceMul, Int.natCast_zero]; try simp (disch := omega) only [(vmp)]), rfl, by simp only [List.take_zero, putTs, rowT]⟩ ?_
    rintro ⟨i, junk, rid⟩ ⟨hi, hrow⟩
    simp only at hi hrow
    have hal : (putTs s (us.take i)).length = i := by rw [putTs_map]; simp; omega
    by_cases h : (i : Int) < us.length
    · have hi' : i < us.length := by omega
      have hu : us[i]? = some us[i] := List.getElem?_eq_getElem hi'
      obtain ⟨s1, s2⟩ := take_split us i _ hu
      have hmem : us[i] ∈ us := List.getElem_mem hi'
      generalize us[i] = u at *
      have hg := tysV_get hu
      have hc := fun l => ih u hmem nl s (σ ++ l) m (hdn u hmem) (get_olds hm l)
      have hnext : putTs s (us.take (i + 1)) = putTs s (us.take i) ++ [putT s u] := by rw [s1, putTs_map, putTs_map]; simp
      rcases hr : putT s u with ⟨a3, b3, us3⟩
      rw [hr] at hnext
      simp only [hr] at hc
      cases u with
      | mk d4 n4 us4 =>
      simp only [tyV] at hg hc
      (simp only [h, hg, tysV_len, (vmA), Nat.reduceEqDiff, reduceIte, Nat.reduceAdd, Int.reduceToNat, Int.reduceLE, Int.reduceLT, Int.reduceEq, Int.reduceNe, Int.reduceAdd, Int.reduceSub, Int.reduceNeg, Nat.reduceLT, Nat.reduceLeDiff, Nat.reduceBEq, undef, (stA), Nat.reduceMul]; try simp (disch := omega) only [(vmp)])
      refine ydraw T0 [6, 8] (by kernel_rfl) (by kernel_rfl) (by kernel_rfl) (by kernel_rfl) ?_
      (simp only [(vmA), Nat.reduceEqDiff, reduceIte, Nat.reduceAdd, Int.reduceToNat, Int.reduceLE, Int.reduceLT, Int.reduceEq, Int.reduceNe, Int.reduceAdd, Int.reduceSub, Int.reduceNeg, Nat.reduceLT, Nat.reduceLeDiff, Nat.reduceBEq, undef, (stA), Nat.reduceMul]; try simp (disch := omega) only [(vmp)])
      refine yNext.go (by rfl) _ rfl (hc _) ?_
      generalize hacc : putTs s (us.take i) = acc at *
      rcases acc with _ | ⟨b0, r0⟩
      · (simp only [rowT, (vmA), Nat.reduceEqDiff, reduceIte, Nat.reduceAdd, Int.reduceToNat, Int.reduceLE, Int.reduceLT, Int.reduceEq, Int.reduceNe, Int.reduceAdd, Int.reduceSub, Int.reduceNeg, Nat.reduceLT, Nat.reduceLeDiff, Nat.reduceBEq, undef, (stA), Nat.reduceMul]; try simp (disch := omega) only [(vmp)])
        refine ⟨by unfold maxRoom; omega, (i + 1, junk ++ [.arr 24 [.str d4, .str n4, .sl (tysV us4)] 0 0, .arr 24 [.str a3, .str b3, .sl (tysV us3)] 0 0], junk.length + 1), ⟨by simp only; omega, fun _ => ?_⟩, by simp only; omega, rfl, ?_⟩
        · simp only [hnext]; simp [tyCells]
        · simp only [hnext, List.nil_append, rowT, List.length_nil, List.append_assoc, List.cons_append, Nat.add_assoc]
          try rfl
      · have h5 : ∀ e, (junk ++ [e])[rid]? = some (.arr 24 ((b0 :: r0).flatMap tyCells) ((b0 :: r0).length - 1) 0) := fun e => get_old (hrow (by simp))
        have e0 : (tyCells b0).length = 3 := by cases b0; rfl
        have hf0 : (List.flatMap tyCells r0).length = r0.length * 3 := tyCells_len r0
        simp only [List.length_cons] at hal
        (simp only [rowT, h5, (vmA), Nat.reduceEqDiff, reduceIte, Nat.reduceAdd, Int.reduceToNat, Int.reduceLE, Int.reduceLT, Int.reduceEq, Int.reduceNe, Int.reduceAdd, Int.reduceSub, Int.reduceNeg, Nat.reduceLT, Nat.reduceLeDiff, Nat.reduceBEq, undef, (stA), Nat.reduceMul]; try simp (disch := omega) only [(vmp)])
        refine ⟨⟨by omega, by omega, by omega, by unfold maxRoom; omega, by unfold maxRoom; omega⟩, ?_⟩
        refine ⟨(i + 1, (junk ++ [Ent.arr 24 [AV.str d4, AV.str n4, AV.sl (tysV us4)] 0 0]).set rid (Ent.arr 24 (tyCells b0 ++ (List.flatMap tyCells r0 ++ [AV.str a3, AV.str b3, AV.sl (tysV us3)])) (r0.length + 1 - 1 + 1) 0), rid), ⟨by simp only; omega, fun _ => ?_⟩, by simp only; omega, rfl, ?_⟩
        · simp only [hnext]
          rw [get_set_self (h5 _)]
          simp [tyCells]
        · simp only [hnext, rowT, List.cons_append, List.length_append, List.length_cons, List.length_nil]
          try rfl
    · have hie : i = us.length := by omega
      subst hie
      rw [List.take_of_length_le (Nat.le_refl _)] at hrow
      have hpl : (putTs s us).length = us.length := by rw [putTs_map, List.length_map]
      (simp only [h, List.take_of_length_le (Nat.le_refl _), (vmA), Nat.reduceEqDiff, reduceIte, Nat.reduceAdd, Int.reduceToNat, Int.reduceLE, Int.reduceLT, Int.reduceEq, Int.reduceNe, Int.reduceAdd, Int.reduceSub, Int.reduceNeg, Nat.reduceLT, Nat.reduceLeDiff, Nat.reduceBEq, undef, (stA), Nat.reduceMul]; try simp (disch := omega) only [(vmp)])
      generalize putTs s us = ps at *
      rcases ps with _ | ⟨u0, ur⟩
      · (simp only [rowT, (vmA), Nat.reduceEqDiff, reduceIte, Nat.reduceAdd, Int.reduceToNat, Int.reduceLE, Int.reduceLT, Int.reduceEq, Int.reduceNe, Int.reduceAdd, Int.reduceSub, Int.reduceNeg, Nat.reduceLT, Nat.reduceLeDiff, Nat.reduceBEq, undef, (stA), Nat.reduceMul]; try simp (disch := omega) only [(vmp)])
        exact ⟨_, .agg (.cons (.refl _) (.cons (.refl _) (.cons .none .nil))), by simp only [AV.low, AV.low.lows, Bool.and_self], by simp only [tysV]⟩
      · have hr := hrow (by simp)
        simp only [List.length_cons] at hr
        (simp only [rowT, (vmA), Nat.reduceEqDiff, reduceIte, Nat.reduceAdd, Int.reduceToNat, Int.reduceLE, Int.reduceLT, Int.reduceEq, Int.reduceNe, Int.reduceAdd, Int.reduceSub, Int.reduceNeg, Nat.reduceLT, Nat.reduceLeDiff, Nat.reduceBEq, undef, (stA), Nat.reduceMul]; try simp (disch := omega) only [(vmp)])
        have hf0 := tyCells_len (u0 :: ur)
        refine ⟨_, .agg (.cons (.refl _) (.cons (.refl _) (.cons (.rsl (ty := 24) (ver := ur.length) (imm := 0) (ag := true) (cells := (u0 :: ur).flatMap tyCells) (es := tysV (u0 :: ur)) (es' := tysV (u0 :: ur)) (by omega) ?_ (by rw [List.drop_zero, tysV_cells]) (by omega) (by rw [tysV_len]; rfl) (by omega) (fun e he => by rw [tysV_map] at he; obtain ⟨x, _, rfl⟩ := List.mem_map.1 he; exact tyV_el x) FrzL.refl) .nil))), by simp only [AV.low, AV.low.lows, tysV_low, Bool.and_self], rfl⟩
        rw [Nat.add_sub_cancel_left]
        simpa using hr
theorem put_ok : ∀ (m : Nat) (t : Tr), SizeOf.sizeOf t ≤ m → PT t
  | 0, .mk d n us, h => by simp at h
  | m + 1, .mk d n us, h => put_step d n us fun u hu => put_ok m u (by
      have := List.sizeOf_lt_of_mem hu
      simp at h; omega)
end Go.D

/- Whether types are the same, by the document; the canonical type. -/
set_option linter.unusedVariables false
set_option linter.unusedSimpArgs false
set_option linter.unnecessarySimpa false
set_option maxRecDepth 100000
namespace Go.D
open Go Go.Vm Go.Proofs Go.RowKit

def ST2 (t : Tr) : Prop := ∀ (u : Tr) (σ : List Ent), lenT t → lenT u → ACalls E 18 [tyV t, tyV u] σ fun r τ => r = boolV (sameB t u) ∧ τ = σ
set_option maxHeartbeats 4000000 in
theorem sameTypes_ok (us us' : List Tr) (hl : us.length ≤ 9223372036854775807) (hl2 : us'.length ≤ 9223372036854775807) (hf : ∀ (u u' : Tr) (σ : List Ent), u ∈ us → u' ∈ us' → ACalls E 18 [tyV u, tyV u'] σ fun r τ => r = boolV (sameB u u') ∧ τ = σ) (σ : List Ent) :
    ACalls E 50 [.sl (tysV us), .sl (tysV us')] σ fun r τ => r = boolV (decide (us.length = us'.length) && sameBs us us') ∧ τ = σ := by
  refine xacalls T0 .drop [] Tryz.func50 rfl (by kernel_rfl) (by kernel_rfl) (by simp [Tryz.ntmps50]) ?_
  by_cases hn : (us.length : Int) = us'.length
  rotate_left
  · have : ¬ us.length = us'.length := fun h => hn (by omega)
    (simp only [tysV_len, hn, (vmA), Nat.reduceEqDiff, reduceIte, Nat.reduceAdd, Int.reduceToNat, Int.reduceLE, Int.reduceLT, Int.reduceEq, Int.reduceNe, Int.reduceAdd, Int.reduceSub, Int.reduceNeg, Nat.reduceLT, Nat.reduceLeDiff, Nat.reduceBEq, undef, (stA), Nat.reduceMul]; try simp (disch := omega) only [(vmp)])
    simp only [this, decide_false, Bool.false_and]
  have hn' : us.length = us'.length := by omega
  (simp only [tysV_len, hn, (vmA), Nat.reduceEqDiff, reduceIte, Nat.reduceAdd, Int.reduceToNat, Int.reduceLE, Int.reduceLT, Int.reduceEq, Int.reduceNe, Int.reduceAdd, Int.reduceSub, Int.reduceNeg, Nat.reduceLT, Nat.reduceLeDiff, Nat.reduceBEq, undef, (stA), Nat.reduceMul]; try simp (disch := omega) only [(vmp)])
  refine xloop (α := Nat) T0 (fun x => [(0, .sl (tysV us)), (1, .sl (tysV us')), (12, i64 us'.length), (13, i64 x)]) (fun _ => σ) (fun x => [])
    (fun x => x ≤ us.length ∧ sameBs (us.take x) (us'.take x) = true) (fun x => us.length - x) (by kernel_rfl)
    ⟨0, ⟨by simp, by simp only [List.take_zero, sameBs]⟩, by (simp only [(vmA), Nat.reduceEqDiff, reduceIte, Nat.reduceAdd, Int.reduceToNat, Int.reduceLE, Int.reduceLT, Int.reduceEq, Int.reduceNe, Int.reduceAdd, Int.reduceSub, Int.reduceNeg, Nat.reduceLT, Nat.reduceLeDiff, Nat.reduceBEq, undef, (stA), Nat.reduceMul, Int.natCast_zero]; try simp (disch := omega) only [(vmp)]), rfl, rfl⟩ ?_
  rintro i ⟨hi, hs⟩
  by_cases h : (i : Int) < us'.length
  · have hi1 : i < us.length := by omega
    have hi2 : i < us'.length := by omega
    have hu : us[i]? = some us[i] := List.getElem?_eq_getElem hi1
    have hu' : us'[i]? = some us'[i] := List.getElem?_eq_getElem hi2
    obtain ⟨s1, s2⟩ := take_split us i _ hu
    obtain ⟨s3, s4⟩ := take_split us' i _ hu'
    have hm := List.getElem_mem hi1
    have hm' := List.getElem_mem hi2
    generalize us[i] = u at *
    generalize us'[i] = u' at *
    have hlt : (us.take i).length = (us'.take i).length := by simp; omega
    have hg := tysV_get hu
    have hg' := tysV_get hu'
    have hc := fun σ' => hf u u' σ' hm hm'
    cases u with
    | mk a b cs =>
    cases u' with
    | mk a' b' cs' =>
    simp only [tyV] at hg hg' hc
    (simp only [h, hg, hg', tysV_len, hn, (vmA), Nat.reduceEqDiff, reduceIte, Nat.reduceAdd, Int.reduceToNat, Int.reduceLE, Int.reduceLT, Int.reduceEq, Int.reduceNe, Int.reduceAdd, Int.reduceSub, Int.reduceNeg, Nat.reduceLT, Nat.reduceLeDiff, Nat.reduceBEq, undef, (stA), Nat.reduceMul]; try simp (disch := omega) only [(vmp)])
    refine ydraw T0 [] (by kernel_rfl) (by kernel_rfl) (by kernel_rfl) (by kernel_rfl) ?_
    (simp only [h, hg, hg', tysV_len, hn, (vmA), Nat.reduceEqDiff, reduceIte, Nat.reduceAdd, Int.reduceToNat, Int.reduceLE, Int.reduceLT, Int.reduceEq, Int.reduceNe, Int.reduceAdd, Int.reduceSub, Int.reduceNeg, Nat.reduceLT, Nat.reduceLeDiff, Nat.reduceBEq, undef, (stA), Nat.reduceMul]; try simp (disch := omega) only [(vmp)])
    refine yNext.go (by rfl) _ rfl (hc _) ?_
    cases hb : sameB (.mk a b cs) (.mk a' b' cs')
    · (simp only [(vmA), Nat.reduceEqDiff, reduceIte, Nat.reduceAdd, Int.reduceToNat, Int.reduceLE, Int.reduceLT, Int.reduceEq, Int.reduceNe, Int.reduceAdd, Int.reduceSub, Int.reduceNeg, Nat.reduceLT, Nat.reduceLeDiff, Nat.reduceBEq, undef, (stA), Nat.reduceMul]; try simp (disch := omega) only [(vmp)])
      rw [s2, s4, sameBs_app _ _ _ _ hlt]
      simp only [sameBs, hb, Bool.false_and, Bool.and_false]
    · (simp only [(vmA), Nat.reduceEqDiff, reduceIte, Nat.reduceAdd, Int.reduceToNat, Int.reduceLE, Int.reduceLT, Int.reduceEq, Int.reduceNe, Int.reduceAdd, Int.reduceSub, Int.reduceNeg, Nat.reduceLT, Nat.reduceLeDiff, Nat.reduceBEq, undef, (stA), Nat.reduceMul]; try simp (disch := omega) only [(vmp)])
      refine ⟨i + 1, ⟨by omega, ?_⟩, by omega, rfl⟩
      rw [s1, s3, sameBs_app _ _ _ _ hlt, hs]
      simp only [sameBs, hb, Bool.and_self]
  · have hie : i = us.length := by omega
    subst hie
    (simp only [h, (vmA), Nat.reduceEqDiff, reduceIte, Nat.reduceAdd, Int.reduceToNat, Int.reduceLE, Int.reduceLT, Int.reduceEq, Int.reduceNe, Int.reduceAdd, Int.reduceSub, Int.reduceNeg, Nat.reduceLT, Nat.reduceLeDiff, Nat.reduceBEq, undef, (stA), Nat.reduceMul]; try simp (disch := omega) only [(vmp)])
    rw [List.take_of_length_le (Nat.le_refl _), hn', List.take_of_length_le (Nat.le_refl _)] at hs
    rw [hs]; simp [hn']
set_option maxHeartbeats 4000000 in
theorem SameType2_step (d n : List UInt8) (us : List Tr) (ih : ∀ u ∈ us, ST2 u) : ST2 (.mk d n us) := by
  intro u σ hl hl2
  cases u with
  | mk d' n' us' =>
  simp only [lenT] at hl hl2
  refine xacalls T0 .drop [] Tryz.func18 rfl (by kernel_rfl) (by kernel_rfl) (by simp [Tryz.ntmps18]) ?_
  simp only [sameB]
  by_cases hd : d = d'
  rotate_left
  · (simp only [tyV, hd, (vmA), Nat.reduceEqDiff, reduceIte, Nat.reduceAdd, Int.reduceToNat, Int.reduceLE, Int.reduceLT, Int.reduceEq, Int.reduceNe, Int.reduceAdd, Int.reduceSub, Int.reduceNeg, Nat.reduceLT, Nat.reduceLeDiff, Nat.reduceBEq, undef, (stA), Nat.reduceMul]; try simp (disch := omega) only [(vmp)])
  by_cases hn : n = n'
  rotate_left
  · (simp only [tyV, hd, hn, (vmA), Nat.reduceEqDiff, reduceIte, Nat.reduceAdd, Int.reduceToNat, Int.reduceLE, Int.reduceLT, Int.reduceEq, Int.reduceNe, Int.reduceAdd, Int.reduceSub, Int.reduceNeg, Nat.reduceLT, Nat.reduceLeDiff, Nat.reduceBEq, undef, (stA), Nat.reduceMul]; try simp (disch := omega) only [(vmp)])
  · (simp only [tyV, hd, hn, (vmA), Nat.reduceEqDiff, reduceIte, Nat.reduceAdd, Int.reduceToNat, Int.reduceLE, Int.reduceLT, Int.reduceEq, Int.reduceNe, Int.reduceAdd, Int.reduceSub, Int.reduceNeg, Nat.reduceLT, Nat.reduceLeDiff, Nat.reduceBEq, undef, (stA), Nat.reduceMul]; try simp (disch := omega) only [(vmp)])
    refine xWait.go (sameTypes_ok us us' hl.2.1 hl2.2.1 (fun u u' σ' h h' => ih u h u' σ' (lenTs_mem hl.2.2 h) (lenTs_mem hl2.2.2 h')) _) ?_
    (simp only [(vmA), Nat.reduceEqDiff, reduceIte, Nat.reduceAdd, Int.reduceToNat, Int.reduceLE, Int.reduceLT, Int.reduceEq, Int.reduceNe, Int.reduceAdd, Int.reduceSub, Int.reduceNeg, Nat.reduceLT, Nat.reduceLeDiff, Nat.reduceBEq, undef, (stA), Nat.reduceMul]; try simp (disch := omega) only [(vmp)])
    try rfl
theorem SameType2_ok : ∀ (m : Nat) (t : Tr), SizeOf.sizeOf t ≤ m → ST2 t
  | 0, .mk d n us, h => by simp at h
  | m + 1, .mk d n us, h => SameType2_step d n us fun u hu => SameType2_ok m u (by
      have := List.sizeOf_lt_of_mem hu
      simp at h; omega)
end Go.D

/- Substitutions as lists of claims: which are ones, which are the same. -/
set_option linter.unusedVariables false
set_option linter.unusedSimpArgs false
set_option linter.unnecessarySimpa false
set_option maxRecDepth 100000
namespace Go.D
open Go Go.Vm Go.Proofs Go.RowKit

def lenC (l : List Cl) : Prop := l.length ≤ 9223372036854775807 ∧ ∀ c ∈ l, c.1.length ≤ 9223372036854775807 ∧ lenT c.2
def sameC (c c' : Cl) : Bool := decide (c.1 = c'.1) && sameB c.2 c'.2
def sameCs : List Cl → List Cl → Bool
  | c :: l, c' :: l' => sameC c c' && sameCs l l'
  | _, _ => true
theorem sameCs_app : ∀ (a a' b b' : List Cl), a.length = a'.length → sameCs (a ++ b) (a' ++ b') = (sameCs a a' && sameCs b b')
  | [], [], b, b', _ => by simp only [List.nil_append, sameCs, Bool.true_and]
  | t :: a, t' :: a', b, b', h => by simp only [List.cons_append, sameCs, sameCs_app a a' b b' (by simpa using h), Bool.and_assoc]
theorem take_splitC {α : Type} (us : List α) (i : Nat) (u : α) (hu : us[i]? = some u) : us.take (i + 1) = us.take i ++ [u] ∧ us = us.take i ++ u :: us.drop (i + 1) := by
  obtain ⟨hi, rfl⟩ := List.getElem?_eq_some_iff.1 hu
  exact ⟨by rw [List.take_add_one, hu]; rfl, by rw [← List.drop_eq_getElem_cons hi, List.take_append_drop]⟩
theorem clsV_get {l : List Cl} {i : Nat} {c : Cl} (h : l[i]? = some c) : (clsV l).getD i .un = clV c := by simp [clsV, List.getD, h]
set_option maxHeartbeats 4000000 in
theorem SameSubst_ok (l l' : List Cl) (hl : lenC l) (hl' : lenC l') (σ : List Ent) : ACalls E 20 [.sl (clsV l), .sl (clsV l')] σ fun r τ => r = boolV (decide (l.length = l'.length) && sameCs l l') ∧ τ = σ := by
  refine xacalls T0 .drop [] Tryz.func20 rfl (by kernel_rfl) (by kernel_rfl) (by simp [Tryz.ntmps20]) ?_
  by_cases hn : (l.length : Int) = l'.length
  rotate_left
  · have : ¬ l.length = l'.length := fun h => hn (by omega)
    (simp only [clsV_len, hn, (vmA), Nat.reduceEqDiff, reduceIte, Nat.reduceAdd, Int.reduceToNat, Int.reduceLE, Int.reduceLT, Int.reduceEq, Int.reduceNe, Int.reduceAdd, Int.reduceSub, Int.reduceNeg, Nat.reduceLT, Nat.reduceLeDiff, Nat.reduceBEq, undef, (stA), Nat.reduceMul]; try simp (disch := omega) only [(vmp)])
    simp only [this, decide_false, Bool.false_and]
  have hn' : l.length = l'.length := by omega
  have hb := hl.1
  (simp only [clsV_len, hn, (vmA), Nat.reduceEqDiff, reduceIte, Nat.reduceAdd, Int.reduceToNat, Int.reduceLE, Int.reduceLT, Int.reduceEq, Int.reduceNe, Int.reduceAdd, Int.reduceSub, Int.reduceNeg, Nat.reduceLT, Nat.reduceLeDiff, Nat.reduceBEq, undef, (stA), Nat.reduceMul]; try simp (disch := omega) only [(vmp)])
  refine xloop (α := Nat) T0 (fun x => [(0, .sl (clsV l)), (1, .sl (clsV l')), (12, i64 l'.length), (13, i64 x)]) (fun _ => σ) (fun x => [])
    (fun x => x ≤ l.length ∧ sameCs (l.take x) (l'.take x) = true) (fun x => l.length - x) (by kernel_rfl)
    ⟨0, ⟨by simp, by simp only [List.take_zero, sameCs]⟩, by (simp only [(vmA), Nat.reduceEqDiff, reduceIte, Nat.reduceAdd, Int.reduceToNat, Int.reduceLE, Int.reduceLT, Int.reduceEq, Int.reduceNe, Int.reduceAdd, Int.reduceSub, Int.reduceNeg, Nat.reduceLT, Nat.reduceLeDiff, Nat.reduceBEq, undef, (stA), Nat.reduceMul, Int.natCast_zero]; try simp (disch := omega) only [(vmp)]), rfl, rfl⟩ ?_
  rintro i ⟨hi, hs⟩
  by_cases h : (i : Int) < l'.length
  · have hi1 : i < l.length := by omega
    have hi2 : i < l'.length := by omega
    have hu : l[i]? = some l[i] := List.getElem?_eq_getElem hi1
    have hu' : l'[i]? = some l'[i] := List.getElem?_eq_getElem hi2
    obtain ⟨s1, s2⟩ := take_splitC l i _ hu
    obtain ⟨s3, s4⟩ := take_splitC l' i _ hu'
    have hm := hl.2 _ (List.getElem_mem hi1)
    have hm' := hl'.2 _ (List.getElem_mem hi2)
    generalize l[i] = u at *
    generalize l'[i] = u' at *
    have hlt : (l.take i).length = (l'.take i).length := by simp; omega
    have hg := clsV_get hu
    have hg' := clsV_get hu'
    obtain ⟨a, t⟩ := u
    obtain ⟨a', t'⟩ := u'
    have hc := fun σ' => SameType2_ok _ t (Nat.le_refl _) t' σ' hm.2 hm'.2
    cases t with
    | mk b c cs =>
    cases t' with
    | mk b' c' cs' =>
    simp only [clV, clC, tyCells] at hg hg'
    simp only [tyV] at hc
    by_cases ha : a = a'
    · (simp only [h, hg, hg', ha, clsV_len, hn, (vmA), Nat.reduceEqDiff, reduceIte, Nat.reduceAdd, Int.reduceToNat, Int.reduceLE, Int.reduceLT, Int.reduceEq, Int.reduceNe, Int.reduceAdd, Int.reduceSub, Int.reduceNeg, Nat.reduceLT, Nat.reduceLeDiff, Nat.reduceBEq, undef, (stA), Nat.reduceMul]; try simp (disch := omega) only [(vmp)])
      refine ydraw T0 [] (by kernel_rfl) (by kernel_rfl) (by kernel_rfl) (by kernel_rfl) ?_
      (simp only [h, hg, hg', ha, clsV_len, hn, (vmA), Nat.reduceEqDiff, reduceIte, Nat.reduceAdd, Int.reduceToNat, Int.reduceLE, Int.reduceLT, Int.reduceEq, Int.reduceNe, Int.reduceAdd, Int.reduceSub, Int.reduceNeg, Nat.reduceLT, Nat.reduceLeDiff, Nat.reduceBEq, undef, (stA), Nat.reduceMul]; try simp (disch := omega) only [(vmp)])
      refine yNext.go (by rfl) _ rfl (hc _) ?_
      cases hb : sameB (.mk b c cs) (.mk b' c' cs')
      · (simp only [(vmA), Nat.reduceEqDiff, reduceIte, Nat.reduceAdd, Int.reduceToNat, Int.reduceLE, Int.reduceLT, Int.reduceEq, Int.reduceNe, Int.reduceAdd, Int.reduceSub, Int.reduceNeg, Nat.reduceLT, Nat.reduceLeDiff, Nat.reduceBEq, undef, (stA), Nat.reduceMul]; try simp (disch := omega) only [(vmp)])
        rw [s2, s4, sameCs_app _ _ _ _ hlt]
        simp only [sameCs, sameC, hb, Bool.false_and, Bool.and_false]
      · (simp only [(vmA), Nat.reduceEqDiff, reduceIte, Nat.reduceAdd, Int.reduceToNat, Int.reduceLE, Int.reduceLT, Int.reduceEq, Int.reduceNe, Int.reduceAdd, Int.reduceSub, Int.reduceNeg, Nat.reduceLT, Nat.reduceLeDiff, Nat.reduceBEq, undef, (stA), Nat.reduceMul]; try simp (disch := omega) only [(vmp)])
        refine ⟨i + 1, ⟨by omega, ?_⟩, by omega, rfl⟩
        rw [s1, s3, sameCs_app _ _ _ _ hlt, hs]
        simp only [sameCs, sameC, hb, ha, decide_true, Bool.and_self]
    · (simp only [h, hg, hg', ha, clsV_len, hn, (vmA), Nat.reduceEqDiff, reduceIte, Nat.reduceAdd, Int.reduceToNat, Int.reduceLE, Int.reduceLT, Int.reduceEq, Int.reduceNe, Int.reduceAdd, Int.reduceSub, Int.reduceNeg, Nat.reduceLT, Nat.reduceLeDiff, Nat.reduceBEq, undef, (stA), Nat.reduceMul]; try simp (disch := omega) only [(vmp)])
      refine ydraw T0 [] (by kernel_rfl) (by kernel_rfl) (by kernel_rfl) (by kernel_rfl) ?_
      (simp only [h, hg, hg', ha, clsV_len, hn, (vmA), Nat.reduceEqDiff, reduceIte, Nat.reduceAdd, Int.reduceToNat, Int.reduceLE, Int.reduceLT, Int.reduceEq, Int.reduceNe, Int.reduceAdd, Int.reduceSub, Int.reduceNeg, Nat.reduceLT, Nat.reduceLeDiff, Nat.reduceBEq, undef, (stA), Nat.reduceMul]; try simp (disch := omega) only [(vmp)])
      rw [s2, s4, sameCs_app _ _ _ _ hlt]
      simp only [sameCs, sameC, ha, decide_false, Bool.false_and, Bool.and_false]
  · have hie : i = l.length := by omega
    subst hie
    (simp only [h, (vmA), Nat.reduceEqDiff, reduceIte, Nat.reduceAdd, Int.reduceToNat, Int.reduceLE, Int.reduceLT, Int.reduceEq, Int.reduceNe, Int.reduceAdd, Int.reduceSub, Int.reduceNeg, Nat.reduceLT, Nat.reduceLeDiff, Nat.reduceBEq, undef, (stA), Nat.reduceMul]; try simp (disch := omega) only [(vmp)])
    rw [List.take_of_length_le (Nat.le_refl _), hn', List.take_of_length_le (Nat.le_refl _)] at hs
    rw [hs]; simp [hn']
end Go.D

/- Lists of texts in order, by the document. -/
set_option linter.unusedVariables false
set_option linter.unusedSimpArgs false
set_option linter.unnecessarySimpa false
set_option maxRecDepth 100000
namespace Go.D
open Go Go.Vm Go.Proofs Go.RowKit

theorem strsV_take (l : List (List UInt8)) (i : Nat) : (strsV l).take i = strsV (l.take i) := by simp [strsV]
theorem strsV_drop (l : List (List UInt8)) (i : Nat) : (strsV l).drop i = strsV (l.drop i) := by simp [strsV]
theorem strsV_app (a b : List (List UInt8)) : strsV a ++ strsV b = strsV (a ++ b) := by simp [strsV]
theorem strsV_el {l : List (List UInt8)} {e : AV} (h : e ∈ strsV l) : isEl 1 false e = true := by obtain ⟨x, _, rfl⟩ := List.mem_map.1 h; rfl
theorem strsV_at {l : List (List UInt8)} {i : Nat} {x : List UInt8} (h : l[i]? = some x) : (strsV l).getD i .un = .str x := by simp [strsV, List.getD, h]
theorem frz_strs' {n0 id ver imm ty n : Nat} {l : List Ent} {zs : List (List UInt8)} {cs : List AV} (hid : n0 ≤ id) (h : l[id - n0]? = some (.arr ty cs ver imm)) (hc : cs = strsV zs) (hn : n = zs.length) : Frz n0 l (.rsl id ver 0 n 1) (.sl (strsV zs)) := by
  subst hc; exact frz_strs hid h hn
def putS : List (List UInt8) → List UInt8 → List (List UInt8)
  | [], x => [x]
  | a :: r, x => if a < x then a :: putS r x else if a = x then a :: r else x :: a :: r
theorem putS_at : ∀ (l : List (List UInt8)) (x : List UInt8) (i : Nat), i ≤ l.length → (∀ y ∈ l.take i, y < x) → (∀ y, l[i]? = some y → ¬ y < x) → putS l x = if l[i]? = some x then l else l.take i ++ x :: l.drop i
  | [], x, i, hi, _, _ => by simp at hi; subst hi; simp [putS]
  | a :: r, x, 0, _, _, h => by
    have ha := h a (by simp)
    unfold putS
    rw [if_neg ha]
    by_cases e : a = x
    · simp [e]
    · simp [e]
  | a :: r, x, i + 1, hi, h1, h2 => by
    have ha := h1 a (by simp)
    have := putS_at r x i (by simpa using hi) (fun y hy => h1 y (by simp [hy])) (fun y hy => h2 y (by simpa using hy))
    unfold putS
    rw [if_pos ha, this]
    simp only [List.getElem?_cons_succ, List.take_succ_cons, List.drop_succ_cons, List.cons_append]
    split <;> rfl
theorem putS_mem {x y : List UInt8} : ∀ {l : List (List UInt8)}, y ∈ putS l x ↔ y = x ∨ y ∈ l
  | [] => by simp [putS]
  | a :: r => by
    unfold putS
    split
    · rw [List.mem_cons, putS_mem, List.mem_cons]
      constructor
      · rintro (h | h | h)
        · exact .inr (.inl h)
        · exact .inl h
        · exact .inr (.inr h)
      · rintro (h | h | h)
        · exact .inr (.inl h)
        · exact .inl h
        · exact .inr (.inr h)
    · split
      · rename_i e
        rw [List.mem_cons]
        constructor
        · exact .inr
        · rintro (h | h)
          · exact .inl (by rw [h, e])
          · exact h
      · rw [List.mem_cons]
theorem putS_asc {x : List UInt8} : ∀ {l : List (List UInt8)}, l.Pairwise (· < ·) → (putS l x).Pairwise (· < ·)
  | [], _ => by simp [putS]
  | a :: r, h => by
    obtain ⟨h1, h2⟩ := List.pairwise_cons.1 h
    unfold putS
    split
    · rename_i hx
      refine List.pairwise_cons.2 ⟨fun y hy => ?_, putS_asc h2⟩
      rcases putS_mem.1 hy with rfl | hy
      · exact hx
      · exact h1 y hy
    · rename_i hx
      split
      · exact h
      · rename_i e
        have hxa : x < a := by
          rcases lt_tri a x with h | h | h
          · exact absurd h hx
          · exact absurd h e
          · exact h
        refine List.pairwise_cons.2 ⟨fun y hy => ?_, h⟩
        rcases List.mem_cons.1 hy with rfl | hy
        · exact hxa
        · exact lt_tr hxa (h1 y hy)
theorem putS_len (x : List UInt8) : ∀ l : List (List UInt8), (putS l x).length ≤ l.length + 1
  | [] => by simp [putS]
  | a :: r => by
    have := putS_len x r
    unfold putS
    split
    · simp only [List.length_cons]; omega
    · split
      · omega
      · simp
set_option maxHeartbeats 4000000 in
theorem PutT_ok (l : List (List UInt8)) (x : List UInt8) (hl : l.length ≤ 1073741824) (σ : List Ent) : ACalls E 100 [.sl (strsV l), .str x] σ fun r τ => r = .sl (strsV (putS l x)) ∧ τ = σ := by
  refine xacalls T0 .freeze [34] Tryz.func100 rfl (by kernel_rfl) (by kernel_rfl) (by simp [Tryz.ntmps100]) ?_
  (simp only [(vmA), Nat.reduceEqDiff, reduceIte, Nat.reduceAdd, Int.reduceToNat, Int.reduceLE, Int.reduceLT, Int.reduceEq, Int.reduceNe, Int.reduceAdd, Int.reduceSub, Int.reduceNeg, Nat.reduceLT, Nat.reduceLeDiff, Nat.reduceBEq, undef, (stA), Nat.reduceMul]; try simp (disch := omega) only [(vmp)])
  refine xloop (α := Nat) T0 (fun i => [(0, .sl (strsV l)), (1, .str x), (5, i64 i)]) (fun _ => σ) (fun _ => []) (fun i => i ≤ l.length ∧ ∀ y ∈ l.take i, y < x) (fun i => l.length - i) (by kernel_rfl)
    ⟨0, by simp, by (simp only [(vmA), Nat.reduceEqDiff, reduceIte, Nat.reduceAdd, Int.reduceToNat, Int.reduceLE, Int.reduceLT, Int.reduceEq, Int.reduceNe, Int.reduceAdd, Int.reduceSub, Int.reduceNeg, Nat.reduceLT, Nat.reduceLeDiff, Nat.reduceBEq, undef, (stA), Nat.reduceMul, Int.natCast_zero]; try simp (disch := omega) only [(vmp)]), rfl, rfl⟩ ?_
  rintro i ⟨hi, hall⟩
  have hlt : (l.take i).length = i := by rw [List.length_take]; omega
  have hld : (l.drop i).length = l.length - i := List.length_drop
  by_cases h : (i : Int) < l.length
  · have hi' : i < l.length := by omega
    have hu : l[i]? = some l[i] := List.getElem?_eq_getElem hi'
    obtain ⟨s1, _⟩ := take_splitC l i _ hu
    generalize l[i] = y at *
    have hg := strsV_at hu
    have hb := less_lt y x
    by_cases hx : y < x
    · rw [decide_eq_true hx] at hb
      (simp only [h, hg, hb, strsV_len, (vmA), Nat.reduceEqDiff, reduceIte, Nat.reduceAdd, Int.reduceToNat, Int.reduceLE, Int.reduceLT, Int.reduceEq, Int.reduceNe, Int.reduceAdd, Int.reduceSub, Int.reduceNeg, Nat.reduceLT, Nat.reduceLeDiff, Nat.reduceBEq, undef, (stA), Nat.reduceMul]; try simp (disch := omega) only [(vmp)])
      exact ⟨i + 1, ⟨by omega, fun z hz => by
        rw [s1, List.mem_append] at hz
        rcases hz with hz | hz
        · exact hall z hz
        · rw [List.mem_singleton.1 hz]; exact hx⟩, by omega, rfl⟩
    · rw [decide_eq_false hx] at hb
      have hp := putS_at l x i hi hall (fun z hz => by rw [hu] at hz; cases hz; exact hx)
      by_cases he : y = x
      · subst he
        rw [if_pos hu] at hp
        (simp only [h, hg, hb, strsV_len, (vmA), Nat.reduceEqDiff, reduceIte, Nat.reduceAdd, Int.reduceToNat, Int.reduceLE, Int.reduceLT, Int.reduceEq, Int.reduceNe, Int.reduceAdd, Int.reduceSub, Int.reduceNeg, Nat.reduceLT, Nat.reduceLeDiff, Nat.reduceBEq, undef, (stA), Nat.reduceMul]; try simp (disch := omega) only [(vmp)])
        rw [hp]
        exact ⟨_, .refl _, by simp only [AV.low]; exact strsV_low _ _, rfl⟩
      · rw [if_neg (fun e => he (by rw [hu] at e; exact Option.some.inj e))] at hp
        (simp only [h, hg, hb, he, strsV_len, Option.getD_some, strsV_take, strsV_drop, strsV_cells, strsV_app, (vmA), Nat.reduceEqDiff, reduceIte, Nat.reduceAdd, Int.reduceToNat, Int.reduceLE, Int.reduceLT, Int.reduceEq, Int.reduceNe, Int.reduceAdd, Int.reduceSub, Int.reduceNeg, Nat.reduceLT, Nat.reduceLeDiff, Nat.reduceBEq, undef, (stA), Nat.reduceMul]; try simp (disch := omega) only [(vmp)])
        rw [hp]
        exact ⟨⟨by omega, fun e he => strsV_el he⟩, ⟨fun e he => strsV_el he, by unfold maxRoom; omega, by unfold maxRoom; omega⟩, ⟨by omega, by unfold maxRoom; omega, by unfold maxRoom; omega⟩, ⟨by omega, fun e he => strsV_el he⟩,
          ⟨fun e he => strsV_el he, by unfold maxRoom; omega, by unfold maxRoom; omega⟩, _, frz_strs' (Nat.le_refl _) (by rw [Nat.sub_self]; rfl) (by simp [strsV]) (by simp; omega), strsV_low _ _, rfl⟩
  · have hp := putS_at l x i hi hall (fun z hz => by rw [List.getElem?_eq_none (by omega)] at hz; cases hz)
    rw [if_neg (fun e => by rw [List.getElem?_eq_none (by omega)] at e; cases e)] at hp
    (simp only [h, strsV_len, Option.getD_some, strsV_take, strsV_drop, strsV_cells, strsV_app, (vmA), Nat.reduceEqDiff, reduceIte, Nat.reduceAdd, Int.reduceToNat, Int.reduceLE, Int.reduceLT, Int.reduceEq, Int.reduceNe, Int.reduceAdd, Int.reduceSub, Int.reduceNeg, Nat.reduceLT, Nat.reduceLeDiff, Nat.reduceBEq, undef, (stA), Nat.reduceMul]; try simp (disch := omega) only [(vmp)])
    rw [hp]
    exact ⟨⟨by omega, fun e he => strsV_el he⟩, ⟨fun e he => strsV_el he, by unfold maxRoom; omega, by unfold maxRoom; omega⟩, ⟨by omega, by unfold maxRoom; omega, by unfold maxRoom; omega⟩, ⟨by omega, fun e he => strsV_el he⟩,
      ⟨fun e he => strsV_el he, by unfold maxRoom; omega, by unfold maxRoom; omega⟩, _, frz_strs' (Nat.le_refl _) (by rw [Nat.sub_self]; rfl) (by simp [strsV]) (by simp; omega), strsV_low _ _, rfl⟩
set_option maxHeartbeats 4000000 in
theorem SameTexts_ok (l m : List (List UInt8)) (hl : l.length ≤ 1099511627776) (hm : m.length ≤ 1099511627776) (σ : List Ent) :
    ACalls E 31 [.sl (strsV l), .sl (strsV m)] σ fun r τ => r = boolV (decide (l = m)) ∧ τ = σ := by
  refine xacalls T0 .drop [] Tryz.func31 rfl (by kernel_rfl) (by kernel_rfl) (by simp [Tryz.ntmps31]) ?_
  by_cases hn : (l.length : Int) = m.length
  · have hn' : l.length = m.length := by omega
    (simp only [strsV_len, hn, (vmA), Nat.reduceEqDiff, reduceIte, Nat.reduceAdd, Int.reduceToNat, Int.reduceLE, Int.reduceLT, Int.reduceEq, Int.reduceNe, Int.reduceAdd, Int.reduceSub, Int.reduceNeg, Nat.reduceLT, Nat.reduceLeDiff, Nat.reduceBEq, undef, (stA), Nat.reduceMul]; try simp (disch := omega) only [(vmp)])
    refine xloop (α := Nat) T0 (fun i => [(0, .sl (strsV l)), (1, .sl (strsV m)), (12, i64 m.length), (13, i64 i)]) (fun _ => σ) (fun _ => []) (fun i => i ≤ l.length ∧ l.take i = m.take i) (fun i => l.length - i) (by kernel_rfl)
      ⟨0, by simp, by (simp only [(vmA), Nat.reduceEqDiff, reduceIte, Nat.reduceAdd, Int.reduceToNat, Int.reduceLE, Int.reduceLT, Int.reduceEq, Int.reduceNe, Int.reduceAdd, Int.reduceSub, Int.reduceNeg, Nat.reduceLT, Nat.reduceLeDiff, Nat.reduceBEq, undef, (stA), Nat.reduceMul, Int.natCast_zero]; try simp (disch := omega) only [(vmp)]), rfl, rfl⟩ ?_
    rintro i ⟨hi, hall⟩
    by_cases h : (i : Int) < m.length
    · have hi1 : i < l.length := by omega
      have hi2 : i < m.length := by omega
      have hu1 : l[i]? = some l[i] := List.getElem?_eq_getElem hi1
      have hu2 : m[i]? = some m[i] := List.getElem?_eq_getElem hi2
      obtain ⟨s1, s2⟩ := take_splitC l i _ hu1
      obtain ⟨s3, s4⟩ := take_splitC m i _ hu2
      generalize l[i] = x at *
      generalize m[i] = y at *
      have hg1 := strsV_at hu1
      have hg2 := strsV_at hu2
      have h2 : (i : Int) < l.length := by omega
      (simp only [h, (vmA), Nat.reduceEqDiff, reduceIte, Nat.reduceAdd, Int.reduceToNat, Int.reduceLE, Int.reduceLT, Int.reduceEq, Int.reduceNe, Int.reduceAdd, Int.reduceSub, Int.reduceNeg, Nat.reduceLT, Nat.reduceLeDiff, Nat.reduceBEq, undef, (stA), Nat.reduceMul]; try simp (disch := omega) only [(vmp)])
      refine ydraw T0 [] (by kernel_rfl) (by kernel_rfl) (by kernel_rfl) (by kernel_rfl) ?_
      by_cases hx : x = y
      · (simp only [h, h2, hx, strsV_len, hg1, hg2, (vmA), Nat.reduceEqDiff, reduceIte, Nat.reduceAdd, Int.reduceToNat, Int.reduceLE, Int.reduceLT, Int.reduceEq, Int.reduceNe, Int.reduceAdd, Int.reduceSub, Int.reduceNeg, Nat.reduceLT, Nat.reduceLeDiff, Nat.reduceBEq, undef, (stA), Nat.reduceMul]; try simp (disch := omega) only [(vmp)])
        exact ⟨i + 1, ⟨by omega, by rw [s1, s3, hall, hx]⟩, by omega, rfl⟩
      · (simp only [h, h2, hx, strsV_len, hg1, hg2, (vmA), Nat.reduceEqDiff, reduceIte, Nat.reduceAdd, Int.reduceToNat, Int.reduceLE, Int.reduceLT, Int.reduceEq, Int.reduceNe, Int.reduceAdd, Int.reduceSub, Int.reduceNeg, Nat.reduceLT, Nat.reduceLeDiff, Nat.reduceBEq, undef, (stA), Nat.reduceMul]; try simp (disch := omega) only [(vmp)])
        rw [decide_eq_false (fun e => hx (by rw [e, hu2] at hu1; exact (Option.some.inj hu1).symm))]
    · (simp only [h, (vmA), Nat.reduceEqDiff, reduceIte, Nat.reduceAdd, Int.reduceToNat, Int.reduceLE, Int.reduceLT, Int.reduceEq, Int.reduceNe, Int.reduceAdd, Int.reduceSub, Int.reduceNeg, Nat.reduceLT, Nat.reduceLeDiff, Nat.reduceBEq, undef, (stA), Nat.reduceMul]; try simp (disch := omega) only [(vmp)])
      rw [List.take_of_length_le (by omega), List.take_of_length_le (by omega)] at hall
      rw [decide_eq_true hall]
  · (simp only [strsV_len, hn, (vmA), Nat.reduceEqDiff, reduceIte, Nat.reduceAdd, Int.reduceToNat, Int.reduceLE, Int.reduceLT, Int.reduceEq, Int.reduceNe, Int.reduceAdd, Int.reduceSub, Int.reduceNeg, Nat.reduceLT, Nat.reduceLeDiff, Nat.reduceBEq, undef, (stA), Nat.reduceMul]; try simp (disch := omega) only [(vmp)])
    rw [decide_eq_false (fun e => hn (by rw [e]))]
end Go.D
