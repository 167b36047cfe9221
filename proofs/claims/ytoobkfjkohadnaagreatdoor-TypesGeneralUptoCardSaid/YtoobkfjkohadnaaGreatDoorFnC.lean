/- What makes a type another one: the walk. -/
import Derived.Test.YtoobkfjkohadnaaGreatDoorFnB
import Derived.Test.YtoobkfjkohadnaaGreatDoorVmF
import Derived.Test.YtoobkfjkohadnaaGreatDoorFnA
import Derived.Sort.Walk0
set_option linter.unusedVariables false
set_option linter.unusedSimpArgs false
set_option linter.unnecessarySimpa false
set_option maxRecDepth 100000
namespace Go.D
open Go Go.Vm Go.Proofs Go.RowKit
def okM (s : Sub') : Prop := ∀ e ∈ s, lenT e.2
theorem look_mem {s : Sub'} {n : List UInt8} {t : Tr} (h : s.look n = some t) : ∃ e ∈ s, e.2 = t := by
 induction s with
 | nil => cases h
 | cons e r ih =>
  unfold Sub'.look at h
  by_cases hh : n = e.1
  ·simp [hh] at h; exact ⟨e, by simp, h⟩
  ·simp only [hh, if_false] at h
   obtain ⟨e', h1, h2⟩ := ih h
   exact ⟨e', by simp [h1], h2⟩
theorem ents_low (n : Nat) : ∀ (k : Nat) (s : Sub'), AV.low.lows n ((mEnts k s).map (·.1)) = true ∧ AV.low.lows n ((mEnts k s).map (·.2.1)) = true
 | k, [] => ⟨rfl, rfl⟩
 | k, e :: r => by
  obtain ⟨h1, h2⟩ := ents_low n (k + 1) r
  simp only [mEnts, List.map_cons, AV.low.lows, AV.low, tyV_low, h1, h2, Bool.and_self, and_self]
theorem mapE_low (n : Nat) (s : Sub') : (mapE s).low n = true := by
 obtain ⟨h1, h2⟩ := ents_low n 0 s
 simp only [mapE, Ent.low, h1, h2, Bool.and_self]
theorem storeLow_set {n : Nat} {σ : List Ent} {id : Nat} {e : Ent} (h : e.low n = true) : StoreLow n σ (σ.set id e) := fun i x hx => by
 rcases get_set hx with ⟨_, rfl, _⟩ | ⟨_, hx⟩
 ·exact .inr h
 ·exact .inl hx
mutual
theorem matT_okM : ∀ (t u : Tr) (s : Sub'), lenT u → okM s → okM (matT t u s).2
 | .mk d n us, .mk d' n' us', s, hu, hs => by
  unfold matT
  split
  ·split
   ·intro e he
    rcases List.mem_append.1 he with he | he
    ·exact hs e he
    ·simp at he; subst he; exact hu
   ·exact hs
  ·split
   ·simp only [lenT] at hu
    exact matTs_okM us us' s hu.2.2 hs
   ·exact hs
theorem matTs_okM : ∀ (l l' : List Tr) (s : Sub'), lenTs l' → okM s → okM (matTs l l' s).2
 | [], _, s, _, hs => by simp only [matTs]; exact hs
 | _ :: _, [], s, _, hs => by simp only [matTs]; exact hs
 | t :: ts, u :: us, s, hu, hs => by
  simp only [lenTs] at hu
  simp only [matTs]
  split
  ·exact matTs_okM ts us _ hu.2 (matT_okM t u s hu.1 hs)
  ·exact matT_okM t u s hu.1 hs
end
def MT (t : Tr) : Prop := ∀ (u : Tr) (s : Sub') (σ : List Ent) (m : Nat), okT t → lenT u → okM s → σ[m]? = some (mapE s) →
 ACalls E 45 [tyV t, tyV u, .mp m] σ fun r τ => r = boolV (matT t u s).1 ∧ τ = σ.set m (mapE (matT t u s).2) ∧ okM (matT t u s).2
theorem matTs_one : ∀ (l l' : List Tr) (a b : Tr) (s : Sub'), l.length = l'.length → (matTs l l' s).1 = true → (matT a b (matTs l l' s).2).1 = true → matTs (l ++ [a]) (l' ++ [b]) s = (true, (matT a b (matTs l l' s).2).2)
 | [], [], a, b, s, _, _, h2 => by
  simp only [List.nil_append, matTs] at h2 ⊢
  rw [if_pos h2]
 | t :: l, t' :: l', a, b, s, h, h1, h2 => by
  simp only [List.cons_append, matTs] at h1 h2 ⊢
  by_cases hh : (matT t t' s).1 = true
  ·rw [if_pos hh] at h1 h2 ⊢
   rw [if_pos hh]
   exact matTs_one l l' a b _ (by simpa using h) h1 h2
  ·rw [if_neg hh] at h1; simp at h1
theorem matTs_stop : ∀ (l l' : List Tr) (a b : Tr) (r r' : List Tr) (s : Sub'), l.length = l'.length → (matTs l l' s).1 = true → (matT a b (matTs l l' s).2).1 = false → matTs (l ++ a :: r) (l' ++ b :: r') s = (false, (matT a b (matTs l l' s).2).2)
 | [], [], a, b, r, r', s, _, _, h2 => by
  simp only [List.nil_append, matTs] at h2 ⊢
  rw [if_neg (by rw [h2]; simp)]
 | t :: l, t' :: l', a, b, r, r', s, h, h1, h2 => by
  simp only [List.cons_append, matTs] at h1 h2 ⊢
  by_cases hh : (matT t t' s).1 = true
  ·rw [if_pos hh] at h1 h2 ⊢
   rw [if_pos hh]
   exact matTs_stop l l' a b r r' _ (by simpa using h) h1 h2
  ·rw [if_neg hh] at h1; simp at h1
set_option maxHeartbeats 4000000 in
theorem match1_ok (d n : List UInt8) (us us' : List Tr) (σ : List Ent) (m i : Nat) (a b : Tr) (si : Sub') (hu1 : us[i]? = some a) (hu2 : us'[i]? = some b) (hi : i < us.length) (hi' : i < us'.length) {e0 : Ent} (hm : σ[m]? = some e0) (L : List Ent)
  (hL : [Ent.arr 24 [AV.str d, AV.str n, AV.sl (tysV us)] 0 0, Ent.arr 24 [AV.str d, AV.str n, AV.sl (tysV us')] 0 0, Ent.arr 57 [AV.mp m] 0 0] = L)
  (h : MT a) (ha : okT a) (hb : lenT b) (hsi : okM si) :
  ACalls E 86 [i64 (i : Nat), .ref σ.length 0 0, .ref (σ.length + 1) 0 0, .ref (σ.length + 2) 0 0] (σ.set m (mapE si) ++ L) fun r τ => r = boolV (!(matT a b si).1) ∧ τ = σ.set m (mapE (matT a b si).2) ++ L ∧ okM (matT a b si).2 := by
 have hlt := lt_of_get hm
 have hg1 := tysV_get hu1
 have hg2 := tysV_get hu2
 have hh := h b si (σ.set m (mapE si) ++ L) m ha hb hsi (by rw [List.getElem?_append_left (by simpa using hlt)]; simp [hlt])
 rw [List.set_append_left _ _ (by simpa using hlt), List.set_set] at hh
 have hln : σ.length = (σ.set m (mapE si)).length := by simp
 subst hL
 refine xacalls T0 .drop [] Tryz.func86 rfl (by kernel_rfl) (by kernel_rfl) (by simp [Tryz.ntmps86]) ?_
 have hlow : StoreLow (σ.set m (mapE si) ++ [Ent.arr 24 [AV.str d, AV.str n, AV.sl (tysV us)] 0 0, Ent.arr 24 [AV.str d, AV.str n, AV.sl (tysV us')] 0 0, Ent.arr 57 [AV.mp m] 0 0]).length
   (σ.set m (mapE si) ++ [Ent.arr 24 [AV.str d, AV.str n, AV.sl (tysV us)] 0 0, Ent.arr 24 [AV.str d, AV.str n, AV.sl (tysV us')] 0 0, Ent.arr 57 [AV.mp m] 0 0])
   (σ.set m (mapE (matT a b si).2) ++ [Ent.arr 24 [AV.str d, AV.str n, AV.sl (tysV us)] 0 0, Ent.arr 24 [AV.str d, AV.str n, AV.sl (tysV us')] 0 0, Ent.arr 57 [AV.mp m] 0 0]) := by
  have := storeLow_set (n := (σ.set m (mapE si) ++ [Ent.arr 24 [AV.str d, AV.str n, AV.sl (tysV us)] 0 0, Ent.arr 24 [AV.str d, AV.str n, AV.sl (tysV us')] 0 0, Ent.arr 57 [AV.mp m] 0 0]).length)
   (σ := σ.set m (mapE si) ++ [Ent.arr 24 [AV.str d, AV.str n, AV.sl (tysV us)] 0 0, Ent.arr 24 [AV.str d, AV.str n, AV.sl (tysV us')] 0 0, Ent.arr 57 [AV.mp m] 0 0]) (id := m) (mapE_low _ (matT a b si).2)
  rw [List.set_append_left _ _ (by simpa using hlt), List.set_set] at this
  exact this
 simp only [hln]
 generalize hS : σ.set m (mapE si) = S at *
 generalize hS2 : σ.set m (mapE (matT a b si).2) = S2 at *
 have hl2 : S2.length = S.length := by rw [← hS, ← hS2]; simp
 cases a with
 | mk d1 n1 us1 =>
 cases b with
 | mk d2 n2 us2 =>
 simp only [tyV] at hg1 hg2 hh
 have gg2 : ∀ (a b c : Ent) (l : List Ent), sget (S ++ [a, b, c]) l (S.length + 2) = some c := fun a b c l => by simp [sget]
 (simp only [gg2, (vmA), Nat.reduceEqDiff, reduceIte, Nat.reduceAdd, Int.reduceToNat, Int.reduceLE, Int.reduceLT, Int.reduceEq, Int.reduceNe, Int.reduceAdd, Int.reduceSub, Int.reduceNeg, Nat.reduceLT, Nat.reduceLeDiff, Nat.reduceBEq, undef, (stA), Nat.reduceMul]; try simp (disch := omega) only [(vmp)])
 refine ydraw T0 [11] (by kernel_rfl) (by kernel_rfl) (by kernel_rfl) (by kernel_rfl) ?_
 (simp only [gg2, hg1, hg2, tysV_len, (vmA), Nat.reduceEqDiff, reduceIte, Nat.reduceAdd, Int.reduceToNat, Int.reduceLE, Int.reduceLT, Int.reduceEq, Int.reduceNe, Int.reduceAdd, Int.reduceSub, Int.reduceNeg, Nat.reduceLT, Nat.reduceLeDiff, Nat.reduceBEq, undef, (stA), Nat.reduceMul]; try simp (disch := omega) only [(vmp)])
 refine ⟨by omega, by omega, ?_⟩
 have hok := matT_okM (.mk d1 n1 us1) (.mk d2 n2 us2) si hb hsi
 have hh2 : ACalls E 45 [.agg [.str d1, .str n1, .sl (tysV us1)], .agg [.str d2, .str n2, .sl (tysV us2)], .mp m] ((S ++ [Ent.arr 24 [AV.str d, AV.str n, AV.sl (tysV us)] 0 0, Ent.arr 24 [AV.str d, AV.str n, AV.sl (tysV us')] 0 0, Ent.arr 57 [AV.mp m] 0 0]) ++ []) fun r τ => r = boolV (matT (.mk d1 n1 us1) (.mk d2 n2 us2) si).1 ∧ τ = (S2 ++ [Ent.arr 24 [AV.str d, AV.str n, AV.sl (tysV us)] 0 0, Ent.arr 24 [AV.str d, AV.str n, AV.sl (tysV us')] 0 0, Ent.arr 57 [AV.mp m] 0 0]) ++ [] := by
  rw [List.append_nil, List.append_nil]
  exact hh.mono fun r τ ⟨q1, q2, _⟩ => ⟨q1, q2⟩
 refine yNext.bar (by rfl) _ rfl hh2 (by simp; omega) ?_
 (simp only [(vmA), Nat.reduceEqDiff, reduceIte, Nat.reduceAdd, Int.reduceToNat, Int.reduceLE, Int.reduceLT, Int.reduceEq, Int.reduceNe, Int.reduceAdd, Int.reduceSub, Int.reduceNeg, Nat.reduceLT, Nat.reduceLeDiff, Nat.reduceBEq, undef, (stA), Nat.reduceMul]; try simp (disch := omega) only [(vmp)])
 rw [List.length_append] at hlow
 exact ⟨hlow, hok⟩
set_option maxHeartbeats 4000000 in
theorem match_step (d n : List UInt8) (us : List Tr) (ih : ∀ u ∈ us, MT u) : MT (.mk d n us) := by
 intro u s σ m ht hu hs hm
 obtain ⟨hfew, hdn⟩ := okT_down d n us ht
 cases u with
 | mk d' n' us' =>
 have hlt := lt_of_get hm
 have gk : ∀ r, sget σ r m = some (mapE s) := fun r => by unfold sget; rw [if_pos hlt, hm]
 have sG0 : ∀ e, ssetG σ m e = σ.set m e := fun e => by unfold ssetG; rw [if_pos hlt]
 have sL0 : ∀ e l, ssetL σ l m e = l := fun e l => by unfold ssetL; rw [if_pos hlt]
 refine xacalls T0 .drop [] Tryz.func45 rfl (by kernel_rfl) (by kernel_rfl) (by simp [Tryz.ntmps45]) ?_
 have hself : σ = σ.set m (mapE s) := (list_set_self hm).symm
 by_cases hd : d = kiVar
 ·have t1 : (d = [118, 97, 114]) = True := eq_true hd
  have hdk : (d = kiVar) = True := eq_true hd
  simp only [mapE] at gk
  cases hlk : s.look n with
  | none =>
   have hput := mput_ents n (.mk d' n' us') 0 s hlk
   have hok : okM (s ++ [(n, .mk d' n' us')]) := fun e he => by
    rcases List.mem_append.1 he with he | he
    ·exact hs e he
    ·simp at he; subst he; exact hu
   have heq : matT (.mk d n us) (.mk d' n' us') s = (true, s ++ [(n, .mk d' n' us')]) := by unfold matT; rw [if_pos hd, hlk]
   rw [heq]
   simp only [tyV, Nat.zero_add] at hput
   (simp only [tyV, t1, gk, sG0, sL0, mget_ents, hlk, hput, Option.map_none, Option.isSome_none, Bool.false_eq_true, if_false, (vmA), Nat.reduceEqDiff, reduceIte, Nat.reduceAdd, Int.reduceToNat, Int.reduceLE, Int.reduceLT, Int.reduceEq, Int.reduceNe, Int.reduceAdd, Int.reduceSub, Int.reduceNeg, Nat.reduceLT, Nat.reduceLeDiff, Nat.reduceBEq, undef, (stA), Nat.reduceMul]; try simp (disch := omega) only [(vmp)])
   refine ⟨⟨rfl, fun e he => ents_keys tab _ _ 0 s e he⟩, ⟨rfl, fun e he => ents_keys tab _ _ 0 s e he⟩, ?_, ?_, hok⟩
   ·exact storeLow_set (by have := mapE_low σ.length (s ++ [(n, .mk d' n' us')]); simpa only [mapE, List.length_append, List.length_cons, List.length_nil] using this)
   ·simp only [mapE, List.length_append, List.length_cons, List.length_nil]
  | some t =>
   have heq : matT (.mk d n us) (.mk d' n' us') s = (sameB t (.mk d' n' us'), s) := by unfold matT; rw [if_pos hd, hlk]
   rw [heq]
   obtain ⟨e0, he0, rfl⟩ := look_mem hlk
   have hst := fun σ' => SameType_ok _ e0.2 (Nat.le_refl _) (.mk d' n' us') σ' (hs e0 he0) hu
   generalize e0.2 = t at *
   cases t with
   | mk d2 n2 us2 =>
   simp only [tyV] at hst
   (simp only [tyV, t1, gk, sG0, sL0, mget_ents, hlk, Option.map_some, Option.isSome_some, if_true, (vmA), Nat.reduceEqDiff, reduceIte, Nat.reduceAdd, Int.reduceToNat, Int.reduceLE, Int.reduceLT, Int.reduceEq, Int.reduceNe, Int.reduceAdd, Int.reduceSub, Int.reduceNeg, Nat.reduceLT, Nat.reduceLeDiff, Nat.reduceBEq, undef, (stA), Nat.reduceMul]; try simp (disch := omega) only [(vmp)])
   refine ⟨⟨rfl, fun e he => ents_keys tab _ _ 0 s e he⟩, ?_⟩
   refine xWait.go (hst _) ?_
   (simp only [(vmA), Nat.reduceEqDiff, reduceIte, Nat.reduceAdd, Int.reduceToNat, Int.reduceLE, Int.reduceLT, Int.reduceEq, Int.reduceNe, Int.reduceAdd, Int.reduceSub, Int.reduceNeg, Nat.reduceLT, Nat.reduceLeDiff, Nat.reduceBEq, undef, (stA), Nat.reduceMul]; try simp (disch := omega) only [(vmp)])
   exact ⟨hself, hs⟩
 ·have n1 : ¬ d = [118, 97, 114] := hd
  by_cases h1 : d = d'
  rotate_left
  ·have heq : matT (.mk d n us) (.mk d' n' us') s = (false, s) := by unfold matT; rw [if_neg hd, if_neg (fun h => h1 h.1)]
   rw [heq]
   (simp only [tyV, n1, h1, (vmA), Nat.reduceEqDiff, reduceIte, Nat.reduceAdd, Int.reduceToNat, Int.reduceLE, Int.reduceLT, Int.reduceEq, Int.reduceNe, Int.reduceAdd, Int.reduceSub, Int.reduceNeg, Nat.reduceLT, Nat.reduceLeDiff, Nat.reduceBEq, undef, (stA), Nat.reduceMul]; try simp (disch := omega) only [(vmp)])
   exact ⟨hself, hs⟩
  subst h1
  by_cases h2 : n = n'
  rotate_left
  ·have heq : matT (.mk d n us) (.mk d n' us') s = (false, s) := by unfold matT; rw [if_neg hd, if_neg (fun h => h2 h.2.1)]
   rw [heq]
   (simp only [tyV, n1, h2, eq_self, (vmA), Nat.reduceEqDiff, reduceIte, Nat.reduceAdd, Int.reduceToNat, Int.reduceLE, Int.reduceLT, Int.reduceEq, Int.reduceNe, Int.reduceAdd, Int.reduceSub, Int.reduceNeg, Nat.reduceLT, Nat.reduceLeDiff, Nat.reduceBEq, undef, (stA), Nat.reduceMul]; try simp (disch := omega) only [(vmp)])
   exact ⟨hself, hs⟩
  subst h2
  by_cases h3 : (us.length : Int) = us'.length
  rotate_left
  ·have heq : matT (.mk d n us) (.mk d n us') s = (false, s) := by unfold matT; rw [if_neg hd, if_neg (fun h => h3 (by omega))]
   rw [heq]
   (simp only [tyV, n1, h3, eq_self, tysV_len, (vmA), Nat.reduceEqDiff, reduceIte, Nat.reduceAdd, Int.reduceToNat, Int.reduceLE, Int.reduceLT, Int.reduceEq, Int.reduceNe, Int.reduceAdd, Int.reduceSub, Int.reduceNeg, Nat.reduceLT, Nat.reduceLeDiff, Nat.reduceBEq, undef, (stA), Nat.reduceMul]; try simp (disch := omega) only [(vmp)])
   exact ⟨hself, hs⟩
  ·have heq : matT (.mk d n us) (.mk d n us') s = matTs us us' s := by unfold matT; rw [if_neg hd, if_pos ⟨rfl, rfl, by omega⟩]
   rw [heq]
   (simp only [tyV, n1, h3, eq_self, tysV_len, (vmA), Nat.reduceEqDiff, reduceIte, Nat.reduceAdd, Int.reduceToNat, Int.reduceLE, Int.reduceLT, Int.reduceEq, Int.reduceNe, Int.reduceAdd, Int.reduceSub, Int.reduceNeg, Nat.reduceLT, Nat.reduceLeDiff, Nat.reduceBEq, undef, (stA), Nat.reduceMul]; try simp (disch := omega) only [(vmp)])
   have hix := fun σ' => indexes_ok us hfew σ'
   refine xWait.go (hix _) ?_
   (simp only [(vmA), Nat.reduceEqDiff, reduceIte, Nat.reduceAdd, Int.reduceToNat, Int.reduceLE, Int.reduceLT, Int.reduceEq, Int.reduceNe, Int.reduceAdd, Int.reduceSub, Int.reduceNeg, Nat.reduceLT, Nat.reduceLeDiff, Nat.reduceBEq, undef, (stA), Nat.reduceMul]; try simp (disch := omega) only [(vmp)])
   have h3' : us.length = us'.length := by omega
   generalize hL : [Ent.arr 24 [AV.str d, AV.str n, AV.sl (tysV us)] 0 0, Ent.arr 24 [AV.str d, AV.str n, AV.sl (tysV us')] 0 0, Ent.arr 57 [AV.mp m] 0 0] = L
   have key := conI_ok 86 [.ref σ.length 0 0, .ref (σ.length + 1) 0 0, .ref (σ.length + 2) 0 0] us.length (by omega)
    (fun i => σ.set m (mapE (matTs (us.take i) (us'.take i) s).2) ++ L) (fun i => (matTs (us.take i) (us'.take i) s).1 = true ∧ okM (matTs (us.take i) (us'.take i) s).2)
    (fun i τ => (matTs us us' s).1 = false ∧ okM (matTs us us' s).2 ∧ τ = σ.set m (mapE (matTs us us' s).2) ++ L)
    (fun i j => by simp) ⟨by simp only [List.take_zero, matTs], by simpa only [List.take_zero, matTs] using hs⟩ ?_
   ·simp only [List.take_zero, matTs] at key
    rw [← hself] at key
    refine xWait.of key ?_
    have h4 : us'.take us.length = us' := List.take_of_length_le (by omega)
    have h5 : us.take us.length = us := List.take_of_length_le (Nat.le_refl _)
    rintro r τ (⟨rfl, ⟨q1, q2⟩, rfl⟩ | ⟨rfl, i, hi, _, q1, q2, rfl⟩)
    ·rw [h4, h5] at q1 q2 ⊢
     have e1 : List.take σ.length (σ.set m (mapE (matTs us us' s).2) ++ L) = σ.set m (mapE (matTs us us' s).2) := by rw [List.take_append_of_le_length (by simp), List.take_of_length_le (by simp)]
     have e2 : List.drop σ.length (σ.set m (mapE (matTs us us' s).2) ++ L) = L := by rw [List.drop_append_of_le_length (by simp), List.drop_of_length_le (by simp), List.nil_append]
     (simp only [e1, e2, (vmA), Nat.reduceEqDiff, reduceIte, Nat.reduceAdd, Int.reduceToNat, Int.reduceLE, Int.reduceLT, Int.reduceEq, Int.reduceNe, Int.reduceAdd, Int.reduceSub, Int.reduceNeg, Nat.reduceLT, Nat.reduceLeDiff, Nat.reduceBEq, undef, (stA), Nat.reduceMul]; try simp (disch := omega) only [(vmp)])
     exact ⟨storeLow_set (mapE_low _ _), by rw [q1], q2⟩
    ·have e1 : List.take σ.length (σ.set m (mapE (matTs us us' s).2) ++ L) = σ.set m (mapE (matTs us us' s).2) := by rw [List.take_append_of_le_length (by simp), List.take_of_length_le (by simp)]
     have e2 : List.drop σ.length (σ.set m (mapE (matTs us us' s).2) ++ L) = L := by rw [List.drop_append_of_le_length (by simp), List.drop_of_length_le (by simp), List.nil_append]
     (simp only [e1, e2, (vmA), Nat.reduceEqDiff, reduceIte, Nat.reduceAdd, Int.reduceToNat, Int.reduceLE, Int.reduceLT, Int.reduceEq, Int.reduceNe, Int.reduceAdd, Int.reduceSub, Int.reduceNeg, Nat.reduceLT, Nat.reduceLeDiff, Nat.reduceBEq, undef, (stA), Nat.reduceMul]; try simp (disch := omega) only [(vmp)])
     exact ⟨storeLow_set (mapE_low _ _), by rw [q1], q2⟩
   ·intro i hi ⟨hI1, hI2⟩
    have hu1 : us[i]? = some us[i] := List.getElem?_eq_getElem hi
    have hi' : i < us'.length := by omega
    have hu2 : us'[i]? = some us'[i] := List.getElem?_eq_getElem hi'
    obtain ⟨s1, s2⟩ := take_split us i _ hu1
    obtain ⟨s3, s4⟩ := take_split us' i _ hu2
    have hm1 : us[i] ∈ us := List.getElem_mem hi
    have hm2 : us'[i] ∈ us' := List.getElem_mem hi'
    generalize us[i] = a at *
    generalize us'[i] = b at *
    have hlen : (us.take i).length = (us'.take i).length := by simp; omega
    generalize hsi : (matTs (us.take i) (us'.take i) s).2 = si at *
    have hlow : lenTs us' := by simp only [lenT] at hu; exact hu.2.2
    refine (match1_ok d n us us' σ m i a b si hu1 hu2 hi hi' hm L hL (ih a hm1) (hdn a hm1) (lenTs_mem hlow hm2) hI2).mono fun r τ ⟨r1, r2, r3⟩ => ?_
    cases hb : (matT a b si).1
    ·right
     rw [hb] at r1
     have hall := matTs_stop (us.take i) (us'.take i) a b (us.drop (i + 1)) (us'.drop (i + 1)) s hlen hI1 (by rw [hsi]; exact hb)
     rw [← s2, ← s4, hsi] at hall
     exact ⟨r1, by rw [hall], by rw [hall]; exact r3, by rw [hall]; exact r2⟩
    ·left
     rw [hb] at r1
     have hone := matTs_one (us.take i) (us'.take i) a b s hlen hI1 (by rw [hsi]; exact hb)
     rw [← s1, ← s3, hsi] at hone
     exact ⟨r1, ⟨by rw [hone], by rw [hone]; exact r3⟩, by rw [hone]; exact r2⟩
theorem match_ok : ∀ (m : Nat) (t : Tr), SizeOf.sizeOf t ≤ m → MT t
 | 0, .mk d n us, h => by simp at h
 | m + 1, .mk d n us, h => match_step d n us fun u hu => match_ok m u (by
   have := List.sizeOf_lt_of_mem hu
   simp at h; omega)
end Go.D
namespace Go.D
open Go Go.Vm
theorem look_app : ∀ (s : Sub') (n m : List UInt8) (t : Tr), Sub'.look (s ++ [(n, t)]) m = match Sub'.look s m with | some x => some x | none => if m = n then some t else none
 | [], n, m, t => by simp [Sub'.look]
 | e :: r, n, m, t => by
  simp only [List.cons_append, Sub'.look]
  by_cases h : m = e.1
  ·simp [h]
  ·simp only [h, if_false]; exact look_app r n m t
mutual
theorem matT_dom : ∀ (t u : Tr) (s : Sub') (acc : List (List UInt8)), typeB conB t = true → (matT t u s).1 = true → (∀ n ∈ acc, (Sub'.look s n).isSome = true) → ∀ n ∈ ordT t acc, (Sub'.look (matT t u s).2 n).isSome = true
 | .mk d n us, .mk d' n' us', s, acc, ht, h, ha, m, hm => by
  simp only [typeB, Bool.and_eq_true, decide_eq_true_eq] at ht
  unfold matT at h ⊢
  by_cases hd : d = kiVar
  ·have hus : us = [] := by
    have : partsI kiVar = 0 := by decide
    have h4 := ht.2.2.2.1
    rw [hd, this] at h4
    exact List.length_eq_zero_iff.1 (by omega)
   subst hus
   simp only [if_pos hd] at h ⊢
   simp only [ordT, ordTs, hd, true_and] at hm
   cases hlk : Sub'.look s n with
   | none =>
    simp only [look_app]
    by_cases hmn : m = n
    ·subst hmn; simp [hlk]
    ·have hma : m ∈ acc := by
      split at hm
      ·rcases List.mem_append.1 hm with hm | hm
       ·exact hm
       ·simp at hm; exact absurd hm hmn
      ·exact hm
     obtain ⟨x, hx⟩ := Option.isSome_iff_exists.1 (ha m hma)
     simp [hx]
   | some t =>
    simp only
    split at hm
    ·rcases List.mem_append.1 hm with hm | hm
     ·exact ha m hm
     ·simp at hm; subst hm; rw [hlk]; rfl
    ·exact ha m hm
  ·simp only [if_neg hd] at h ⊢
   simp only [ordT, hd, false_and, if_false] at hm
   by_cases hc : d = d' ∧ n = n' ∧ us.length = us'.length
   ·simp only [if_pos hc] at h ⊢
    exact matTs_dom us us' s acc ht.2.2.2.2 hc.2.2 h ha m hm
   ·simp only [if_neg hc] at h; cases h
theorem matTs_dom : ∀ (l l' : List Tr) (s : Sub') (acc : List (List UInt8)), typeBs conB l = true → l.length = l'.length → (matTs l l' s).1 = true → (∀ n ∈ acc, (Sub'.look s n).isSome = true) → ∀ n ∈ ordTs l acc, (Sub'.look (matTs l l' s).2 n).isSome = true
 | [], [], s, acc, _, _, h, ha, m, hm => by simp only [ordTs] at hm; simp only [matTs]; exact ha m hm
 | t :: ts, u :: us, s, acc, ht, hl, h, ha, m, hm => by
  simp only [typeBs, Bool.and_eq_true] at ht
  simp only [matTs] at h ⊢
  by_cases hh : (matT t u s).1 = true
  ·simp only [hh, if_true] at h ⊢
   simp only [ordTs] at hm
   exact matTs_dom ts us _ _ ht.2 (by simpa using hl) h (matT_dom t u s acc ht.1 hh ha) m hm
  ·simp [hh] at h
end
mutual
theorem ordT_names : ∀ (t : Tr) (acc : List (List UInt8)), typeB conB t = true → acc.Nodup → (∀ n ∈ acc, varB n = true) → (ordT t acc).Nodup ∧ ∀ n ∈ ordT t acc, varB n = true
 | .mk d n us, acc, ht, h1, h2 => by
  simp only [typeB, Bool.and_eq_true] at ht
  simp only [ordT]
  split
  ·rename_i hc
   have hv : varB n = true := by have := ht.2.1; rw [hc.1] at this; simpa using this
   refine ordTs_names us _ ht.2.2.2.2 ?_ ?_
   ·rw [List.nodup_append]; exact ⟨h1, by simp, fun a ha b hb => by simp at hb; subst hb; exact fun h => hc.2 (h ▸ ha)⟩
   ·intro m hm
    rcases List.mem_append.1 hm with hm | hm
    ·exact h2 m hm
    ·simp at hm; subst hm; exact hv
  ·exact ordTs_names us _ ht.2.2.2.2 h1 h2
theorem ordTs_names : ∀ (l : List Tr) (acc : List (List UInt8)), typeBs conB l = true → acc.Nodup → (∀ n ∈ acc, varB n = true) → (ordTs l acc).Nodup ∧ ∀ n ∈ ordTs l acc, varB n = true
 | [], acc, _, h1, h2 => by simp only [ordTs]; exact ⟨h1, h2⟩
 | t :: ts, acc, ht, h1, h2 => by
  simp only [typeBs, Bool.and_eq_true] at ht
  obtain ⟨a, b⟩ := ordT_names t acc ht.1 h1 h2
  simp only [ordTs]
  exact ordTs_names ts _ ht.2 a b
end
def okV (s : Sub') : Prop := ∀ e ∈ s, okT e.2
mutual
theorem matT_okV : ∀ (t u : Tr) (s : Sub'), okT u → okV s → okV (matT t u s).2
 | .mk d n us, .mk d' n' us', s, hu, hs => by
  unfold matT
  split
  ·split
   ·intro e he
    rcases List.mem_append.1 he with he | he
    ·exact hs e he
    ·simp at he; subst he; exact hu
   ·exact hs
  ·split
   ·exact matTs_okV us us' s (okT_down _ _ _ hu).2 hs
   ·exact hs
theorem matTs_okV : ∀ (l l' : List Tr) (s : Sub'), (∀ u ∈ l', okT u) → okV s → okV (matTs l l' s).2
 | [], _, s, _, hs => by simp only [matTs]; exact hs
 | _ :: _, [], s, _, hs => by simp only [matTs]; exact hs
 | t :: ts, u :: us, s, hu, hs => by
  simp only [matTs]
  split
  ·exact matTs_okV ts us _ (fun x hx => hu x (by simp [hx])) (matT_okV t u s (hu u (by simp)) hs)
  ·exact matT_okV t u s (hu u (by simp)) hs
end
end Go.D
namespace Go.D
open Go Go.Vm Go.Proofs Go.RowKit
abbrev Cl := List UInt8 × Tr
def clC (c : Cl) : List AV := .str c.1 :: tyCells c.2
def clV (c : Cl) : AV := .agg (clC c)
def clsV (l : List Cl) : List AV := l.map clV
theorem clsV_len (l : List Cl) : (clsV l).length = l.length := by simp [clsV]
theorem clC_len (c : Cl) : (clC c).length = 4 := by obtain ⟨n, t⟩ := c; cases t; rfl
theorem clCs_len (l : List Cl) : (l.flatMap clC).length = l.length * 4 := by
 induction l with
 | nil => rfl
 | cons a r ih => rw [List.flatMap_cons, List.length_append, ih, clC_len]; simp only [List.length_cons]; omega
theorem clsV_cells (l : List Cl) : (clsV l).flatMap AV.cells = l.flatMap clC := by
 induction l with
 | nil => rfl
 | cons a r ih => simp only [clsV, List.map_cons, List.flatMap_cons] at ih ⊢; rw [ih]; rfl
theorem clC_low (n : Nat) (c : Cl) : AV.low.lows n (clC c) = true := by
 obtain ⟨m, t⟩ := c; cases t
 simp only [clC, tyCells, AV.low.lows, AV.low, tysV_low, Bool.and_self]
theorem clsV_low (n : Nat) : ∀ l : List Cl, AV.low.lows n (clsV l) = true
 | [] => rfl
 | a :: r => by
  have := clsV_low n r
  simp only [clsV, List.map_cons, AV.low.lows] at this ⊢
  rw [this]; simp only [clV, AV.low, clC_low, Bool.and_self]
theorem clV_el (c : Cl) : isEl 4 true (clV c) = true := by obtain ⟨m, t⟩ := c; cases t; rfl
def rowC (n : Nat) (acc : List Cl) : AV := match acc with
 | [] => .v (.slice none 0 0)
 | _ :: r => .rsl n r.length 0 (r.length + 1) 4
def clsOf (s : Sub') (l : List (List UInt8)) : List Cl := l.map fun n => (n, (Sub'.look s n).getD (.mk [] [] []))
def instR (g u : Tr) : List Cl × Int :=
 if validT conB g = true ∧ validT conB u = true then
  if (matT g u []).1 = true then (clsOf (matT g u []).2 (sortS (ordT g [])), 0) else ([], 5)
 else ([], 40)
theorem set_l2' (σ : List Ent) (a b c x : Ent) : (σ ++ [a, b, c]).set (σ.length + 2) x = σ ++ [a, b, x] := by
 rw [List.set_append, if_neg (by omega)]; simp
set_option maxHeartbeats 4000000 in
theorem Instance_ok (g u : Tr) (hg : lenT g) (hu : lenT u) (σ : List Ent) : ACalls E 13 [tyV g, tyV u] σ fun r τ => r = .tup [.sl (clsV (instR g u).1), i64 (instR g u).2] ∧ τ = σ := by
 refine xacalls T0 .freeze [] Tryz.func13 rfl (by kernel_rfl) (by kernel_rfl) (by simp [Tryz.ntmps13]) ?_
 have hv1 := fun σ' => ValidType_ok g hg σ'
 have hv2 := fun σ' => ValidType_ok u hu σ'
 have hok : ∀ t, lenT t → validT conB t = true → okT t := fun t h1 h2 => ⟨h1, by unfold validT at h2; simp only [Bool.and_eq_true] at h2; exact h2.1⟩
 cases hb1 : validT conB g
 ·have heq : instR g u = ([], 40) := by unfold instR; rw [if_neg (by rw [hb1]; simp)]
  rw [heq]
  cases g with
  | mk d n us =>
  cases u with
  | mk d' n' us' =>
  simp only [tyV, hb1] at hv1 hv2
  (simp only [tyV, (vmA), Nat.reduceEqDiff, reduceIte, Nat.reduceAdd, Int.reduceToNat, Int.reduceLE, Int.reduceLT, Int.reduceEq, Int.reduceNe, Int.reduceAdd, Int.reduceSub, Int.reduceNeg, Nat.reduceLT, Nat.reduceLeDiff, Nat.reduceBEq, undef, (stA), Nat.reduceMul]; try simp (disch := omega) only [(vmp)])
  refine xWait.go (hv1 _) ?_
  (simp only [(vmA), Nat.reduceEqDiff, reduceIte, Nat.reduceAdd, Int.reduceToNat, Int.reduceLE, Int.reduceLT, Int.reduceEq, Int.reduceNe, Int.reduceAdd, Int.reduceSub, Int.reduceNeg, Nat.reduceLT, Nat.reduceLeDiff, Nat.reduceBEq, undef, (stA), Nat.reduceMul]; try simp (disch := omega) only [(vmp)])
  exact ⟨_, .tup (.cons .none (.cons (.refl _) .nil)), by simp only [AV.low, AV.low.lows, Bool.and_self], rfl⟩
 cases hb2 : validT conB u
 ·have heq : instR g u = ([], 40) := by unfold instR; rw [if_neg (by rw [hb2]; simp)]
  rw [heq]
  cases g with
  | mk d n us =>
  cases u with
  | mk d' n' us' =>
  simp only [tyV, hb1, hb2] at hv1 hv2
  (simp only [tyV, (vmA), Nat.reduceEqDiff, reduceIte, Nat.reduceAdd, Int.reduceToNat, Int.reduceLE, Int.reduceLT, Int.reduceEq, Int.reduceNe, Int.reduceAdd, Int.reduceSub, Int.reduceNeg, Nat.reduceLT, Nat.reduceLeDiff, Nat.reduceBEq, undef, (stA), Nat.reduceMul]; try simp (disch := omega) only [(vmp)])
  refine xWait.go (hv1 _) ?_
  (simp only [(vmA), Nat.reduceEqDiff, reduceIte, Nat.reduceAdd, Int.reduceToNat, Int.reduceLE, Int.reduceLT, Int.reduceEq, Int.reduceNe, Int.reduceAdd, Int.reduceSub, Int.reduceNeg, Nat.reduceLT, Nat.reduceLeDiff, Nat.reduceBEq, undef, (stA), Nat.reduceMul]; try simp (disch := omega) only [(vmp)])
  refine xWait.go (hv2 _) ?_
  (simp only [(vmA), Nat.reduceEqDiff, reduceIte, Nat.reduceAdd, Int.reduceToNat, Int.reduceLE, Int.reduceLT, Int.reduceEq, Int.reduceNe, Int.reduceAdd, Int.reduceSub, Int.reduceNeg, Nat.reduceLT, Nat.reduceLeDiff, Nat.reduceBEq, undef, (stA), Nat.reduceMul]; try simp (disch := omega) only [(vmp)])
  exact ⟨_, .tup (.cons .none (.cons (.refl _) .nil)), by simp only [AV.low, AV.low.lows, Bool.and_self], rfl⟩
 have og := hok g hg hb1
 have ou := hok u hu hb2
 have hma := fun σ' mm hm => match_ok _ g (Nat.le_refl _) u [] σ' mm og hu (fun e he => by cases he) hm
 have hva := fun σ' => vars_ok g og σ'
 have hdom := fun h => matT_dom g u [] [] og.2 h (fun n hn => by cases hn)
 have hval := matT_okV g u [] ou (fun e he => by cases he)
 have hnm := ordT_names g [] og.2 (by simp) (by simp)
 have hvar : (sortS (ordT g [])).length ≤ 26 := by unfold sortS; rw [List.length_mergeSort]; exact vars_few hnm.1 hnm.2
 have hmem : ∀ n, n ∈ sortS (ordT g []) ↔ n ∈ ordT g [] := fun n => List.mem_mergeSort
 cases hb3 : (matT g u []).1
 ·have heq : instR g u = ([], 5) := by unfold instR; rw [if_pos ⟨hb1, hb2⟩, if_neg (by rw [hb3]; simp)]
  rw [heq]
  cases g with
  | mk d n us =>
  cases u with
  | mk d' n' us' =>
  simp only [tyV, hb1, hb2, hb3] at hv1 hv2 hma
  (simp only [tyV, (vmA), Nat.reduceEqDiff, reduceIte, Nat.reduceAdd, Int.reduceToNat, Int.reduceLE, Int.reduceLT, Int.reduceEq, Int.reduceNe, Int.reduceAdd, Int.reduceSub, Int.reduceNeg, Nat.reduceLT, Nat.reduceLeDiff, Nat.reduceBEq, undef, (stA), Nat.reduceMul]; try simp (disch := omega) only [(vmp)])
  refine xWait.go (hv1 _) ?_
  (simp only [(vmA), Nat.reduceEqDiff, reduceIte, Nat.reduceAdd, Int.reduceToNat, Int.reduceLE, Int.reduceLT, Int.reduceEq, Int.reduceNe, Int.reduceAdd, Int.reduceSub, Int.reduceNeg, Nat.reduceLT, Nat.reduceLeDiff, Nat.reduceBEq, undef, (stA), Nat.reduceMul]; try simp (disch := omega) only [(vmp)])
  refine xWait.go (hv2 _) ?_
  (simp only [(vmA), Nat.reduceEqDiff, reduceIte, Nat.reduceAdd, Int.reduceToNat, Int.reduceLE, Int.reduceLT, Int.reduceEq, Int.reduceNe, Int.reduceAdd, Int.reduceSub, Int.reduceNeg, Nat.reduceLT, Nat.reduceLeDiff, Nat.reduceBEq, undef, (stA), Nat.reduceMul]; try simp (disch := omega) only [(vmp)])
  have hm0 := fun a b => hma (σ ++ [a, b, Ent.map [] 0]) (σ.length + 2) (by rw [List.getElem?_append_right (by omega), Nat.add_sub_cancel_left]; rfl)
  simp only [set_l2'] at hm0
  refine xWait.of (hm0 _ _) ?_
  rintro r τ ⟨rfl, rfl, _⟩
  rw [List.take_left, List.drop_left]
  (simp only [(vmA), Nat.reduceEqDiff, reduceIte, Nat.reduceAdd, Int.reduceToNat, Int.reduceLE, Int.reduceLT, Int.reduceEq, Int.reduceNe, Int.reduceAdd, Int.reduceSub, Int.reduceNeg, Nat.reduceLT, Nat.reduceLeDiff, Nat.reduceBEq, undef, (stA), Nat.reduceMul]; try simp (disch := omega) only [(vmp)])
  exact ⟨_, .tup (.cons .none (.cons (.refl _) .nil)), by simp only [AV.low, AV.low.lows, Bool.and_self], rfl⟩
 have heq : instR g u = (clsOf (matT g u []).2 (sortS (ordT g [])), 0) := by unfold instR; rw [if_pos ⟨hb1, hb2⟩, if_pos hb3]
 rw [heq]
 have hdom' := hdom hb3
 generalize hs' : (matT g u []).2 = s' at *
 generalize hns : sortS (ordT g []) = names at *
 have hlook : ∀ n ∈ names, ∃ t, Sub'.look s' n = some t ∧ okT t := fun n hn => by
  obtain ⟨t, ht⟩ := Option.isSome_iff_exists.1 (hdom' n ((hmem n).1 hn))
  obtain ⟨e, he, rfl⟩ := look_mem ht
  exact ⟨_, ht, hval e he⟩
 cases g with
 | mk d n us =>
 cases u with
 | mk d' n' us' =>
 simp only [tyV, hb1, hb2, hb3] at hv1 hv2 hma hva
 (simp only [tyV, (vmA), Nat.reduceEqDiff, reduceIte, Nat.reduceAdd, Int.reduceToNat, Int.reduceLE, Int.reduceLT, Int.reduceEq, Int.reduceNe, Int.reduceAdd, Int.reduceSub, Int.reduceNeg, Nat.reduceLT, Nat.reduceLeDiff, Nat.reduceBEq, undef, (stA), Nat.reduceMul]; try simp (disch := omega) only [(vmp)])
 refine xWait.go (hv1 _) ?_
 (simp only [(vmA), Nat.reduceEqDiff, reduceIte, Nat.reduceAdd, Int.reduceToNat, Int.reduceLE, Int.reduceLT, Int.reduceEq, Int.reduceNe, Int.reduceAdd, Int.reduceSub, Int.reduceNeg, Nat.reduceLT, Nat.reduceLeDiff, Nat.reduceBEq, undef, (stA), Nat.reduceMul]; try simp (disch := omega) only [(vmp)])
 refine xWait.go (hv2 _) ?_
 (simp only [(vmA), Nat.reduceEqDiff, reduceIte, Nat.reduceAdd, Int.reduceToNat, Int.reduceLE, Int.reduceLT, Int.reduceEq, Int.reduceNe, Int.reduceAdd, Int.reduceSub, Int.reduceNeg, Nat.reduceLT, Nat.reduceLeDiff, Nat.reduceBEq, undef, (stA), Nat.reduceMul]; try simp (disch := omega) only [(vmp)])
 have hm0 := fun a b => hma (σ ++ [a, b, Ent.map [] 0]) (σ.length + 2) (by rw [List.getElem?_append_right (by omega), Nat.add_sub_cancel_left]; rfl)
 simp only [set_l2'] at hm0
 refine xWait.of (hm0 _ _) ?_
 rintro r τ ⟨rfl, rfl, _⟩
 rw [List.take_left, List.drop_left]
 (simp only [(vmA), Nat.reduceEqDiff, reduceIte, Nat.reduceAdd, Int.reduceToNat, Int.reduceLE, Int.reduceLT, Int.reduceEq, Int.reduceNe, Int.reduceAdd, Int.reduceSub, Int.reduceNeg, Nat.reduceLT, Nat.reduceLeDiff, Nat.reduceBEq, undef, (stA), Nat.reduceMul]; try simp (disch := omega) only [(vmp)])
 refine xWait.go (hva _) ?_
 (simp only [strsV_len, (vmA), Nat.reduceEqDiff, reduceIte, Nat.reduceAdd, Int.reduceToNat, Int.reduceLE, Int.reduceLT, Int.reduceEq, Int.reduceNe, Int.reduceAdd, Int.reduceSub, Int.reduceNeg, Nat.reduceLT, Nat.reduceLeDiff, Nat.reduceBEq, undef, (stA), Nat.reduceMul]; try simp (disch := omega) only [(vmp)])
 refine xloop (α := Nat × List Ent × Nat) T0 (fun x => [(6, .mp (σ.length + 2)), (7, rowC (σ.length + (x.2.2 + 3)) (clsOf s' (names.take x.1))), (25, .sl (strsV names)), (26, i64 names.length), (27, i64 x.1)]) (fun _ => σ)
  (fun x => .arr 24 [.str d, .str n, .sl (tysV us)] 0 0 :: .arr 24 [.str d', .str n', .sl (tysV us')] 0 0 :: mapE s' :: x.2.1)
  (fun x => x.1 ≤ names.length ∧ (clsOf s' (names.take x.1) ≠ [] → x.2.1[x.2.2]? = some (.arr 33 ((clsOf s' (names.take x.1)).flatMap clC) ((clsOf s' (names.take x.1)).length - 1) 0))) (fun x => names.length - x.1) (by kernel_rfl)
  ⟨(0, [], 0), ⟨by simp, by simp [clsOf]⟩, by (simp only [List.take_zero, clsOf, List.map_nil, rowC, (vmA), Nat.reduceEqDiff, reduceIte, Nat.reduceAdd, Int.reduceToNat, Int.reduceLE, Int.reduceLT, Int.reduceEq, Int.reduceNe, Int.reduceAdd, Int.reduceSub, Int.reduceNeg, Nat.reduceLT, Nat.reduceLeDiff, Nat.reduceBEq, undef, (stA), Nat.reduceMul, Int.natCast_zero]; try simp (disch := omega) only [(vmp)]), rfl, rfl⟩ ?_
 rintro ⟨i, junk, rid⟩ ⟨hi, hrow⟩
 simp only at hi hrow
 have hal : (clsOf s' (names.take i)).length = i := by simp [clsOf]; omega
 by_cases h : (i : Int) < names.length
 ·have hi' : i < names.length := by omega
  have hu : names[i]? = some names[i] := List.getElem?_eq_getElem hi'
  have hmm : names[i] ∈ names := List.getElem_mem hi'
  generalize names[i] = nm at *
  have hg : (strsV names).getD i .un = .str nm := by simp [strsV, List.getD, hu]
  obtain ⟨t, ht, hto⟩ := hlook nm hmm
  have hnext : clsOf s' (names.take (i + 1)) = clsOf s' (names.take i) ++ [(nm, t)] := by
   rw [List.take_add_one, hu]; simp [clsOf, ht]
  have hc := fun σ' => clone_ok _ t (Nat.le_refl _) σ' hto
  cases t with
  | mk d2 n2 us2 =>
  simp only [tyV] at hc
  generalize hacc : clsOf s' (names.take i) = acc at *
  rcases acc with _ | ⟨b0, r0⟩
  ·(simp only [h, hg, strsV_len, mapE, mget_ents, ht, Option.map_some, tyV, rowC, (vmA), Nat.reduceEqDiff, reduceIte, Nat.reduceAdd, Int.reduceToNat, Int.reduceLE, Int.reduceLT, Int.reduceEq, Int.reduceNe, Int.reduceAdd, Int.reduceSub, Int.reduceNeg, Nat.reduceLT, Nat.reduceLeDiff, Nat.reduceBEq, undef, (stA), Nat.reduceMul]; try simp (disch := omega) only [(vmp)])
   refine ⟨⟨rfl, fun e he => ents_keys tab _ _ 0 s' e he⟩, ?_⟩
   refine xWait.go (hc _) ?_
   (simp only [(vmA), Nat.reduceEqDiff, reduceIte, Nat.reduceAdd, Int.reduceToNat, Int.reduceLE, Int.reduceLT, Int.reduceEq, Int.reduceNe, Int.reduceAdd, Int.reduceSub, Int.reduceNeg, Nat.reduceLT, Nat.reduceLeDiff, Nat.reduceBEq, undef, (stA), Nat.reduceMul]; try simp (disch := omega) only [(vmp)])
   refine ⟨by unfold maxRoom; omega, (i + 1, junk ++ [.arr 33 [.str nm, .str d2, .str n2, .sl (tysV us2)] 0 0], junk.length), ⟨by simp only; omega, fun _ => ?_⟩, by simp only; omega, ?_, rfl⟩
   ·simp only [hnext]; simp [clC, tyCells]
   ·simp only [hnext]; first | trivial | exact ⟨rfl, rfl⟩ | (constructor <;> first | rfl | trivial)
  ·have h5 := hrow (by simp)
   have e0 : (clC b0).length = 4 := clC_len b0
   have hf0 : (List.flatMap clC r0).length = r0.length * 4 := clCs_len r0
   simp only [List.length_cons] at hal
   (simp only [h, hg, strsV_len, mapE, mget_ents, ht, Option.map_some, tyV, rowC, h5, (vmA), Nat.reduceEqDiff, reduceIte, Nat.reduceAdd, Int.reduceToNat, Int.reduceLE, Int.reduceLT, Int.reduceEq, Int.reduceNe, Int.reduceAdd, Int.reduceSub, Int.reduceNeg, Nat.reduceLT, Nat.reduceLeDiff, Nat.reduceBEq, undef, (stA), Nat.reduceMul]; try simp (disch := omega) only [(vmp)])
   refine ⟨⟨rfl, fun e he => ents_keys tab _ _ 0 s' e he⟩, ?_⟩
   refine xWait.go (hc _) ?_
   (simp only [h5, (vmA), Nat.reduceEqDiff, reduceIte, Nat.reduceAdd, Int.reduceToNat, Int.reduceLE, Int.reduceLT, Int.reduceEq, Int.reduceNe, Int.reduceAdd, Int.reduceSub, Int.reduceNeg, Nat.reduceLT, Nat.reduceLeDiff, Nat.reduceBEq, undef, (stA), Nat.reduceMul]; try simp (disch := omega) only [(vmp)])
   refine ⟨⟨by omega, by omega, by omega, by unfold maxRoom; omega, by unfold maxRoom; omega⟩, ?_⟩
   refine ⟨(i + 1, junk.set rid (Ent.arr 33 (clC b0 ++ (List.flatMap clC r0 ++ [AV.str nm, AV.str d2, AV.str n2, AV.sl (tysV us2)])) (r0.length + 1 - 1 + 1) 0), rid), ⟨by simp only; omega, fun _ => ?_⟩, by simp only; omega, ?_, rfl⟩
   ·simp only [hnext]
    rw [get_set_self h5]
    simp [clC, tyCells]
   ·simp only [hnext, List.cons_append, List.length_append, List.length_cons, List.length_nil]; first | trivial | exact ⟨rfl, rfl⟩ | (constructor <;> first | rfl | trivial)
 ·have hie : i = names.length := by omega
  subst hie
  rw [List.take_of_length_le (Nat.le_refl _)] at hrow hal
  (simp only [h, List.take_of_length_le (Nat.le_refl _), (vmA), Nat.reduceEqDiff, reduceIte, Nat.reduceAdd, Int.reduceToNat, Int.reduceLE, Int.reduceLT, Int.reduceEq, Int.reduceNe, Int.reduceAdd, Int.reduceSub, Int.reduceNeg, Nat.reduceLT, Nat.reduceLeDiff, Nat.reduceBEq, undef, (stA), Nat.reduceMul]; try simp (disch := omega) only [(vmp)])
  generalize clsOf s' names = acc at *
  rcases acc with _ | ⟨b0, r0⟩
  ·exact ⟨_, .tup (.cons .none (.cons (.refl _) .nil)), by simp only [AV.low, AV.low.lows, Bool.and_self], rfl⟩
  ·have h5 := hrow (by simp)
   have hf0 := clCs_len (b0 :: r0)
   simp only [rowC]
   refine ⟨_, .tup (.cons (.rsl (ty := 33) (ver := r0.length) (imm := 0) (ag := true) (cells := (b0 :: r0).flatMap clC) (es := clsV (b0 :: r0)) (es' := clsV (b0 :: r0)) (by omega) ?_ (by rw [List.drop_zero, clsV_cells]) (by omega) (by rw [clsV_len]; rfl) (by omega) (fun e he => by obtain ⟨x, _, rfl⟩ := List.mem_map.1 he; exact clV_el x) FrzL.refl) (.cons (.refl _) .nil)), by simp only [AV.low, AV.low.lows, clsV_low, Bool.and_self], rfl⟩
   rw [Nat.add_sub_cancel_left]
   simpa using h5
end Go.D
namespace Go.D
open Go Go.Vm Go.Proofs Go.RowKit
abbrev nilP : AV := .v (.pointer none)
abbrev nilS : AV := .v (.slice none 0 0)
def nodeE (d n : List UInt8) (args link : AV) : Ent := .arr 107 [.str d, .str n, args, link] 0 0
theorem sget_of {σ : List Ent} {p : Nat} {e : Ent} (h : σ[p]? = some e) (r : List Ent) : sget σ r p = some e := by unfold sget; rw [if_pos (lt_of_get h)]; exact h
inductive Ends (σ : List Ent) : Nat → Nat → Nat → Prop
 | here {p : Nat} {d n : List UInt8} {a : AV} : σ[p]? = some (nodeE d n a nilP) → Ends σ 0 p p
 | step {k p q r : Nat} {d n : List UInt8} {a : AV} : σ[p]? = some (nodeE d n a (.ref q 0 0)) → Ends σ k q r → Ends σ (k + 1) p r
set_option maxHeartbeats 4000000 in
theorem end_ok (σ : List Ent) (p r k : Nat) (h : Ends σ k p r) : ACalls E 91 [.ref p 0 0] σ fun x τ => x = .ref r 0 0 ∧ τ = σ := by
 refine xacalls T0 .drop [] Tryz.func91 rfl (by kernel_rfl) (by kernel_rfl) (by simp [Tryz.ntmps91]) ?_
 (simp only [(vmA), Nat.reduceEqDiff, reduceIte, Nat.reduceAdd, Int.reduceToNat, Int.reduceLE, Int.reduceLT, Int.reduceEq, Int.reduceNe, Int.reduceAdd, Int.reduceSub, Int.reduceNeg, Nat.reduceLT, Nat.reduceLeDiff, Nat.reduceBEq, undef, (stA), Nat.reduceMul]; try simp (disch := omega) only [(vmp)])
 refine xloop (α := Nat × Nat) T0 (fun x => [(0, .ref x.2 0 0)]) (fun _ => σ) (fun _ => []) (fun x => Ends σ x.1 x.2 r) (fun x => x.1) (by kernel_rfl)
  ⟨(k, p), h, by (simp only [(vmA), Nat.reduceEqDiff, reduceIte, Nat.reduceAdd, Int.reduceToNat, Int.reduceLE, Int.reduceLT, Int.reduceEq, Int.reduceNe, Int.reduceAdd, Int.reduceSub, Int.reduceNeg, Nat.reduceLT, Nat.reduceLeDiff, Nat.reduceBEq, undef, (stA), Nat.reduceMul]; try simp (disch := omega) only [(vmp)]), rfl, rfl⟩ ?_
 rintro ⟨k, p⟩ hk
 simp only at hk
 cases hk with
 | here h1 =>
  have g1 := sget_of h1
  simp only [nodeE] at g1
  (simp only [g1, (vmA), Nat.reduceEqDiff, reduceIte, Nat.reduceAdd, Int.reduceToNat, Int.reduceLE, Int.reduceLT, Int.reduceEq, Int.reduceNe, Int.reduceAdd, Int.reduceSub, Int.reduceNeg, Nat.reduceLT, Nat.reduceLeDiff, Nat.reduceBEq, undef, (stA), Nat.reduceMul]; try simp (disch := omega) only [(vmp)])
  exact decide_eq_true (lt_of_get h1)
 | step h1 h2 =>
  have g1 := sget_of h1
  simp only [nodeE] at g1
  (simp only [g1, (vmA), Nat.reduceEqDiff, reduceIte, Nat.reduceAdd, Int.reduceToNat, Int.reduceLE, Int.reduceLT, Int.reduceEq, Int.reduceNe, Int.reduceAdd, Int.reduceSub, Int.reduceNeg, Nat.reduceLT, Nat.reduceLeDiff, Nat.reduceBEq, undef, (stA), Nat.reduceMul]; try simp (disch := omega) only [(vmp)])
  exact ⟨(_, _), h2, by simp, rfl⟩
theorem variable_ok (n : List UInt8) (σ : List Ent) : ACalls E 41 [.str n] σ fun r τ => r = .agg [.str kiVar, .str n, nilS] ∧ τ = σ := by
 refine xacalls T0 .drop [] Tryz.func41 rfl (by kernel_rfl) (by kernel_rfl) (by simp [Tryz.ntmps41]) ?_
 (simp only [(vmA), Nat.reduceEqDiff, reduceIte, Nat.reduceAdd, Int.reduceToNat, Int.reduceLE, Int.reduceLT, Int.reduceEq, Int.reduceNe, Int.reduceAdd, Int.reduceSub, Int.reduceNeg, Nat.reduceLT, Nat.reduceLeDiff, Nat.reduceBEq, undef, (stA), Nat.reduceMul]; try simp (disch := omega) only [(vmp)])
theorem ty0_ok (d : List UInt8) (σ : List Ent) : ACalls E 39 [.str d, nilS] σ fun r τ => r = .agg [.str d, .str [], nilS] ∧ τ = σ := by
 refine xacalls T0 .drop [] Tryz.func39 rfl (by kernel_rfl) (by kernel_rfl) (by simp [Tryz.ntmps39]) ?_
 (simp only [(vmA), Nat.reduceEqDiff, reduceIte, Nat.reduceAdd, Int.reduceToNat, Int.reduceLE, Int.reduceLT, Int.reduceEq, Int.reduceNe, Int.reduceAdd, Int.reduceSub, Int.reduceNeg, Nat.reduceLT, Nat.reduceLeDiff, Nat.reduceBEq, undef, (stA), Nat.reduceMul]; try simp (disch := omega) only [(vmp)])
theorem ty_ok (d : List UInt8) (es : List AV) (hus : ∀ n, AV.low.lows n es = true) (σ : List Ent) : ACalls E 39 [.str d, .sl es] σ fun r τ => r = .agg [.str d, .str [], .sl es] ∧ τ = σ := by
 refine xacalls T0 .drop [] Tryz.func39 rfl (by kernel_rfl) (by kernel_rfl) (by simp [Tryz.ntmps39]) ?_
 (simp only [hus, (vmA), Nat.reduceEqDiff, reduceIte, Nat.reduceAdd, Int.reduceToNat, Int.reduceLE, Int.reduceLT, Int.reduceEq, Int.reduceNe, Int.reduceAdd, Int.reduceSub, Int.reduceNeg, Nat.reduceLT, Nat.reduceLeDiff, Nat.reduceBEq, undef, (stA), Nat.reduceMul]; try simp (disch := omega) only [(vmp)])
def tyE (d n : List UInt8) (us : AV) : Ent := .arr 24 [.str d, .str n, us] 0 0
def graE (v z : Nat) : Ent := .arr 72 [.mp v, .mp z] 0 0
def strK (es : List MEnt) : Prop := ∀ e ∈ es, ∃ s, e.1 = .str s
theorem strK_ok {es : List MEnt} (h : strK es) (T : Nat → TI) (g l : List Ent) : ∀ e ∈ es, kOK T g l .string e.1 := fun e he => by
 obtain ⟨s, hs⟩ := h e he; rw [hs]; rfl
def rowP (cs : List AV) (ver : Nat) : Ent := .arr 74 cs ver 0
theorem plain_of {S : List Ent} {r : Nat} {d n : List UInt8} {a k : AV} (h : S[r]? = some (nodeE d n a k)) (l : List Ent) : plainRef S l r 0 := by
 unfold plainRef; rw [sget_of h]; exact ⟨rfl, rfl⟩
abbrev na : List UInt8 := [39, 97]
abbrev nb : List UInt8 := [39, 98]
theorem Ends.push {σ : List Ent} {k p r : Nat} (h : Ends σ k p r) (l : List Ent) : Ends (σ ++ l) k p r := by
 induction h with
 | here h => exact .here (get_olds h l)
 | step h _ ih => exact .step (get_olds h l) ih
theorem xNxt_go {E : Env} {n : Nat} {T : Nat → TI} {rows : List Nat} {dst : Option Nat} {all : Array Oper} {os : List Oper} {k : Kont} {ts : Ts} {g l : List Ent} {id m since last : Nat} {seen : List Nat} {es : List MEnt} {clock : Nat}
  (h1 : sget g l id = some (.iter (some m) since seen last)) (h2 : sget g l m = some (.map es clock)) (h3 : ∀ e ∈ es, e.2.2 < since) (h4 : since ≤ last)
  (hend : (∀ e ∈ es, e.2.2 ∈ seen) → xOps E n T rows all os k (tput ts dst (.tup [boolV false])) g l)
  (hone : ∀ e ∈ es, e.2.2 ∉ seen → xOps E n T rows all os k (tput ts dst (.tup [boolV true, e.1, e.2.1])) (ssetG g id (.iter (some m) since (seen ++ [e.2.2]) clock)) (ssetL g l id (.iter (some m) since (seen ++ [e.2.2]) clock))) :
  xNxt E n T rows dst all os k ts (.ref id 0 0) g l := by
 unfold xNxt aNxt
 simp only [h1, h2]
 exact ⟨h3, h4, hend, hone⟩
end Go.D
namespace Go.D
open Go Go.Vm Go.Proofs Go.RowKit
theorem less_lt (a b : List UInt8) : Op.bytesLess a b = decide (a < b) := Go.Proofs.bytesLess_eq a b
theorem lt_irr (a : List UInt8) : ¬ a < a := List.lt_irrefl a
theorem lt_tr {a b c : List UInt8} (h : a < b) (h2 : b < c) : a < c := List.lt_trans h h2
theorem lt_tri (a b : List UInt8) : a < b ∨ a = b ∨ b < a := by
 by_cases h : a < b
 ·exact .inl h
 ·by_cases h2 : b < a
  ·exact .inr (.inr h2)
  ·exact .inr (.inl (List.le_antisymm (List.not_lt.1 h2) (List.not_lt.1 h)))
theorem asc_ext : ∀ (a b : List (List UInt8)), a.Pairwise (· < ·) → b.Pairwise (· < ·) → (∀ x, x ∈ a ↔ x ∈ b) → a = b
 | [], [], _, _, _ => rfl
 | [], y :: ys, _, _, h => by have := (h y).2 (by simp); simp at this
 | x :: xs, [], _, _, h => by have := (h x).1 (by simp); simp at this
 | x :: xs, y :: ys, ha, hb, h => by
  obtain ⟨a1, a2⟩ := List.pairwise_cons.1 ha
  obtain ⟨b1, b2⟩ := List.pairwise_cons.1 hb
  have hxy : x = y := by
   rcases List.mem_cons.1 ((h x).1 (by simp)) with e | hm
   ·exact e
   ·rcases List.mem_cons.1 ((h y).2 (by simp)) with e | hm2
    ·exact e.symm
    ·exact absurd (lt_tr (b1 x hm) (a1 y hm2)) (lt_irr _)
  subst hxy
  rw [asc_ext xs ys a2 b2 fun z => ⟨fun hz => by
   rcases List.mem_cons.1 ((h z).1 (by simp [hz])) with e | hm
   ·subst e; exact absurd (a1 z hz) (lt_irr _)
   ·exact hm, fun hz => by
   rcases List.mem_cons.1 ((h z).2 (by simp [hz])) with e | hm
   ·subst e; exact absurd (b1 z hz) (lt_irr _)
   ·exact hm⟩]
theorem sortS_asc {l : List (List UInt8)} (h : l.Nodup) : (sortS l).Pairwise (· < ·) := by
 have h1 : (sortS l).Pairwise fun a b => decide (a ≤ b) = true := List.pairwise_mergeSort (fun a b c h1 h2 => by simp only [decide_eq_true_eq] at *; exact List.le_trans h1 h2) (fun a b => by simp only [Bool.or_eq_true, decide_eq_true_eq]; exact List.le_total a b) l
 have h2 : (sortS l).Nodup := (List.mergeSort_perm l _).nodup_iff.2 h
 exact (h1.and h2).imp fun {a b} ⟨h3, h4⟩ => by
  rcases lt_tri a b with h | h | h
  ·exact h
  ·exact absurd h h4
  ·simp only [decide_eq_true_eq] at h3; exact absurd h (List.not_lt.2 h3)
theorem sortS_mem {l : List (List UInt8)} {x : List UInt8} : x ∈ sortS l ↔ x ∈ l := List.mem_mergeSort
end Go.D
namespace Go.D
open Go Go.Vm Go.Proofs Go.RowKit
def argsR (w : Nat) (qs : List Nat) : AV := match qs with
 | [] => nilS
 | _ :: r => .rsl w r.length 0 (r.length + 1) 1
def linkR : Option Nat → AV
 | none => nilP
 | some q => .ref q 0 0
def refs (qs : List Nat) : List AV := qs.map fun p => .ref p 0 0
theorem refs_len (qs : List Nat) : (refs qs).length = qs.length := by simp [refs]
theorem refs_get {qs : List Nat} {i : Nat} {p : Nat} (h : qs[i]? = some p) : (refs qs)[i]? = some (.ref p 0 0) := by simp [refs, h]
def NodeAt (σ : List Ent) (p : Nat) (x : AN) (lk : Option Nat) : Prop := ∃ w, σ[p]? = some (nodeE x.d x.n (argsR w x.ks) (linkR lk)) ∧ (x.ks ≠ [] → σ[w]? = some (rowP (refs x.ks) (x.ks.length - 1)))
def ReprG (σ : List Ent) (G : Gr) (L : Lk) : Prop := ∀ p x, G p = some x → NodeAt σ p x (L p)
def FrG (G : Gr) (σ τ : List Ent) : Prop := τ.length = σ.length ∧ ∀ j, G j = none → τ[j]? = σ[j]?
theorem FrG.refl (G : Gr) (σ : List Ent) : FrG G σ σ := ⟨rfl, fun _ _ => rfl⟩
theorem FrG.trans {G : Gr} {σ τ υ : List Ent} (h : FrG G σ τ) (h2 : FrG G τ υ) : FrG G σ υ := ⟨by rw [h2.1, h.1], fun j hj => by rw [h2.2 j hj, h.2 j hj]⟩
theorem repr_set {σ : List Ent} {G : Gr} {L : Lk} (h : ReprG σ G L) {a b w : Nat} {x : AN} (ha : G a = some x) (he : σ[a]? = some (nodeE x.d x.n (argsR w x.ks) (linkR (L a)))) (hw : x.ks ≠ [] → σ[w]? = some (rowP (refs x.ks) (x.ks.length - 1))) :
  ReprG (σ.set a (nodeE x.d x.n (argsR w x.ks) (.ref b 0 0))) G (setL L a b) ∧ FrG G σ (σ.set a (nodeE x.d x.n (argsR w x.ks) (.ref b 0 0))) := by
 refine ⟨fun p y hy => ?_, by simp, fun j hj => ?_⟩
 ·have hrow : ∀ (w' : Nat) (qs : List Nat), σ[w']? = some (rowP (refs qs) (qs.length - 1)) → (σ.set a (nodeE x.d x.n (argsR w x.ks) (.ref b 0 0)))[w']? = some (rowP (refs qs) (qs.length - 1)) := fun w' qs hh => by
   have hne : a ≠ w' := fun e => by rw [← e, he] at hh; cases hh
   rw [get_set_ne hne]; exact hh
  by_cases e : p = a
  ·subst e
   rw [ha] at hy; cases hy
   exact ⟨w, by rw [get_set_self he]; simp [setL, linkR], fun hne => hrow _ _ (hw hne)⟩
  ·obtain ⟨w', h1, h2⟩ := h p y hy
   exact ⟨w', by rw [get_set_ne (Ne.symm e), h1]; simp [setL, e], fun hne => hrow _ _ (h2 hne)⟩
 ·have hne : a ≠ j := fun e => by rw [← e, ha] at hj; cases hj
  rw [get_set_ne hne]
theorem ends_of {σ : List Ent} {G : Gr} {L : Lk} (h : ReprG σ G L) (hl : LinkOK G L) {p r : Nat} (he : EndR L p r) (hp : ∃ x, G p = some x) : ∃ k, Ends σ k p r := by
 induction he with
 | here h1 =>
  obtain ⟨x, hx⟩ := hp
  obtain ⟨w, h2, _⟩ := h _ x hx
  rw [h1] at h2
  exact ⟨0, .here h2⟩
 | on h1 _ ih =>
  obtain ⟨x, hx⟩ := hp
  obtain ⟨w, h2, _⟩ := h _ x hx
  rw [h1] at h2
  obtain ⟨k, hk⟩ := ih (hl _ _ h1).2
  exact ⟨k + 1, .step h2 hk⟩
def VDir (G : Gr) (L : Lk) : Prop := ∀ p q x y, L p = some q → G p = some x → G q = some y → x.d = kiVar → y.d = kiVar → ¬ x.n < y.n
theorem vdir_set {G : Gr} {L : Lk} {a b : Nat} {x y : AN} (h : VDir G L) (hx : G a = some x) (hy : G b = some y) (hd : x.d = kiVar → y.d = kiVar → ¬ x.n < y.n) : VDir G (setL L a b) := fun p q x' y' hp h1 h2 d1 d2 => by
 unfold setL at hp
 split at hp
 ·rename_i e
  cases hp
  subst e
  rw [hx] at h1; rw [hy] at h2
  cases h1; cases h2
  exact hd d1 d2
 ·exact h p q x' y' hp h1 h2 d1 d2
def SameA (σ τ : List Ent) : Prop := ∀ (p : Nat) (d n : List UInt8) (a l : AV), σ[p]? = some (nodeE d n a l) → ∃ l', τ[p]? = some (nodeE d n a l')
theorem SameA.refl (σ : List Ent) : SameA σ σ := fun _ _ _ _ l h => ⟨l, h⟩
theorem SameA.trans {σ τ υ : List Ent} (h : SameA σ τ) (k : SameA τ υ) : SameA σ υ := fun p d n a l hh => by
 obtain ⟨l', h1⟩ := h p d n a l hh
 exact k p d n a l' h1
theorem sameA_set {σ : List Ent} {p : Nat} {d n : List UInt8} {a l : AV} (h : σ[p]? = some (nodeE d n a l)) (l' : AV) : SameA σ (σ.set p (nodeE d n a l')) := fun q d' n' a' k hq => by
 by_cases e : p = q
 ·subst e
  rw [h] at hq
  simp only [nodeE, Option.some.injEq, Ent.arr.injEq, List.cons.injEq, AV.str.injEq, and_true, true_and] at hq
  obtain ⟨rfl, rfl, rfl, rfl⟩ := hq
  exact ⟨l', get_set_self h⟩
 ·exact ⟨k, by rw [get_set_ne e]; exact hq⟩
structure UniP (G : Gr) (L : Lk) (σ : List Ent) (a b : Nat) (ok : Bool) (τ : List Ent) (L' : Lk) : Prop where
 repr : ReprG τ G L'
 fr : FrG G σ τ
 lk : LinkOK G L'
 later : Later L L'
 good : ok = true → EqL L' a b ∧ ∀ P, InvP G L P → InvP G L' P
 model : ∀ M, Model G M → Resp M L → M a = M b → ok = true ∧ Resp M L'
 dir : VDir G L → VDir G L'
 args : SameA σ τ
def UCall (gv : AV) (σ : List Ent) (a b : Nat) (ok : Bool) (τ : List Ent) : Prop := ACalls E 55 [gv, .ref a 0 0, .ref b 0 0] σ fun r υ => r = boolV ok ∧ υ = τ
def UOK (G : Gr) (Pl : List Nat) (gv : AV) (N : Nat) : Prop := ∀ (L : Lk) (σ : List Ent) (a b : Nat), cntU Pl L < N → ReprG σ G L → LinkOK G L → Ended L → (∃ x, G a = some x) → (∃ x, G b = some x) →
 ∃ ok τ L', UniP G L σ a b ok τ L' ∧ UCall gv σ a b ok τ
theorem UniP.symm {G : Gr} {L : Lk} {σ : List Ent} {a b : Nat} {ok : Bool} {τ : List Ent} {L' : Lk} (h : UniP G L σ a b ok τ L') : UniP G L σ b a ok τ L' :=
 ⟨h.repr, h.fr, h.lk, h.later, fun e => ⟨(h.good e).1.symm, (h.good e).2⟩, fun M a1 a2 a3 => h.model M a1 a2 a3.symm, h.dir, h.args⟩
theorem uni_link {G : Gr} {L : Lk} {σ : List Ent} {a b ra rb : Nat} {x y : AN} {w : Nat} (hr : ReprG σ G L) (hl : LinkOK G L) (ea : EndR L a ra) (eb : EndR L b rb) (hne : ra ≠ rb) (hx : G ra = some x) (hy : G rb = some y) (hv : x.d = kiVar) (hdir : y.d = kiVar → ¬ x.n < y.n)
  (he : σ[ra]? = some (nodeE x.d x.n (argsR w x.ks) nilP)) (hw : x.ks ≠ [] → σ[w]? = some (rowP (refs x.ks) (x.ks.length - 1))) :
  UniP G L σ a b true (σ.set ra (nodeE x.d x.n (argsR w x.ks) (.ref rb 0 0))) (setL L ra rb) := by
 have la := ea.end
 have lb := eb.end
 have he' : σ[ra]? = some (nodeE x.d x.n (argsR w x.ks) (linkR (L ra))) := by rw [la]; exact he
 obtain ⟨h1, h2⟩ := repr_set (b := rb) hr hx he' hw
 exact ⟨h1, h2, link_set hl ⟨x, hx⟩ ⟨y, hy⟩, later_set la lb hne, fun _ => ⟨eqL_link la lb hne ea eb, fun P hP => invP_var hP la lb hne hx hy hv⟩,
  fun M _ hR hM => ⟨rfl, resp_set hR (by rw [← resp_end hR ea, ← resp_end hR eb]; exact hM)⟩, fun h => vdir_set h hx hy fun _ => hdir, sameA_set he _⟩
inductive Run (G : Gr) (gv : AV) (ax ay : List Nat) : Nat → List Ent → Lk → Bool → List Ent → Lk → Prop
 | done {i : Nat} {τ : List Ent} {L : Lk} : ax.length ≤ i → Run G gv ax ay i τ L true τ L
 | fail {i : Nat} {τ τ1 : List Ent} {L L1 : Lk} : i < ax.length → UniP G L τ (ax.getD i 0) (ay.getD i 0) false τ1 L1 → UCall gv τ (ax.getD i 0) (ay.getD i 0) false τ1 → Run G gv ax ay i τ L false τ1 L1
 | next {i : Nat} {τ τ1 τ2 : List Ent} {L L1 L2 : Lk} {ok : Bool} : i < ax.length → UniP G L τ (ax.getD i 0) (ay.getD i 0) true τ1 L1 → UCall gv τ (ax.getD i 0) (ay.getD i 0) true τ1 → Run G gv ax ay (i + 1) τ1 L1 ok τ2 L2 → Run G gv ax ay i τ L ok τ2 L2
theorem run_props {G : Gr} {gv : AV} {ax ay : List Nat} {i : Nat} {τ τ' : List Ent} {L L' : Lk} {ok : Bool} (h : Run G gv ax ay i τ L ok τ' L') : ReprG τ G L → LinkOK G L →
  ReprG τ' G L' ∧ FrG G τ τ' ∧ LinkOK G L' ∧ Later L L' ∧ (ok = true → (∀ j, i ≤ j → j < ax.length → EqL L' (ax.getD j 0) (ay.getD j 0)) ∧ ∀ P, InvP G L P → InvP G L' P) ∧
   (∀ M, Model G M → Resp M L → (∀ j, i ≤ j → j < ax.length → M (ax.getD j 0) = M (ay.getD j 0)) → ok = true ∧ Resp M L') ∧ (VDir G L → VDir G L') ∧ SameA τ τ' := by
 induction h with
 | done h1 => exact fun hr hl => ⟨hr, FrG.refl _ _, hl, Later.refl _, fun _ => ⟨fun j h2 h3 => absurd h3 (by omega), fun _ h => h⟩, fun M _ h _ => ⟨rfl, h⟩, fun h => h, SameA.refl _⟩
 | @fail i _ _ _ _ h1 h2 _ => exact fun hr hl => ⟨h2.repr, h2.fr, h2.lk, h2.later, fun e => (by cases e), fun M a1 a2 a3 => h2.model M a1 a2 (a3 _ (Nat.le_refl _) h1), h2.dir, h2.args⟩
 | @next i _ _ _ _ _ _ _ h1 h2 _ _ ih =>
  intro hr hl
  obtain ⟨b1, b2, b3, b4, b5, b6, b7, b8⟩ := ih h2.repr h2.lk
  refine ⟨b1, h2.fr.trans b2, b3, h2.later.trans b4, fun e => ⟨fun j h3 h4 => ?_, fun P hP => (b5 e).2 P ((h2.good rfl).2 P hP)⟩, fun M a1 a2 a3 => ?_, fun h => b7 (h2.dir h), h2.args.trans b8⟩
  ·by_cases hj : j = i
   ·subst hj; exact b4.2.1 _ _ (h2.good rfl).1
   ·exact (b5 e).1 j (by omega) h4
  ·exact b6 M a1 (h2.model M a1 a2 (a3 i (Nat.le_refl _) h1)).2 fun j h3 h4 => a3 j (by omega) h4
theorem run_ex {G : Gr} {Pl : List Nat} {gv : AV} {N : Nat} (ih : UOK G Pl gv N) {ax ay : List Nat} (hax : ∀ q ∈ ax, ∃ y, G q = some y) (hay : ∀ q ∈ ay, ∃ y, G q = some y) (hlen : ax.length = ay.length) :
  ∀ (k i : Nat) (τ : List Ent) (L : Lk), ax.length - i = k → cntU Pl L < N → ReprG τ G L → LinkOK G L → Ended L → ∃ ok τ' L', Run G gv ax ay i τ L ok τ' L'
 | 0, i, τ, L, hk, _, _, _, _ => ⟨_, _, _, .done (by omega)⟩
 | k + 1, i, τ, L, hk, hc, hr, hl, hE => by
  have h1 : i < ax.length := by omega
  have m1 : ax.getD i 0 ∈ ax := by simp [List.getD, h1]
  have m2 : ay.getD i 0 ∈ ay := by simp [List.getD, show i < ay.length by omega]
  obtain ⟨ok, τ1, L1, p1, p2⟩ := ih L τ _ _ hc hr hl hE (hax _ m1) (hay _ m2)
  cases ok
  ·exact ⟨_, _, _, .fail h1 p1 p2⟩
  ·obtain ⟨ok, τ2, L2, p3⟩ := run_ex ih hax hay hlen k (i + 1) τ1 L1 (by omega) (Nat.lt_of_le_of_lt (cntU_le p1.later.1) hc) p1.repr p1.lk (p1.later.2.2 hE)
   exact ⟨_, _, _, .next h1 p1 p2 p3⟩
set_option maxHeartbeats 16000000 in
theorem unify_step (G : Gr) (Pl : List Nat) (gv : AV) (hcl : ClosedG G) (hPl : ∀ p x, G p = some x → p ∈ Pl) (hsm : ∀ p x, G p = some x → x.ks.length ≤ 2) (N : Nat) (ih : UOK G Pl gv N) : UOK G Pl gv (N + 1) := by
 intro L σ a b hcnt hr hl hE hga hgb
 obtain ⟨ra, ea⟩ := hE a
 obtain ⟨rb, eb⟩ := hE b
 obtain ⟨ka, ha⟩ := ends_of hr hl ea hga
 obtain ⟨kb, hb⟩ := ends_of hr hl eb hgb
 obtain ⟨x, hx⟩ := end_in hl ea hga
 obtain ⟨y, hy⟩ := end_in hl eb hgb
 obtain ⟨wa, na1, na2⟩ := hr ra x hx
 obtain ⟨wb, nb1, nb2⟩ := hr rb y hy
 rw [ea.end] at na1
 rw [eb.end] at nb1
 simp only [linkR] at na1 nb1
 have pa := plain_of na1
 have pb := plain_of nb1
 have la := lt_of_get na1
 have lb := lt_of_get nb1
 have ga := sget_of na1
 have gb := sget_of nb1
 simp only [nodeE] at ga gb
 have sGa : ∀ e, ssetG σ ra e = σ.set ra e := fun e => by unfold ssetG; rw [if_pos la]
 have sLa : ∀ e l, ssetL σ l ra e = l := fun e l => by unfold ssetL; rw [if_pos la]
 have sGb : ∀ e, ssetG σ rb e = σ.set rb e := fun e => by unfold ssetG; rw [if_pos lb]
 have sLb : ∀ e l, ssetL σ l rb e = l := fun e l => by unfold ssetL; rw [if_pos lb]
 by_cases hne : ra = rb
 ·subst hne
  refine ⟨true, σ, L, ⟨hr, FrG.refl _ _, hl, Later.refl _, fun _ => ⟨⟨ra, ea, eb⟩, fun _ h => h⟩, fun M _ h _ => ⟨rfl, h⟩, fun h => h, SameA.refl _⟩, ?_⟩
  refine xacalls T0 .stay [] Tryz.func55 rfl (by kernel_rfl) (by kernel_rfl) (by simp [Tryz.ntmps55]) ?_
  (simp only [(vmA), Nat.reduceEqDiff, reduceIte, Nat.reduceAdd, Int.reduceToNat, Int.reduceLE, Int.reduceLT, Int.reduceEq, Int.reduceNe, Int.reduceAdd, Int.reduceSub, Int.reduceNeg, Nat.reduceLT, Nat.reduceLeDiff, Nat.reduceBEq, undef, (stA), Nat.reduceMul]; try simp (disch := omega) only [(vmp)])
  refine xWait.go (end_ok σ a ra ka ha) ?_
  (simp only [(vmA), Nat.reduceEqDiff, reduceIte, Nat.reduceAdd, Int.reduceToNat, Int.reduceLE, Int.reduceLT, Int.reduceEq, Int.reduceNe, Int.reduceAdd, Int.reduceSub, Int.reduceNeg, Nat.reduceLT, Nat.reduceLeDiff, Nat.reduceBEq, undef, (stA), Nat.reduceMul]; try simp (disch := omega) only [(vmp)])
  refine xWait.go (end_ok σ b ra kb hb) ?_
  (simp only [ga, (vmA), Nat.reduceEqDiff, reduceIte, Nat.reduceAdd, Int.reduceToNat, Int.reduceLE, Int.reduceLT, Int.reduceEq, Int.reduceNe, Int.reduceAdd, Int.reduceSub, Int.reduceNeg, Nat.reduceLT, Nat.reduceLeDiff, Nat.reduceBEq, undef, (stA), Nat.reduceMul]; try simp (disch := omega) only [(vmp)])
 have hne' : ¬ rb = ra := fun e => hne e.symm
 by_cases hd : x.d = kiVar
 ·have t1 : (x.d = [118, 97, 114]) = True := eq_true hd
  by_cases hd2 : y.d = kiVar
  ·have t2 : (y.d = [118, 97, 114]) = True := eq_true hd2
   cases hlt : Op.bytesLess x.n y.n
   ·refine ⟨true, _, _, uni_link hr hl ea eb hne hx hy hd (fun _ => by rw [less_lt] at hlt; exact of_decide_eq_false hlt) na1 na2, ?_⟩
    refine xacalls T0 .stay [] Tryz.func55 rfl (by kernel_rfl) (by kernel_rfl) (by simp [Tryz.ntmps55]) ?_
    (simp only [(vmA), Nat.reduceEqDiff, reduceIte, Nat.reduceAdd, Int.reduceToNat, Int.reduceLE, Int.reduceLT, Int.reduceEq, Int.reduceNe, Int.reduceAdd, Int.reduceSub, Int.reduceNeg, Nat.reduceLT, Nat.reduceLeDiff, Nat.reduceBEq, undef, (stA), Nat.reduceMul]; try simp (disch := omega) only [(vmp)])
    refine xWait.go (end_ok σ a ra ka ha) ?_
    (simp only [(vmA), Nat.reduceEqDiff, reduceIte, Nat.reduceAdd, Int.reduceToNat, Int.reduceLE, Int.reduceLT, Int.reduceEq, Int.reduceNe, Int.reduceAdd, Int.reduceSub, Int.reduceNeg, Nat.reduceLT, Nat.reduceLeDiff, Nat.reduceBEq, undef, (stA), Nat.reduceMul]; try simp (disch := omega) only [(vmp)])
    refine xWait.go (end_ok σ b rb kb hb) ?_
    (simp only [ga, gb, hne, t1, t2, (vmA), Nat.reduceEqDiff, reduceIte, Nat.reduceAdd, Int.reduceToNat, Int.reduceLE, Int.reduceLT, Int.reduceEq, Int.reduceNe, Int.reduceAdd, Int.reduceSub, Int.reduceNeg, Nat.reduceLT, Nat.reduceLeDiff, Nat.reduceBEq, undef, (stA), Nat.reduceMul]; try simp (disch := omega) only [(vmp)])
    refine ⟨⟨pa _, pb _⟩, ?_⟩
    refine ydraw T0 [] (by kernel_rfl) (by kernel_rfl) (by kernel_rfl) (by kernel_rfl) ?_
    (simp only [ga, gb, sGa, sLa, hlt, (vmA), Nat.reduceEqDiff, reduceIte, Nat.reduceAdd, Int.reduceToNat, Int.reduceLE, Int.reduceLT, Int.reduceEq, Int.reduceNe, Int.reduceAdd, Int.reduceSub, Int.reduceNeg, Nat.reduceLT, Nat.reduceLeDiff, Nat.reduceBEq, undef, (stA), Nat.reduceMul]; try simp (disch := omega) only [(vmp)])
    rfl
   ·refine ⟨true, _, _, (uni_link hr hl eb ea hne' hy hx hd2 (fun _ => by rw [less_lt] at hlt; exact fun h2 => absurd (List.lt_trans h2 (of_decide_eq_true hlt)) (List.lt_irrefl _)) nb1 nb2).symm, ?_⟩
    refine xacalls T0 .stay [] Tryz.func55 rfl (by kernel_rfl) (by kernel_rfl) (by simp [Tryz.ntmps55]) ?_
    (simp only [(vmA), Nat.reduceEqDiff, reduceIte, Nat.reduceAdd, Int.reduceToNat, Int.reduceLE, Int.reduceLT, Int.reduceEq, Int.reduceNe, Int.reduceAdd, Int.reduceSub, Int.reduceNeg, Nat.reduceLT, Nat.reduceLeDiff, Nat.reduceBEq, undef, (stA), Nat.reduceMul]; try simp (disch := omega) only [(vmp)])
    refine xWait.go (end_ok σ a ra ka ha) ?_
    (simp only [(vmA), Nat.reduceEqDiff, reduceIte, Nat.reduceAdd, Int.reduceToNat, Int.reduceLE, Int.reduceLT, Int.reduceEq, Int.reduceNe, Int.reduceAdd, Int.reduceSub, Int.reduceNeg, Nat.reduceLT, Nat.reduceLeDiff, Nat.reduceBEq, undef, (stA), Nat.reduceMul]; try simp (disch := omega) only [(vmp)])
    refine xWait.go (end_ok σ b rb kb hb) ?_
    (simp only [ga, gb, hne, t1, t2, (vmA), Nat.reduceEqDiff, reduceIte, Nat.reduceAdd, Int.reduceToNat, Int.reduceLE, Int.reduceLT, Int.reduceEq, Int.reduceNe, Int.reduceAdd, Int.reduceSub, Int.reduceNeg, Nat.reduceLT, Nat.reduceLeDiff, Nat.reduceBEq, undef, (stA), Nat.reduceMul]; try simp (disch := omega) only [(vmp)])
    refine ⟨⟨pa _, pb _⟩, ?_⟩
    refine ydraw T0 [] (by kernel_rfl) (by kernel_rfl) (by kernel_rfl) (by kernel_rfl) ?_
    (simp only [ga, gb, sGb, sLb, hlt, (vmA), Nat.reduceEqDiff, reduceIte, Nat.reduceAdd, Int.reduceToNat, Int.reduceLE, Int.reduceLT, Int.reduceEq, Int.reduceNe, Int.reduceAdd, Int.reduceSub, Int.reduceNeg, Nat.reduceLT, Nat.reduceLeDiff, Nat.reduceBEq, undef, (stA), Nat.reduceMul]; try simp (disch := omega) only [(vmp)])
    rfl
  ·have t2 : ¬ y.d = [118, 97, 114] := hd2
   refine ⟨true, _, _, uni_link hr hl ea eb hne hx hy hd (fun e => absurd e hd2) na1 na2, ?_⟩
   refine xacalls T0 .stay [] Tryz.func55 rfl (by kernel_rfl) (by kernel_rfl) (by simp [Tryz.ntmps55]) ?_
   (simp only [(vmA), Nat.reduceEqDiff, reduceIte, Nat.reduceAdd, Int.reduceToNat, Int.reduceLE, Int.reduceLT, Int.reduceEq, Int.reduceNe, Int.reduceAdd, Int.reduceSub, Int.reduceNeg, Nat.reduceLT, Nat.reduceLeDiff, Nat.reduceBEq, undef, (stA), Nat.reduceMul]; try simp (disch := omega) only [(vmp)])
   refine xWait.go (end_ok σ a ra ka ha) ?_
   (simp only [(vmA), Nat.reduceEqDiff, reduceIte, Nat.reduceAdd, Int.reduceToNat, Int.reduceLE, Int.reduceLT, Int.reduceEq, Int.reduceNe, Int.reduceAdd, Int.reduceSub, Int.reduceNeg, Nat.reduceLT, Nat.reduceLeDiff, Nat.reduceBEq, undef, (stA), Nat.reduceMul]; try simp (disch := omega) only [(vmp)])
   refine xWait.go (end_ok σ b rb kb hb) ?_
   (simp only [ga, gb, sGa, sLa, hne, t1, t2, (vmA), Nat.reduceEqDiff, reduceIte, Nat.reduceAdd, Int.reduceToNat, Int.reduceLE, Int.reduceLT, Int.reduceEq, Int.reduceNe, Int.reduceAdd, Int.reduceSub, Int.reduceNeg, Nat.reduceLT, Nat.reduceLeDiff, Nat.reduceBEq, undef, (stA), Nat.reduceMul]; try simp (disch := omega) only [(vmp)])
   exact ⟨⟨pa _, pb _⟩, rfl⟩
 ·have t1 : ¬ x.d = [118, 97, 114] := hd
  by_cases hd2 : y.d = kiVar
  ·have t2 : (y.d = [118, 97, 114]) = True := eq_true hd2
   refine ⟨true, _, _, (uni_link hr hl eb ea hne' hy hx hd2 (fun e => absurd e hd) nb1 nb2).symm, ?_⟩
   refine xacalls T0 .stay [] Tryz.func55 rfl (by kernel_rfl) (by kernel_rfl) (by simp [Tryz.ntmps55]) ?_
   (simp only [(vmA), Nat.reduceEqDiff, reduceIte, Nat.reduceAdd, Int.reduceToNat, Int.reduceLE, Int.reduceLT, Int.reduceEq, Int.reduceNe, Int.reduceAdd, Int.reduceSub, Int.reduceNeg, Nat.reduceLT, Nat.reduceLeDiff, Nat.reduceBEq, undef, (stA), Nat.reduceMul]; try simp (disch := omega) only [(vmp)])
   refine xWait.go (end_ok σ a ra ka ha) ?_
   (simp only [(vmA), Nat.reduceEqDiff, reduceIte, Nat.reduceAdd, Int.reduceToNat, Int.reduceLE, Int.reduceLT, Int.reduceEq, Int.reduceNe, Int.reduceAdd, Int.reduceSub, Int.reduceNeg, Nat.reduceLT, Nat.reduceLeDiff, Nat.reduceBEq, undef, (stA), Nat.reduceMul]; try simp (disch := omega) only [(vmp)])
   refine xWait.go (end_ok σ b rb kb hb) ?_
   (simp only [ga, gb, sGb, sLb, hne, t1, t2, (vmA), Nat.reduceEqDiff, reduceIte, Nat.reduceAdd, Int.reduceToNat, Int.reduceLE, Int.reduceLT, Int.reduceEq, Int.reduceNe, Int.reduceAdd, Int.reduceSub, Int.reduceNeg, Nat.reduceLT, Nat.reduceLeDiff, Nat.reduceBEq, undef, (stA), Nat.reduceMul]; try simp (disch := omega) only [(vmp)])
   exact ⟨⟨pa _, pb _⟩, rfl⟩
  ·have t2 : ¬ y.d = [118, 97, 114] := hd2
   have lax := hsm ra x hx
   have lay := hsm rb y hy
   have hca := hcl ra x hx
   have hcb := hcl rb y hy
   by_cases hmt : x.d = y.d ∧ x.n = y.n ∧ x.ks.length = y.ks.length
   ·obtain ⟨m1, m2, m3⟩ := hmt
    have he' : σ[ra]? = some (nodeE x.d x.n (argsR wa x.ks) (linkR (L ra))) := by rw [ea.end]; exact na1
    obtain ⟨s1, s2⟩ := repr_set (b := rb) hr hx he' na2
    have s3 := link_set hl ⟨x, hx⟩ ⟨y, hy⟩
    have s4 := later_set ea.end eb.end hne
    have s5 := cntU_set (b := rb) ea.end (hPl ra x hx)
    obtain ⟨ok, τ', L', hrun⟩ := run_ex ih hca hcb m3 x.ks.length 0 _ _ (by omega) (by omega) s1 s3 (s4.2.2 hE)
    obtain ⟨r1, r2, r3, r4, r5, r6, r7, r8⟩ := run_props hrun s1 s3
    have hlab : L' ra = some rb := r4.1 _ _ (by simp [setL])
    refine ⟨ok, τ', L', ⟨r1, s2.trans r2, r3, s4.trans r4, fun e => ⟨r4.2.1 _ _ (eqL_link ea.end eb.end hne ea eb), fun P hP => ?_⟩, fun M a1 a2 a3 => ?_, fun h => r7 (vdir_set h hx hy fun e => absurd e hd), (sameA_set na1 _).trans r8⟩, ?_⟩
    ·exact invP_done ((r5 e).2 _ (invP_node hP ea.end eb.end hne)) hlab hx hy m1 m2 m3 fun i hi => (r5 e).1 i (Nat.zero_le _) hi
    ·have e1 : M ra = M rb := by rw [← resp_end a2 ea, ← resp_end a2 eb]; exact a3
     refine r6 M a1 (resp_set a2 e1) fun j _ hj => ?_
     rw [a1 ra x hx hd, a1 rb y hy hd2] at e1
     have e2 := (Tr.mk.inj e1).2.2
     have e3 := congrArg (fun l => l[j]?) e2
     simp only [List.getElem?_map] at e3
     have j2 : j < y.ks.length := by omega
     rw [List.getElem?_eq_getElem hj, List.getElem?_eq_getElem j2] at e3
     simp only [Option.map_some, Option.some.injEq] at e3
     simpa [List.getD, hj, j2] using e3
    ·have hlen' := s2.1
     rcases x with ⟨xd, xn, xa⟩
     rcases y with ⟨yd, yn, ya⟩
     simp only at m1 m2 m3 ga gb lax lay hrun na1 na2 nb1 nb2 t1 t2 s1 s2 hlen'
     subst m1; subst m2
     refine xacalls T0 .stay [] Tryz.func55 rfl (by kernel_rfl) (by kernel_rfl) (by simp [Tryz.ntmps55]) ?_
     (simp only [(vmA), Nat.reduceEqDiff, reduceIte, Nat.reduceAdd, Int.reduceToNat, Int.reduceLE, Int.reduceLT, Int.reduceEq, Int.reduceNe, Int.reduceAdd, Int.reduceSub, Int.reduceNeg, Nat.reduceLT, Nat.reduceLeDiff, Nat.reduceBEq, undef, (stA), Nat.reduceMul]; try simp (disch := omega) only [(vmp)])
     refine xWait.go (end_ok σ a ra ka ha) ?_
     (simp only [(vmA), Nat.reduceEqDiff, reduceIte, Nat.reduceAdd, Int.reduceToNat, Int.reduceLE, Int.reduceLT, Int.reduceEq, Int.reduceNe, Int.reduceAdd, Int.reduceSub, Int.reduceNeg, Nat.reduceLT, Nat.reduceLeDiff, Nat.reduceBEq, undef, (stA), Nat.reduceMul]; try simp (disch := omega) only [(vmp)])
     refine xWait.go (end_ok σ b rb kb hb) ?_
     (simp only [ga, gb, hne, t1, t2, (vmA), Nat.reduceEqDiff, reduceIte, Nat.reduceAdd, Int.reduceToNat, Int.reduceLE, Int.reduceLT, Int.reduceEq, Int.reduceNe, Int.reduceAdd, Int.reduceSub, Int.reduceNeg, Nat.reduceLT, Nat.reduceLeDiff, Nat.reduceBEq, undef, (stA), Nat.reduceMul]; try simp (disch := omega) only [(vmp)])
     refine ⟨⟨pa _, pb _⟩, ?_⟩
     refine ydraw T0 [] (by kernel_rfl) (by kernel_rfl) (by kernel_rfl) (by kernel_rfl) ?_
     rcases xa with _ | ⟨x0, xr⟩
     ·obtain rfl : ya = [] := List.length_eq_zero_iff.1 m3.symm
      have hz : ok = true ∧ τ' = σ.set ra (nodeE xd xn (argsR wa []) (.ref rb 0 0)) := by
       cases hrun with
       | done _ => exact ⟨rfl, rfl⟩
       | fail h1 _ _ => simp at h1
       | next h1 _ _ _ => simp at h1
      obtain ⟨rfl, rfl⟩ := hz
      have g0 : ∀ r, sget (σ.set ra (.arr 107 [.str xd, .str xn, nilS, .ref rb 0 0] 0 0)) r ra = some (.arr 107 [.str xd, .str xn, nilS, .ref rb 0 0] 0 0) := fun r => by
       unfold sget; rw [if_pos (by simpa using la), get_set_self na1]
      simp only [argsR] at ga gb
      (simp only [ga, gb, sGa, sLa, argsR, (vmA), Nat.reduceEqDiff, reduceIte, Nat.reduceAdd, Int.reduceToNat, Int.reduceLE, Int.reduceLT, Int.reduceEq, Int.reduceNe, Int.reduceAdd, Int.reduceSub, Int.reduceNeg, Nat.reduceLT, Nat.reduceLeDiff, Nat.reduceBEq, undef, (stA), Nat.reduceMul]; try simp (disch := omega) only [(vmp)])
      (simp only [g0, (vmA), Nat.reduceEqDiff, reduceIte, Nat.reduceAdd, Int.reduceToNat, Int.reduceLE, Int.reduceLT, Int.reduceEq, Int.reduceNe, Int.reduceAdd, Int.reduceSub, Int.reduceNeg, Nat.reduceLT, Nat.reduceLeDiff, Nat.reduceBEq, undef, (stA), Nat.reduceMul]; try simp (disch := omega) only [(vmp)])
      refine xloop (α := Nat) T0 (fun i => [(106, i64 0), (107, i64 0)]) (fun _ => σ.set ra (.arr 107 [.str xd, .str xn, nilS, .ref rb 0 0] 0 0)) (fun _ => []) (fun i => i = 0) (fun i => i) (by kernel_rfl) ⟨0, rfl, by (simp only [(vmA), Nat.reduceEqDiff, reduceIte, Nat.reduceAdd, Int.reduceToNat, Int.reduceLE, Int.reduceLT, Int.reduceEq, Int.reduceNe, Int.reduceAdd, Int.reduceSub, Int.reduceNeg, Nat.reduceLT, Nat.reduceLeDiff, Nat.reduceBEq, undef, (stA), Nat.reduceMul]; try simp (disch := omega) only [(vmp)]), rfl, rfl⟩ ?_
      rintro i hi
      (simp only [nodeE, argsR, (vmA), Nat.reduceEqDiff, reduceIte, Nat.reduceAdd, Int.reduceToNat, Int.reduceLE, Int.reduceLT, Int.reduceEq, Int.reduceNe, Int.reduceAdd, Int.reduceSub, Int.reduceNeg, Nat.reduceLT, Nat.reduceLeDiff, Nat.reduceBEq, undef, (stA), Nat.reduceMul]; try simp (disch := omega) only [(vmp)])
     ·rcases ya with _ | ⟨y0, yr⟩
      ·simp at m3
      simp only [List.length_cons] at m3 lax lay
      have m3' : yr.length = xr.length := by omega
      have m4 : ((yr.length + 1 : Nat) : Int) = ((xr.length + 1 : Nat) : Int) := by omega
      have g0 : ∀ r, sget (σ.set ra (.arr 107 [.str xd, .str xn, .rsl wa xr.length 0 (xr.length + 1) 1, .ref rb 0 0] 0 0)) r ra = some (.arr 107 [.str xd, .str xn, .rsl wa xr.length 0 (xr.length + 1) 1, .ref rb 0 0] 0 0) := fun r => by
       unfold sget; rw [if_pos (by simpa using la), get_set_self na1]
      simp only [argsR] at ga gb
      (simp only [ga, gb, sGa, sLa, argsR, m3', (vmA), Nat.reduceEqDiff, reduceIte, Nat.reduceAdd, Int.reduceToNat, Int.reduceLE, Int.reduceLT, Int.reduceEq, Int.reduceNe, Int.reduceAdd, Int.reduceSub, Int.reduceNeg, Nat.reduceLT, Nat.reduceLeDiff, Nat.reduceBEq, undef, (stA), Nat.reduceMul]; try simp (disch := omega) only [(vmp)])
      (simp only [g0, (vmA), Nat.reduceEqDiff, reduceIte, Nat.reduceAdd, Int.reduceToNat, Int.reduceLE, Int.reduceLT, Int.reduceEq, Int.reduceNe, Int.reduceAdd, Int.reduceSub, Int.reduceNeg, Nat.reduceLT, Nat.reduceLeDiff, Nat.reduceBEq, undef, (stA), Nat.reduceMul]; try simp (disch := omega) only [(vmp)])
      have hS0 : (Ent.arr 107 [.str xd, .str xn, .rsl wa xr.length 0 (xr.length + 1) 1, .ref rb 0 0] 0 0) = nodeE xd xn (argsR wa (x0 :: xr)) (.ref rb 0 0) := rfl
      rw [hS0]
      clear g0 sGa sLa sGb sLb ga gb pa pb
      refine xloop (α := Nat × List Ent × Lk) T0 (fun x => [(0, gv), (1, .ref ra 0 0), (2, .ref rb 0 0), (106, i64 (xr.length + 1 : Nat)), (107, i64 x.1)]) (fun x => x.2.1) (fun _ => [])
       (fun x => x.1 ≤ xr.length + 1 ∧ Run G gv (x0 :: xr) (y0 :: yr) x.1 x.2.1 x.2.2 ok τ' L' ∧ ReprG x.2.1 G x.2.2 ∧ x.2.2 ra = some rb) (fun x => xr.length + 1 - x.1) (by kernel_rfl)
       ⟨(0, _, setL L ra rb), ⟨by omega, hrun, s1, by simp [setL]⟩, by (simp only [(vmA), Nat.reduceEqDiff, reduceIte, Nat.reduceAdd, Int.reduceToNat, Int.reduceLE, Int.reduceLT, Int.reduceEq, Int.reduceNe, Int.reduceAdd, Int.reduceSub, Int.reduceNeg, Nat.reduceLT, Nat.reduceLeDiff, Nat.reduceBEq, undef, (stA), Nat.reduceMul, Int.natCast_zero]; try simp (disch := omega) only [(vmp)]), rfl, rfl⟩ ?_
      rintro ⟨i, τ, Li⟩ ⟨hi, hR, hrep, hlr⟩
      simp only at hi hR hrep hlr
      by_cases h : (i : Int) < (xr.length + 1 : Nat)
      ·have hi1 : i < (x0 :: xr).length := by simp only [List.length_cons]; omega
       have hi2 : i < (y0 :: yr).length := by simp only [List.length_cons]; omega
       obtain ⟨w1, e1, f1⟩ := hrep ra _ hx
       obtain ⟨w2, e2, f2⟩ := hrep rb _ hy
       simp only at e1 e2 f1 f2
       rw [hlr] at e1
       have f1 := f1 (by simp)
       have f2 := f2 (by simp)
       have gsa := sget_of e1 []
       have gsb := sget_of e2 []
       have gsw := sget_of f1 []
       have gsv := sget_of f2 []
       simp only [nodeE, argsR, linkR] at gsa gsb
       simp only [rowP, List.length_cons, Nat.add_sub_cancel] at gsw gsv
       have k1 : (refs (x0 :: xr))[i]? = some (.ref ((x0 :: xr).getD i 0) 0 0) := refs_get (by rw [List.getD_eq_getElem?_getD, List.getElem?_eq_getElem hi1]; rfl)
       have k2 : (refs (y0 :: yr))[i]? = some (.ref ((y0 :: yr).getD i 0) 0 0) := refs_get (by rw [List.getD_eq_getElem?_getD, List.getElem?_eq_getElem hi2]; rfl)
       have h2 : (i : Int) < (yr.length + 1 : Nat) := by omega
       cases hR with
       | done hd1 => omega
       | fail _ p1 p2 =>
        have p3 : ACalls E 55 [gv, .ref ((x0 :: xr).getD i 0) 0 0, .ref ((y0 :: yr).getD i 0) 0 0] (τ ++ []) fun r υ => r = boolV false ∧ υ = τ' ++ [] := by rw [List.append_nil, List.append_nil]; exact p2
        (simp only [h, (vmA), Nat.reduceEqDiff, reduceIte, Nat.reduceAdd, Int.reduceToNat, Int.reduceLE, Int.reduceLT, Int.reduceEq, Int.reduceNe, Int.reduceAdd, Int.reduceSub, Int.reduceNeg, Nat.reduceLT, Nat.reduceLeDiff, Nat.reduceBEq, undef, (stA), Nat.reduceMul]; try simp (disch := omega) only [(vmp)])
        refine ydraw T0 [15] (by kernel_rfl) (by kernel_rfl) (by kernel_rfl) (by kernel_rfl) ?_
        (simp only [h, h2, gsa, gsb, gsw, gsv, k1, k2, m3', (vmA), Nat.reduceEqDiff, reduceIte, Nat.reduceAdd, Int.reduceToNat, Int.reduceLE, Int.reduceLT, Int.reduceEq, Int.reduceNe, Int.reduceAdd, Int.reduceSub, Int.reduceNeg, Nat.reduceLT, Nat.reduceLeDiff, Nat.reduceBEq, undef, (stA), Nat.reduceMul]; try simp (disch := omega) only [(vmp)])
        refine yNext.bar (by rfl) _ rfl p3 p1.fr.1 ?_
        (simp only [(vmA), Nat.reduceEqDiff, reduceIte, Nat.reduceAdd, Int.reduceToNat, Int.reduceLE, Int.reduceLT, Int.reduceEq, Int.reduceNe, Int.reduceAdd, Int.reduceSub, Int.reduceNeg, Nat.reduceLT, Nat.reduceLeDiff, Nat.reduceBEq, undef, (stA), Nat.reduceMul]; try simp (disch := omega) only [(vmp)])
       | next _ p1 p2 p4 =>
        rename_i τ1 L1 hh
        have p3 : ACalls E 55 [gv, .ref ((x0 :: xr).getD i 0) 0 0, .ref ((y0 :: yr).getD i 0) 0 0] (τ ++ []) fun r υ => r = boolV true ∧ υ = τ1 ++ [] := by rw [List.append_nil, List.append_nil]; exact p2
        (simp only [h, (vmA), Nat.reduceEqDiff, reduceIte, Nat.reduceAdd, Int.reduceToNat, Int.reduceLE, Int.reduceLT, Int.reduceEq, Int.reduceNe, Int.reduceAdd, Int.reduceSub, Int.reduceNeg, Nat.reduceLT, Nat.reduceLeDiff, Nat.reduceBEq, undef, (stA), Nat.reduceMul]; try simp (disch := omega) only [(vmp)])
        refine ydraw T0 [15] (by kernel_rfl) (by kernel_rfl) (by kernel_rfl) (by kernel_rfl) ?_
        (simp only [h, h2, gsa, gsb, gsw, gsv, k1, k2, m3', (vmA), Nat.reduceEqDiff, reduceIte, Nat.reduceAdd, Int.reduceToNat, Int.reduceLE, Int.reduceLT, Int.reduceEq, Int.reduceNe, Int.reduceAdd, Int.reduceSub, Int.reduceNeg, Nat.reduceLT, Nat.reduceLeDiff, Nat.reduceBEq, undef, (stA), Nat.reduceMul]; try simp (disch := omega) only [(vmp)])
        refine yNext.bar (by rfl) _ rfl p3 p1.fr.1 ?_
        (simp only [(vmA), Nat.reduceEqDiff, reduceIte, Nat.reduceAdd, Int.reduceToNat, Int.reduceLE, Int.reduceLT, Int.reduceEq, Int.reduceNe, Int.reduceAdd, Int.reduceSub, Int.reduceNeg, Nat.reduceLT, Nat.reduceLeDiff, Nat.reduceBEq, undef, (stA), Nat.reduceMul]; try simp (disch := omega) only [(vmp)])
        exact ⟨(i + 1, τ1, L1), ⟨by simp only; omega, p4, p1.repr, p1.later.1 _ _ hlr⟩, by simp only; omega, rfl, rfl⟩
      ·have hie : i = xr.length + 1 := by omega
       subst hie
       have hz : ok = true ∧ τ' = τ := by
        cases hR with
        | done _ => exact ⟨rfl, rfl⟩
        | fail h1 _ _ => simp only [List.length_cons] at h1; omega
        | next h1 _ _ _ => simp only [List.length_cons] at h1; omega
       obtain ⟨rfl, rfl⟩ := hz
       (simp only [h, (vmA), Nat.reduceEqDiff, reduceIte, Nat.reduceAdd, Int.reduceToNat, Int.reduceLE, Int.reduceLT, Int.reduceEq, Int.reduceNe, Int.reduceAdd, Int.reduceSub, Int.reduceNeg, Nat.reduceLT, Nat.reduceLeDiff, Nat.reduceBEq, undef, (stA), Nat.reduceMul]; try simp (disch := omega) only [(vmp)])
   ·refine ⟨false, σ, L, ⟨hr, FrG.refl _ _, hl, Later.refl _, fun e => (by cases e), fun M a1 a2 a3 => ?_, fun h => h, SameA.refl _⟩, ?_⟩
    ·have e1 : M ra = M rb := by rw [← resp_end a2 ea, ← resp_end a2 eb]; exact a3
     rw [a1 ra x hx hd, a1 rb y hy hd2] at e1
     obtain ⟨e2, e3, e4⟩ := Tr.mk.inj e1
     exact absurd ⟨e2, e3, by have := congrArg List.length e4; simpa using this⟩ hmt
    ·refine xacalls T0 .stay [] Tryz.func55 rfl (by kernel_rfl) (by kernel_rfl) (by simp [Tryz.ntmps55]) ?_
     (simp only [(vmA), Nat.reduceEqDiff, reduceIte, Nat.reduceAdd, Int.reduceToNat, Int.reduceLE, Int.reduceLT, Int.reduceEq, Int.reduceNe, Int.reduceAdd, Int.reduceSub, Int.reduceNeg, Nat.reduceLT, Nat.reduceLeDiff, Nat.reduceBEq, undef, (stA), Nat.reduceMul]; try simp (disch := omega) only [(vmp)])
     refine xWait.go (end_ok σ a ra ka ha) ?_
     (simp only [(vmA), Nat.reduceEqDiff, reduceIte, Nat.reduceAdd, Int.reduceToNat, Int.reduceLE, Int.reduceLT, Int.reduceEq, Int.reduceNe, Int.reduceAdd, Int.reduceSub, Int.reduceNeg, Nat.reduceLT, Nat.reduceLeDiff, Nat.reduceBEq, undef, (stA), Nat.reduceMul]; try simp (disch := omega) only [(vmp)])
     refine xWait.go (end_ok σ b rb kb hb) ?_
     (simp only [ga, gb, sGa, sLa, hne, t1, t2, (vmA), Nat.reduceEqDiff, reduceIte, Nat.reduceAdd, Int.reduceToNat, Int.reduceLE, Int.reduceLT, Int.reduceEq, Int.reduceNe, Int.reduceAdd, Int.reduceSub, Int.reduceNeg, Nat.reduceLT, Nat.reduceLeDiff, Nat.reduceBEq, undef, (stA), Nat.reduceMul]; try simp (disch := omega) only [(vmp)])
     refine ⟨⟨pa _, pb _⟩, ?_⟩
     refine ydraw T0 [] (by kernel_rfl) (by kernel_rfl) (by kernel_rfl) (by kernel_rfl) ?_
     by_cases m1 : x.d = y.d
     ·by_cases m2 : x.n = y.n
      ·have m3 : ¬ x.ks.length = y.ks.length := fun e => hmt ⟨m1, m2, e⟩
       have m4 : ∀ w1 w2 : Nat, ∃ i j : Int, ¬ i = j ∧ i = x.ks.length ∧ j = y.ks.length := fun _ _ => ⟨_, _, by omega, rfl, rfl⟩
       rcases x with ⟨xd, xn, xa⟩
       rcases y with ⟨yd, yn, ya⟩
       simp only at m1 m2 m3 ga gb lax lay
       subst m1; subst m2
       rcases xa with _ | ⟨x0, xr⟩
       ·rcases ya with _ | ⟨y0, yr⟩
        ·exact absurd rfl m3
        ·simp only [List.length_cons, List.length_nil] at m3
         have m5 : ¬ (0 : Int) = ((yr.length + 1 : Nat) : Int) := by omega
         (simp only [ga, gb, argsR, List.length_cons, m5, (vmA), Nat.reduceEqDiff, reduceIte, Nat.reduceAdd, Int.reduceToNat, Int.reduceLE, Int.reduceLT, Int.reduceEq, Int.reduceNe, Int.reduceAdd, Int.reduceSub, Int.reduceNeg, Nat.reduceLT, Nat.reduceLeDiff, Nat.reduceBEq, undef, (stA), Nat.reduceMul]; try simp (disch := omega) only [(vmp)])
       ·rcases ya with _ | ⟨y0, yr⟩
        ·have m5 : ¬ ((xr.length + 1 : Nat) : Int) = 0 := by omega
         (simp only [ga, gb, argsR, List.length_cons, m5, (vmA), Nat.reduceEqDiff, reduceIte, Nat.reduceAdd, Int.reduceToNat, Int.reduceLE, Int.reduceLT, Int.reduceEq, Int.reduceNe, Int.reduceAdd, Int.reduceSub, Int.reduceNeg, Nat.reduceLT, Nat.reduceLeDiff, Nat.reduceBEq, undef, (stA), Nat.reduceMul]; try simp (disch := omega) only [(vmp)])
        ·simp only [List.length_cons] at m3
         have m5 : ¬ ((xr.length + 1 : Nat) : Int) = ((yr.length + 1 : Nat) : Int) := by omega
         (simp only [ga, gb, argsR, List.length_cons, m5, (vmA), Nat.reduceEqDiff, reduceIte, Nat.reduceAdd, Int.reduceToNat, Int.reduceLE, Int.reduceLT, Int.reduceEq, Int.reduceNe, Int.reduceAdd, Int.reduceSub, Int.reduceNeg, Nat.reduceLT, Nat.reduceLeDiff, Nat.reduceBEq, undef, (stA), Nat.reduceMul]; try simp (disch := omega) only [(vmp)])
      ·(simp only [ga, gb, m1, m2, (vmA), Nat.reduceEqDiff, reduceIte, Nat.reduceAdd, Int.reduceToNat, Int.reduceLE, Int.reduceLT, Int.reduceEq, Int.reduceNe, Int.reduceAdd, Int.reduceSub, Int.reduceNeg, Nat.reduceLT, Nat.reduceLeDiff, Nat.reduceBEq, undef, (stA), Nat.reduceMul]; try simp (disch := omega) only [(vmp)])
     ·(simp only [ga, gb, m1, (vmA), Nat.reduceEqDiff, reduceIte, Nat.reduceAdd, Int.reduceToNat, Int.reduceLE, Int.reduceLT, Int.reduceEq, Int.reduceNe, Int.reduceAdd, Int.reduceSub, Int.reduceNeg, Nat.reduceLT, Nat.reduceLeDiff, Nat.reduceBEq, undef, (stA), Nat.reduceMul]; try simp (disch := omega) only [(vmp)])
theorem gunify_ok (G : Gr) (Pl : List Nat) (gv : AV) (hcl : ClosedG G) (hPl : ∀ p x, G p = some x → p ∈ Pl) (hsm : ∀ p x, G p = some x → x.ks.length ≤ 2) : ∀ N, UOK G Pl gv N
 | 0 => fun _ _ _ _ h => by omega
 | N + 1 => unify_step G Pl gv hcl hPl hsm N (gunify_ok G Pl gv hcl hPl hsm N)
end Go.D
