/- A substitution applied; one behind another one. -/
import Derived.Test.YtoobkfjkohadnaaGreatDoorFnD
import Derived.Test.YtoobkfjkohadnaaGreatDoorFnC
import Derived.Test.YtoobkfjkohadnaaGreatDoorFnA
set_option linter.unusedVariables false
set_option linter.unusedSimpArgs false
set_option linter.unnecessarySimpa false
set_option maxRecDepth 100000
namespace Go.D
open Go Go.Vm Go.Proofs Go.RowKit
def appR (l : List Cl) (t : Tr) : Tr × Int := if substB l = true ∧ validT conB t = true then applyR l t else (.mk [] [] [], 40)
set_option maxHeartbeats 8000000 in
theorem Apply_ok (l : List Cl) (hl : lenC l) (t : Tr) (ht : lenT t) (σ : List Ent) :
  ACalls E 17 [.sl (clsV l), tyV t] σ fun r τ => r = .tup [tyV (appR l t).1, i64 (appR l t).2] ∧ τ = σ := by
 refine xacalls T0 .freeze [] Tryz.func17 rfl (by kernel_rfl) (by kernel_rfl) (by simp [Tryz.ntmps17]) ?_
 have c1 := fun σ' => isSubst_ok l hl σ'
 have c2 := fun σ' => ValidType_ok t ht σ'
 unfold appR
 cases h1 : substB l
 ·simp only [h1] at c1
  cases t with
  | mk d n us =>
  simp only [tyV] at c2
  (simp only [tyV, tysV, Bool.false_eq_true, false_and, if_false, (vmA), Nat.reduceEqDiff, reduceIte, Nat.reduceAdd, Int.reduceToNat, Int.reduceLE, Int.reduceLT, Int.reduceEq, Int.reduceNe, Int.reduceAdd, Int.reduceSub, Int.reduceNeg, Nat.reduceLT, Nat.reduceLeDiff, Nat.reduceBEq, undef, (stA), Nat.reduceMul]; try simp (disch := omega) only [(vmp)])
  refine xWait.go (c1 _) ?_
  (simp only [(vmA), Nat.reduceEqDiff, reduceIte, Nat.reduceAdd, Int.reduceToNat, Int.reduceLE, Int.reduceLT, Int.reduceEq, Int.reduceNe, Int.reduceAdd, Int.reduceSub, Int.reduceNeg, Nat.reduceLT, Nat.reduceLeDiff, Nat.reduceBEq, undef, (stA), Nat.reduceMul]; try simp (disch := omega) only [(vmp)])
  exact ⟨_, .tup (.cons (.agg (.cons (.refl _) (.cons (.refl _) (.cons .none .nil)))) (.cons (.refl _) .nil)), by simp only [AV.low, AV.low.lows, Bool.and_self], rfl⟩
 cases h2 : validT conB t
 ·simp only [h1, h2] at c1 c2
  cases t with
  | mk d n us =>
  simp only [tyV] at c2
  (simp only [tyV, tysV, Bool.false_eq_true, and_false, if_false, (vmA), Nat.reduceEqDiff, reduceIte, Nat.reduceAdd, Int.reduceToNat, Int.reduceLE, Int.reduceLT, Int.reduceEq, Int.reduceNe, Int.reduceAdd, Int.reduceSub, Int.reduceNeg, Nat.reduceLT, Nat.reduceLeDiff, Nat.reduceBEq, undef, (stA), Nat.reduceMul]; try simp (disch := omega) only [(vmp)])
  refine xWait.go (c1 _) ?_
  (simp only [(vmA), Nat.reduceEqDiff, reduceIte, Nat.reduceAdd, Int.reduceToNat, Int.reduceLE, Int.reduceLT, Int.reduceEq, Int.reduceNe, Int.reduceAdd, Int.reduceSub, Int.reduceNeg, Nat.reduceLT, Nat.reduceLeDiff, Nat.reduceBEq, undef, (stA), Nat.reduceMul]; try simp (disch := omega) only [(vmp)])
  refine xWait.go (c2 _) ?_
  (simp only [(vmA), Nat.reduceEqDiff, reduceIte, Nat.reduceAdd, Int.reduceToNat, Int.reduceLE, Int.reduceLT, Int.reduceEq, Int.reduceNe, Int.reduceAdd, Int.reduceSub, Int.reduceNeg, Nat.reduceLT, Nat.reduceLeDiff, Nat.reduceBEq, undef, (stA), Nat.reduceMul]; try simp (disch := omega) only [(vmp)])
  exact ⟨_, .tup (.cons (.agg (.cons (.refl _) (.cons (.refl _) (.cons .none .nil)))) (.cons (.refl _) .nil)), by simp only [AV.low, AV.low.lows, Bool.and_self], rfl⟩
 have c3 := fun σ' => apply_ok l (substB_few h1) (substB_dist h1) (substB_okV h1 hl) t ⟨ht, valid_typ h2⟩ σ'
 simp only [h1, h2] at c1 c2
 rw [if_pos ⟨rfl, rfl⟩]
 rcases hr : applyR l t with ⟨⟨a, b, cs⟩, z⟩
 simp only [hr] at c3
 cases t with
 | mk d n us =>
 simp only [tyV] at c2 c3
 (simp only [tyV, (vmA), Nat.reduceEqDiff, reduceIte, Nat.reduceAdd, Int.reduceToNat, Int.reduceLE, Int.reduceLT, Int.reduceEq, Int.reduceNe, Int.reduceAdd, Int.reduceSub, Int.reduceNeg, Nat.reduceLT, Nat.reduceLeDiff, Nat.reduceBEq, undef, (stA), Nat.reduceMul]; try simp (disch := omega) only [(vmp)])
 refine xWait.go (c1 _) ?_
 (simp only [(vmA), Nat.reduceEqDiff, reduceIte, Nat.reduceAdd, Int.reduceToNat, Int.reduceLE, Int.reduceLT, Int.reduceEq, Int.reduceNe, Int.reduceAdd, Int.reduceSub, Int.reduceNeg, Nat.reduceLT, Nat.reduceLeDiff, Nat.reduceBEq, undef, (stA), Nat.reduceMul]; try simp (disch := omega) only [(vmp)])
 refine xWait.go (c2 _) ?_
 (simp only [(vmA), Nat.reduceEqDiff, reduceIte, Nat.reduceAdd, Int.reduceToNat, Int.reduceLE, Int.reduceLT, Int.reduceEq, Int.reduceNe, Int.reduceAdd, Int.reduceSub, Int.reduceNeg, Nat.reduceLT, Nat.reduceLeDiff, Nat.reduceBEq, undef, (stA), Nat.reduceMul]; try simp (disch := omega) only [(vmp)])
 refine xWait.go (c3 _) ?_
 (simp only [(vmA), Nat.reduceEqDiff, reduceIte, Nat.reduceAdd, Int.reduceToNat, Int.reduceLE, Int.reduceLT, Int.reduceEq, Int.reduceNe, Int.reduceAdd, Int.reduceSub, Int.reduceNeg, Nat.reduceLT, Nat.reduceLeDiff, Nat.reduceBEq, undef, (stA), Nat.reduceMul]; try simp (disch := omega) only [(vmp)])
 exact ⟨_, .refl _, by simp only [AV.low, AV.low.lows, tysV_low, Bool.and_self], rfl⟩
end Go.D
namespace Go.D
open Go Go.Vm Go.Proofs Go.RowKit
theorem appR_cases (s : List Cl) (x : Tr) : (substB s = true ∧ validT conB x = true ∧ fitsB (ofT (putT s x)) = true ∧ appR s x = (putT s x, 0)) ∨ ∃ e, appR s x = (.mk [] [] [], e) ∧ ¬ e = 0 := by
 unfold appR applyR
 split
 ·rename_i h
  split
  ·rename_i h2
   exact .inl ⟨h.1, h.2, h2, rfl⟩
  ·exact .inr ⟨4, rfl, by decide⟩
 ·exact .inr ⟨40, rfl, by decide⟩
end Go.D
namespace Go.D
open Go Go.Vm Go.Proofs Go.RowKit
mutual
def bulkT : Tr → Nat
 | .mk d n us => d.length + n.length + 4 + bulkTs us
def bulkTs : List Tr → Nat
 | [] => 0
 | t :: ts => bulkT t + bulkTs ts
end
mutual
def cntT : Tr → Nat
 | .mk _ _ us => 1 + cntTs us
def cntTs : List Tr → Nat
 | [] => 0
 | t :: ts => cntT t + cntTs ts
end
mutual
def deepT : Tr → Nat
 | .mk _ _ us => 1 + deepTs us
def deepTs : List Tr → Nat
 | [] => 0
 | t :: ts => max (deepT t) (deepTs ts)
end
mutual
theorem cnt_pos : ∀ t, 1 ≤ cntT t
 | .mk _ _ us => by simp only [cntT]; omega
theorem deep_cnt : ∀ t, deepT t ≤ cntT t
 | .mk _ _ us => by simp only [deepT, cntT]; have := deep_cnts us; omega
theorem deep_cnts : ∀ l, deepTs l ≤ cntTs l
 | [] => by simp [deepTs]
 | t :: ts => by simp only [deepTs, cntTs]; have := deep_cnt t; have := deep_cnts ts; omega
end
mutual
theorem cnt_bulk : ∀ t, 4 * cntT t ≤ bulkT t
 | .mk _ _ us => by simp only [cntT, bulkT]; have := cnt_bulks us; omega
theorem cnt_bulks : ∀ l, 4 * cntTs l ≤ bulkTs l
 | [] => by simp [cntTs]
 | t :: ts => by simp only [cntTs, bulkTs]; have := cnt_bulk t; have := cnt_bulks ts; omega
end
theorem len_cnts : ∀ l, l.length ≤ cntTs l
 | [] => by simp
 | t :: ts => by simp only [cntTs, List.length_cons]; have := cnt_pos t; have := len_cnts ts; omega
mutual
theorem bulk_len : ∀ t, bulkT t ≤ 1048576 → lenT t
 | .mk d n us, h => by
  simp only [bulkT] at h
  have := len_cnts us
  have := cnt_bulks us
  simp only [lenT]
  exact ⟨by omega, by omega, bulk_lens us (by omega)⟩
theorem bulk_lens : ∀ l, bulkTs l ≤ 1048576 → lenTs l
 | [], _ => trivial
 | t :: ts, h => by
  simp only [bulkTs] at h
  exact ⟨bulk_len t (by omega), bulk_lens ts (by omega)⟩
end
def bulkC : List Cl → Nat
 | [] => 0
 | c :: r => c.1.length + bulkT c.2 + 2 + bulkC r
theorem bulkC_mem : ∀ {l : List Cl} {c : Cl}, c ∈ l → c.1.length + bulkT c.2 ≤ bulkC l
 | u :: us, c, h => by
  simp only [bulkC]
  rcases List.mem_cons.1 h with rfl | h
  ·omega
  ·have := bulkC_mem h; omega
theorem bulkC_length : ∀ l : List Cl, l.length ≤ bulkC l
 | [] => by simp
 | c :: r => by simp only [bulkC, List.length_cons]; have := bulkC_length r; omega
theorem bulkC_len {l : List Cl} (h : bulkC l ≤ 1048576) : lenC l := by
 have := bulkC_length l
 refine ⟨by omega, fun c hc => ?_⟩
 have := bulkC_mem hc
 exact ⟨by omega, bulk_len c.2 (by omega)⟩
end Go.D
namespace Go.D
open Go Go.Vm Go.Proofs Go.RowKit
def ascC (l : List Cl) : Prop := l.Pairwise fun a b => a.1 < b.1
end Go.D
namespace Go.D
open Go Go.Vm Go.Proofs Go.RowKit
theorem look_some_mem : ∀ {s : Sub'} {n : List UInt8} {x : Tr}, Sub'.look s n = some x → (n, x) ∈ s
 | [], n, x, h => by cases h
 | c :: r, n, x, h => by
  simp only [Sub'.look] at h
  by_cases e : n = c.1
  ·simp only [e, if_true, Option.some.injEq] at h; subst h; subst e; simp
  ·simp only [e, if_false] at h; exact List.mem_cons_of_mem _ (look_some_mem h)
theorem asc_look : ∀ {s : List Cl} {c : Cl}, ascC s → c ∈ s → Sub'.look s c.1 = some c.2
 | a :: r, c, h, hc => by
  obtain ⟨h1, h2⟩ := List.pairwise_cons.1 h
  rcases List.mem_cons.1 hc with rfl | hc
  ·simp [Sub'.look]
  ·have hne : ¬ c.1 = a.1 := fun e => lt_irr _ (e ▸ h1 c hc)
   simp only [Sub'.look, hne, if_false]; exact asc_look h2 hc
theorem look_self_of : ∀ {s : List Cl} {n : List UInt8}, n ∈ s.map (·.1) → (Sub'.look s n).isSome = true
 | c :: r, n, h => by
  simp only [Sub'.look]
  by_cases e : n = c.1
  ·simp [e]
  ·simp only [e, if_false]
   refine look_self_of ?_
   simp only [List.map_cons, List.mem_cons, e, false_or] at h; exact h
theorem clsOf_self {s : List Cl} (h : ascC s) : clsOf s (s.map (·.1)) = s := by
 unfold clsOf
 rw [List.map_map]
 conv => rhs; rw [← List.map_id s]
 refine List.map_congr_left fun c hc => ?_
 simp only [Function.comp, asc_look h hc, Option.getD_some, id]
theorem put_non {S : Sub'} {d n : List UInt8} {us : List Tr} (h : ¬ d = kiVar) : putT S (.mk d n us) = .mk d n (putTs S us) := by
 unfold putT; rw [if_neg (fun hh => h hh.1)]
mutual
theorem mat_sub : ∀ (g : Tr) (s S : Sub'), typeB conB g = true → (∀ n x, Sub'.look S n = some x → x = putT s (vT n)) → (matT g (putT s g) S).1 = true ∧ ∀ n x, Sub'.look (matT g (putT s g) S).2 n = some x → x = putT s (vT n)
 | .mk d n us, s, S, hg, hS => by
  by_cases hd : d = kiVar
  ·subst hd
   obtain ⟨rfl, _⟩ := vT_args hg
   show (matT (vT n) (putT s (vT n)) S).1 = true ∧ ∀ m x, Sub'.look (matT (vT n) (putT s (vT n)) S).2 m = some x → x = putT s (vT m)
   generalize hw : putT s (vT n) = w
   rcases w with ⟨d2, n2, us2⟩
   unfold vT matT
   simp only [if_true]
   cases hl : Sub'.look S n with
   | none =>
    simp only [look_app]
    refine ⟨trivial, fun m x hx => ?_⟩
    by_cases e : m = n
    ·subst e
     simp only [hl, if_true, Option.some.injEq] at hx
     rw [← hx]; exact hw.symm
    ·cases hl2 : Sub'.look S m with
     | none => simp only [hl2, e, if_false] at hx; cases hx
     | some y => simp only [hl2, Option.some.injEq] at hx; exact hx ▸ hS m y hl2
   | some x =>
    simp only
    refine ⟨?_, hS⟩
    have := hS n x hl
    rw [this]; show sameB (putT s (vT n)) _ = true
    rw [hw]; exact sameB_refl _
  ·rw [put_non hd]
   simp only [typeB, Bool.and_eq_true] at hg
   unfold matT
   rw [if_neg hd, if_pos ⟨rfl, rfl, by rw [putTs_map, List.length_map]⟩]
   exact mat_subs us s S hg.2.2.2.2 hS
theorem mat_subs : ∀ (g : List Tr) (s S : Sub'), typeBs conB g = true → (∀ n x, Sub'.look S n = some x → x = putT s (vT n)) → (matTs g (putTs s g) S).1 = true ∧ ∀ n x, Sub'.look (matTs g (putTs s g) S).2 n = some x → x = putT s (vT n)
 | [], s, S, _, hS => ⟨rfl, hS⟩
 | t :: ts, s, S, hg, hS => by
  simp only [typeBs, Bool.and_eq_true] at hg
  obtain ⟨h1, h2⟩ := mat_sub t s S hg.1 hS
  simp only [putTs, matTs, h1, if_true]
  exact mat_subs ts s _ hg.2 h2
end
theorem asc_subst {l : List Cl} (h : ascC l) (h2 : ∀ c ∈ l, varB c.1 = true ∧ validT conB c.2 = true) : substB l = true := by
 refine substB_of fun i hi => ?_
 unfold substAt
 rw [List.getElem?_eq_getElem hi]
 obtain ⟨v1, v2⟩ := h2 _ (List.getElem_mem hi)
 simp only
 unfold nextC
 rw [v1, v2]
 simp only [Bool.true_and]
 cases hp : (l.take i).getLast? with
 | none => rfl
 | some p =>
  simp only
  have hi0 : 0 < i := by
   rcases Nat.eq_zero_or_pos i with e | e
   ·subst e; simp at hp
   ·exact e
  have hp2 : l[i - 1]? = some p := by
   rw [List.getLast?_eq_getElem?, List.length_take, Nat.min_eq_left (by omega), List.getElem?_take] at hp
   rwa [if_pos (by omega)] at hp
  rw [less_lt, decide_eq_true_eq]
  obtain ⟨h3, h4⟩ := List.getElem?_eq_some_iff.1 hp2
  rw [← h4]
  exact List.pairwise_iff_getElem.1 h (i - 1) i h3 hi (by omega)
end Go.D
namespace Go.D
open Go Go.Vm Go.Proofs Go.RowKit
theorem ascC_ext {s t : List Cl} (hs : ascC s) (ht : ascC t) (h : ∀ n, Sub'.look s n = Sub'.look t n) : s = t := by
 have hk : s.map (·.1) = t.map (·.1) := by
  refine asc_ext _ _ (List.pairwise_map.2 hs) (List.pairwise_map.2 ht) fun x => ⟨fun hx => ?_, fun hx => ?_⟩
  ·have h5 := look_self_of hx
   rw [h] at h5
   obtain ⟨y, hy⟩ := Option.isSome_iff_exists.1 h5
   exact List.mem_map.2 ⟨_, look_some_mem hy, rfl⟩
  ·have h5 := look_self_of hx
   rw [← h] at h5
   obtain ⟨y, hy⟩ := Option.isSome_iff_exists.1 h5
   exact List.mem_map.2 ⟨_, look_some_mem hy, rfl⟩
 rw [← clsOf_self hs, ← clsOf_self ht, hk]
 unfold clsOf
 simp only [h]
theorem letA_lt {i j : Nat} (hi : i < 26) (hj : j < 26) (h : i < j) : letA i < letA j := by
 have h1 := letter_less hi hj
 rw [less_lt, decide_eq_true h] at h1
 exact of_decide_eq_true h1
end Go.D
namespace Go.D
open Go Go.Vm Go.Proofs Go.RowKit
mutual
inductive TypR (G : Gr) (L : Lk) : Nat → Tr → Prop
 | mk {p r : Nat} {x : AN} {ts : List Tr} : EndR L p r → G r = some x → TypRs G L x.ks ts → TypR G L p (.mk x.d x.n ts)
inductive TypRs (G : Gr) (L : Lk) : List Nat → List Tr → Prop
 | nil : TypRs G L [] []
 | cons {p : Nat} {ps : List Nat} {t : Tr} {ts : List Tr} : TypR G L p t → TypRs G L ps ts → TypRs G L (p :: ps) (t :: ts)
end
mutual
theorem typR_fn {G : Gr} {L : Lk} : ∀ (t u : Tr) (p : Nat), TypR G L p t → TypR G L p u → t = u
 | .mk d n ts, .mk d' n' us, p, h, k => by
  cases h with
  | mk h1 h2 h3 =>
   cases k with
   | mk k1 k2 k3 =>
    have := h1.fn k1
    subst this
    rw [h2] at k2
    cases k2
    rw [typRs_fn ts us _ h3 k3]
theorem typRs_fn {G : Gr} {L : Lk} : ∀ (ts us : List Tr) (ps : List Nat), TypRs G L ps ts → TypRs G L ps us → ts = us
 | [], [], _, _, _ => rfl
 | [], _ :: _, _, h, k => by cases h; cases k
 | _ :: _, [], _, h, k => by cases k; cases h
 | t :: ts, u :: us, _, h, k => by
  cases h with
  | cons h1 h2 =>
   cases k with
   | cons k1 k2 => rw [typR_fn t u _ h1 k1, typRs_fn ts us _ h2 k2]
end
theorem typR_eq {G : Gr} {L : Lk} {p q : Nat} {t : Tr} (h : EqL L p q) (ht : TypR G L p t) : TypR G L q t := by
 obtain ⟨r, h1, h2⟩ := h
 cases ht with
 | mk k1 k2 k3 =>
  have := h1.fn k1
  subst this
  exact .mk h2 k2 k3
theorem typRs_eq {G : Gr} {L : Lk} : ∀ {ps qs : List Nat} {ts : List Tr}, ps.length = qs.length → (∀ i, i < ps.length → EqL L (ps.getD i 0) (qs.getD i 0)) → TypRs G L ps ts → TypRs G L qs ts
 | [], [], _, _, _, .nil => .nil
 | p :: ps, q :: qs, _, hl, h, .cons h1 h2 => .cons (typR_eq (by simpa using h 0 (by simp)) h1) (typRs_eq (by simpa using hl) (fun i hi => by simpa using h (i + 1) (by simpa using hi)) h2)
theorem EqL.refl {L : Lk} (h : Ended L) (p : Nat) : EqL L p p := by
 obtain ⟨r, hr⟩ := h p
 exact ⟨r, hr, hr⟩
theorem inv_end {G : Gr} {L : Lk} (hE : Ended L) (h : InvL G L) {p r : Nat} (he : EndR L p r) : ∀ {x : AN}, G p = some x → ¬ x.d = kiVar →
  ∃ y, G r = some y ∧ y.d = x.d ∧ y.n = x.n ∧ x.ks.length = y.ks.length ∧ ∀ i, i < x.ks.length → EqL L (x.ks.getD i 0) (y.ks.getD i 0) := by
 induction he with
 | here _ => exact fun hx _ => ⟨_, hx, rfl, rfl, rfl, fun i _ => EqL.refl hE _⟩
 | on h1 _ ih =>
  intro x hx hd
  obtain ⟨x', y, e1, e2, e3⟩ := h _ _ h1
  rw [hx] at e1; cases e1
  rcases e3 with e3 | ⟨e3, e4, e5, e6⟩
  ·exact absurd e3 hd
  ·obtain ⟨z, f1, f2, f3, f4, f5⟩ := ih e2 (by rw [← e3]; exact hd)
   exact ⟨z, f1, by rw [f2, e3], by rw [f3, e4], by rw [e5, f4], fun i hi => (e6 i hi).trans (f5 i (by omega))⟩
abbrev Vs' := List UInt8 → Option Nat
mutual
inductive LaidG (G : Gr) (V : Vs') : Tr → Nat → Prop
 | var {n : List UInt8} {p : Nat} : V n = some p → LaidG G V (vT n) p
 | node {d n : List UInt8} {us : List Tr} {p : Nat} {qs0 : List Nat} : ¬ d = kiVar → G p = some ⟨d, n, qs0⟩ → LaidGs G V us qs0 → LaidG G V (.mk d n us) p
inductive LaidGs (G : Gr) (V : Vs') : List Tr → List Nat → Prop
 | nil : LaidGs G V [] []
 | cons {t : Tr} {ts : List Tr} {p : Nat} {ps : List Nat} : LaidG G V t p → LaidGs G V ts ps → LaidGs G V (t :: ts) (p :: ps)
end
end Go.D
namespace Go.D
open Go Go.Vm Go.Proofs Go.RowKit
def glook : List (Nat × AN) → Gr
 | [], _ => none
 | e :: r, p => if p = e.1 then some e.2 else glook r p
def vlook (es : List MEnt) : Vs' := fun n => match mget (.str n) es with
 | some (.ref p 0 0) => some p
 | _ => none
theorem glook_app : ∀ (a b : List (Nat × AN)) (p : Nat), glook (a ++ b) p = (glook a p).or (glook b p)
 | [], b, p => by simp [glook]
 | e :: r, b, p => by
  simp only [List.cons_append, glook]
  split
  ·rfl
  ·exact glook_app r b p
theorem glook_old {a : List (Nat × AN)} (b : List (Nat × AN)) {p : Nat} {x : AN} (h : glook a p = some x) : glook (a ++ b) p = some x := by rw [glook_app, h]; rfl
theorem okT_re {d n : List UInt8} {us : List Tr} (h : okT (.mk d n us)) {ts : List Tr} (hl : ts.length = us.length) (ht : ∀ u ∈ ts, okT u) : okT (.mk d n ts) := by
 obtain ⟨h1, h2⟩ := h
 have b1 : lenTs ts := by
  clear hl
  induction ts with
  | nil => simp [lenTs]
  | cons a r ih => exact ⟨(ht a (by simp)).1, ih fun u hu => ht u (by simp [hu])⟩
 have b2 : typeBs conB ts = true := by
  clear hl b1
  induction ts with
  | nil => rfl
  | cons a r ih => simp only [typeBs, (ht a (by simp)).2, ih fun u hu => ht u (by simp [hu]), Bool.and_self]
 refine ⟨?_, ?_⟩
 ·simp only [lenT] at h1 ⊢
  rw [hl]
  exact ⟨h1.1, h1.2.1, b1⟩
 ·simp only [typeB, hl, b2] at h2 ⊢
  simp only [Bool.and_eq_true] at h2 ⊢
  exact ⟨h2.1, h2.2.1, h2.2.2.1, h2.2.2.2.1, trivial⟩
def NodeX (X : Nat → Prop) (S : List Ent) (p : Nat) (x : AN) (k : Option Nat) : Prop := ¬ X p ∧ ∃ w, S[p]? = some (nodeE x.d x.n (argsR w x.ks) (linkR k)) ∧ (x.ks ≠ [] → ¬ X w ∧ S[w]? = some (rowP (refs x.ks) (x.ks.length - 1)))
theorem NodeX.lt {X : Nat → Prop} {S : List Ent} {p : Nat} {x : AN} {k : Option Nat} (h : NodeX X S p x k) : p < S.length := by
 obtain ⟨_, w, h1, _⟩ := h
 exact lt_of_get h1
theorem NodeX.at {X : Nat → Prop} {S : List Ent} {p : Nat} {x : AN} {k : Option Nat} (h : NodeX X S p x k) : NodeAt S p x k := by
 obtain ⟨_, w, h1, h2⟩ := h
 exact ⟨w, h1, fun hne => (h2 hne).2⟩
structure GOK (X : Nat → Prop) (L : Lk) (gid v z : Nat) (S : List Ent) (es : List MEnt) (clock : Nat) (Ps : List (Nat × AN)) : Prop where
 hg : S[gid]? = some (graE v z)
 hv : S[v]? = some (.map es clock)
 xg : ¬ X gid
 xv : ¬ X v
 keys : ∀ e ∈ es, ∃ n p, e.1 = .str n ∧ e.2.1 = .ref p 0 0
 nodes : ∀ p x, glook Ps p = some x → NodeX X S p x (L p)
 closed : ∀ p x, glook Ps p = some x → ∀ q ∈ x.ks, ∃ y, glook Ps q = some y
 small : ∀ p x, glook Ps p = some x → x.ks.length ≤ 2
 vin : ∀ n p, vlook es n = some p → glook Ps p = some ⟨kiVar, n, []⟩
 vout : ∀ p x, glook Ps p = some x → x.d = kiVar → x.ks = [] ∧ vlook es x.n = some p
 nodup : (es.map fun (e : MEnt) => e.1).Nodup
 clk : clock = es.length ∧ ∀ (i : Nat) (e : MEnt), es[i]? = some e → e.2.2 = i
 nm : ∀ p x, glook Ps p = some x → ∀ ts : List Tr, ts.length = x.ks.length → (∀ u ∈ ts, okT u) → okT (.mk x.d x.n ts)
 lk : LinkOK (glook Ps) L
 lay : ∀ p x, glook Ps p = some x → ∃ t, LaidG (glook Ps) (vlook es) t p
theorem NodeX.push {X : Nat → Prop} {S : List Ent} {p : Nat} {x : AN} {k : Option Nat} (h : NodeX X S p x k) (l : List Ent) {X' : Nat → Prop} (hX : ∀ q, q < S.length → X' q → X q) : NodeX X' (S ++ l) p x k := by
 have hlt := h.lt
 obtain ⟨h0, w, h1, h2⟩ := h
 refine ⟨fun e => h0 (hX _ hlt e), w, get_olds h1 l, fun hne => ?_⟩
 obtain ⟨h3, h4⟩ := h2 hne
 exact ⟨fun e => h3 (hX _ (lt_of_get h4) e), get_olds h4 l⟩
theorem NodeX.setMap {X : Nat → Prop} {S : List Ent} {p v c : Nat} {x : AN} {k : Option Nat} {es : List MEnt} (h : NodeX X S p x k) (hv : S[v]? = some (.map es c)) (e : Ent) : NodeX X (S.set v e) p x k := by
 obtain ⟨h0, w, h1, h2⟩ := h
 refine ⟨h0, w, ?_, fun hne => ?_⟩
 ·have : v ≠ p := fun e => by rw [e, h1] at hv; cases hv
  rw [get_set_ne this]; exact h1
 ·obtain ⟨h3, h4⟩ := h2 hne
  have : v ≠ w := fun e => by rw [e, h4] at hv; cases hv
  exact ⟨h3, by rw [get_set_ne this]; exact h4⟩
theorem NodeX.setX {X : Nat → Prop} {S : List Ent} {p q : Nat} {x : AN} {k : Option Nat} (h : NodeX X S p x k) (hq : X q) (e : Ent) : NodeX X (S.set q e) p x k := by
 obtain ⟨h0, w, h1, h2⟩ := h
 refine ⟨h0, w, ?_, fun hne => ?_⟩
 ·have : q ≠ p := fun e => h0 (e ▸ hq)
  rw [get_set_ne this]; exact h1
 ·obtain ⟨h3, h4⟩ := h2 hne
  have : q ≠ w := fun e => h3 (e ▸ hq)
  exact ⟨h3, by rw [get_set_ne this]; exact h4⟩
theorem GOK.push {X : Nat → Prop} {L : Lk} {gid v z : Nat} {S : List Ent} {es : List MEnt} {clock : Nat} {Ps : List (Nat × AN)} (h : GOK X L gid v z S es clock Ps) (l : List Ent) {X' : Nat → Prop} (hX : ∀ q, q < S.length → X' q → X q) : GOK X' L gid v z (S ++ l) es clock Ps :=
 ⟨get_olds h.hg l, get_olds h.hv l, fun e => h.xg (hX _ (lt_of_get h.hg) e), fun e => h.xv (hX _ (lt_of_get h.hv) e), h.keys, fun p x hp => (h.nodes p x hp).push l hX, h.closed, h.small, h.vin, h.vout, h.nodup, h.clk, h.nm, h.lk, h.lay⟩
theorem GOK.setX {X : Nat → Prop} {L : Lk} {gid v z : Nat} {S : List Ent} {es : List MEnt} {clock : Nat} {Ps : List (Nat × AN)} (h : GOK X L gid v z S es clock Ps) {q : Nat} (hq : X q) (e : Ent) : GOK X L gid v z (S.set q e) es clock Ps :=
 ⟨(get_set_ne (show q ≠ gid from fun hh => h.xg (hh ▸ hq))).trans h.hg, (get_set_ne (show q ≠ v from fun hh => h.xv (hh ▸ hq))).trans h.hv, h.xg, h.xv, h.keys, fun p x hp => (h.nodes p x hp).setX hq e, h.closed, h.small, h.vin, h.vout, h.nodup, h.clk, h.nm, h.lk, h.lay⟩
theorem GOK.lessX {X X' : Nat → Prop} {L : Lk} {gid v z : Nat} {S : List Ent} {es : List MEnt} {clock : Nat} {Ps : List (Nat × AN)} (h : GOK X L gid v z S es clock Ps) (hX : ∀ q, X' q → X q) : GOK X' L gid v z S es clock Ps := by
 have := h.push [] (X' := X') fun q _ => hX q
 rwa [List.append_nil] at this
mutual
theorem laid_mono {G G' : Gr} {V V' : Vs'} (hG : ∀ p x, G p = some x → G' p = some x) (hV : ∀ n p, V n = some p → V' n = some p) : ∀ (t : Tr) (p : Nat), LaidG G V t p → LaidG G' V' t p
 | _, _, .var h => .var (hV _ _ h)
 | .mk d n us, p, .node h1 h2 h3 => .node h1 (hG _ _ h2) (laids_mono hG hV us _ h3)
theorem laids_mono {G G' : Gr} {V V' : Vs'} (hG : ∀ p x, G p = some x → G' p = some x) (hV : ∀ n p, V n = some p → V' n = some p) : ∀ (l : List Tr) (ps : List Nat), LaidGs G V l ps → LaidGs G' V' l ps
 | _, _, .nil => .nil
 | _, _, .cons (t := t) (ts := ts) h1 h2 => .cons (laid_mono hG hV t _ h1) (laids_mono hG hV ts _ h2)
end
def NodeC (gid v z : Nat) (t : Tr) : Prop := ∀ (X : Nat → Prop) (L : Lk) (S : List Ent) (es : List MEnt) (clock : Nat) (Ps : List (Nat × AN)), (∀ q, X q → q < S.length) → GOK X L gid v z S es clock Ps →
 ∃ p es' clock' N Qs, GOK X L gid v z (S.set v (.map es' clock') ++ N) es' clock' (Ps ++ Qs) ∧ LaidG (glook (Ps ++ Qs)) (vlook es') t p ∧ (∀ n q, vlook es n = some q → vlook es' n = some q) ∧ (∃ x, glook (Ps ++ Qs) p = some x) ∧
  ACalls E 56 [.ref gid 0 0, tyV t] S fun r τ => r = .ref p 0 0 ∧ τ = S.set v (.map es' clock') ++ N
end Go.D
namespace Go.D
open Go Go.Vm Go.Proofs Go.RowKit
theorem mget_mput (n m : List UInt8) (x : AV) (c : Nat) : ∀ es : List MEnt, (∀ e ∈ es, ∃ k p, e.1 = .str k ∧ e.2.1 = .ref p 0 0) → mget (.str m) (mput (.str n) x c es) = if m = n then some x else mget (.str m) es
 | [], _ => by
  by_cases h : m = n
  ·subst h; simp [mput, mget, keq]
  ·simp [mput, mget, keq, h]
 | e :: r, hk => by
  obtain ⟨k, p, h1, h2⟩ := hk e (by simp)
  have ih := mget_mput n m x c r fun e he => hk e (by simp [he])
  obtain ⟨e1, e2, e3⟩ := e
  simp only at h1 h2
  subst h1; subst h2
  simp only [mput, keq]
  by_cases h : n = k
  ·subst h
   simp only [decide_true, if_true, mget, keq, decide_eq_true_eq]
   by_cases hm : m = n
   ·simp only [hm, if_true]
   ·simp only [hm, if_false]
  ·simp only [h, decide_false, Bool.false_eq_true, if_false, mget, keq, decide_eq_true_eq, ih]
   by_cases hm : m = n
   ·have : ¬ m = k := fun e => h (hm.symm.trans e)
    simp only [hm, if_true]
    rw [if_neg (by rw [← hm]; exact this)]
   ·simp only [hm, if_false]
theorem mput_keys (n : List UInt8) (p c : Nat) : ∀ es : List MEnt, (∀ e ∈ es, ∃ k p, e.1 = .str k ∧ e.2.1 = .ref p 0 0) → ∀ e ∈ mput (.str n) (.ref p 0 0) c es, ∃ k p, e.1 = .str k ∧ e.2.1 = .ref p 0 0
 | [], _, e, he => by
  simp only [mput, List.mem_singleton] at he
  subst he; exact ⟨n, p, rfl, rfl⟩
 | a :: r, hk, e, he => by
  unfold mput at he
  split at he
  ·rcases List.mem_cons.1 he with rfl | he
   ·exact ⟨n, p, rfl, rfl⟩
   ·exact hk e (by simp [he])
  ·rcases List.mem_cons.1 he with rfl | he
   ·exact hk _ (by simp)
   ·exact mput_keys n p c r (fun e he => hk e (by simp [he])) e he
theorem mget_snone {n : List UInt8} : ∀ {es : List MEnt}, mget (.str n) es = none → ∀ e ∈ es, ¬ e.1 = .str n
 | e :: r, h, e', he, hh => by
  unfold mget at h
  split at h
  ·cases h
  ·rename_i hk
   rcases List.mem_cons.1 he with rfl | he
   ·rw [hh] at hk; simp [keq] at hk
   ·exact mget_snone h e' he hh
theorem mput_snew {n : List UInt8} {x : AV} {c : Nat} : ∀ {es : List MEnt}, (∀ e ∈ es, ∃ k p, e.1 = .str k ∧ e.2.1 = .ref p 0 0) → mget (.str n) es = none → mput (.str n) x c es = es ++ [(.str n, x, c)]
 | [], _, _ => rfl
 | e :: r, hk, h => by
  unfold mget at h
  split at h
  ·cases h
  ·rename_i hk'
   unfold mput
   rw [if_neg hk', mput_snew (fun e he => hk e (by simp [he])) h]; rfl
theorem keys_str {es : List MEnt} (h : ∀ e ∈ es, ∃ n p, e.1 = .str n ∧ e.2.1 = .ref p 0 0) : strK es := fun e he => by
 obtain ⟨n, _, h1, _⟩ := h e he
 exact ⟨n, h1⟩
theorem mget_in {k : AV} {x : AV} : ∀ {es : List MEnt}, mget k es = some x → ∃ e ∈ es, e.2.1 = x
 | e :: r, h => by
  unfold mget at h
  split at h
  ·cases h; exact ⟨e, by simp, rfl⟩
  ·obtain ⟨e', h1, h2⟩ := mget_in h
   exact ⟨e', by simp [h1], h2⟩
theorem vlook_none {es : List MEnt} (h : ∀ e ∈ es, ∃ n p, e.1 = .str n ∧ e.2.1 = .ref p 0 0) {n : List UInt8} (hv : vlook es n = none) : mget (.str n) es = none := by
 unfold vlook at hv
 cases hm : mget (.str n) es with
 | none => rfl
 | some x =>
  obtain ⟨e, he, h2⟩ := mget_in hm
  obtain ⟨_, p, _, h3⟩ := h e he
  rw [hm, ← h2, h3] at hv
  cases hv
theorem vlook_some {es : List MEnt} {n : List UInt8} {p : Nat} (hv : vlook es n = some p) : mget (.str n) es = some (.ref p 0 0) := by
 unfold vlook at hv
 split at hv
 ·rename_i q hq; rw [hq]; cases hv; rfl
 ·cases hv
set_option maxHeartbeats 8000000 in
theorem node_var (gid v z : Nat) (n : List UInt8) (hok : okT (vT n)) : NodeC gid v z (vT n) := by
 intro X L S es clock Ps hX h
 have gg := sget_of h.hg
 have gv := sget_of h.hv
 simp only [graE] at gg
 have hks := keys_str h.keys
 cases hv : vlook es n with
 | some p =>
  have hp := h.vin n p hv
  have hlt := (h.nodes p _ hp).lt
  have hn := vlook_some hv
  refine ⟨p, es, clock, [], [], ?_, .var hv, fun _ _ h => h, ⟨_, glook_old [] hp⟩, ?_⟩
  ·rw [list_set_self h.hv, List.append_nil, List.append_nil]; exact h
  ·rw [list_set_self h.hv, List.append_nil]
   refine xacalls T0 .drop [] Tryz.func56 rfl (by kernel_rfl) (by kernel_rfl) (by simp [Tryz.ntmps56]) ?_
   (simp only [vT, tyV, tysV, kiVar, (vmA), Nat.reduceEqDiff, reduceIte, Nat.reduceAdd, Int.reduceToNat, Int.reduceLE, Int.reduceLT, Int.reduceEq, Int.reduceNe, Int.reduceAdd, Int.reduceSub, Int.reduceNeg, Nat.reduceLT, Nat.reduceLeDiff, Nat.reduceBEq, undef, (stA), Nat.reduceMul]; try simp (disch := omega) only [(vmp)])
   refine ydraw T0 [] (by kernel_rfl) (by kernel_rfl) (by kernel_rfl) (by kernel_rfl) ?_
   (simp only [gg, gv, hn, Option.isSome_some, if_true, (vmA), Nat.reduceEqDiff, reduceIte, Nat.reduceAdd, Int.reduceToNat, Int.reduceLE, Int.reduceLT, Int.reduceEq, Int.reduceNe, Int.reduceAdd, Int.reduceSub, Int.reduceNeg, Nat.reduceLT, Nat.reduceLeDiff, Nat.reduceBEq, undef, (stA), Nat.reduceMul]; try simp (disch := omega) only [(vmp)])
   refine ⟨⟨rfl, strK_ok hks _ _ _⟩, ?_⟩
   exact decide_eq_true hlt
 | none =>
  have hn := vlook_none h.keys hv
  have sG0 : ∀ e, ssetG S v e = S.set v e := fun e => by unfold ssetG; rw [if_pos (lt_of_get h.hv)]
  have sL0 : ∀ e l, ssetL S l v e = l := fun e l => by unfold ssetL; rw [if_pos (lt_of_get h.hv)]
  have hln : ∀ e, (S.set v e).length = S.length := fun e => by simp
  have hgl : glook Ps (S.length + 1) = none := by
   cases hq : glook Ps (S.length + 1) with
   | none => rfl
   | some x => have := (h.nodes _ x hq).lt; omega
  have hLn : L (S.length + 1) = none := by
   cases hq : L (S.length + 1) with
   | none => rfl
   | some q => obtain ⟨x, hx⟩ := (h.lk _ _ hq).1; rw [hgl] at hx; cases hx
  have hvl : ∀ m, vlook (mput (.str n) (.ref (S.length + 1) 0 0) clock es) m = if m = n then some (S.length + 1) else vlook es m := fun m => by
   unfold vlook
   rw [mget_mput n m _ clock es h.keys]
   by_cases e : m = n
   ·rw [if_pos e, if_pos e]; rfl
   ·rw [if_neg e, if_neg e]
  have hgl2 : ∀ p, glook (Ps ++ [(S.length + 1, ⟨kiVar, n, []⟩)]) p = if p = S.length + 1 then some ⟨kiVar, n, []⟩ else glook Ps p := fun p => by
   rw [glook_app]
   by_cases e : p = S.length + 1
   ·subst e; rw [hgl]; simp [glook]
   ·simp [glook, e]
  refine ⟨S.length + 1, mput (.str n) (.ref (S.length + 1) 0 0) clock es, clock + 1, [tyE kiVar n (.sl []), nodeE kiVar n nilS nilP], [(S.length + 1, ⟨kiVar, n, []⟩)], ?_, .var (by rw [hvl, if_pos rfl]), fun m q hq => ?_, ⟨_, by rw [hgl2, if_pos rfl]⟩, ?_⟩
  ·refine ⟨?_, ?_, h.xg, h.xv, mput_keys n _ clock es h.keys, fun p x hp => ?_, fun p x hp q hq => ?_, fun p x hp => ?_, fun m p hm => ?_, fun p x hp hd => ?_, ?_, ?_, fun p x hp ts hl ht => ?_, fun p q hp => ⟨(h.lk p q hp).1.imp fun _ => glook_old _, (h.lk p q hp).2.imp fun _ => glook_old _⟩, fun p x hp => ?_⟩
   ·have hne : v ≠ gid := fun e => by have := h.hg; rw [← e, h.hv] at this; cases this
    exact get_olds (by rw [get_set_ne hne]; exact h.hg) _
   ·exact get_olds (get_set_self h.hv) _
   ·rw [hgl2] at hp
    split at hp
    ·rename_i e
     cases hp
     refine ⟨fun hx => by have := hX _ hx; omega, 0, ?_, fun hne => absurd rfl hne⟩
     rw [e, List.getElem?_append_right (by rw [hln]; omega), hln, Nat.add_sub_cancel_left, hLn]; rfl
    ·exact ((h.nodes p x hp).setMap h.hv _).push _ fun _ _ h => h
   ·rw [hgl2] at hp
    split at hp
    ·cases hp; cases hq
    ·obtain ⟨y, hy⟩ := h.closed p x hp q hq
     exact ⟨y, glook_old _ hy⟩
   ·rw [hgl2] at hp
    split at hp
    ·cases hp; simp
    ·exact h.small p x hp
   ·rw [hvl] at hm
    rw [hgl2]
    split at hm
    ·rename_i e; cases hm; rw [if_pos rfl, e]
    ·have := h.vin m p hm
     rw [if_neg (fun e => by rw [e, hgl] at this; cases this)]; exact this
   ·rw [hgl2] at hp
    rw [hvl]
    split at hp
    ·rename_i e; cases hp; simp only [if_true]; exact ⟨trivial, by rw [e]⟩
    ·obtain ⟨h1, h2⟩ := h.vout p x hp hd
     refine ⟨h1, ?_⟩
     rw [if_neg (fun e => by rw [e, hv] at h2; cases h2)]; exact h2
   ·rw [mput_snew h.keys hn, List.map_append]
    refine List.nodup_append.2 ⟨h.nodup, by simp, fun a ha b hb => ?_⟩
    simp only [List.map_cons, List.map_nil, List.mem_singleton] at hb
    obtain ⟨e, he, rfl⟩ := List.mem_map.1 ha
    rw [hb]
    exact fun e' => mget_snone hn e he e'
   ·rw [mput_snew h.keys hn]
    refine ⟨by rw [List.length_append, h.clk.1]; rfl, fun i e he => ?_⟩
    rw [List.getElem?_append] at he
    split at he
    ·exact h.clk.2 i e he
    ·rename_i hi
     have hi2 : i - es.length = 0 := by
      have := (List.getElem?_eq_some_iff.1 he).1
      simp at this; omega
     rw [hi2] at he
     simp at he
     rw [← he, h.clk.1]; simp only; omega
   ·rw [hgl2] at hp
    split at hp
    ·cases hp; exact okT_re hok hl ht
    ·exact h.nm p x hp ts hl ht
   ·rw [hgl2] at hp
    split at hp
    ·rename_i e; exact ⟨vT n, .var (by rw [hvl, if_pos rfl, e])⟩
    ·obtain ⟨t, ht⟩ := h.lay p x hp
     exact ⟨t, laid_mono (fun _ _ hp => glook_old _ hp) (fun m q hq => by rw [hvl, if_neg (fun e => by rw [e, hv] at hq; cases hq)]; exact hq) t p ht⟩
  ·rw [hvl, if_neg (fun e => by rw [e, hv] at hq; cases hq)]; exact hq
  ·refine xacalls T0 .stay [] Tryz.func56 rfl (by kernel_rfl) (by kernel_rfl) (by simp [Tryz.ntmps56]) ?_
   (simp only [vT, tyV, tysV, kiVar, (vmA), Nat.reduceEqDiff, reduceIte, Nat.reduceAdd, Int.reduceToNat, Int.reduceLE, Int.reduceLT, Int.reduceEq, Int.reduceNe, Int.reduceAdd, Int.reduceSub, Int.reduceNeg, Nat.reduceLT, Nat.reduceLeDiff, Nat.reduceBEq, undef, (stA), Nat.reduceMul]; try simp (disch := omega) only [(vmp)])
   refine ydraw T0 [] (by kernel_rfl) (by kernel_rfl) (by kernel_rfl) (by kernel_rfl) ?_
   (simp only [gg, gv, hn, sG0, sL0, (vmA), Nat.reduceEqDiff, reduceIte, Nat.reduceAdd, Int.reduceToNat, Int.reduceLE, Int.reduceLT, Int.reduceEq, Int.reduceNe, Int.reduceAdd, Int.reduceSub, Int.reduceNeg, Nat.reduceLT, Nat.reduceLeDiff, Nat.reduceBEq, undef, (stA), Nat.reduceMul]; try simp (disch := omega) only [(vmp)])
   refine ⟨⟨rfl, strK_ok hks _ _ _⟩, ?_⟩
   refine ydraw T0 [7] (by kernel_rfl) (by kernel_rfl) (by kernel_rfl) (by kernel_rfl) ?_
   (simp only [gg, gv, hn, sG0, sL0, Option.isSome_none, Bool.false_eq_true, if_false, (vmA), Nat.reduceEqDiff, reduceIte, Nat.reduceAdd, Int.reduceToNat, Int.reduceLE, Int.reduceLT, Int.reduceEq, Int.reduceNe, Int.reduceAdd, Int.reduceSub, Int.reduceNeg, Nat.reduceLT, Nat.reduceLeDiff, Nat.reduceBEq, undef, (stA), Nat.reduceMul]; try simp (disch := omega) only [(vmp)])
   refine ⟨⟨rfl, strK_ok hks _ _ _⟩, hln _, ?_⟩
   have hGl := hln (.map (mput (.str n) (.ref (S.length + 1) 0 0) clock es) (clock + 1))
   generalize S.set v (.map (mput (.str n) (.ref (S.length + 1) 0 0) clock es) (clock + 1)) = G at *
   rw [← hGl]
   (simp only [(vmA), Nat.reduceEqDiff, reduceIte, Nat.reduceAdd, Int.reduceToNat, Int.reduceLE, Int.reduceLT, Int.reduceEq, Int.reduceNe, Int.reduceAdd, Int.reduceSub, Int.reduceNeg, Nat.reduceLT, Nat.reduceLeDiff, Nat.reduceBEq, undef, (stA), Nat.reduceMul]; try simp (disch := omega) only [(vmp)])
   refine xloop (α := Nat) T0 (fun i => [(7, .ref (G.length + 1) 0 0), (45, i64 0), (46, i64 0)]) (fun _ => G) (fun _ => [tyE kiVar n (.sl []), nodeE kiVar n nilS nilP]) (fun i => i = 0) (fun i => i) (by kernel_rfl)
    ⟨0, rfl, by (simp only [(vmA), Nat.reduceEqDiff, reduceIte, Nat.reduceAdd, Int.reduceToNat, Int.reduceLE, Int.reduceLT, Int.reduceEq, Int.reduceNe, Int.reduceAdd, Int.reduceSub, Int.reduceNeg, Nat.reduceLT, Nat.reduceLeDiff, Nat.reduceBEq, undef, (stA), Nat.reduceMul]; try simp (disch := omega) only [(vmp)]), rfl, rfl⟩ ?_
   rintro i hi
   (simp only [(vmA), Nat.reduceEqDiff, reduceIte, Nat.reduceAdd, Int.reduceToNat, Int.reduceLE, Int.reduceLT, Int.reduceEq, Int.reduceNe, Int.reduceAdd, Int.reduceSub, Int.reduceNeg, Nat.reduceLT, Nat.reduceLeDiff, Nat.reduceBEq, undef, (stA), Nat.reduceMul]; try simp (disch := omega) only [(vmp)])
end Go.D
namespace Go.D
open Go Go.Vm Go.Proofs Go.RowKit
def boxT (u : Tr) : Ent := .arr 24 (tyCells u) 0 0
def ownN (d n : List UInt8) (us : List Tr) (m w : Nat) (qs : List Nat) (J : List Ent) : List Ent :=
 boxT (.mk d n us) :: nodeE d n (argsR (m + (w + 2)) qs) nilP :: J
def stepJ (J : List Ent) (w : Nat) (qs : List Nat) (p : Nat) : List Ent := if qs = [] then J ++ [rowP [.ref p 0 0] 0] else J.set w (rowP (refs (qs ++ [p])) qs.length)
def stepW (J : List Ent) (w : Nat) (qs : List Nat) : Nat := if qs = [] then J.length else w
inductive NRun (gid : Nat) (d n : List UInt8) (us : List Tr) (m : Nat) : List Tr → List Ent → List Ent → Nat → List Nat → List Ent → List Ent → Nat → List Nat → Prop
 | nil {g J : List Ent} {w : Nat} {qs : List Nat} : NRun gid d n us m [] g J w qs g J w qs
 | cons {u : Tr} {rest : List Tr} {g J g1 N g2 J2 : List Ent} {w p w2 : Nat} {qs qs2 : List Nat} : g1.length = g.length →
   (ACalls E 56 [.ref gid 0 0, tyV u] (g ++ (ownN d n us m w qs (J ++ [boxT u]))) fun r τ => r = .ref p 0 0 ∧ τ = g1 ++ (ownN d n us m w qs (J ++ [boxT u] ++ N))) →
   NRun gid d n us m rest g1 (stepJ (J ++ [boxT u] ++ N) w qs p) (stepW (J ++ [boxT u] ++ N) w qs) (qs ++ [p]) g2 J2 w2 qs2 → NRun gid d n us m (u :: rest) g J w qs g2 J2 w2 qs2
def openX (X : Nat → Prop) (m w : Nat) (qs : List Nat) : Nat → Prop := fun q => X q ∨ q = m ∨ q = m + 1 ∨ (qs ≠ [] ∧ q = m + (w + 2))
structure NInv (X : Nat → Prop) (L : Lk) (gid v z : Nat) (d n : List UInt8) (us : List Tr) (m : Nat) (g J : List Ent) (w : Nat) (qs : List Nat) (es : List MEnt) (clock : Nat) (Ps : List (Nat × AN)) : Prop where
 ok : GOK (openX X m w qs) L gid v z (g ++ ownN d n us m w qs J) es clock Ps
 row : qs ≠ [] → J[w]? = some (rowP (refs qs) (qs.length - 1))
 ins : ∀ q ∈ qs, ∃ y, glook Ps q = some y
 len : g.length = m
 vlt : v < m
theorem ninv_step {X : Nat → Prop} {L : Lk} {gid v z : Nat} {d n : List UInt8} {us : List Tr} {m : Nat} {g J : List Ent} {w : Nat} {qs : List Nat} {es : List MEnt} {clock : Nat} {Ps : List (Nat × AN)} (hX : ∀ q, X q → q < m) (h : NInv X L gid v z d n us m g J w qs es clock Ps)
  {u : Tr} (hu : NodeC gid v z u) : ∃ p es' clock' N Qs, NInv X L gid v z d n us m (g.set v (.map es' clock')) (stepJ (J ++ [boxT u] ++ N) w qs p) (stepW (J ++ [boxT u] ++ N) w qs) (qs ++ [p]) es' clock' (Ps ++ Qs) ∧ LaidG (glook (Ps ++ Qs)) (vlook es') u p ∧ (∀ n q, vlook es n = some q → vlook es' n = some q) ∧
   ACalls E 56 [.ref gid 0 0, tyV u] (g ++ (ownN d n us m w qs (J ++ [boxT u]))) fun r τ => r = .ref p 0 0 ∧ τ = g.set v (.map es' clock') ++ (ownN d n us m w qs (J ++ [boxT u] ++ N)) := by
 have e1 : g ++ ownN d n us m w qs (J ++ [boxT u]) = (g ++ ownN d n us m w qs J) ++ [boxT u] := by simp [ownN]
 have hwl : qs ≠ [] → w < J.length := fun hne => lt_of_get (h.row hne)
 have hlen : (g ++ ownN d n us m w qs J).length = m + (J.length + 2) := by simp [ownN, h.len]
 have hX1 : ∀ q, openX X m w qs q → q < (g ++ ownN d n us m w qs (J ++ [boxT u])).length := fun q hq => by
  rw [e1, List.length_append, hlen]
  simp only [List.length_cons, List.length_nil]
  rcases hq with hq | rfl | rfl | ⟨hne, rfl⟩
  ·have := hX q hq; omega
  ·omega
  ·omega
  ·have := hwl hne; omega
 have h1 : GOK (openX X m w qs) L gid v z (g ++ ownN d n us m w qs (J ++ [boxT u])) es clock Ps := by rw [e1]; exact h.ok.push _ fun _ _ h => h
 obtain ⟨p, es', clock', N, Qs, a1, a2, a3, a4, a5⟩ := hu _ _ _ es clock Ps hX1 h1
 have e2 : (g ++ ownN d n us m w qs (J ++ [boxT u])).set v (.map es' clock') ++ N = g.set v (.map es' clock') ++ ownN d n us m w qs (J ++ [boxT u] ++ N) := by
  rw [List.set_append_left _ _ (by have := h.vlt; have := h.len; omega)]
  simp [ownN]
 rw [e2] at a1 a5
 refine ⟨p, es', clock', N, Qs, ⟨?_, ?_, ?_, by rw [List.length_set]; exact h.len, h.vlt⟩, a2, a3, a5⟩
 ·have hgl : (g.set v (.map es' clock')).length = m := by rw [List.length_set]; exact h.len
  generalize g.set v (.map es' clock') = G at *
  generalize J ++ [boxT u] ++ N = J1 at *
  by_cases hq : qs = []
  ·subst hq
   have b1 := a1.push [rowP [.ref p 0 0] 0] (X' := openX X m J1.length [p]) fun q hlt hq => by
    simp only [ownN, List.length_append, List.length_cons, hgl] at hlt
    rcases hq with hq | hq | hq | ⟨_, hq⟩
    ·exact .inl hq
    ·exact .inr (.inl hq)
    ·exact .inr (.inr (.inl hq))
    ·omega
   have b2 := b1.setX (q := m + 1) (.inr (.inr (.inl rfl))) (nodeE d n (argsR (m + (J1.length + 2)) [p]) nilP)
   have e3 : (G ++ ownN d n us m w [] J1 ++ [rowP [.ref p 0 0] 0]).set (m + 1) (nodeE d n (argsR (m + (J1.length + 2)) [p]) nilP) = G ++ ownN d n us m J1.length [p] (J1 ++ [rowP [.ref p 0 0] 0]) := by
    rw [List.append_assoc, List.set_append_right _ _ (by omega), hgl, Nat.add_sub_cancel_left]; simp [ownN]
   rw [e3] at b2
   simpa [stepJ, stepW] using b2
  ·have b1 := a1.setX (q := m + (w + 2)) (.inr (.inr (.inr ⟨hq, rfl⟩))) (rowP (refs (qs ++ [p])) qs.length)
   have b2 := b1.setX (q := m + 1) (.inr (.inr (.inl rfl))) (nodeE d n (argsR (m + (w + 2)) (qs ++ [p])) nilP)
   have e3 : ((G ++ ownN d n us m w qs J1).set (m + (w + 2)) (rowP (refs (qs ++ [p])) qs.length)).set (m + 1) (nodeE d n (argsR (m + (w + 2)) (qs ++ [p])) nilP) = G ++ ownN d n us m w (qs ++ [p]) (J1.set w (rowP (refs (qs ++ [p])) qs.length)) := by
    rw [List.set_append_right _ _ (by omega), List.set_append_right _ _ (by omega), hgl, Nat.add_sub_cancel_left, Nat.add_sub_cancel_left]; simp [ownN]
   rw [e3] at b2
   have b3 := b2.lessX (X' := openX X m w (qs ++ [p])) fun q hh => by
    rcases hh with hh | hh | hh | ⟨_, hh⟩
    ·exact .inl hh
    ·exact .inr (.inl hh)
    ·exact .inr (.inr (.inl hh))
    ·exact .inr (.inr (.inr ⟨hq, hh⟩))
   simpa [stepJ, stepW, hq] using b3
 ·intro _
  unfold stepJ stepW
  by_cases hq : qs = []
  ·subst hq; simp [refs]
  ·have hlt := hwl hq
   simp only [hq, if_false]
   rw [List.getElem?_set_self (by simp only [List.length_append]; omega)]
   simp
 ·intro q hq
  rcases List.mem_append.1 hq with hq | hq
  ·obtain ⟨y, hy⟩ := h.ins q hq
   exact ⟨y, glook_old _ hy⟩
  ·rw [List.mem_singleton.1 hq]; exact a4
theorem nrun_ex {X : Nat → Prop} {L : Lk} {gid v z : Nat} {d n : List UInt8} {us : List Tr} {m : Nat} (hX : ∀ q, X q → q < m) : ∀ (rest : List Tr) (g J : List Ent) (w : Nat) (qs : List Nat) (es : List MEnt) (clock : Nat) (Ps : List (Nat × AN)), (∀ u ∈ rest, NodeC gid v z u) →
  NInv X L gid v z d n us m g J w qs es clock Ps → ∃ es' clock' Qs J' w' ps, NRun gid d n us m rest g J w qs (g.set v (.map es' clock')) J' w' (qs ++ ps) ∧ NInv X L gid v z d n us m (g.set v (.map es' clock')) J' w' (qs ++ ps) es' clock' (Ps ++ Qs) ∧
   LaidGs (glook (Ps ++ Qs)) (vlook es') rest ps ∧ (∀ n q, vlook es n = some q → vlook es' n = some q)
 | [], g, J, w, qs, es, clock, Ps, _, h => by
  have hv : g[v]? = some (.map es clock) := by
   have := h.ok.hv
   rwa [List.getElem?_append_left (by have := h.vlt; have := h.len; omega)] at this
  refine ⟨es, clock, [], J, w, [], ?_, ?_, .nil, fun _ _ h => h⟩
  ·rw [list_set_self hv, List.append_nil]; exact .nil
  ·rw [list_set_self hv, List.append_nil, List.append_nil]; exact h
 | u :: rest, g, J, w, qs, es, clock, Ps, hu, h => by
  obtain ⟨p, es1, c1, N, Qs, i1, l1, m1, k1⟩ := ninv_step hX h (hu u (by simp))
  obtain ⟨es2, c2, Qs2, J2, w2, ps, r2, i2, l2, m2⟩ := nrun_ex hX rest _ _ _ _ es1 c1 (Ps ++ Qs) (fun x hx => hu x (by simp [hx])) i1
  rw [List.set_set] at r2 i2
  rw [List.append_assoc] at r2 i2
  rw [List.append_assoc] at i2 l2
  refine ⟨es2, c2, Qs ++ Qs2, J2, w2, p :: ps, .cons (by rw [List.length_set]) k1 (by simpa using r2), by simpa using i2, ?_, fun n q hq => m2 n q (m1 n q hq)⟩
  refine .cons (laid_mono (fun q x hq => ?_) (fun n q hq => m2 n q hq) u p l1) l2
  rw [← List.append_assoc]; exact glook_old _ hq
theorem ninv_done {X : Nat → Prop} {L : Lk} {gid v z : Nat} {d n : List UInt8} {us : List Tr} {m : Nat} {g J : List Ent} {w : Nat} {qs : List Nat} {es : List MEnt} {clock : Nat} {Ps : List (Nat × AN)} (hX : ∀ q, X q → q < m) (h : NInv X L gid v z d n us m g J w qs es clock Ps) (hd : ¬ d = kiVar) (hq : qs.length ≤ 2) (hnm : ∀ ts : List Tr, ts.length = qs.length → (∀ u ∈ ts, okT u) → okT (.mk d n ts)) {us' : List Tr} (hly : LaidGs (glook Ps) (vlook es) us' qs) :
  GOK X L gid v z (g ++ ownN d n us m w qs J) es clock (Ps ++ [(m + 1, ⟨d, n, qs⟩)]) ∧ glook (Ps ++ [(m + 1, ⟨d, n, qs⟩)]) (m + 1) = some ⟨d, n, qs⟩ := by
 have hno : glook Ps (m + 1) = none := by
  cases hp : glook Ps (m + 1) with
  | none => rfl
  | some x => exact absurd (.inr (.inr (.inl rfl))) (h.ok.nodes _ x hp).1
 have hLn : L (m + 1) = none := by
  cases hq : L (m + 1) with
  | none => rfl
  | some q => obtain ⟨x, hx⟩ := (h.ok.lk _ _ hq).1; rw [hno] at hx; cases hx
 have hgl : ∀ p, glook (Ps ++ [(m + 1, ⟨d, n, qs⟩)]) p = if p = m + 1 then some ⟨d, n, qs⟩ else glook Ps p := fun p => by
  rw [glook_app]
  by_cases e : p = m + 1
  ·subst e; rw [hno]; simp [glook]
  ·simp [glook, e]
 have h1 : GOK X L gid v z (g ++ ownN d n us m w qs J) es clock Ps := h.ok.lessX fun q hq => .inl hq
 refine ⟨⟨h1.hg, h1.hv, h1.xg, h1.xv, h1.keys, fun p x hp => ?_, fun p x hp q hq => ?_, fun p x hp => ?_, fun m' p hm => ?_, fun p x hp hd' => ?_, h1.nodup, h1.clk, fun p x hp ts hl ht => ?_, fun p q hp => ⟨(h1.lk p q hp).1.imp fun _ => glook_old _, (h1.lk p q hp).2.imp fun _ => glook_old _⟩, fun p x hp => ?_⟩, by rw [hgl, if_pos rfl]⟩
 ·rw [hgl] at hp
  split at hp
  ·rename_i e
   cases hp
   subst e
   refine ⟨fun hx => by have := hX _ hx; omega, m + (w + 2), ?_, fun hne => ⟨fun hx => by have := hX _ hx; omega, ?_⟩⟩
   ·rw [List.getElem?_append_right (by have := h.len; omega), h.len, Nat.add_sub_cancel_left, hLn]; rfl
   ·rw [List.getElem?_append_right (by have := h.len; omega), h.len, Nat.add_sub_cancel_left]
    exact h.row hne
  ·exact h1.nodes p x hp
 ·rw [hgl] at hp
  split at hp
  ·cases hp
   obtain ⟨y, hy⟩ := h.ins q hq
   exact ⟨y, glook_old _ hy⟩
  ·obtain ⟨y, hy⟩ := h1.closed p x hp q hq
   exact ⟨y, glook_old _ hy⟩
 ·rw [hgl] at hp
  split at hp
  ·cases hp; exact hq
  ·exact h1.small p x hp
 ·have := h1.vin m' p hm
  rw [hgl, if_neg (fun e => by rw [e, hno] at this; cases this)]; exact this
 ·rw [hgl] at hp
  split at hp
  ·cases hp; exact absurd hd' hd
  ·exact h1.vout p x hp hd'
 ·rw [hgl] at hp
  split at hp
  ·cases hp; exact hnm ts hl ht
  ·exact h1.nm p x hp ts hl ht
 ·have hmo : ∀ p x, glook Ps p = some x → glook (Ps ++ [(m + 1, ⟨d, n, qs⟩)]) p = some x := fun p x hp => glook_old _ hp
  by_cases e : p = m + 1
  ·rw [e]; exact ⟨.mk d n us', .node hd (by rw [hgl, if_pos rfl]) (laids_mono hmo (fun _ _ h => h) us' qs hly)⟩
  ·rw [hgl, if_neg e] at hp
   obtain ⟨t, ht⟩ := h1.lay p x hp
   exact ⟨t, laid_mono hmo (fun _ _ h => h) t p ht⟩
end Go.D
