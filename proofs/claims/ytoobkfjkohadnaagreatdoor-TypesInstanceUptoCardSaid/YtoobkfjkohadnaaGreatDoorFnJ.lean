/- The law of Instance (plain). -/
import Derived.Test.YtoobkfjkohadnaaGreatDoorFnF
import Derived.Test.YtoobkfjkohadnaaGreatDoorFnD
import Derived.Test.YtoobkfjkohadnaaGreatDoorFnE
import Derived.Test.YtoobkfjkohadnaaGreatDoorFnG
set_option linter.unusedVariables false
set_option maxRecDepth 100000
namespace Go.D
open Go Go.Vm Go.Proofs Go.RowKit

theorem inst_cases (g u : Tr) : (validT conB g = true ∧ validT conB u = true ∧ (matT g u []).1 = true ∧ instR g u = (clsOf (matT g u []).2 (sortS (ordT g [])), 0)) ∨ ∃ e, instR g u = ([], e) ∧ ¬ e = 0 := by
  unfold instR
  by_cases h : validT conB g = true ∧ validT conB u = true
  · by_cases h2 : (matT g u []).1 = true
    · exact .inl ⟨h.1, h.2, h2, by rw [if_pos h, if_pos h2]⟩
    · exact .inr ⟨5, by rw [if_pos h, if_neg h2], by decide⟩
  · exact .inr ⟨40, by rw [if_neg h], by decide⟩
/-- What is found, makes the type the other one. -/
theorem inst_back {g u : Tr} (hlu : lenT u) (hc : cntT u ≤ 4611686018427387904) (hg : validT conB g = true) (hu : validT conB u = true) (hm : (matT g u []).1 = true) :
    lenC (clsOf (matT g u []).2 (sortS (ordT g []))) ∧ appR (clsOf (matT g u []).2 (sortS (ordT g []))) g = (u, 0) := by
  have tg := valid_typ hg
  have tu := valid_typ hu
  have hn := ordT_names g [] tg (by simp) (by simp)
  have hfew : (sortS (ordT g [])).length ≤ 26 := by unfold sortS; rw [List.length_mergeSort]; exact vars_few hn.1 hn.2
  have hdom := matT_dom g u [] [] tg hm (fun n hn => by cases hn)
  have hkeys := mat_keys g u [] [] (fun n x h => by cases h)
  have hokv := matT_okV g u [] ⟨hlu, tu⟩ (fun e he => by cases he)
  have hsm := mat_small g u [] (cntT u) (deepT u) (Nat.le_refl _) (Nat.le_refl _) (fun n x h => by cases h)
  have hput := fun F => mat_put g u [] F tg hm
  generalize hM : (matT g u []).2 = M at *
  generalize hN : sortS (ordT g []) = N at *
  have hN2 : ∀ n, n ∈ N ↔ n ∈ ordT g [] := fun n => by rw [← hN]; exact sortS_mem
  have hasc : N.Pairwise (· < ·) := by rw [← hN]; exact sortS_asc hn.1
  have hfit := (fits_real hc).1 (valid_fits hu)
  have hmem : ∀ c ∈ clsOf M N, varB c.1 = true ∧ okT c.2 ∧ validT conB c.2 = true := by
    intro c hcm
    obtain ⟨n, hnm, rfl⟩ := List.mem_map.1 hcm
    have hno := (hN2 n).1 hnm
    obtain ⟨x, hx⟩ := Option.isSome_iff_exists.1 (hdom n hno)
    simp only [hx, Option.getD_some]
    have ho := hokv _ (look_some_mem hx)
    have hs := hsm n x hx
    refine ⟨hn.2 n hno, ho, ?_⟩
    unfold validT
    rw [ho.2, (fits_real (by omega)).2 ⟨by omega, by omega⟩]; rfl
  have hac : ascC (clsOf M N) := by
    unfold ascC clsOf
    exact List.pairwise_map.2 hasc
  have hsub := asc_subst hac fun c hcm => ⟨(hmem c hcm).1, (hmem c hcm).2.2⟩
  have hp := hput (clsOf M N) fun n x hx => clsOf_look ((hN2 n).2 (hkeys n x hx)) hx
  refine ⟨⟨by unfold clsOf; rw [List.length_map]; omega, fun c hcm => ⟨?_, (hmem c hcm).2.1.1⟩⟩, ?_⟩
  · obtain ⟨b, hb, _⟩ := varB_shape (hmem c hcm).1
    rw [hb]; simp
  · unfold appR applyR
    rw [if_pos ⟨hsub, hg⟩, hp, if_pos (valid_fits hu)]
/-- Each type that a substitution makes of one is an instance. -/
theorem inst_fwd {s : List Cl} {g x : Tr} (hs : lenC s) (h : appR s g = (x, 0)) : ∃ l, instR g x = (l, 0) := by
  rcases appR_cases s g with ⟨h1, h2, h3, h4⟩ | ⟨e, h4, ne⟩
  · rw [h4] at h
    obtain rfl : putT s g = x := (Prod.mk.inj h).1
    have o1 := substB_okV h1 hs
    have hv : validT conB (putT s g) = true := by
      unfold validT
      rw [putT_typ s (fun e he => (o1 e he).2) g (valid_typ h2), h3]; rfl
    exact ⟨_, by unfold instR; rw [if_pos ⟨h2, hv⟩, if_pos (mat_sub g s [] (valid_typ h2) (fun n x hx => by cases hx)).1]⟩
  · rw [h4] at h
    exact absurd (Prod.mk.inj h).2 ne
end Go.D

/- What makes a type another one, by the document. -/
set_option linter.unusedVariables false
set_option linter.unusedSimpArgs false
set_option linter.unnecessarySimpa false
set_option maxRecDepth 100000
namespace Go.D
open Go Go.Vm Go.Proofs Go.RowKit

theorem clsV_take (l : List Cl) (i : Nat) : (clsV l).take i = clsV (l.take i) := by simp [clsV]
theorem clsV_drop (l : List Cl) (i : Nat) : (clsV l).drop i = clsV (l.drop i) := by simp [clsV]
theorem clsV_mem {l : List Cl} {e : AV} (h : e ∈ clsV l) : isEl 4 true e = true := by
  obtain ⟨c, _, rfl⟩ := List.mem_map.1 h
  exact clV_el c
theorem atC_le (n : List UInt8) (s : List Cl) : atC n s ≤ s.length := by
  unfold atC
  exact (List.takeWhile_prefix _).length_le
theorem atC_at (n : List UInt8) : ∀ (s : List Cl) (i : Nat), i ≤ s.length → (∀ c ∈ s.take i, c.1 < n) → (∀ c, s[i]? = some c → ¬ c.1 < n) → atC n s = i
  | [], i, hi, _, _ => by simp at hi; subst hi; rfl
  | a :: r, 0, _, _, h => by
    have := h a (by simp)
    unfold atC
    simp [this]
  | a :: r, i + 1, hi, h1, h2 => by
    have ha := h1 a (by simp)
    have := atC_at n r i (by simpa using hi) (fun c hc => h1 c (by simp [hc])) (fun c hc => h2 c (by simpa using hc))
    unfold atC at this ⊢
    simp [ha, this]
theorem fitTs_app : ∀ (a a' b b' : List Tr) (s : List Cl), a.length = a'.length → fitTs (a ++ b) (a' ++ b') s = if (fitTs a a' s).2 = true then fitTs b b' (fitTs a a' s).1 else ([], false)
  | [], [], b, b', s, _ => by simp [fitTs]
  | x :: a, y :: a', b, b', s, h => by
    simp only [List.cons_append, fitTs]
    by_cases hx : (fitT x y s).2 = true
    · simp only [hx, if_true]; exact fitTs_app a a' b b' _ (by simpa using h)
    · simp [hx]
mutual
theorem fit_len : ∀ (g u : Tr) (s : List Cl), (fitT g u s).1.length ≤ s.length + cntT g
  | .mk d n us, .mk d' n' us', s => by
    unfold fitT
    simp only [cntT]
    split
    · split
      · simp only; omega
      · have : (insC n (.mk d' n' us') s).length = s.length + 1 := by unfold insC; simp only [List.length_append, List.length_cons, List.length_take, List.length_drop]; have := atC_le n s; omega
        simp only [this]; omega
    · split
      · have := fit_lens us us' s; omega
      · simp
theorem fit_lens : ∀ (g u : List Tr) (s : List Cl), (fitTs g u s).1.length ≤ s.length + cntTs g
  | [], _, s => by simp only [fitTs, cntTs]; omega
  | _ :: _, [], s => by simp only [fitTs]; omega
  | t :: ts, u :: us, s => by
    simp only [fitTs, cntTs]
    split
    · have := fit_len t u s
      have := fit_lens ts us (fitT t u s).1
      omega
    · simp
end
/-- Claims of any size that memory holds, but for how many. -/
def lenE (s : List Cl) : Prop := ∀ c ∈ s, c.1.length ≤ 9223372036854775807 ∧ lenT c.2
mutual
theorem fit_lenE : ∀ (g u : Tr) (s : List Cl), lenT g → lenT u → lenE s → lenE (fitT g u s).1
  | .mk d n us, .mk d' n' us', s, hg, hu, hs => by
    unfold fitT
    simp only [lenT] at hg
    split
    · split
      · exact hs
      · intro c hc
        rcases insC_mem.1 hc with rfl | hc
        · exact ⟨hg.1, hu⟩
        · exact hs c hc
    · split
      · simp only [lenT] at hu
        exact fit_lenEs us us' s hg.2.2 hu.2.2 hs
      · exact fun c hc => by cases hc
theorem fit_lenEs : ∀ (g u : List Tr) (s : List Cl), lenTs g → lenTs u → lenE s → lenE (fitTs g u s).1
  | [], _, s, _, _, hs => by simp only [fitTs]; exact hs
  | _ :: _, [], s, _, _, hs => by simp only [fitTs]; exact hs
  | t :: ts, u :: us, s, hg, hu, hs => by
    simp only [fitTs]
    split
    · exact fit_lenEs ts us _ hg.2 hu.2 (fit_lenE t u s hg.1 hu.1 hs)
    · exact fun c hc => by cases hc
end
theorem insC_len (n : List UInt8) (u : Tr) (s : List Cl) {i : Nat} (h : atC n s = i) : (insC n u s).length = (s.take i).length + 1 + (s.drop i).length := by
  unfold insC; rw [h]; simp only [List.length_append, List.length_cons]; omega
theorem insC_cells (n d' n' : List UInt8) (us' : List Tr) (s : List Cl) {i : Nat} (h : atC n s = i) : (insC n (.mk d' n' us') s).flatMap clC = (s.take i).flatMap clC ++ .str n :: .str d' :: .str n' :: .sl (tysV us') :: (s.drop i).flatMap clC := by
  unfold insC; rw [h]; simp [List.flatMap_append, clC, tyCells]
/-- What is handed back. -/
theorem frz_ins {n0 : Nat} {l : List Ent} {m : Nat} {q : List Cl} {b : Bool} (h : l[3]? = some (.arr 33 (q.flatMap clC) 3 0)) (hm : m = q.length) (h0 : 0 < m) :
    ∃ x', Frz n0 l (.tup [.rsl (n0 + 3) 3 0 m 4, boolV b]) x' ∧ AV.low n0 x' = true ∧ x' = .tup [.sl (clsV q), boolV b] :=
  ⟨_, .tup (.cons (.rsl (ty := 33) (ver := 3) (imm := 0) (ag := true) (cells := q.flatMap clC) (es := clsV q) (es' := clsV q) (by omega) (by rw [Nat.add_sub_cancel_left]; exact h) (by rw [List.drop_zero, clsV_cells]) (by have := clCs_len q; omega) (by rw [clsV_len]; omega) (by omega) (fun e he => clsV_mem he) FrzL.refl) (.cons (.refl _) .nil)), by simp only [boolV, AV.low, AV.low.lows, clsV_low, Bool.and_self], rfl⟩
theorem lenTs_take : ∀ {l : List Tr}, lenTs l → ∀ i, lenTs (l.take i)
  | [], h, i => by simp [lenTs]
  | t :: ts, h, 0 => by simp [lenTs]
  | t :: ts, h, i + 1 => by simp only [List.take_succ_cons]; exact ⟨h.1, lenTs_take h.2 i⟩
theorem cntTs_app : ∀ a b : List Tr, cntTs (a ++ b) = cntTs a + cntTs b
  | [], b => by simp [cntTs]
  | t :: a, b => by simp only [List.cons_append, cntTs, cntTs_app a b]; omega
def FT (g : Tr) : Prop := ∀ (u : Tr) (s : List Cl) (σ : List Ent), okT g → okT u → s.length + cntT g ≤ 2097152 → lenE s → ACalls E 80 [tyV g, tyV u, .sl (clsV s)] σ fun r τ => r = .tup [.sl (clsV (fitT g u s).1), boolV (fitT g u s).2] ∧ τ = σ
set_option maxHeartbeats 8000000 in
theorem fits_step (d n : List UInt8) (us : List Tr) (ih : ∀ u ∈ us, FT u) : FT (.mk d n us) := by
  intro u s σ hg hu hsl hse
  have hs : lenC s := ⟨by omega, hse⟩
  rcases u with ⟨d', n', us'⟩
  have hof := fun σ' => of_ok s hs n σ'
  have hsl0 := hsl
  simp only [cntT] at hsl
  refine xacalls T0 .freeze [45] Tryz.func80 rfl (by kernel_rfl) (by kernel_rfl) (by simp [Tryz.ntmps80]) ?_
  by_cases hd : d = kiVar
  · have hdt : (d = [118, 97, 114]) = True := eq_true hd
    unfold fitT
    rw [if_pos hd]
    (simp only [tyV, hdt, (vmA), Nat.reduceEqDiff, reduceIte, Nat.reduceAdd, Int.reduceToNat, Int.reduceLE, Int.reduceLT, Int.reduceEq, Int.reduceNe, Int.reduceAdd, Int.reduceSub, Int.reduceNeg, Nat.reduceLT, Nat.reduceLeDiff, Nat.reduceBEq, undef, (stA), Nat.reduceMul]; try simp (disch := omega) only [(vmp)])
    refine xWait.go (hof _) ?_
    cases hl : Sub'.look s n with
    | some x =>
      have hq := fun σ' => SameType2_ok _ x (Nat.le_refl _) (.mk d' n' us') σ' (hse _ (look_some_mem hl)).2 hu.1
      rcases x with ⟨d2, n2, us2⟩
      simp only [tyV] at hq
      (simp only [ofV, hl, tyV, (vmA), Nat.reduceEqDiff, reduceIte, Nat.reduceAdd, Int.reduceToNat, Int.reduceLE, Int.reduceLT, Int.reduceEq, Int.reduceNe, Int.reduceAdd, Int.reduceSub, Int.reduceNeg, Nat.reduceLT, Nat.reduceLeDiff, Nat.reduceBEq, undef, (stA), Nat.reduceMul]; try simp (disch := omega) only [(vmp)])
      refine xWait.go (hq _) ?_
      (simp only [(vmA), Nat.reduceEqDiff, reduceIte, Nat.reduceAdd, Int.reduceToNat, Int.reduceLE, Int.reduceLT, Int.reduceEq, Int.reduceNe, Int.reduceAdd, Int.reduceSub, Int.reduceNeg, Nat.reduceLT, Nat.reduceLeDiff, Nat.reduceBEq, undef, (stA), Nat.reduceMul]; try simp (disch := omega) only [(vmp)])
      exact ⟨_, .refl _, by simp only [AV.low, AV.low.lows, clsV_low, Bool.and_self], rfl⟩
    | none =>
      (simp only [ofV, hl, tyV, (vmA), Nat.reduceEqDiff, reduceIte, Nat.reduceAdd, Int.reduceToNat, Int.reduceLE, Int.reduceLT, Int.reduceEq, Int.reduceNe, Int.reduceAdd, Int.reduceSub, Int.reduceNeg, Nat.reduceLT, Nat.reduceLeDiff, Nat.reduceBEq, undef, (stA), Nat.reduceMul]; try simp (disch := omega) only [(vmp)])
      refine xloop (α := Nat) T0 (fun i => [(2, .sl (clsV s)), (3, .ref σ.length 0 0), (4, .ref (σ.length + 1) 0 0), (10, i64 i)]) (fun _ => σ)
        (fun _ => [.arr 24 [.str d, .str n, .sl (tysV us)] 0 0, .arr 24 [.str d', .str n', .sl (tysV us')] 0 0, .arr 24 [.str [], .str [], .v (.slice none 0 0)] 0 0])
        (fun i => i ≤ s.length ∧ ∀ c ∈ s.take i, c.1 < n) (fun i => s.length - i) (by kernel_rfl)
        ⟨0, by simp, by (simp only [(vmA), Nat.reduceEqDiff, reduceIte, Nat.reduceAdd, Int.reduceToNat, Int.reduceLE, Int.reduceLT, Int.reduceEq, Int.reduceNe, Int.reduceAdd, Int.reduceSub, Int.reduceNeg, Nat.reduceLT, Nat.reduceLeDiff, Nat.reduceBEq, undef, (stA), Nat.reduceMul, Int.natCast_zero]; try simp (disch := omega) only [(vmp)]), rfl, rfl⟩ ?_
      rintro i ⟨hi, hall⟩
      (simp only [(vmA), Nat.reduceEqDiff, reduceIte, Nat.reduceAdd, Int.reduceToNat, Int.reduceLE, Int.reduceLT, Int.reduceEq, Int.reduceNe, Int.reduceAdd, Int.reduceSub, Int.reduceNeg, Nat.reduceLT, Nat.reduceLeDiff, Nat.reduceBEq, undef, (stA), Nat.reduceMul]; try simp (disch := omega) only [(vmp)])
      refine ydraw T0 [] (by kernel_rfl) (by kernel_rfl) (by kernel_rfl) (by kernel_rfl) ?_
      by_cases h : (i : Int) < s.length
      · have hi' : i < s.length := by omega
        have hc : s[i]? = some s[i] := List.getElem?_eq_getElem hi'
        obtain ⟨s1, s2⟩ := take_splitC s i _ hc
        generalize s[i] = c at *
        have hgc := clsV_get hc
        have hlt := less_lt c.1 n
        obtain ⟨cn, ct⟩ := c
        rcases ct with ⟨b, m, cs⟩
        simp only [clV, clC, tyCells] at hgc
        simp only at hlt
        by_cases hx : cn < n
        · rw [decide_eq_true hx] at hlt
          (simp only [h, hgc, hlt, clsV_len, (vmA), Nat.reduceEqDiff, reduceIte, Nat.reduceAdd, Int.reduceToNat, Int.reduceLE, Int.reduceLT, Int.reduceEq, Int.reduceNe, Int.reduceAdd, Int.reduceSub, Int.reduceNeg, Nat.reduceLT, Nat.reduceLeDiff, Nat.reduceBEq, undef, (stA), Nat.reduceMul]; try simp (disch := omega) only [(vmp)])
          refine ⟨i + 1, ⟨by omega, fun c hc' => ?_⟩, by omega, rfl⟩
          rw [s1] at hc'
          rcases List.mem_append.1 hc' with hc' | hc'
          · exact hall c hc'
          · rw [List.mem_singleton.1 hc']; exact hx
        · rw [decide_eq_false hx] at hlt
          have hat := atC_at n s i hi hall (fun c' hc' => by rw [hc] at hc'; cases hc'; exact hx)
          (simp only [h, hgc, hlt, clsV_len, clsV_take, clsV_drop, clsV_cells, Option.getD_some, (vmA), Nat.reduceEqDiff, reduceIte, Nat.reduceAdd, Int.reduceToNat, Int.reduceLE, Int.reduceLT, Int.reduceEq, Int.reduceNe, Int.reduceAdd, Int.reduceSub, Int.reduceNeg, Nat.reduceLT, Nat.reduceLeDiff, Nat.reduceBEq, undef, (stA), Nat.reduceMul]; try simp (disch := omega) only [(vmp)])
          have q1 : (s.take i).length = i := by rw [List.length_take]; omega
          have q2 : (s.drop i).length = s.length - i := List.length_drop
          have q3 := clCs_len (s.take i)
          have q4 := insC_len n (.mk d' n' us') s hat
          refine ⟨⟨by omega, fun e he => clsV_mem he⟩, ⟨fun e he => clsV_mem he, by unfold maxRoom; omega, by unfold maxRoom; omega⟩, ⟨by omega, by omega, by unfold maxRoom; omega, by unfold maxRoom; omega⟩, ⟨by omega, fun e he => clsV_mem he⟩, ⟨fun e he => clsV_mem he, by omega, by unfold maxRoom; omega, by unfold maxRoom; omega⟩, ?_⟩
          exact frz_ins (by rw [insC_cells n d' n' us' s hat]; rfl) (by omega) (by omega)
      · have hie : i = s.length := by omega
        have hat := atC_at n s i hi hall (fun c' hc' => by rw [List.getElem?_eq_none (by omega)] at hc'; cases hc')
        (simp only [h, clsV_len, clsV_take, clsV_drop, clsV_cells, Option.getD_some, (vmA), Nat.reduceEqDiff, reduceIte, Nat.reduceAdd, Int.reduceToNat, Int.reduceLE, Int.reduceLT, Int.reduceEq, Int.reduceNe, Int.reduceAdd, Int.reduceSub, Int.reduceNeg, Nat.reduceLT, Nat.reduceLeDiff, Nat.reduceBEq, undef, (stA), Nat.reduceMul]; try simp (disch := omega) only [(vmp)])
        have q1 : (s.take i).length = i := by rw [List.length_take]; omega
        have q2 : (s.drop i).length = s.length - i := List.length_drop
        have q3 := clCs_len (s.take i)
        have q4 := insC_len n (.mk d' n' us') s hat
        refine ⟨⟨by omega, fun e he => clsV_mem he⟩, ⟨fun e he => clsV_mem he, by unfold maxRoom; omega, by unfold maxRoom; omega⟩, ⟨by omega, by omega, by unfold maxRoom; omega, by unfold maxRoom; omega⟩, ⟨by omega, fun e he => clsV_mem he⟩, ⟨fun e he => clsV_mem he, by omega, by unfold maxRoom; omega, by unfold maxRoom; omega⟩, ?_⟩
        exact frz_ins (by rw [insC_cells n d' n' us' s hat]; rfl) (by omega) (by omega)
  · have hdt : ¬ d = [118, 97, 114] := hd
    unfold fitT
    rw [if_neg hd]
    by_cases h1 : d = d'
    rotate_left
    · rw [if_neg (fun hh => h1 hh.1)]
      (simp only [tyV, hdt, h1, (vmA), Nat.reduceEqDiff, reduceIte, Nat.reduceAdd, Int.reduceToNat, Int.reduceLE, Int.reduceLT, Int.reduceEq, Int.reduceNe, Int.reduceAdd, Int.reduceSub, Int.reduceNeg, Nat.reduceLT, Nat.reduceLeDiff, Nat.reduceBEq, undef, (stA), Nat.reduceMul]; try simp (disch := omega) only [(vmp)])
      exact ⟨_, .tup (.cons .none (.cons (.refl _) .nil)), by simp only [AV.low, AV.low.lows, Bool.and_self], rfl⟩
    subst h1
    by_cases h2 : n = n'
    rotate_left
    · rw [if_neg (fun hh => h2 hh.2.1)]
      (simp only [tyV, hdt, h2, (vmA), Nat.reduceEqDiff, reduceIte, Nat.reduceAdd, Int.reduceToNat, Int.reduceLE, Int.reduceLT, Int.reduceEq, Int.reduceNe, Int.reduceAdd, Int.reduceSub, Int.reduceNeg, Nat.reduceLT, Nat.reduceLeDiff, Nat.reduceBEq, undef, (stA), Nat.reduceMul]; try simp (disch := omega) only [(vmp)])
      exact ⟨_, .tup (.cons .none (.cons (.refl _) .nil)), by simp only [AV.low, AV.low.lows, Bool.and_self], rfl⟩
    subst h2
    by_cases h3 : (us.length : Int) = us'.length
    rotate_left
    · rw [if_neg (fun hh => h3 (by rw [hh.2.2]))]
      (simp only [tyV, hdt, h3, tysV_len, (vmA), Nat.reduceEqDiff, reduceIte, Nat.reduceAdd, Int.reduceToNat, Int.reduceLE, Int.reduceLT, Int.reduceEq, Int.reduceNe, Int.reduceAdd, Int.reduceSub, Int.reduceNeg, Nat.reduceLT, Nat.reduceLeDiff, Nat.reduceBEq, undef, (stA), Nat.reduceMul]; try simp (disch := omega) only [(vmp)])
      exact ⟨_, .tup (.cons .none (.cons (.refl _) .nil)), by simp only [AV.low, AV.low.lows, Bool.and_self], rfl⟩
    have h4 : us.length = us'.length := by omega
    rw [if_pos ⟨rfl, rfl, h4⟩]
    obtain ⟨_, hdn⟩ := okT_down d n us hg
    obtain ⟨_, hdn'⟩ := okT_down d n us' hu
    have hlu : lenTs us := by have := hg.1; simp only [lenT] at this; exact this.2.2
    have hlu' : lenTs us' := by have := hu.1; simp only [lenT] at this; exact this.2.2
    (simp only [tyV, hdt, h3, tysV_len, (vmA), Nat.reduceEqDiff, reduceIte, Nat.reduceAdd, Int.reduceToNat, Int.reduceLE, Int.reduceLT, Int.reduceEq, Int.reduceNe, Int.reduceAdd, Int.reduceSub, Int.reduceNeg, Nat.reduceLT, Nat.reduceLeDiff, Nat.reduceBEq, undef, (stA), Nat.reduceMul]; try simp (disch := omega) only [(vmp)])
    refine xloop (α := Nat) T0 (fun x => [(2, .sl (clsV (fitTs (us.take x) (us'.take x) s).1)), (3, .ref σ.length 0 0), (4, .ref (σ.length + 1) 0 0), (84, .sl (tysV us)), (85, i64 us'.length), (86, i64 x)]) (fun _ => σ)
      (fun _ => [.arr 24 [.str d, .str n, .sl (tysV us)] 0 0, .arr 24 [.str d, .str n, .sl (tysV us')] 0 0])
      (fun x => x ≤ us.length ∧ (fitTs (us.take x) (us'.take x) s).2 = true) (fun x => us.length - x) (by kernel_rfl)
      ⟨0, ⟨by simp, by simp only [List.take_zero, fitTs]⟩, by (simp only [List.take_zero, fitTs, (vmA), Nat.reduceEqDiff, reduceIte, Nat.reduceAdd, Int.reduceToNat, Int.reduceLE, Int.reduceLT, Int.reduceEq, Int.reduceNe, Int.reduceAdd, Int.reduceSub, Int.reduceNeg, Nat.reduceLT, Nat.reduceLeDiff, Nat.reduceBEq, undef, (stA), Nat.reduceMul, Int.natCast_zero]; try simp (disch := omega) only [(vmp)]), rfl, rfl⟩ ?_
    rintro i ⟨hi, hall⟩
    by_cases h : (i : Int) < us'.length
    · have hi1 : i < us.length := by omega
      have hi2 : i < us'.length := by omega
      have hu1 : us[i]? = some us[i] := List.getElem?_eq_getElem hi1
      have hu2 : us'[i]? = some us'[i] := List.getElem?_eq_getElem hi2
      obtain ⟨s1, s2⟩ := take_split us i _ hu1
      obtain ⟨s3, s4⟩ := take_split us' i _ hu2
      have hm1 := List.getElem_mem hi1
      have hm2 := List.getElem_mem hi2
      generalize us[i] = u at *
      generalize us'[i] = u' at *
      have hlt : (us.take i).length = (us'.take i).length := by simp; omega
      have hg1 := tysV_get hu1
      have hg2 := tysV_get hu2
      have hfl := fit_lens (us.take i) (us'.take i) s
      have hfe := fit_lenEs (us.take i) (us'.take i) s (lenTs_take hlu i) (lenTs_take hlu' i) hse
      have hcs : cntTs (us.take i) + cntT u ≤ cntTs us := by
        have : cntTs us = cntTs (us.take i ++ u :: us.drop (i + 1)) := by rw [← s2]
        rw [this, cntTs_app]; simp only [cntTs]; omega
      have hnext : fitTs (us.take (i + 1)) (us'.take (i + 1)) s = (if (fitT u u' (fitTs (us.take i) (us'.take i) s).1).2 = true then (fitT u u' (fitTs (us.take i) (us'.take i) s).1) else ([], false)) := by
        rw [s1, s3, fitTs_app _ _ _ _ _ hlt, if_pos hall]
        simp only [fitTs]
        split
        · rename_i hq; exact Prod.ext rfl hq.symm
        · rfl
      have hbad : (fitT u u' (fitTs (us.take i) (us'.take i) s).1).2 = false → fitTs us us' s = ([], false) := fun e => by
        rw [s2, s4, fitTs_app _ _ _ _ _ hlt, if_pos hall]
        simp only [fitTs]
        rw [if_neg (by rw [e]; simp)]
      generalize fitTs (us.take i) (us'.take i) s = S at *
      have hc := fun σ' => ih u hm1 u' S.1 σ' (hdn u hm1) (hdn' u' hm2) (by omega) hfe
      generalize fitT u u' S.1 = R at *
      rcases R with ⟨ls, b⟩
      cases u with
      | mk a1 b1 cs1 =>
      cases u' with
      | mk a2 b2 cs2 =>
      simp only [tyV] at hg1 hg2 hc
      (simp only [h, hg1, hg2, tysV_len, h3, (vmA), Nat.reduceEqDiff, reduceIte, Nat.reduceAdd, Int.reduceToNat, Int.reduceLE, Int.reduceLT, Int.reduceEq, Int.reduceNe, Int.reduceAdd, Int.reduceSub, Int.reduceNeg, Nat.reduceLT, Nat.reduceLeDiff, Nat.reduceBEq, undef, (stA), Nat.reduceMul]; try simp (disch := omega) only [(vmp)])
      refine ydraw T0 [] (by kernel_rfl) (by kernel_rfl) (by kernel_rfl) (by kernel_rfl) ?_
      (simp only [h, hg1, hg2, tysV_len, h3, (vmA), Nat.reduceEqDiff, reduceIte, Nat.reduceAdd, Int.reduceToNat, Int.reduceLE, Int.reduceLT, Int.reduceEq, Int.reduceNe, Int.reduceAdd, Int.reduceSub, Int.reduceNeg, Nat.reduceLT, Nat.reduceLeDiff, Nat.reduceBEq, undef, (stA), Nat.reduceMul]; try simp (disch := omega) only [(vmp)])
      refine yNext.go (by rfl) _ rfl (hc _) ?_
      cases b
      · (simp only [(vmA), Nat.reduceEqDiff, reduceIte, Nat.reduceAdd, Int.reduceToNat, Int.reduceLE, Int.reduceLT, Int.reduceEq, Int.reduceNe, Int.reduceAdd, Int.reduceSub, Int.reduceNeg, Nat.reduceLT, Nat.reduceLeDiff, Nat.reduceBEq, undef, (stA), Nat.reduceMul]; try simp (disch := omega) only [(vmp)])
        rw [hbad rfl]
        exact ⟨_, .tup (.cons .none (.cons (.refl _) .nil)), by simp only [AV.low, AV.low.lows, Bool.and_self], rfl⟩
      · (simp only [(vmA), Nat.reduceEqDiff, reduceIte, Nat.reduceAdd, Int.reduceToNat, Int.reduceLE, Int.reduceLT, Int.reduceEq, Int.reduceNe, Int.reduceAdd, Int.reduceSub, Int.reduceNeg, Nat.reduceLT, Nat.reduceLeDiff, Nat.reduceBEq, undef, (stA), Nat.reduceMul]; try simp (disch := omega) only [(vmp)])
        rw [if_pos rfl] at hnext
        exact ⟨i + 1, ⟨by omega, by rw [hnext]⟩, by omega, by rw [hnext], rfl⟩
    · have hie : i = us.length := by omega
      subst hie
      have e2 : us'.take us.length = us' := List.take_of_length_le (by omega)
      rw [List.take_of_length_le (Nat.le_refl _), e2] at hall
      (simp only [h, List.take_of_length_le (Nat.le_refl _), e2, (vmA), Nat.reduceEqDiff, reduceIte, Nat.reduceAdd, Int.reduceToNat, Int.reduceLE, Int.reduceLT, Int.reduceEq, Int.reduceNe, Int.reduceAdd, Int.reduceSub, Int.reduceNeg, Nat.reduceLT, Nat.reduceLeDiff, Nat.reduceBEq, undef, (stA), Nat.reduceMul]; try simp (disch := omega) only [(vmp)])
      rw [show fitTs us us' s = ((fitTs us us' s).1, true) from Prod.ext rfl hall]
      exact ⟨_, .refl _, by simp only [AV.low, AV.low.lows, clsV_low, Bool.and_self], rfl⟩
theorem fits_ok : ∀ (m : Nat) (t : Tr), SizeOf.sizeOf t ≤ m → FT t
  | 0, .mk d n us, h => by simp at h
  | m + 1, .mk d n us, h => fits_step d n us fun u hu => fits_ok m u (by
      have := List.sizeOf_lt_of_mem hu
      simp at h; omega)
/-- What makes a type another one, by the document. -/
theorem InstR_ok (g u : Tr) (hg : bulkT g ≤ 1048576) (hu : bulkT u ≤ 1048576) (σ : List Ent) : ACalls E 43 [tyV g, tyV u] σ fun r τ => r = .tup [.sl (clsV (instR g u).1), i64 (instR g u).2] ∧ τ = σ := by
  refine xacalls T0 .freeze [] Tryz.func43 rfl (by kernel_rfl) (by kernel_rfl) (by simp [Tryz.ntmps43]) ?_
  have c1 := fun σ' => ValidTypeR_ok g hg σ'
  have c2 := fun σ' => ValidTypeR_ok u hu σ'
  cases h1 : validT conB g
  · have heq : instR g u = ([], 40) := by unfold instR; rw [if_neg (by rw [h1]; simp)]
    rw [heq]
    rcases g with ⟨d, n, us⟩
    rcases u with ⟨d', n', us'⟩
    simp only [h1, tyV] at c1 c2
    (simp only [tyV, (vmA), Nat.reduceEqDiff, reduceIte, Nat.reduceAdd, Int.reduceToNat, Int.reduceLE, Int.reduceLT, Int.reduceEq, Int.reduceNe, Int.reduceAdd, Int.reduceSub, Int.reduceNeg, Nat.reduceLT, Nat.reduceLeDiff, Nat.reduceBEq, undef, (stA), Nat.reduceMul]; try simp (disch := omega) only [(vmp)])
    refine xWait.go (c1 _) ?_
    (simp only [(vmA), Nat.reduceEqDiff, reduceIte, Nat.reduceAdd, Int.reduceToNat, Int.reduceLE, Int.reduceLT, Int.reduceEq, Int.reduceNe, Int.reduceAdd, Int.reduceSub, Int.reduceNeg, Nat.reduceLT, Nat.reduceLeDiff, Nat.reduceBEq, undef, (stA), Nat.reduceMul]; try simp (disch := omega) only [(vmp)])
    exact ⟨_, .tup (.cons .none (.cons (.refl _) .nil)), by simp only [AV.low, AV.low.lows, Bool.and_self], rfl⟩
  cases h2 : validT conB u
  · have heq : instR g u = ([], 40) := by unfold instR; rw [if_neg (by rw [h2]; simp)]
    rw [heq]
    rcases g with ⟨d, n, us⟩
    rcases u with ⟨d', n', us'⟩
    simp only [h1, h2, tyV] at c1 c2
    (simp only [tyV, (vmA), Nat.reduceEqDiff, reduceIte, Nat.reduceAdd, Int.reduceToNat, Int.reduceLE, Int.reduceLT, Int.reduceEq, Int.reduceNe, Int.reduceAdd, Int.reduceSub, Int.reduceNeg, Nat.reduceLT, Nat.reduceLeDiff, Nat.reduceBEq, undef, (stA), Nat.reduceMul]; try simp (disch := omega) only [(vmp)])
    refine xWait.go (c1 _) ?_
    (simp only [(vmA), Nat.reduceEqDiff, reduceIte, Nat.reduceAdd, Int.reduceToNat, Int.reduceLE, Int.reduceLT, Int.reduceEq, Int.reduceNe, Int.reduceAdd, Int.reduceSub, Int.reduceNeg, Nat.reduceLT, Nat.reduceLeDiff, Nat.reduceBEq, undef, (stA), Nat.reduceMul]; try simp (disch := omega) only [(vmp)])
    refine xWait.go (c2 _) ?_
    (simp only [(vmA), Nat.reduceEqDiff, reduceIte, Nat.reduceAdd, Int.reduceToNat, Int.reduceLE, Int.reduceLT, Int.reduceEq, Int.reduceNe, Int.reduceAdd, Int.reduceSub, Int.reduceNeg, Nat.reduceLT, Nat.reduceLeDiff, Nat.reduceBEq, undef, (stA), Nat.reduceMul]; try simp (disch := omega) only [(vmp)])
    exact ⟨_, .tup (.cons .none (.cons (.refl _) .nil)), by simp only [AV.low, AV.low.lows, Bool.and_self], rfl⟩
  have og : okT g := ⟨bulk_len g hg, valid_typ h1⟩
  have ou : okT u := ⟨bulk_len u hu, valid_typ h2⟩
  have hcb := cnt_bulk g
  have c3 : ∀ σ', ACalls E 80 [tyV g, tyV u, .v (.slice none 0 0)] σ' fun r τ => r = .tup [.sl (clsV (fitT g u []).1), boolV (fitT g u []).2] ∧ τ = σ' := fun σ' =>
    ACalls.wk (.cons (.refl _) (.cons (.refl _) (.cons .nil .nil))) (fits_ok _ g (Nat.le_refl _) u [] σ' og ou (by simp only [List.length_nil]; omega) (fun c hc => by cases hc))
  have h5 := (fit_mat g u [] [] ⟨fun _ => rfl, List.Pairwise.nil⟩).1
  have hfi := fit_inst (u := u) og.2
  cases h3 : (matT g u []).1
  · have heq : instR g u = ([], 5) := by unfold instR; rw [if_pos ⟨h1, h2⟩, if_neg (by rw [h3]; simp)]
    rw [heq]
    rw [h3] at h5
    rw [h5] at c3
    rcases g with ⟨d, n, us⟩
    rcases u with ⟨d', n', us'⟩
    simp only [h1, h2, tyV] at c1 c2 c3
    (simp only [tyV, (vmA), Nat.reduceEqDiff, reduceIte, Nat.reduceAdd, Int.reduceToNat, Int.reduceLE, Int.reduceLT, Int.reduceEq, Int.reduceNe, Int.reduceAdd, Int.reduceSub, Int.reduceNeg, Nat.reduceLT, Nat.reduceLeDiff, Nat.reduceBEq, undef, (stA), Nat.reduceMul]; try simp (disch := omega) only [(vmp)])
    refine xWait.go (c1 _) ?_
    (simp only [(vmA), Nat.reduceEqDiff, reduceIte, Nat.reduceAdd, Int.reduceToNat, Int.reduceLE, Int.reduceLT, Int.reduceEq, Int.reduceNe, Int.reduceAdd, Int.reduceSub, Int.reduceNeg, Nat.reduceLT, Nat.reduceLeDiff, Nat.reduceBEq, undef, (stA), Nat.reduceMul]; try simp (disch := omega) only [(vmp)])
    refine xWait.go (c2 _) ?_
    (simp only [(vmA), Nat.reduceEqDiff, reduceIte, Nat.reduceAdd, Int.reduceToNat, Int.reduceLE, Int.reduceLT, Int.reduceEq, Int.reduceNe, Int.reduceAdd, Int.reduceSub, Int.reduceNeg, Nat.reduceLT, Nat.reduceLeDiff, Nat.reduceBEq, undef, (stA), Nat.reduceMul]; try simp (disch := omega) only [(vmp)])
    refine xWait.go (c3 _) ?_
    (simp only [(vmA), Nat.reduceEqDiff, reduceIte, Nat.reduceAdd, Int.reduceToNat, Int.reduceLE, Int.reduceLT, Int.reduceEq, Int.reduceNe, Int.reduceAdd, Int.reduceSub, Int.reduceNeg, Nat.reduceLT, Nat.reduceLeDiff, Nat.reduceBEq, undef, (stA), Nat.reduceMul]; try simp (disch := omega) only [(vmp)])
    exact ⟨_, .tup (.cons .none (.cons (.refl _) .nil)), by simp only [AV.low, AV.low.lows, Bool.and_self], rfl⟩
  · have heq : instR g u = (clsOf (matT g u []).2 (sortS (ordT g [])), 0) := by unfold instR; rw [if_pos ⟨h1, h2⟩, if_pos h3]
    rw [heq]
    rw [hfi h3] at c3
    generalize clsOf (matT g u []).2 (sortS (ordT g [])) = L at *
    rcases g with ⟨d, n, us⟩
    rcases u with ⟨d', n', us'⟩
    simp only [h1, h2, tyV] at c1 c2 c3
    (simp only [tyV, (vmA), Nat.reduceEqDiff, reduceIte, Nat.reduceAdd, Int.reduceToNat, Int.reduceLE, Int.reduceLT, Int.reduceEq, Int.reduceNe, Int.reduceAdd, Int.reduceSub, Int.reduceNeg, Nat.reduceLT, Nat.reduceLeDiff, Nat.reduceBEq, undef, (stA), Nat.reduceMul]; try simp (disch := omega) only [(vmp)])
    refine xWait.go (c1 _) ?_
    (simp only [(vmA), Nat.reduceEqDiff, reduceIte, Nat.reduceAdd, Int.reduceToNat, Int.reduceLE, Int.reduceLT, Int.reduceEq, Int.reduceNe, Int.reduceAdd, Int.reduceSub, Int.reduceNeg, Nat.reduceLT, Nat.reduceLeDiff, Nat.reduceBEq, undef, (stA), Nat.reduceMul]; try simp (disch := omega) only [(vmp)])
    refine xWait.go (c2 _) ?_
    (simp only [(vmA), Nat.reduceEqDiff, reduceIte, Nat.reduceAdd, Int.reduceToNat, Int.reduceLE, Int.reduceLT, Int.reduceEq, Int.reduceNe, Int.reduceAdd, Int.reduceSub, Int.reduceNeg, Nat.reduceLT, Nat.reduceLeDiff, Nat.reduceBEq, undef, (stA), Nat.reduceMul]; try simp (disch := omega) only [(vmp)])
    refine xWait.go (c3 _) ?_
    (simp only [(vmA), Nat.reduceEqDiff, reduceIte, Nat.reduceAdd, Int.reduceToNat, Int.reduceLE, Int.reduceLT, Int.reduceEq, Int.reduceNe, Int.reduceAdd, Int.reduceSub, Int.reduceNeg, Nat.reduceLT, Nat.reduceLeDiff, Nat.reduceBEq, undef, (stA), Nat.reduceMul]; try simp (disch := omega) only [(vmp)])
    exact ⟨_, .refl _, by simp only [AV.low, AV.low.lows, clsV_low, Bool.and_self], rfl⟩
end Go.D

/- What makes a type another one: the law. -/
set_option linter.unusedVariables false
set_option linter.unusedSimpArgs false
set_option linter.unnecessarySimpa false
set_option maxRecDepth 100000
namespace Go.D
open Go Go.Vm Go.Proofs Go.RowKit

set_option maxHeartbeats 16000000 in
theorem law_instance (haw : AwakeOK) (g u : Tr) (s : List Cl) (hbg : bulkT g ≤ 1048576) (hbu : bulkT u ≤ 1048576) (hbs : bulkC s ≤ 1048576) (σ : List Ent) :
    HasBody E 12 ∧ ∀ (z : S) (vs : List Value), z.σ = σ → HInv z → E.Γ z.B z.w → RepL z [tyV g, tyV u, .sl (clsV s)] vs →
      Calls E.P 12 vs.toArray z.w fun e w' => ∃ v r s', e = .returned v ∧ s'.w = w' ∧ HInv s' ∧ Ext z s' ∧ Rep s' r v ∧ (r = boolV true ∧ s'.σ = σ) := by
  refine xbody T0 .drop [] Tryz.func12 rfl (by kernel_rfl) (by kernel_rfl) (by simp [Tryz.ntmps12]) (R := fun r τ => r = boolV true ∧ τ = σ) ?_
  have hg := bulk_len g hbg
  have hu := bulk_len u hbu
  have hs := bulkC_len hbs
  have hcu := cnt_bulk u
  have c1 := fun σ' => Instance_ok g u hg hu σ'
  have c2 := fun σ' => InstR_ok g u hbg hbu σ'
  have c4 := fun σ' => Apply_ok s hs g hg σ'
  rcases inst_cases g u with ⟨v1, v2, hm, heq⟩ | ⟨e1, heq, ne1⟩
  · obtain ⟨hlc, hap⟩ := inst_back hu (by omega) v1 v2 hm
    generalize clsOf (matT g u []).2 (sortS (ordT g [])) = L at *
    have c3 := fun σ' => Apply_ok L hlc g hg σ'
    have q1 : ∀ σ', ACalls E 20 [.sl (clsV L), .sl (clsV L)] σ' fun r τ => r = boolV true ∧ τ = σ' := fun σ' => by
      have := SameSubst_ok L L hlc hlc σ'
      rw [sameCs_refl, decide_eq_true rfl] at this
      exact this
    have q2 := fun σ' => SameType2_ok _ u (Nat.le_refl _) u σ' hu hu
    rw [sameB_refl] at q2
    simp only [heq] at c1 c2
    simp only [hap] at c3
    rcases hx : appR s g with ⟨x, e3⟩
    have hfw : e3 = 0 → lenT x ∧ ∃ l, instR g x = (l, 0) := fun h => by
      subst h
      refine ⟨?_, inst_fwd hs hx⟩
      rcases appR_cases s g with ⟨_, _, _, h4⟩ | ⟨e, h4, ne⟩
      · rw [hx] at h4; rw [(Prod.mk.inj h4).1]; exact putT_len s (fun e he => (hs.2 e he).2) g hg
      · rw [hx] at h4; exact absurd (Prod.mk.inj h4).2.symm ne
    simp only [hx] at c4
    rcases g with ⟨d, n, us⟩
    rcases u with ⟨d', n', us'⟩
    have c5 := fun h σ' => Instance_ok (.mk d n us) x hg (hfw h).1 σ'
    rcases x with ⟨d3, n3, us3⟩
    simp only [tyV] at c1 c2 c3 c4 c5 q2
    (simp only [tyV, (vmA), Nat.reduceEqDiff, reduceIte, Nat.reduceAdd, Int.reduceToNat, Int.reduceLE, Int.reduceLT, Int.reduceEq, Int.reduceNe, Int.reduceAdd, Int.reduceSub, Int.reduceNeg, Nat.reduceLT, Nat.reduceLeDiff, Nat.reduceBEq, undef, (stA), Nat.reduceMul]; try simp (disch := omega) only [(vmp)])
    refine xWait.go (c1 _) ?_
    (simp only [(vmA), Nat.reduceEqDiff, reduceIte, Nat.reduceAdd, Int.reduceToNat, Int.reduceLE, Int.reduceLT, Int.reduceEq, Int.reduceNe, Int.reduceAdd, Int.reduceSub, Int.reduceNeg, Nat.reduceLT, Nat.reduceLeDiff, Nat.reduceBEq, undef, (stA), Nat.reduceMul]; try simp (disch := omega) only [(vmp)])
    refine xWait.go (c2 _) ?_
    (simp only [(vmA), Nat.reduceEqDiff, reduceIte, Nat.reduceAdd, Int.reduceToNat, Int.reduceLE, Int.reduceLT, Int.reduceEq, Int.reduceNe, Int.reduceAdd, Int.reduceSub, Int.reduceNeg, Nat.reduceLT, Nat.reduceLeDiff, Nat.reduceBEq, undef, (stA), Nat.reduceMul]; try simp (disch := omega) only [(vmp)])
    refine xWait.go (q1 _) ?_
    (simp only [(vmA), Nat.reduceEqDiff, reduceIte, Nat.reduceAdd, Int.reduceToNat, Int.reduceLE, Int.reduceLT, Int.reduceEq, Int.reduceNe, Int.reduceAdd, Int.reduceSub, Int.reduceNeg, Nat.reduceLT, Nat.reduceLeDiff, Nat.reduceBEq, undef, (stA), Nat.reduceMul]; try simp (disch := omega) only [(vmp)])
    refine xWait.go (c3 _) ?_
    (simp only [(vmA), Nat.reduceEqDiff, reduceIte, Nat.reduceAdd, Int.reduceToNat, Int.reduceLE, Int.reduceLT, Int.reduceEq, Int.reduceNe, Int.reduceAdd, Int.reduceSub, Int.reduceNeg, Nat.reduceLT, Nat.reduceLeDiff, Nat.reduceBEq, undef, (stA), Nat.reduceMul]; try simp (disch := omega) only [(vmp)])
    refine xWait.go (q2 _) ?_
    (simp only [(vmA), Nat.reduceEqDiff, reduceIte, Nat.reduceAdd, Int.reduceToNat, Int.reduceLE, Int.reduceLT, Int.reduceEq, Int.reduceNe, Int.reduceAdd, Int.reduceSub, Int.reduceNeg, Nat.reduceLT, Nat.reduceLeDiff, Nat.reduceBEq, undef, (stA), Nat.reduceMul]; try simp (disch := omega) only [(vmp)])
    refine xWait.go (c4 _) ?_
    by_cases he : e3 = 0
    · obtain ⟨_, l, hl⟩ := hfw he
      have c6 := c5 he
      simp only [hl] at c6
      (simp only [he, (vmA), Nat.reduceEqDiff, reduceIte, Nat.reduceAdd, Int.reduceToNat, Int.reduceLE, Int.reduceLT, Int.reduceEq, Int.reduceNe, Int.reduceAdd, Int.reduceSub, Int.reduceNeg, Nat.reduceLT, Nat.reduceLeDiff, Nat.reduceBEq, undef, (stA), Nat.reduceMul]; try simp (disch := omega) only [(vmp)])
      refine xWait.go (c6 _) ?_
      (simp only [(vmA), Nat.reduceEqDiff, reduceIte, Nat.reduceAdd, Int.reduceToNat, Int.reduceLE, Int.reduceLT, Int.reduceEq, Int.reduceNe, Int.reduceAdd, Int.reduceSub, Int.reduceNeg, Nat.reduceLT, Nat.reduceLeDiff, Nat.reduceBEq, undef, (stA), Nat.reduceMul]; try simp (disch := omega) only [(vmp)])
      refine xWait.go (haw _) ?_
      (simp only [(vmA), Nat.reduceEqDiff, reduceIte, Nat.reduceAdd, Int.reduceToNat, Int.reduceLE, Int.reduceLT, Int.reduceEq, Int.reduceNe, Int.reduceAdd, Int.reduceSub, Int.reduceNeg, Nat.reduceLT, Nat.reduceLeDiff, Nat.reduceBEq, undef, (stA), Nat.reduceMul]; try simp (disch := omega) only [(vmp)])
    · (simp only [he, (vmA), Nat.reduceEqDiff, reduceIte, Nat.reduceAdd, Int.reduceToNat, Int.reduceLE, Int.reduceLT, Int.reduceEq, Int.reduceNe, Int.reduceAdd, Int.reduceSub, Int.reduceNeg, Nat.reduceLT, Nat.reduceLeDiff, Nat.reduceBEq, undef, (stA), Nat.reduceMul]; try simp (disch := omega) only [(vmp)])
      refine xWait.go (haw _) ?_
      (simp only [(vmA), Nat.reduceEqDiff, reduceIte, Nat.reduceAdd, Int.reduceToNat, Int.reduceLE, Int.reduceLT, Int.reduceEq, Int.reduceNe, Int.reduceAdd, Int.reduceSub, Int.reduceNeg, Nat.reduceLT, Nat.reduceLeDiff, Nat.reduceBEq, undef, (stA), Nat.reduceMul]; try simp (disch := omega) only [(vmp)])
  · have q1 : ∀ σ', ACalls E 20 [.sl (clsV []), .sl (clsV [])] σ' fun r τ => r = boolV true ∧ τ = σ' := fun σ' => by
      have := SameSubst_ok [] [] ⟨by simp, fun c hc => by cases hc⟩ ⟨by simp, fun c hc => by cases hc⟩ σ'
      exact this
    simp only [heq] at c1 c2
    rcases hx : appR s g with ⟨x, e3⟩
    have hfw : e3 = 0 → lenT x ∧ ∃ l, instR g x = (l, 0) := fun h => by
      subst h
      refine ⟨?_, inst_fwd hs hx⟩
      rcases appR_cases s g with ⟨_, _, _, h4⟩ | ⟨e, h4, ne⟩
      · rw [hx] at h4; rw [(Prod.mk.inj h4).1]; exact putT_len s (fun e he => (hs.2 e he).2) g hg
      · rw [hx] at h4; exact absurd (Prod.mk.inj h4).2.symm ne
    simp only [hx] at c4
    rcases g with ⟨d, n, us⟩
    rcases u with ⟨d', n', us'⟩
    have c5 := fun h σ' => Instance_ok (.mk d n us) x hg (hfw h).1 σ'
    rcases x with ⟨d3, n3, us3⟩
    simp only [tyV] at c1 c2 c4 c5
    (simp only [tyV, (vmA), Nat.reduceEqDiff, reduceIte, Nat.reduceAdd, Int.reduceToNat, Int.reduceLE, Int.reduceLT, Int.reduceEq, Int.reduceNe, Int.reduceAdd, Int.reduceSub, Int.reduceNeg, Nat.reduceLT, Nat.reduceLeDiff, Nat.reduceBEq, undef, (stA), Nat.reduceMul]; try simp (disch := omega) only [(vmp)])
    refine xWait.go (c1 _) ?_
    (simp only [(vmA), Nat.reduceEqDiff, reduceIte, Nat.reduceAdd, Int.reduceToNat, Int.reduceLE, Int.reduceLT, Int.reduceEq, Int.reduceNe, Int.reduceAdd, Int.reduceSub, Int.reduceNeg, Nat.reduceLT, Nat.reduceLeDiff, Nat.reduceBEq, undef, (stA), Nat.reduceMul]; try simp (disch := omega) only [(vmp)])
    refine xWait.go (c2 _) ?_
    (simp only [ne1, (vmA), Nat.reduceEqDiff, reduceIte, Nat.reduceAdd, Int.reduceToNat, Int.reduceLE, Int.reduceLT, Int.reduceEq, Int.reduceNe, Int.reduceAdd, Int.reduceSub, Int.reduceNeg, Nat.reduceLT, Nat.reduceLeDiff, Nat.reduceBEq, undef, (stA), Nat.reduceMul]; try simp (disch := omega) only [(vmp)])
    refine xWait.go (q1 _) ?_
    (simp only [ne1, (vmA), Nat.reduceEqDiff, reduceIte, Nat.reduceAdd, Int.reduceToNat, Int.reduceLE, Int.reduceLT, Int.reduceEq, Int.reduceNe, Int.reduceAdd, Int.reduceSub, Int.reduceNeg, Nat.reduceLT, Nat.reduceLeDiff, Nat.reduceBEq, undef, (stA), Nat.reduceMul]; try simp (disch := omega) only [(vmp)])
    refine xWait.go (c4 _) ?_
    by_cases he : e3 = 0
    · obtain ⟨_, l, hl⟩ := hfw he
      have c6 := c5 he
      simp only [hl] at c6
      (simp only [he, (vmA), Nat.reduceEqDiff, reduceIte, Nat.reduceAdd, Int.reduceToNat, Int.reduceLE, Int.reduceLT, Int.reduceEq, Int.reduceNe, Int.reduceAdd, Int.reduceSub, Int.reduceNeg, Nat.reduceLT, Nat.reduceLeDiff, Nat.reduceBEq, undef, (stA), Nat.reduceMul]; try simp (disch := omega) only [(vmp)])
      refine xWait.go (c6 _) ?_
      (simp only [(vmA), Nat.reduceEqDiff, reduceIte, Nat.reduceAdd, Int.reduceToNat, Int.reduceLE, Int.reduceLT, Int.reduceEq, Int.reduceNe, Int.reduceAdd, Int.reduceSub, Int.reduceNeg, Nat.reduceLT, Nat.reduceLeDiff, Nat.reduceBEq, undef, (stA), Nat.reduceMul]; try simp (disch := omega) only [(vmp)])
      refine xWait.go (haw _) ?_
      (simp only [(vmA), Nat.reduceEqDiff, reduceIte, Nat.reduceAdd, Int.reduceToNat, Int.reduceLE, Int.reduceLT, Int.reduceEq, Int.reduceNe, Int.reduceAdd, Int.reduceSub, Int.reduceNeg, Nat.reduceLT, Nat.reduceLeDiff, Nat.reduceBEq, undef, (stA), Nat.reduceMul]; try simp (disch := omega) only [(vmp)])
    · (simp only [he, (vmA), Nat.reduceEqDiff, reduceIte, Nat.reduceAdd, Int.reduceToNat, Int.reduceLE, Int.reduceLT, Int.reduceEq, Int.reduceNe, Int.reduceAdd, Int.reduceSub, Int.reduceNeg, Nat.reduceLT, Nat.reduceLeDiff, Nat.reduceBEq, undef, (stA), Nat.reduceMul]; try simp (disch := omega) only [(vmp)])
      refine xWait.go (haw _) ?_
      (simp only [(vmA), Nat.reduceEqDiff, reduceIte, Nat.reduceAdd, Int.reduceToNat, Int.reduceLE, Int.reduceLT, Int.reduceEq, Int.reduceNe, Int.reduceAdd, Int.reduceSub, Int.reduceNeg, Nat.reduceLT, Nat.reduceLeDiff, Nat.reduceBEq, undef, (stA), Nat.reduceMul]; try simp (disch := omega) only [(vmp)])
end Go.D
