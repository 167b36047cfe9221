/- Types that are no variables are laid: the walk. -/
import Derived.Test.YtoobkfjkohadnaaGreatDoorFnE
import Derived.Test.YtoobkfjkohadnaaGreatDoorVmF
import Derived.Test.YtoobkfjkohadnaaGreatDoorFnC
set_option linter.unusedVariables false
set_option linter.unusedSimpArgs false
set_option linter.unnecessarySimpa false
set_option maxRecDepth 100000
namespace Go.D
open Go Go.Vm Go.Proofs Go.RowKit
set_option maxHeartbeats 16000000 in
theorem node_walk (gid v z : Nat) (d n : List UInt8) (us : List Tr) (hd : ¬ d = kiVar) (S : List Ent) (es : List MEnt) (clock : Nat) (hg : S[gid]? = some (graE v z)) (hv : S[v]? = some (.map es clock)) (hks : strK es) (hx : ∀ x, mget (.str n) es = some x → ∃ p, x = .ref p 0 0)
  (hus : us.length ≤ 2) {g' J' : List Ent} {w' : Nat} {ps : List Nat} (hrun : NRun gid d n us S.length us S [] 0 [] g' J' w' ps) :
  ACalls E 56 [.ref gid 0 0, .agg [.str d, .str n, .sl (tysV us)]] S fun r τ => r = .ref (S.length + 1) 0 0 ∧ τ = g' ++ ownN d n us S.length w' ps J' := by
 have gg := sget_of hg
 have gv := sget_of hv
 have n1 : ¬ d = [118, 97, 114] := hd
 simp only [graE] at gg
 have hor : mget (.str n) es = none ∨ ∃ p, mget (.str n) es = some (.ref p 0 0) := by
  cases hm : mget (.str n) es with
  | none => exact .inl rfl
  | some x => obtain ⟨p, rfl⟩ := hx x hm; exact .inr ⟨p, rfl⟩
 refine xacalls T0 .stay [] Tryz.func56 rfl (by kernel_rfl) (by kernel_rfl) (by simp [Tryz.ntmps56]) ?_
 (simp only [(vmA), Nat.reduceEqDiff, reduceIte, Nat.reduceAdd, Int.reduceToNat, Int.reduceLE, Int.reduceLT, Int.reduceEq, Int.reduceNe, Int.reduceAdd, Int.reduceSub, Int.reduceNeg, Nat.reduceLT, Nat.reduceLeDiff, Nat.reduceBEq, undef, (stA), Nat.reduceMul]; try simp (disch := omega) only [(vmp)])
 refine ydraw T0 [] (by kernel_rfl) (by kernel_rfl) (by kernel_rfl) (by kernel_rfl) ?_
 rcases hor with hn | ⟨p0, hn⟩
 (simp only [gg, gv, hn, n1, Option.isSome_none, Bool.false_eq_true, if_false, tysV_len, (vmA), Nat.reduceEqDiff, reduceIte, Nat.reduceAdd, Int.reduceToNat, Int.reduceLE, Int.reduceLT, Int.reduceEq, Int.reduceNe, Int.reduceAdd, Int.reduceSub, Int.reduceNeg, Nat.reduceLT, Nat.reduceLeDiff, Nat.reduceBEq, undef, (stA), Nat.reduceMul]; try simp (disch := omega) only [(vmp)])
 rotate_left
 (simp only [gg, gv, hn, n1, Option.isSome_some, if_true, tysV_len, (vmA), Nat.reduceEqDiff, reduceIte, Nat.reduceAdd, Int.reduceToNat, Int.reduceLE, Int.reduceLT, Int.reduceEq, Int.reduceNe, Int.reduceAdd, Int.reduceSub, Int.reduceNeg, Nat.reduceLT, Nat.reduceLeDiff, Nat.reduceBEq, undef, (stA), Nat.reduceMul]; try simp (disch := omega) only [(vmp)])
 rotate_left
 all_goals
  refine ⟨⟨rfl, strK_ok hks _ _ _⟩, ?_⟩
  refine xloop (α := List Tr × List Ent × List Ent × Nat × List Nat × Nat) T0 (fun x => [(0, .ref gid 0 0), (3, .ref S.length 0 0), (7, .ref (S.length + 1) 0 0), (44, .sl (tysV us)), (45, i64 us.length), (46, i64 x.2.2.2.2.2)]) (fun x => x.2.1) (fun x => ownN d n us S.length x.2.2.2.1 x.2.2.2.2.1 x.2.2.1)
   (fun x => x.1 = us.drop x.2.2.2.2.2 ∧ x.2.2.2.2.2 ≤ us.length ∧ NRun gid d n us S.length x.1 x.2.1 x.2.2.1 x.2.2.2.1 x.2.2.2.2.1 g' J' w' ps ∧ x.2.1.length = S.length ∧ (x.2.2.2.2.1 ≠ [] → x.2.2.1[x.2.2.2.1]? = some (rowP (refs x.2.2.2.2.1) (x.2.2.2.2.1.length - 1))) ∧ x.2.2.2.2.1.length = x.2.2.2.2.2) (fun x => us.length - x.2.2.2.2.2) (by kernel_rfl)
   ⟨(us, S, [], 0, [], 0), ⟨by simp, by simp, hrun, rfl, fun h => absurd rfl h, rfl⟩, by (simp only [(vmA), Nat.reduceEqDiff, reduceIte, Nat.reduceAdd, Int.reduceToNat, Int.reduceLE, Int.reduceLT, Int.reduceEq, Int.reduceNe, Int.reduceAdd, Int.reduceSub, Int.reduceNeg, Nat.reduceLT, Nat.reduceLeDiff, Nat.reduceBEq, undef, (stA), Nat.reduceMul, Int.natCast_zero]; try simp (disch := omega) only [(vmp)]), rfl, rfl⟩ ?_
  rintro ⟨rest, g, J, w, qs, i⟩ ⟨hr, hi, hR, hgl, hrow, hql⟩
  simp only at hr hi hR hgl hrow hql
  by_cases h : (i : Int) < us.length
  ·have hi' : i < us.length := by omega
   have hu : us[i]? = some us[i] := List.getElem?_eq_getElem hi'
   rw [List.drop_eq_getElem_cons hi'] at hr
   subst hr
   generalize us[i] = u at *
   have hgA := tysV_get hu
   cases hR with
   | cons hlen hcall hrest =>
    rename_i g1 N p
    rcases u with ⟨d2, n2, us2⟩
    rw [← hgl] at *
    simp only [tyV] at hgA hcall
    (simp only [h, hgA, tysV_len, ownN, boxT, tyCells, nodeE, (vmA), Nat.reduceEqDiff, reduceIte, Nat.reduceAdd, Int.reduceToNat, Int.reduceLE, Int.reduceLT, Int.reduceEq, Int.reduceNe, Int.reduceAdd, Int.reduceSub, Int.reduceNeg, Nat.reduceLT, Nat.reduceLeDiff, Nat.reduceBEq, undef, (stA), Nat.reduceMul]; try simp (disch := omega) only [(vmp)])
    refine zdraw T0 ⟨[9, 12], [7], [2, 3, 4, 6], some [1, 2 + J.length], false⟩ (by kernel_rfl) (by kernel_rfl) (by kernel_rfl) (by kernel_rfl) ?_
    (simp only [zDraw_nil,zDraw_go,zDraw_if,zSlot_some,zGuard_tt,zGuard_ff,zGuard_tf,zGuard_ft,zGuard_un,zOut_some,zOut_pure,zOut_cond,zNext_move,zNext_assign,zNext_pick,zNext_buildSlice,zNext_build,zNext_load,zNext_store,zNext_builtin,zNext_fieldAddr,zNext_nilCheck,zNext_indexAddr,zNext_unOp,zNext_binOp, (vmA), Nat.reduceEqDiff, reduceIte, Nat.reduceAdd, Int.reduceToNat, Int.reduceLE, Int.reduceLT, Int.reduceEq, Int.reduceNe, Int.reduceAdd, Int.reduceSub, Int.reduceNeg, Nat.reduceLT, Nat.reduceLeDiff, Nat.reduceBEq, undef, (stA), Nat.reduceMul]; try simp (disch := omega) only [(vmp)])
    have own1 : ∀ (g2 l2 : List Ent) (e : Ent), g2.length = g.length → l2[1]? = some e → sget g2 l2 (g.length + 1) = some e := fun g2 l2 e q1 q2 => by unfold sget; rw [if_neg (by omega), q1, Nat.add_sub_cancel_left]; exact q2
    have own2 : ∀ (g2 l2 : List Ent) (e : Ent), g2.length = g.length → l2[2 + J.length]? = some e → sget g2 l2 (g.length + (J.length + 1 + 1)) = some e := fun g2 l2 e q1 q2 => by
     unfold sget; rw [if_neg (by omega), q1, Nat.add_sub_cancel_left, show J.length + 1 + 1 = 2 + J.length by omega]; exact q2
    have at2 : ∀ (a b c : Ent) (N : List Ent), (a :: b :: (J ++ [c] ++ N))[2 + J.length]? = some c := fun a b c N => by rw [show 2 + J.length = J.length + 1 + 1 by omega]; simp
    refine zNext.looseS (r := .ref (g.length + 1) 0 0) rfl rfl rfl rfl (fun g2 l2 hg2 hl2 => ⟨True, trivial, ?_⟩) ?_
    ·have s1 := own1 g2 l2 _ hg2 ((hl2 1 (by simp)).trans rfl)
     (simp only [s1, (vmA), Nat.reduceEqDiff, reduceIte, Nat.reduceAdd, Int.reduceToNat, Int.reduceLE, Int.reduceLT, Int.reduceEq, Int.reduceNe, Int.reduceAdd, Int.reduceSub, Int.reduceNeg, Nat.reduceLT, Nat.reduceLeDiff, Nat.reduceBEq, undef, (stA), Nat.reduceMul]; try simp (disch := omega) only [(vmp)])
    (simp only [zDraw_nil,zDraw_go,zDraw_if,zSlot_some,zGuard_tt,zGuard_ff,zGuard_tf,zGuard_ft,zGuard_un,zOut_some,zOut_pure,zOut_cond,zNext_move,zNext_assign,zNext_pick,zNext_buildSlice,zNext_build,zNext_load,zNext_store,zNext_builtin,zNext_fieldAddr,zNext_nilCheck,zNext_indexAddr,zNext_unOp,zNext_binOp, (vmA), Nat.reduceEqDiff, reduceIte, Nat.reduceAdd, Int.reduceToNat, Int.reduceLE, Int.reduceLT, Int.reduceEq, Int.reduceNe, Int.reduceAdd, Int.reduceSub, Int.reduceNeg, Nat.reduceLT, Nat.reduceLeDiff, Nat.reduceBEq, undef, (stA), Nat.reduceMul]; try simp (disch := omega) only [(vmp)])
    refine zNext.looseS (r := .ref (g.length + 1) 0 2) rfl rfl rfl rfl (fun g2 l2 hg2 hl2 => ⟨True, trivial, ?_⟩) ?_
    ·have s1 := own1 g2 l2 _ hg2 ((hl2 1 (by simp)).trans rfl)
     (simp only [s1, (vmA), Nat.reduceEqDiff, reduceIte, Nat.reduceAdd, Int.reduceToNat, Int.reduceLE, Int.reduceLT, Int.reduceEq, Int.reduceNe, Int.reduceAdd, Int.reduceSub, Int.reduceNeg, Nat.reduceLT, Nat.reduceLeDiff, Nat.reduceBEq, undef, (stA), Nat.reduceMul]; try simp (disch := omega) only [(vmp)])
    (simp only [zDraw_nil,zDraw_go,zDraw_if,zSlot_some,zGuard_tt,zGuard_ff,zGuard_tf,zGuard_ft,zGuard_un,zOut_some,zOut_pure,zOut_cond,zNext_move,zNext_assign,zNext_pick,zNext_buildSlice,zNext_build,zNext_load,zNext_store,zNext_builtin,zNext_fieldAddr,zNext_nilCheck,zNext_indexAddr,zNext_unOp,zNext_binOp, (vmA), Nat.reduceEqDiff, reduceIte, Nat.reduceAdd, Int.reduceToNat, Int.reduceLE, Int.reduceLT, Int.reduceEq, Int.reduceNe, Int.reduceAdd, Int.reduceSub, Int.reduceNeg, Nat.reduceLT, Nat.reduceLeDiff, Nat.reduceBEq, undef, (stA), Nat.reduceMul]; try simp (disch := omega) only [(vmp)])
    refine zNext.looseS (r := argsR (g.length + (w + 2)) qs) rfl rfl rfl rfl (fun g2 l2 hg2 hl2 => ⟨True, trivial, ?_⟩) ?_
    ·have s1 := own1 g2 l2 _ hg2 ((hl2 1 (by simp)).trans rfl)
     (simp only [s1, (vmA), Nat.reduceEqDiff, reduceIte, Nat.reduceAdd, Int.reduceToNat, Int.reduceLE, Int.reduceLT, Int.reduceEq, Int.reduceNe, Int.reduceAdd, Int.reduceSub, Int.reduceNeg, Nat.reduceLT, Nat.reduceLeDiff, Nat.reduceBEq, undef, (stA), Nat.reduceMul]; try simp (disch := omega) only [(vmp)])
    (simp only [zDraw_nil,zDraw_go,zDraw_if,zSlot_some,zGuard_tt,zGuard_ff,zGuard_tf,zGuard_ft,zGuard_un,zOut_some,zOut_pure,zOut_cond,zNext_move,zNext_assign,zNext_pick,zNext_buildSlice,zNext_build,zNext_load,zNext_store,zNext_builtin,zNext_fieldAddr,zNext_nilCheck,zNext_indexAddr,zNext_unOp,zNext_binOp, (vmA), Nat.reduceEqDiff, reduceIte, Nat.reduceAdd, Int.reduceToNat, Int.reduceLE, Int.reduceLT, Int.reduceEq, Int.reduceNe, Int.reduceAdd, Int.reduceSub, Int.reduceNeg, Nat.reduceLT, Nat.reduceLeDiff, Nat.reduceBEq, undef, (stA), Nat.reduceMul]; try simp (disch := omega) only [(vmp)])
    refine zNext.looseS (r := .agg [.str d2, .str n2, .sl (tysV us2)]) rfl rfl rfl rfl (fun g2 l2 hg2 hl2 => ⟨True, trivial, ?_⟩) ?_
    ·have q3 := at2 (Ent.arr 24 [AV.str d, AV.str n, AV.sl (tysV us)] 0 0) (Ent.arr 107 [AV.str d, AV.str n, argsR (g.length + (w + 2)) qs, nilP] 0 0) (Ent.arr 24 [AV.str d2, AV.str n2, AV.sl (tysV us2)] 0 0) []
     rw [List.append_nil] at q3
     have s1 := own2 g2 l2 _ hg2 ((hl2 (2 + J.length) (by simp)).trans q3)
     (simp only [s1, (vmA), Nat.reduceEqDiff, reduceIte, Nat.reduceAdd, Int.reduceToNat, Int.reduceLE, Int.reduceLT, Int.reduceEq, Int.reduceNe, Int.reduceAdd, Int.reduceSub, Int.reduceNeg, Nat.reduceLT, Nat.reduceLeDiff, Nat.reduceBEq, undef, (stA), Nat.reduceMul]; try simp (disch := omega) only [(vmp)])
    (simp only [zDraw_nil,zDraw_go,zDraw_if,zSlot_some,zGuard_tt,zGuard_ff,zGuard_tf,zGuard_ft,zGuard_un,zOut_some,zOut_pure,zOut_cond,zNext_move,zNext_assign,zNext_pick,zNext_buildSlice,zNext_build,zNext_load,zNext_store,zNext_builtin,zNext_fieldAddr,zNext_nilCheck,zNext_indexAddr,zNext_unOp,zNext_binOp, (vmA), Nat.reduceEqDiff, reduceIte, Nat.reduceAdd, Int.reduceToNat, Int.reduceLE, Int.reduceLT, Int.reduceEq, Int.reduceNe, Int.reduceAdd, Int.reduceSub, Int.reduceNeg, Nat.reduceLT, Nat.reduceLeDiff, Nat.reduceBEq, undef, (stA), Nat.reduceMul]; try simp (disch := omega) only [(vmp)])
    refine zNext.softC (by rfl) (by rfl) _ rfl hcall hlen (by
     intro n' hn'
     simp only [List.mem_cons, List.not_mem_nil, or_false] at hn'
     rcases hn' with rfl | rfl
     ·rfl
     ·have q3 := at2 (boxT (.mk d n us)) (nodeE d n (argsR (g.length + (w + 2)) qs) nilP) (boxT (.mk d2 n2 us2)) N
      have q4 := at2 (boxT (.mk d n us)) (nodeE d n (argsR (g.length + (w + 2)) qs) nilP) (boxT (.mk d2 n2 us2)) []
      rw [List.append_nil] at q4
      exact q3.trans q4.symm) ?_
    rw [← hlen] at *
    rcases qs with _ | ⟨q0, qr⟩
    ·(simp only [ownN, boxT, tyCells, nodeE, argsR, zDraw_nil,zDraw_go,zDraw_if,zSlot_some,zGuard_tt,zGuard_ff,zGuard_tf,zGuard_ft,zGuard_un,zOut_some,zOut_pure,zOut_cond,zNext_move,zNext_assign,zNext_pick,zNext_buildSlice,zNext_build,zNext_load,zNext_store,zNext_builtin,zNext_fieldAddr,zNext_nilCheck,zNext_indexAddr,zNext_unOp,zNext_binOp, (vmA), Nat.reduceEqDiff, reduceIte, Nat.reduceAdd, Int.reduceToNat, Int.reduceLE, Int.reduceLT, Int.reduceEq, Int.reduceNe, Int.reduceAdd, Int.reduceSub, Int.reduceNeg, Nat.reduceLT, Nat.reduceLeDiff, Nat.reduceBEq, undef, (stA), Nat.reduceMul]; try simp (disch := omega) only [(vmp)])
     refine ⟨⟨by unfold maxRoom; omega, by unfold maxRoom; omega⟩, (us.drop (i + 1), g1, stepJ (J ++ [boxT (.mk d2 n2 us2)] ++ N) w [] p, stepW (J ++ [boxT (.mk d2 n2 us2)] ++ N) w [], [p], i + 1), ⟨rfl, by simp only; omega, hrest, rfl, fun _ => ?_, ?_⟩, by simp only; omega, rfl, rfl, ?_⟩
     ·simp only [stepJ, stepW, if_true]; rw [List.getElem?_append_right (Nat.le_refl _), Nat.sub_self]; rfl
     ·simp only [List.length_nil] at hql; simp only [List.length_cons, List.length_nil]; omega
     ·simp [stepJ, stepW, boxT, tyCells, rowP]
    ·have h5 : ∀ c, (J ++ c :: N)[w]? = some (.arr 74 (refs (q0 :: qr)) qr.length 0) := fun c => get_olds (hrow (by simp)) _
     have hrl := refs_len (q0 :: qr)
     simp only [List.length_cons] at hrl hql
     (simp only [ownN, boxT, tyCells, nodeE, argsR, h5, zDraw_nil,zDraw_go,zDraw_if,zSlot_some,zGuard_tt,zGuard_ff,zGuard_tf,zGuard_ft,zGuard_un,zOut_some,zOut_pure,zOut_cond,zNext_move,zNext_assign,zNext_pick,zNext_buildSlice,zNext_build,zNext_load,zNext_store,zNext_builtin,zNext_fieldAddr,zNext_nilCheck,zNext_indexAddr,zNext_unOp,zNext_binOp, (vmA), Nat.reduceEqDiff, reduceIte, Nat.reduceAdd, Int.reduceToNat, Int.reduceLE, Int.reduceLT, Int.reduceEq, Int.reduceNe, Int.reduceAdd, Int.reduceSub, Int.reduceNeg, Nat.reduceLT, Nat.reduceLeDiff, Nat.reduceBEq, undef, (stA), Nat.reduceMul]; try simp (disch := omega) only [(vmp)])
     refine ⟨⟨by omega, by omega, by unfold maxRoom; omega, by unfold maxRoom; omega⟩, (us.drop (i + 1), g1, stepJ (J ++ [boxT (.mk d2 n2 us2)] ++ N) w (q0 :: qr) p, stepW (J ++ [boxT (.mk d2 n2 us2)] ++ N) w (q0 :: qr), q0 :: qr ++ [p], i + 1), ⟨rfl, by simp only; omega, hrest, rfl, fun _ => ?_, ?_⟩, by simp only; omega, rfl, rfl, ?_⟩
     ·have hlt := lt_of_get (hrow (by simp))
      simp only [stepJ, stepW, List.cons_ne_nil, reduceCtorEq, if_false]
      rw [List.getElem?_set_self (by simp only [List.length_append]; omega)]
      simp
     ·simp only [List.cons_append, List.length_cons, List.length_append, List.length_nil]; omega
     ·simp [stepJ, stepW, boxT, tyCells, rowP, refs]
  ·have hie : i = us.length := by omega
   rw [hie, List.drop_length] at hr
   subst hr
   cases hR with
   | nil =>
    (simp only [h, (vmA), Nat.reduceEqDiff, reduceIte, Nat.reduceAdd, Int.reduceToNat, Int.reduceLE, Int.reduceLT, Int.reduceEq, Int.reduceNe, Int.reduceAdd, Int.reduceSub, Int.reduceNeg, Nat.reduceLT, Nat.reduceLeDiff, Nat.reduceBEq, undef, (stA), Nat.reduceMul]; try simp (disch := omega) only [(vmp)])
theorem node_step (gid v z : Nat) (d n : List UInt8) (us : List Tr) (hok : okT (.mk d n us)) (hd : ¬ d = kiVar) (hus : us.length ≤ 2) (ih : ∀ u ∈ us, NodeC gid v z u) : NodeC gid v z (.mk d n us) := by
 intro X L S es clock Ps hX h
 have h0 : NInv X L gid v z d n us S.length S [] 0 [] es clock Ps := by
  refine ⟨h.push _ fun q hlt hq => ?_, fun hne => absurd rfl hne, fun q hq => (by cases hq), rfl, lt_of_get h.hv⟩
  rcases hq with hq | hq | hq | ⟨hne, _⟩
  ·exact hq
  ·omega
  ·omega
  ·exact absurd rfl hne
 obtain ⟨es', clock', Qs, J', w', ps, r1, i1, l1, m1⟩ := nrun_ex hX us S [] 0 [] es clock Ps ih h0
 rw [List.nil_append] at r1 i1
 have hpe : ps.length = us.length := by
  have : ∀ (l : List Tr) (qs : List Nat), LaidGs (glook (Ps ++ Qs)) (vlook es') l qs → qs.length = l.length := fun l => by
   induction l with
   | nil => intro qs hh; cases hh; rfl
   | cons a r ihr => intro qs hh; cases hh with
    | cons _ h2 => simp only [List.length_cons]; rw [ihr _ h2]
  exact this us ps l1
 have hpl : ps.length ≤ 2 := by rw [hpe]; exact hus
 obtain ⟨g1, g2⟩ := ninv_done hX i1 hd hpl (fun ts hl ht => okT_re hok (hl.trans hpe) ht) l1
 refine ⟨S.length + 1, es', clock', ownN d n us S.length w' ps J', Qs ++ [(S.length + 1, ⟨d, n, ps⟩)], by rw [← List.append_assoc]; exact g1, ?_, m1, ⟨_, by rw [← List.append_assoc]; exact g2⟩, ?_⟩
 ·rw [← List.append_assoc]
  exact .node hd g2 (laids_mono (fun p x hp => glook_old _ hp) (fun _ _ h => h) us ps l1)
 ·exact node_walk gid v z d n us hd S es clock h.hg h.hv (keys_str h.keys) (fun x hx => by
   obtain ⟨e, he, h2⟩ := mget_in hx
   obtain ⟨_, p, _, h3⟩ := h.keys e he
   exact ⟨p, by rw [← h2, h3]⟩) hus r1
theorem node_ok (gid v z : Nat) : ∀ (m : Nat) (t : Tr), SizeOf.sizeOf t ≤ m → okT t → NodeC gid v z t
 | 0, .mk d n us, h, _ => by simp at h
 | m + 1, .mk d n us, h, ho => by
  by_cases hd : d = kiVar
  ·subst hd
   obtain ⟨rfl, _⟩ := vT_args ho.2
   exact node_var gid v z n ho
  ·obtain ⟨h1, h2⟩ := okT_down d n us ho
   exact node_step gid v z d n us ho hd h1 fun u hu => node_ok gid v z m u (by
    have := List.sizeOf_lt_of_mem hu
    simp at h; omega) (h2 u hu)
end Go.D
namespace Go.D
open Go Go.Vm Go.Proofs Go.RowKit
def noL : Lk := fun _ => none
theorem noL_ended : Ended noL := fun p => ⟨p, .here rfl⟩
theorem invP_none {G : Gr} {L : Lk} (h : InvP G L fun _ => False) : InvL G L := fun p q hp => (h p q hp).elim False.elim id
theorem glook_mem : ∀ {Ps : List (Nat × AN)} {p : Nat} {x : AN}, glook Ps p = some x → p ∈ Ps.map (·.1)
 | e :: r, p, x, h => by
  simp only [glook] at h
  split at h
  ·rename_i e'; simp [e']
  ·simp only [List.map_cons, List.mem_cons]; exact .inr (glook_mem h)
theorem gok_repr {X : Nat → Prop} {L : Lk} {gid v z : Nat} {S : List Ent} {es : List MEnt} {clock : Nat} {Ps : List (Nat × AN)} (h : GOK X L gid v z S es clock Ps) : ReprG S (glook Ps) L := fun p x hp => (h.nodes p x hp).at
theorem gok_unify {X : Nat → Prop} {L : Lk} {gid v z : Nat} {S : List Ent} {es : List MEnt} {clock : Nat} {Ps : List (Nat × AN)} (h : GOK X L gid v z S es clock Ps) (hE : Ended L) (gv : AV) {a b : Nat} (ha : ∃ x, glook Ps a = some x) (hb : ∃ x, glook Ps b = some x) :
  ∃ ok τ L', UniP (glook Ps) L S a b ok τ L' ∧ UCall gv S a b ok τ :=
 gunify_ok (glook Ps) (Ps.map (·.1)) gv h.closed (fun p x hp => glook_mem hp) h.small (cntU (Ps.map (·.1)) L + 1) L S a b (Nat.lt_succ_self _) (gok_repr h) h.lk hE ha hb
theorem uni_left {Ps : List (Nat × AN)} {S τ : List Ent} {a b : Nat} {L L' : Lk} (hE : Ended L) (hI : InvL (glook Ps) L) (h : UniP (glook Ps) L S a b true τ L') : Ended L' ∧ InvL (glook Ps) L' ∧ EqL L' a b :=
 ⟨h.later.2.2 hE, invP_none ((h.good rfl).2 _ fun p q hp => .inr (hI p q hp)), (h.good rfl).1⟩
theorem gok_after {X : Nat → Prop} {L : Lk} {gid v z : Nat} {S : List Ent} {es : List MEnt} {clock : Nat} {Ps : List (Nat × AN)} (h : GOK X L gid v z S es clock Ps) {a b : Nat} {ok : Bool} {τ : List Ent} {L' : Lk} (hU : UniP (glook Ps) L S a b ok τ L') : GOK X L' gid v z τ es clock Ps ∧ τ.length = S.length ∧ ∀ j, glook Ps j = none → τ[j]? = S[j]? := by
 have hn : ∀ {j : Nat} {e : Ent}, S[j]? = some e → (∀ d n a l, ¬ e = nodeE d n a l) → τ[j]? = some e := fun {j e} he hne => by
  rw [hU.fr.2 j ?_, he]
  cases hj : glook Ps j with
  | none => rfl
  | some x =>
   obtain ⟨_, w, h1, _⟩ := h.nodes j x hj
   rw [he] at h1
   cases h1
   exact absurd rfl (hne _ _ _ _)
 refine ⟨⟨hn h.hg (fun d n a l hh => by simp [graE, nodeE] at hh), hn h.hv (fun d n a l hh => by simp [nodeE] at hh), h.xg, h.xv, h.keys, fun p x hp => ?_, h.closed, h.small, h.vin, h.vout, h.nodup, h.clk, h.nm, hU.lk, h.lay⟩, hU.fr.1, hU.fr.2⟩
 obtain ⟨w, h1, h2⟩ := hU.repr p x hp
 obtain ⟨n1, w', n2, n3⟩ := h.nodes p x hp
 refine ⟨n1, w, h1, fun hne => ⟨?_, h2 hne⟩⟩
 obtain ⟨l', k1⟩ := hU.args p _ _ _ _ n2
 rw [h1] at k1
 have hww : w = w' := by
  rcases x with ⟨xd, xn, xa⟩
  rcases xa with _ | ⟨x0, xr⟩
  ·exact absurd rfl hne
  ·simp only [nodeE, argsR, Option.some.injEq, Ent.arr.injEq, List.cons.injEq, AV.rsl.injEq, and_true, true_and] at k1
   exact k1.1
 rw [hww]; exact (n3 hne).1
end Go.D
namespace Go.D
open Go Go.Vm Go.Proofs Go.RowKit
theorem split_len (σ τ : List Ent) (h : σ.length ≤ τ.length) : ∃ G L, τ = G ++ L ∧ G.length = σ.length ∧ List.take σ.length τ = G ∧ List.drop σ.length τ = L :=
 ⟨_, _, (List.take_append_drop σ.length τ).symm, by rw [List.length_take]; omega, rfl, rfl⟩
set_option maxHeartbeats 8000000 in
theorem ixN_ok (f : FuncId) (caps : List AV) (w : Nat) (qs : List Nat) (hq : qs.length ≤ 2) (σ : List Ent) (St : Nat → List Ent → Prop) (Bad : List Ent → Prop) (h0 : St 0 σ)
  (hSt : ∀ i τ, St i τ → σ.length ≤ τ.length ∧ (qs ≠ [] → τ[w]? = some (rowP (refs qs) (qs.length - 1)))) (hBad : ∀ τ, Bad τ → σ.length ≤ τ.length)
  (hf : ∀ i τ, i < qs.length → St i τ → ACalls E f (.ref (qs.getD i 0) 0 0 :: caps) τ fun r τ' => (r = boolV false ∧ St (i + 1) τ') ∨ (r = boolV true ∧ Bad τ')) :
  ACalls E 137 [argsR w qs, .fn f [] caps] σ fun r τ => (r = i64 (-1) ∧ St qs.length τ) ∨ (∃ i : Nat, r = i64 i ∧ Bad τ) := by
 refine xacalls T0 .stay [] Tryz.func137 rfl (by kernel_rfl) (by kernel_rfl) (by simp [Tryz.ntmps137]) ?_
 rcases qs with _ | ⟨q0, qr⟩
 ·(simp only [argsR, (vmA), Nat.reduceEqDiff, reduceIte, Nat.reduceAdd, Int.reduceToNat, Int.reduceLE, Int.reduceLT, Int.reduceEq, Int.reduceNe, Int.reduceAdd, Int.reduceSub, Int.reduceNeg, Nat.reduceLT, Nat.reduceLeDiff, Nat.reduceBEq, undef, (stA), Nat.reduceMul]; try simp (disch := omega) only [(vmp)])
  refine xloop (α := Nat) T0 (fun i => [(7, i64 0), (8, i64 0)]) (fun _ => σ) (fun _ => []) (fun i => i = 0) (fun i => i) (by kernel_rfl)
   ⟨0, rfl, by (simp only [(vmA), Nat.reduceEqDiff, reduceIte, Nat.reduceAdd, Int.reduceToNat, Int.reduceLE, Int.reduceLT, Int.reduceEq, Int.reduceNe, Int.reduceAdd, Int.reduceSub, Int.reduceNeg, Nat.reduceLT, Nat.reduceLeDiff, Nat.reduceBEq, undef, (stA), Nat.reduceMul]; try simp (disch := omega) only [(vmp)]), rfl, rfl⟩ ?_
  rintro i hi
  (simp only [(vmA), Nat.reduceEqDiff, reduceIte, Nat.reduceAdd, Int.reduceToNat, Int.reduceLE, Int.reduceLT, Int.reduceEq, Int.reduceNe, Int.reduceAdd, Int.reduceSub, Int.reduceNeg, Nat.reduceLT, Nat.reduceLeDiff, Nat.reduceBEq, undef, (stA), Nat.reduceMul]; try simp (disch := omega) only [(vmp)])
  exact .inl h0
 ·simp only [List.length_cons] at hq
  (simp only [argsR, (vmA), Nat.reduceEqDiff, reduceIte, Nat.reduceAdd, Int.reduceToNat, Int.reduceLE, Int.reduceLT, Int.reduceEq, Int.reduceNe, Int.reduceAdd, Int.reduceSub, Int.reduceNeg, Nat.reduceLT, Nat.reduceLeDiff, Nat.reduceBEq, undef, (stA), Nat.reduceMul]; try simp (disch := omega) only [(vmp)])
  refine xloop (α := Nat × List Ent × List Ent) T0 (fun x => [(0, .rsl w qr.length 0 (qr.length + 1) 1), (1, .fn f [] caps), (7, i64 (qr.length + 1 : Nat)), (8, i64 x.1)]) (fun x => x.2.1) (fun x => x.2.2)
   (fun x => x.1 ≤ qr.length + 1 ∧ St x.1 (x.2.1 ++ x.2.2) ∧ x.2.1.length = σ.length) (fun x => qr.length + 1 - x.1) (by kernel_rfl)
   ⟨(0, σ, []), ⟨by omega, by simpa using h0, rfl⟩, by (simp only [(vmA), Nat.reduceEqDiff, reduceIte, Nat.reduceAdd, Int.reduceToNat, Int.reduceLE, Int.reduceLT, Int.reduceEq, Int.reduceNe, Int.reduceAdd, Int.reduceSub, Int.reduceNeg, Nat.reduceLT, Nat.reduceLeDiff, Nat.reduceBEq, undef, (stA), Nat.reduceMul, Int.natCast_zero]; try simp (disch := omega) only [(vmp)]), rfl, rfl⟩ ?_
  rintro ⟨i, G, L⟩ ⟨hi, hst, hGn⟩
  simp only at hi hst hGn
  by_cases h : (i : Int) < (qr.length + 1 : Nat)
  ·have hi' : i < (q0 :: qr).length := by simp only [List.length_cons]; omega
   have hw := (hSt i _ hst).2 (by simp)
   have k1 : (refs (q0 :: qr))[i]? = some (.ref ((q0 :: qr).getD i 0) 0 0) := refs_get (by rw [List.getD_eq_getElem?_getD, List.getElem?_eq_getElem hi']; rfl)
   have gw : sget G L w = some (.arr 74 (refs (q0 :: qr)) qr.length 0) := by
    unfold sget
    split
    ·rename_i hlt; rwa [List.getElem?_append_left hlt] at hw
    ·rename_i hlt; rwa [List.getElem?_append_right (by omega)] at hw
   have hc := hf i _ hi' hst
   (simp only [h, gw, k1, (vmA), Nat.reduceEqDiff, reduceIte, Nat.reduceAdd, Int.reduceToNat, Int.reduceLE, Int.reduceLT, Int.reduceEq, Int.reduceNe, Int.reduceAdd, Int.reduceSub, Int.reduceNeg, Nat.reduceLT, Nat.reduceLeDiff, Nat.reduceBEq, undef, (stA), Nat.reduceMul]; try simp (disch := omega) only [(vmp)])
   refine xWait.of hc ?_
   rintro r τ1 (⟨rfl, h1⟩ | ⟨rfl, h1⟩)
   ·obtain ⟨G1, L1, rfl, g1, g2, g3⟩ := split_len G τ1 (by have := (hSt _ _ h1).1; omega)
    rw [g2, g3]
    (simp only [(vmA), Nat.reduceEqDiff, reduceIte, Nat.reduceAdd, Int.reduceToNat, Int.reduceLE, Int.reduceLT, Int.reduceEq, Int.reduceNe, Int.reduceAdd, Int.reduceSub, Int.reduceNeg, Nat.reduceLT, Nat.reduceLeDiff, Nat.reduceBEq, undef, (stA), Nat.reduceMul]; try simp (disch := omega) only [(vmp)])
    exact ⟨(i + 1, G1, L1), ⟨by simp only; omega, h1, by simp only; omega⟩, by simp only; omega, rfl, rfl, rfl⟩
   ·obtain ⟨G1, L1, rfl, g1, g2, g3⟩ := split_len G τ1 (by have := hBad _ h1; omega)
    rw [g2, g3]
    (simp only [(vmA), Nat.reduceEqDiff, reduceIte, Nat.reduceAdd, Int.reduceToNat, Int.reduceLE, Int.reduceLT, Int.reduceEq, Int.reduceNe, Int.reduceAdd, Int.reduceSub, Int.reduceNeg, Nat.reduceLT, Nat.reduceLeDiff, Nat.reduceBEq, undef, (stA), Nat.reduceMul]; try simp (disch := omega) only [(vmp)])
    exact .inr ⟨i, rfl, h1⟩
  ·have hie : i = qr.length + 1 := by omega
   subst hie
   (simp only [h, (vmA), Nat.reduceEqDiff, reduceIte, Nat.reduceAdd, Int.reduceToNat, Int.reduceLE, Int.reduceLT, Int.reduceEq, Int.reduceNe, Int.reduceAdd, Int.reduceSub, Int.reduceNeg, Nat.reduceLT, Nat.reduceLeDiff, Nat.reduceBEq, undef, (stA), Nat.reduceMul]; try simp (disch := omega) only [(vmp)])
   exact .inl hst
theorem conN_ok (f : FuncId) (caps : List AV) (w : Nat) (qs : List Nat) (hq : qs.length ≤ 2) (σ : List Ent) (St : Nat → List Ent → Prop) (Bad : List Ent → Prop) (h0 : St 0 σ)
  (hSt : ∀ i τ, St i τ → σ.length ≤ τ.length ∧ (qs ≠ [] → τ[w]? = some (rowP (refs qs) (qs.length - 1)))) (hBad : ∀ τ, Bad τ → σ.length ≤ τ.length)
  (hf : ∀ i τ, i < qs.length → St i τ → ACalls E f (.ref (qs.getD i 0) 0 0 :: caps) τ fun r τ' => (r = boolV false ∧ St (i + 1) τ') ∨ (r = boolV true ∧ Bad τ')) :
  ACalls E 116 [argsR w qs, .fn f [] caps] σ fun r τ => (r = boolV false ∧ St qs.length τ) ∨ (r = boolV true ∧ Bad τ) := by
 refine xacalls T0 .stay [] Tryz.func116 rfl (by kernel_rfl) (by kernel_rfl) (by simp [Tryz.ntmps116]) ?_
 (simp only [(vmA), Nat.reduceEqDiff, reduceIte, Nat.reduceAdd, Int.reduceToNat, Int.reduceLE, Int.reduceLT, Int.reduceEq, Int.reduceNe, Int.reduceAdd, Int.reduceSub, Int.reduceNeg, Nat.reduceLT, Nat.reduceLeDiff, Nat.reduceBEq, undef, (stA), Nat.reduceMul]; try simp (disch := omega) only [(vmp)])
 refine xWait.of (ixN_ok f caps w qs hq σ St Bad h0 hSt hBad hf) ?_
 rintro r τ (⟨rfl, h1⟩ | ⟨i, rfl, h1⟩)
 ·obtain ⟨G1, L1, rfl, g1, g2, g3⟩ := split_len σ τ (hSt _ _ h1).1
  rw [g2, g3]
  (simp only [(vmA), Nat.reduceEqDiff, reduceIte, Nat.reduceAdd, Int.reduceToNat, Int.reduceLE, Int.reduceLT, Int.reduceEq, Int.reduceNe, Int.reduceAdd, Int.reduceSub, Int.reduceNeg, Nat.reduceLT, Nat.reduceLeDiff, Nat.reduceBEq, undef, (stA), Nat.reduceMul]; try simp (disch := omega) only [(vmp)])
  exact .inl h1
 ·obtain ⟨G1, L1, rfl, g1, g2, g3⟩ := split_len σ τ (hBad _ h1)
  rw [g2, g3]
  have hi : (0 : Int) ≤ i := by omega
  (simp only [hi, (vmA), Nat.reduceEqDiff, reduceIte, Nat.reduceAdd, Int.reduceToNat, Int.reduceLE, Int.reduceLT, Int.reduceEq, Int.reduceNe, Int.reduceAdd, Int.reduceSub, Int.reduceNeg, Nat.reduceLT, Nat.reduceLeDiff, Nat.reduceBEq, undef, (stA), Nat.reduceMul]; try simp (disch := omega) only [(vmp)])
  exact .inr h1
end Go.D
namespace Go.D
open Go Go.Vm Go.Proofs Go.RowKit
def MarkOK (G : Gr) (es : List MEnt) : Prop := ∀ e ∈ es, ∃ q, e.1 = .ref q 0 0 ∧ e.2.1 = boolV true ∧ ∃ x, G q = some x
def isIn (es : List MEnt) (q : Nat) : Bool := (mget (.ref q 0 0) es).isSome
theorem mark_get {G : Gr} {es : List MEnt} (h : MarkOK G es) {q : Nat} : mget (.ref q 0 0) es = if isIn es q = true then some (boolV true) else none := by
 unfold isIn
 cases hm : mget (.ref q 0 0) es with
 | none => rfl
 | some x =>
  obtain ⟨e, he, h2⟩ := mget_in hm
  obtain ⟨_, _, h3, _⟩ := h e he
  rw [← h2, h3]; rfl
theorem mget_ref_app (q : Nat) : ∀ (a b : List MEnt), mget (.ref q 0 0) (a ++ b) = (mget (.ref q 0 0) a).or (mget (.ref q 0 0) b)
 | [], b => by simp [mget]
 | e :: r, b => by
  simp only [List.cons_append, mget]
  split
  ·rfl
  ·exact mget_ref_app q r b
theorem mput_new {k x : AV} {c : Nat} : ∀ {es : List MEnt}, mget k es = none → mput k x c es = es ++ [(k, x, c)]
 | [], _ => rfl
 | e :: r, h => by
  unfold mget at h
  split at h
  ·cases h
  ·rename_i hk
   unfold mput
   rw [if_neg hk, mput_new h]; rfl
theorem mdel_new {k x : AV} {c : Nat} (hkk : keq k k = true) : ∀ {es : List MEnt}, mget k es = none → mdel k (es ++ [(k, x, c)]) = es
 | [], _ => by simp [mdel, hkk]
 | e :: r, h => by
  unfold mget at h
  split at h
  ·cases h
  ·rename_i hk
   simp only [List.cons_append]
   unfold mdel
   rw [if_neg hk, mdel_new hkk h]
theorem mark_app {G : Gr} {es : List MEnt} (h : MarkOK G es) {q c : Nat} (hq : ∃ x, G q = some x) : MarkOK G (es ++ [(.ref q 0 0, boolV true, c)]) := fun e he => by
 rcases List.mem_append.1 he with he | he
 ·exact h e he
 ·rw [List.mem_singleton.1 he]; exact ⟨q, rfl, rfl, hq⟩
theorem isIn_app (es : List MEnt) (q p c : Nat) (x : AV) : isIn (es ++ [(.ref q 0 0, x, c)]) p = (isIn es p || decide (p = q)) := by
 unfold isIn
 rw [mget_ref_app]
 cases mget (.ref p 0 0) es with
 | some y => rfl
 | none =>
  by_cases h : p = q
  ·subst h; simp [mget, keq]
  ·simp [mget, keq, h]
def Grounded (G : Gr) (L : Lk) (es : List MEnt) : Prop := ∀ q, isIn es q = true → ∃ t, TypR G L q t
def cntM (P : List Nat) (es : List MEnt) : Nat := P.countP fun p => !isIn es p
theorem cntM_app {P : List Nat} {es : List MEnt} {q c : Nat} {x : AV} (hq : isIn es q = false) (hm : q ∈ P) : cntM P (es ++ [(.ref q 0 0, x, c)]) < cntM P es := by
 obtain ⟨l1, l2, rfl⟩ := List.append_of_mem hm
 have h : ∀ l : List Nat, cntM l (es ++ [(.ref q 0 0, x, c)]) ≤ cntM l es := fun l => List.countP_mono_left fun p _ hp => by
  rw [isIn_app] at hp
  cases hi : isIn es p with
  | false => rfl
  | true => rw [hi] at hp; simp at hp
 have h1 := h l1
 have h2 := h l2
 unfold cntM at *
 simp only [List.countP_append, List.countP_cons]
 have e1 : (!isIn (es ++ [(.ref q 0 0, x, c)]) q) = false := by rw [isIn_app]; simp
 have e2 : (!isIn es q) = true := by rw [hq]; rfl
 simp only [e1, e2, Bool.false_eq_true, if_false, if_true]
 omega
theorem typR_of {G : Gr} {L : Lk} {r : Nat} {x : AN} (hr : L r = none) (hx : G r = some x) (h : ∀ q ∈ x.ks, ∃ t, TypR G L q t) : ∃ t, TypR G L r t := by
 have : ∀ l : List Nat, (∀ q ∈ l, ∃ t, TypR G L q t) → ∃ ts, TypRs G L l ts := fun l => by
  induction l with
  | nil => exact fun _ => ⟨[], .nil⟩
  | cons a r ih =>
   intro hh
   obtain ⟨t, ht⟩ := hh a (by simp)
   obtain ⟨ts, hts⟩ := ih fun q hq => hh q (by simp [hq])
   exact ⟨t :: ts, .cons ht hts⟩
 obtain ⟨ts, hts⟩ := this x.ks h
 exact ⟨_, .mk (.here hr) hx hts⟩
theorem typRs_arg {G : Gr} {L : Lk} : ∀ {ps : List Nat} {ts : List Tr} {i : Nat}, TypRs G L ps ts → i < ps.length → ∃ u ∈ ts, TypR G L (ps.getD i 0) u
 | _, _, 0, .cons h1 _, _ => ⟨_, List.mem_cons_self, by simpa using h1⟩
 | _, _, i + 1, .cons h1 h2, h => by
  obtain ⟨u, m, hu⟩ := typRs_arg h2 (i := i) (by simpa using h)
  exact ⟨u, by simp [m], by simpa using hu⟩
theorem typR_arg {G : Gr} {L : Lk} {p r i : Nat} {x : AN} {t : Tr} (h : TypR G L p t) (he : EndR L p r) (hx : G r = some x) (hi : i < x.ks.length) : ∃ u, TypR G L (x.ks.getD i 0) u ∧ SizeOf.sizeOf u < SizeOf.sizeOf t := by
 cases h with
 | mk h1 h2 h3 =>
  have := h1.fn he
  subst this
  rw [hx] at h2
  cases h2
  obtain ⟨u, m, hu⟩ := typRs_arg h3 hi
  refine ⟨u, hu, ?_⟩
  have := List.sizeOf_lt_of_mem m
  simp; omega
theorem typR_end {G : Gr} {L : Lk} {p r : Nat} {t : Tr} (he : EndR L p r) (h : TypR G L r t) : TypR G L p t := typR_eq ⟨r, .here he.end, he⟩ h
end Go.D
namespace Go.D
open Go Go.Vm Go.Proofs Go.RowKit
structure RInv (G : Gr) (L : Lk) (on done : Nat) (σ : List Ent) (Eon Ed : List MEnt) (τ : List Ent) (Ed' : List MEnt) : Prop where
 len : σ.length ≤ τ.length
 repr : ReprG τ G L
 hon : ∃ c, τ[on]? = some (.map Eon c)
 hdone : ∃ c, τ[done]? = some (.map Ed' c)
 mon : MarkOK G Eon
 mdone : MarkOK G Ed'
 more : ∀ q, isIn Ed q = true → isIn Ed' q = true
 old : ∀ j, j < σ.length → j ≠ on → j ≠ done → τ[j]? = σ[j]?
def RoundC (G : Gr) (L : Lk) (Pl : List Nat) (on done : Nat) (N : Nat) : Prop := ∀ (σ : List Ent) (p : Nat) (Eon Ed : List MEnt), cntM Pl Eon < N → RInv G L on done σ Eon Ed σ Ed → Grounded G L Ed → (∃ x, G p = some x) → (∀ q, isIn Eon q = true → ∀ tq, TypR G L q tq → ∃ t, TypR G L p t ∧ SizeOf.sizeOf t < SizeOf.sizeOf tq) →
 ACalls E 92 [.ref p 0 0, .mp on, .mp done] σ fun r τ => ∃ b Ed', r = boolV b ∧ RInv G L on done σ Eon Ed τ Ed' ∧ (b = false → Grounded G L Ed' ∧ ∀ r, EndR L p r → isIn Ed' r = true) ∧ (b = true → ∀ t, ¬ TypR G L p t)
theorem mark_ptr {G : Gr} {L : Lk} {τ : List Ent} (h : ReprG τ G L) {q : Nat} (hq : ∃ x, G q = some x) (l : List Ent) : plainRef τ l q 0 := by
 obtain ⟨x, hx⟩ := hq
 obtain ⟨w, h1, _⟩ := h q x hx
 exact plain_of h1 l
theorem mark_keys {G : Gr} {L : Lk} {τ : List Ent} (h : ReprG τ G L) {es : List MEnt} (hm : MarkOK G es) (l : List Ent) : ∀ e ∈ es, kOK tab τ l (TypeDesc.pointer 107) e.1 := fun e he => by
 obtain ⟨q, h1, _, h2⟩ := hm e he
 rw [h1]; exact ⟨by kernel_rfl, mark_ptr h h2 l⟩
theorem round1_ok (q bo bd on done : Nat) (τ : List Ent) (R : AV → List Ent → Prop) (h1 : τ[bo]? = some (.arr 109 [.mp on] 0 0)) (h2 : τ[bd]? = some (.arr 109 [.mp done] 0 0)) (hR : ∀ r τ', R r τ' → τ.length ≤ τ'.length)
  (h : ACalls E 92 [.ref q 0 0, .mp on, .mp done] τ R) : ACalls E 117 [.ref q 0 0, .ref bo 0 0, .ref bd 0 0] τ R := by
 have g1 := sget_of h1
 have g2 := sget_of h2
 refine xacalls T0 .stay [] Tryz.func117 rfl (by kernel_rfl) (by kernel_rfl) (by simp [Tryz.ntmps117]) ?_
 have h' : ACalls E 92 [.ref q 0 0, .mp on, .mp done] (τ ++ []) R := by rw [List.append_nil]; exact h
 (simp only [g1, g2, (vmA), Nat.reduceEqDiff, reduceIte, Nat.reduceAdd, Int.reduceToNat, Int.reduceLE, Int.reduceLT, Int.reduceEq, Int.reduceNe, Int.reduceAdd, Int.reduceSub, Int.reduceNeg, Nat.reduceLT, Nat.reduceLeDiff, Nat.reduceBEq, undef, (stA), Nat.reduceMul]; try simp (disch := omega) only [(vmp)])
 refine xWait.of h ?_
 intro r τ' hr
 obtain ⟨G1, L1, rfl, k1, k2, k3⟩ := split_len τ τ' (hR r τ' hr)
 rw [k2, k3]
 (simp only [(vmA), Nat.reduceEqDiff, reduceIte, Nat.reduceAdd, Int.reduceToNat, Int.reduceLE, Int.reduceLT, Int.reduceEq, Int.reduceNe, Int.reduceAdd, Int.reduceSub, Int.reduceNeg, Nat.reduceLT, Nat.reduceLeDiff, Nat.reduceBEq, undef, (stA), Nat.reduceMul]; try simp (disch := omega) only [(vmp)])
 exact hr
theorem sget_eq (G L : List Ent) (i : Nat) : sget G L i = (G ++ L)[i]? := by
 unfold sget
 split
 ·rename_i h; rw [List.getElem?_append_left h]
 ·rename_i h; rw [List.getElem?_append_right (by omega)]
theorem plain2 {G : Gr} {L : Lk} {G1 L1 : List Ent} (h : ReprG (G1 ++ L1) G L) {q : Nat} (hq : ∃ x, G q = some x) : plainRef G1 L1 q 0 := by
 obtain ⟨x, hx⟩ := hq
 obtain ⟨w, h1, _⟩ := h q x hx
 unfold plainRef; rw [sget_eq, h1]; exact ⟨rfl, rfl⟩
theorem keys2 {G : Gr} {L : Lk} {G1 L1 : List Ent} (h : ReprG (G1 ++ L1) G L) {es : List MEnt} (hm : MarkOK G es) : ∀ e ∈ es, kOK tab G1 L1 (TypeDesc.pointer 107) e.1 := fun e he => by
 obtain ⟨q, h1, _, h2⟩ := hm e he
 rw [h1]; exact ⟨by kernel_rfl, plain2 h h2⟩
theorem RInv.trans {G : Gr} {L : Lk} {on done : Nat} {σ τ υ : List Ent} {Eon E1 E2 E3 : List MEnt} (h : RInv G L on done σ Eon E1 τ E2) (k : RInv G L on done τ Eon E2 υ E3) : RInv G L on done σ Eon E1 υ E3 :=
 ⟨Nat.le_trans h.len k.len, k.repr, k.hon, k.hdone, k.mon, k.mdone, fun q hq => k.more q (h.more q hq), fun j hj h1 h2 => by rw [k.old j (Nat.lt_of_lt_of_le hj h.len) h1 h2, h.old j hj h1 h2]⟩
theorem RInv.base {G : Gr} {L : Lk} {on done : Nat} {σ τ : List Ent} {Eon E1 E2 : List MEnt} (h : RInv G L on done σ Eon E1 τ E2) : RInv G L on done τ Eon E2 τ E2 :=
 ⟨Nat.le_refl _, h.repr, h.hon, h.hdone, h.mon, h.mdone, fun _ h => h, fun _ _ _ _ => rfl⟩
theorem mget_rput {G : Gr} (q p : Nat) (x : AV) (c : Nat) : ∀ es : List MEnt, MarkOK G es → mget (.ref p 0 0) (mput (.ref q 0 0) x c es) = if p = q then some x else mget (.ref p 0 0) es
 | [], _ => by
  by_cases h : p = q
  ·subst h; simp [mput, mget, keq]
  ·simp [mput, mget, keq, h]
 | e :: r, hk => by
  obtain ⟨k, h1, _, _⟩ := hk e (by simp)
  have ih := mget_rput q p x c r fun e he => hk e (by simp [he])
  obtain ⟨e1, e2, e3⟩ := e
  simp only at h1
  subst h1
  simp only [mput, keq, decide_true, Bool.and_true]
  by_cases h : q = k
  ·subst h
   simp only [decide_true, if_true, mget, keq, Bool.and_true, decide_eq_true_eq]
   by_cases hm : p = q
   ·simp only [hm, if_true]
   ·simp only [hm, if_false]
  ·simp only [h, decide_false, Bool.false_eq_true, if_false, mget, keq, decide_true, Bool.and_true, decide_eq_true_eq, ih]
   by_cases hm : p = q
   ·have : ¬ p = k := fun e => h (hm.symm.trans e)
    simp only [hm, if_true]
    rw [if_neg (by rw [← hm]; exact this)]
   ·simp only [hm, if_false]
theorem isIn_rput {G : Gr} (q p : Nat) (x : AV) (c : Nat) {es : List MEnt} (h : MarkOK G es) : isIn (mput (.ref q 0 0) x c es) p = (isIn es p || decide (p = q)) := by
 unfold isIn
 rw [mget_rput q p x c es h]
 by_cases e : p = q
 ·simp [e]
 ·simp [e]
theorem mark_rput {G : Gr} {q c : Nat} (hq : ∃ x, G q = some x) : ∀ es : List MEnt, MarkOK G es → MarkOK G (mput (.ref q 0 0) (boolV true) c es)
 | [], _ => fun e he => by
  simp only [mput, List.mem_singleton] at he
  subst he; exact ⟨q, rfl, rfl, hq⟩
 | a :: r, hk => fun e he => by
  unfold mput at he
  split at he
  ·rcases List.mem_cons.1 he with rfl | he
   ·exact ⟨q, rfl, rfl, hq⟩
   ·exact hk e (by simp [he])
  ·rcases List.mem_cons.1 he with rfl | he
   ·exact hk _ (by simp)
   ·exact mark_rput hq r (fun e he => hk e (by simp [he])) e he
theorem nodeAt_push {S : List Ent} {p : Nat} {x : AN} {k : Option Nat} (h : NodeAt S p x k) (l : List Ent) : NodeAt (S ++ l) p x k := by
 obtain ⟨w, h1, h2⟩ := h
 exact ⟨w, get_olds h1 l, fun hne => get_olds (h2 hne) l⟩
theorem nodeAt_map {S : List Ent} {p v c : Nat} {x : AN} {k : Option Nat} {es : List MEnt} (h : NodeAt S p x k) (hv : S[v]? = some (.map es c)) (e : Ent) : NodeAt (S.set v e) p x k := by
 obtain ⟨w, h1, h2⟩ := h
 refine ⟨w, ?_, fun hne => ?_⟩
 ·have : v ≠ p := fun e => by rw [e, h1] at hv; cases hv
  rw [get_set_ne this]; exact h1
 ·have h3 := h2 hne
  have : v ≠ w := fun e => by rw [e, h3] at hv; cases hv
  rw [get_set_ne this]; exact h3
theorem repr_map {G : Gr} {L : Lk} {τ : List Ent} {m c : Nat} {es : List MEnt} (h : ReprG τ G L) (hm : τ[m]? = some (.map es c)) (e : Ent) : ReprG (τ.set m e) G L := fun p x hp => nodeAt_map (h p x hp) hm e
set_option maxHeartbeats 16000000 in
theorem round_step (G : Gr) (L : Lk) (Pl : List Nat) (on done : Nat) (hne : on ≠ done) (hE : Ended L) (hl : LinkOK G L) (hcl : ClosedG G) (hPl : ∀ p x, G p = some x → p ∈ Pl) (hsm : ∀ p x, G p = some x → x.ks.length ≤ 2) (N : Nat) (ih : RoundC G L Pl on done N) : RoundC G L Pl on done (N + 1) := by
 intro σ p Eon Ed hcnt hI hgr hp hanc
 obtain ⟨r, er⟩ := hE p
 obtain ⟨k, hk⟩ := ends_of hI.repr hl er hp
 obtain ⟨x, hx⟩ := end_in hl er hp
 obtain ⟨w, e1, e2⟩ := hI.repr r x hx
 rw [er.end] at e1
 obtain ⟨c1, ho⟩ := hI.hon
 obtain ⟨c2, hd⟩ := hI.hdone
 have hrx : ∃ x, G r = some x := ⟨x, hx⟩
 have gr := sget_of e1
 have go' := sget_of ho
 have gd := sget_of hd
 have mo := mark_get (q := r) hI.mon
 have md := mark_get (q := r) hI.mdone
 simp only [nodeE, linkR] at gr
 have hpt : isPtrD tab (TypeDesc.pointer 107) = true := by kernel_rfl
 refine xacalls T0 .stay [] Tryz.func92 rfl (by kernel_rfl) (by kernel_rfl) (by simp [Tryz.ntmps92]) ?_
 (simp only [(vmA), Nat.reduceEqDiff, reduceIte, Nat.reduceAdd, Int.reduceToNat, Int.reduceLE, Int.reduceLT, Int.reduceEq, Int.reduceNe, Int.reduceAdd, Int.reduceSub, Int.reduceNeg, Nat.reduceLT, Nat.reduceLeDiff, Nat.reduceBEq, undef, (stA), Nat.reduceMul]; try simp (disch := omega) only [(vmp)])
 refine xWait.go (end_ok _ p r k (hk.push _)) ?_
 have push : ∀ l, RInv G L on done σ Eon Ed (σ ++ l) Ed := fun l => ⟨by simp, fun q y hy => (hI.repr q y hy).elim fun w' h => ⟨w', get_olds h.1 l, fun hne => get_olds (h.2 hne) l⟩, ⟨c1, get_olds ho l⟩, ⟨c2, get_olds hd l⟩, hI.mon, hI.mdone, fun _ h => h, fun j hj _ _ => List.getElem?_append_left hj⟩
 cases b1 : isIn Eon r
 ·cases b2 : isIn Ed r
  ·simp only [b1, b2, Bool.false_eq_true, if_false] at mo md
   have hro : on ≠ r := fun h => by rw [h, e1] at ho; cases ho
   have sGo : ∀ e, ssetG σ on e = σ.set on e := fun e => by unfold ssetG; rw [if_pos (lt_of_get ho)]
   have sLo : ∀ e l, ssetL σ l on e = l := fun e l => by unfold ssetL; rw [if_pos (lt_of_get ho)]
   have hm1 : mput (AV.ref r 0 0) (.v (.bool true)) c1 Eon = Eon ++ [(.ref r 0 0, boolV true, c1)] := mput_new (by rw [mark_get hI.mon, b1]; rfl)
   have gr1 : ∀ e l, sget (σ.set on e) l r = some (.arr 107 [.str x.d, .str x.n, argsR w x.ks, nilP] 0 0) := fun e l => sget_of (by rw [get_set_ne hro]; exact e1) l
   (simp only [gr, go', gd, mo, md, sGo, sLo, hm1, gr1, Option.isSome_none, Bool.false_eq_true, if_false, (vmA), Nat.reduceEqDiff, reduceIte, Nat.reduceAdd, Int.reduceToNat, Int.reduceLE, Int.reduceLT, Int.reduceEq, Int.reduceNe, Int.reduceAdd, Int.reduceSub, Int.reduceNeg, Nat.reduceLT, Nat.reduceLeDiff, Nat.reduceBEq, undef, (stA), Nat.reduceMul]; try simp (disch := omega) only [(vmp)])
   refine ⟨⟨⟨hpt, plain_of e1 _⟩, mark_keys hI.repr hI.mon _⟩, ⟨⟨hpt, plain_of e1 _⟩, mark_keys hI.repr hI.mdone _⟩, ⟨⟨hpt, plain_of e1 _⟩, mark_keys hI.repr hI.mon _⟩, ?_⟩
   have hls : (σ.set on (Ent.map (Eon ++ [(AV.ref r 0 0, .v (.bool true), c1)]) (c1 + 1))).length = σ.length := by simp
   have lon := lt_of_get ho
   have ldn := lt_of_get hd
   have R1 : RInv G L on done (σ.set on (Ent.map (Eon ++ [(AV.ref r 0 0, boolV true, c1)]) (c1 + 1)) ++ [.arr 109 [.mp on] 0 0, .arr 109 [.mp done] 0 0]) (Eon ++ [(.ref r 0 0, boolV true, c1)]) Ed (σ.set on (Ent.map (Eon ++ [(AV.ref r 0 0, boolV true, c1)]) (c1 + 1)) ++ [.arr 109 [.mp on] 0 0, .arr 109 [.mp done] 0 0]) Ed :=
    ⟨Nat.le_refl _, fun q y hy => nodeAt_push (repr_map hI.repr ho _ q y hy) _, ⟨_, get_olds (get_set_self ho) _⟩, ⟨c2, get_olds (by rw [get_set_ne hne]; exact hd) _⟩, mark_app hI.mon hrx, hI.mdone, fun _ h => h, fun _ _ _ _ => rfl⟩
   have hbo : (σ.set on (Ent.map (Eon ++ [(AV.ref r 0 0, boolV true, c1)]) (c1 + 1)) ++ [Ent.arr 109 [.mp on] 0 0, .arr 109 [.mp done] 0 0])[σ.length]? = some (.arr 109 [.mp on] 0 0) := by rw [List.getElem?_append_right (by simp)]; simp
   have hbd : (σ.set on (Ent.map (Eon ++ [(AV.ref r 0 0, boolV true, c1)]) (c1 + 1)) ++ [Ent.arr 109 [.mp on] 0 0, .arr 109 [.mp done] 0 0])[σ.length + 1]? = some (.arr 109 [.mp done] 0 0) := by rw [List.getElem?_append_right (by simp)]; simp
   have hrw : x.ks ≠ [] → w ≠ on ∧ w ≠ done ∧ (σ.set on (Ent.map (Eon ++ [(AV.ref r 0 0, boolV true, c1)]) (c1 + 1)) ++ [Ent.arr 109 [.mp on] 0 0, .arr 109 [.mp done] 0 0])[w]? = some (rowP (refs x.ks) (x.ks.length - 1)) := fun hn => by
    have h3 := e2 hn
    have n1 : w ≠ on := fun e => by rw [e, ho] at h3; cases h3
    have n2 : w ≠ done := fun e => by rw [e, hd] at h3; cases h3
    exact ⟨n1, n2, get_olds (by rw [get_set_ne (Ne.symm n1)]; exact h3) _⟩
   have hlen1 : (σ.set on (Ent.map (Eon ++ [(AV.ref r 0 0, boolV true, c1)]) (c1 + 1)) ++ [Ent.arr 109 [.mp on] 0 0, .arr 109 [.mp done] 0 0]).length = σ.length + 2 := by simp
   have holdA : ∀ j, j < σ.length → j ≠ on → j ≠ done → (σ.set on (Ent.map (Eon ++ [(AV.ref r 0 0, boolV true, c1)]) (c1 + 1)) ++ [Ent.arr 109 [.mp on] 0 0, .arr 109 [.mp done] 0 0])[j]? = σ[j]? := fun j hj h1 _ => by
    rw [List.getElem?_append_left (by simpa using hj), get_set_ne (Ne.symm h1)]
   have hcm : cntM Pl (Eon ++ [(.ref r 0 0, boolV true, c1)]) < N := by have := cntM_app (x := boolV true) (c := c1) b1 (hPl r x hx); omega
   generalize hA : σ.set on (Ent.map (Eon ++ [(AV.ref r 0 0, boolV true, c1)]) (c1 + 1)) ++ [Ent.arr 109 [.mp on] 0 0, .arr 109 [.mp done] 0 0] = A at *
   have hA' : σ.set on (Ent.map (Eon ++ [(AV.ref r 0 0, .v (.bool true), c1)]) (c1 + 1)) ++ [Ent.arr 109 [.mp on] 0 0, .arr 109 [.mp done] 0 0] = A := hA
   rw [hA', hls]
   have hanc' : ∀ i, i < x.ks.length → ∀ q, isIn (Eon ++ [(.ref r 0 0, boolV true, c1)]) q = true → ∀ tq, TypR G L q tq → ∃ t, TypR G L (x.ks.getD i 0) t ∧ SizeOf.sizeOf t < SizeOf.sizeOf tq := fun i hi q hq tq htq => by
    rw [isIn_app, Bool.or_eq_true, decide_eq_true_eq] at hq
    rcases hq with hq | rfl
    ·obtain ⟨t, h1, h2⟩ := hanc q hq tq htq
     obtain ⟨u, h3, h4⟩ := typR_arg h1 er hx hi
     exact ⟨u, h3, by omega⟩
    ·exact typR_arg htq (.here er.end) hx hi
   have hcon := conN_ok 117 [.ref σ.length 0 0, .ref (σ.length + 1) 0 0] w x.ks (hsm r x hx) A
    (fun i τ => ∃ Ei, RInv G L on done A (Eon ++ [(.ref r 0 0, boolV true, c1)]) Ed τ Ei ∧ Grounded G L Ei ∧ ∀ j, j < i → ∀ r', EndR L (x.ks.getD j 0) r' → isIn Ei r' = true) (fun τ => ∃ Ei, RInv G L on done A (Eon ++ [(.ref r 0 0, boolV true, c1)]) Ed τ Ei ∧ ∃ i, i < x.ks.length ∧ ∀ t, ¬ TypR G L (x.ks.getD i 0) t)
    ⟨Ed, R1, hgr, fun j hj => absurd hj (by omega)⟩
    (fun i τ ⟨Ei, h1, _, _⟩ => ⟨h1.len, fun hn => by obtain ⟨n1, n2, n3⟩ := hrw hn; rw [h1.old w (lt_of_get n3) n1 n2]; exact n3⟩)
    (fun τ ⟨Ei, h1, _⟩ => h1.len)
    (fun i τ hi ⟨Ei, h1, h2, h3⟩ => by
     have hq : ∃ y, G (x.ks.getD i 0) = some y := hcl r x hx _ (by simp [List.getD, hi])
     refine (round1_ok _ _ _ on done τ _ (by rw [h1.old _ (by omega) (by omega) (by omega)]; exact hbo) (by rw [h1.old _ (by omega) (by omega) (by omega)]; exact hbd) (fun r' τ' ⟨_, _, _, k1, _, _⟩ => k1.len) (ih τ _ _ Ei hcm h1.base h2 hq (hanc' i hi))).mono ?_
     ·rintro r' τ' ⟨b, E2, rfl, k1, k2, k3⟩
      cases b
      ·refine .inl ⟨rfl, E2, h1.trans k1, (k2 rfl).1, fun j hj r2 hr2 => ?_⟩
       by_cases e : j = i
       ·subst e; exact (k2 rfl).2 r2 hr2
       ·exact k1.more _ (h3 j (by omega) r2 hr2)
      ·exact .inr ⟨rfl, E2, h1.trans k1, i, hi, k3 rfl⟩)
   refine xWait.of hcon ?_
   rintro r1 τ1 (⟨rfl, Ei, k1, k2, k3⟩ | ⟨rfl, Ei, k1, i, hi, kno⟩)
   ·obtain ⟨G1, L1, rfl, q1, q2, q3⟩ := split_len σ τ1 (by have := k1.len; omega)
    rw [q2, q3]
    have s4 : sget G1 L1 σ.length = some (.arr 109 [.mp on] 0 0) := by rw [sget_eq, k1.old _ (by omega) (by omega) (by omega)]; exact hbo
    have s5 : (G1 ++ L1)[σ.length + 1]? = some (.arr 109 [.mp done] 0 0) := by rw [k1.old _ (by omega) (by omega) (by omega)]; exact hbd
    obtain ⟨c3, m3⟩ := k1.hon
    obtain ⟨c4, m4⟩ := k1.hdone
    have s6 : sget G1 L1 on = some (.map (Eon ++ [(.ref r 0 0, boolV true, c1)]) c3) := by rw [sget_eq]; exact m3
    have sG1 : ∀ e, ssetG G1 on e = G1.set on e := fun e => by unfold ssetG; rw [if_pos (by omega)]
    have sL1 : ∀ e, ssetL G1 L1 on e = L1 := fun e => by unfold ssetL; rw [if_pos (by omega)]
    have sapp : ∀ e, G1.set on e ++ L1 = (G1 ++ L1).set on e := fun e => by rw [List.set_append_left _ _ (by omega)]
    have s7 : ∀ e, sget (G1.set on e) L1 (σ.length + 1) = some (.arr 109 [.mp done] 0 0) := fun e => by rw [sget_eq, sapp, get_set_ne (by omega)]; exact s5
    have s8 : ∀ e, sget (G1.set on e) L1 done = some (.map Ei c4) := fun e => by rw [sget_eq, sapp, get_set_ne hne]; exact m4
    have sG2 : ∀ e e', ssetG (G1.set on e) done e' = (G1.set on e).set done e' := fun e e' => by unfold ssetG; rw [if_pos (by rw [List.length_set]; omega)]
    have sL2 : ∀ e e', ssetL (G1.set on e) L1 done e' = L1 := fun e e' => by unfold ssetL; rw [if_pos (by rw [List.length_set]; omega)]
    have hdel : mdel (.ref r 0 0) (Eon ++ [(.ref r 0 0, .v (.bool true), c1)]) = Eon := mdel_new (by simp [keq]) (by rw [mark_get hI.mon, b1]; rfl)
    have rp2 := fun e => repr_map k1.repr m3 e
    have K1 := mark_keys k1.repr k1.mon
    simp only [boolV] at s6
    (simp only [s4, s6, s7, s8, sG1, sL1, sG2, sL2, hdel, (vmA), Nat.reduceEqDiff, reduceIte, Nat.reduceAdd, Int.reduceToNat, Int.reduceLE, Int.reduceLT, Int.reduceEq, Int.reduceNe, Int.reduceAdd, Int.reduceSub, Int.reduceNeg, Nat.reduceLT, Nat.reduceLeDiff, Nat.reduceBEq, undef, (stA), Nat.reduceMul]; try simp (disch := omega) only [(vmp)])
    have rp3 : ∀ e, ReprG (G1.set on e ++ L1) G L := fun e => by rw [sapp]; exact rp2 e
    have m5 : ∀ e, (G1.set on e ++ L1)[done]? = some (.map Ei c4) := fun e => by rw [sapp, get_set_ne hne]; exact m4
    have hfin : ∀ cc, RInv G L on done σ Eon Ed ((G1.set on (Ent.map Eon c3)).set done (Ent.map (mput (AV.ref r 0 0) (boolV true) c4 Ei) cc) ++ L1) (mput (AV.ref r 0 0) (boolV true) c4 Ei) := fun cc => by
     have e9 : (G1.set on (Ent.map Eon c3)).set done (Ent.map (mput (AV.ref r 0 0) (boolV true) c4 Ei) cc) ++ L1 = (G1.set on (Ent.map Eon c3) ++ L1).set done (Ent.map (mput (AV.ref r 0 0) (boolV true) c4 Ei) cc) := by rw [List.set_append_left _ _ (by rw [List.length_set]; omega)]
     rw [e9]
     refine ⟨by simp; omega, repr_map (rp3 _) (m5 _) _, ⟨c3, by rw [get_set_ne (Ne.symm hne), sapp]; exact get_set_self m3⟩, ⟨cc, get_set_self (m5 _)⟩, hI.mon, mark_rput hrx Ei k1.mdone, fun q hq => by rw [isIn_rput r q _ _ k1.mdone, k1.more q hq]; rfl, fun j hj h1 h2 => ?_⟩
     rw [get_set_ne (Ne.symm h2), sapp, get_set_ne (Ne.symm h1), k1.old j (by omega) h1 h2]
     exact holdA j hj h1 h2
    refine ⟨⟨⟨hpt, plain2 k1.repr hrx⟩, keys2 k1.repr k1.mon⟩, ⟨⟨hpt, plain2 (rp3 _) hrx⟩, keys2 (rp3 _) k1.mdone⟩, false, _, rfl, hfin _, fun _ => ⟨fun q hq => ?_, fun r' h' => ?_⟩, fun e => (by cases e)⟩
    ·rw [isIn_rput r q _ _ k1.mdone, Bool.or_eq_true, decide_eq_true_eq] at hq
     rcases hq with hq | rfl
     ·exact k2 q hq
     ·refine typR_of er.end hx fun q' hq' => ?_
      obtain ⟨i, hi⟩ := List.getElem?_of_mem hq'
      obtain ⟨hi1, hi2⟩ := List.getElem?_eq_some_iff.1 hi
      obtain ⟨r', hr'⟩ := hE q'
      have := k3 i hi1 r' (by simpa [List.getD, hi] using hr')
      obtain ⟨tt, htt⟩ := k2 r' this
      exact ⟨tt, typR_end hr' htt⟩
    ·rw [← er.fn h', isIn_rput r r _ _ k1.mdone]; simp
   ·obtain ⟨G1, L1, rfl, q1, q2, q3⟩ := split_len σ τ1 (by have := k1.len; omega)
    rw [q2, q3]
    have s4 : sget G1 L1 σ.length = some (.arr 109 [.mp on] 0 0) := by rw [sget_eq, k1.old _ (by omega) (by omega) (by omega)]; exact hbo
    have s5 : (G1 ++ L1)[σ.length + 1]? = some (.arr 109 [.mp done] 0 0) := by rw [k1.old _ (by omega) (by omega) (by omega)]; exact hbd
    obtain ⟨c3, m3⟩ := k1.hon
    obtain ⟨c4, m4⟩ := k1.hdone
    have s6 : sget G1 L1 on = some (.map (Eon ++ [(.ref r 0 0, boolV true, c1)]) c3) := by rw [sget_eq]; exact m3
    have sG1 : ∀ e, ssetG G1 on e = G1.set on e := fun e => by unfold ssetG; rw [if_pos (by omega)]
    have sL1 : ∀ e, ssetL G1 L1 on e = L1 := fun e => by unfold ssetL; rw [if_pos (by omega)]
    have sapp : ∀ e, G1.set on e ++ L1 = (G1 ++ L1).set on e := fun e => by rw [List.set_append_left _ _ (by omega)]
    have s7 : ∀ e, sget (G1.set on e) L1 (σ.length + 1) = some (.arr 109 [.mp done] 0 0) := fun e => by rw [sget_eq, sapp, get_set_ne (by omega)]; exact s5
    have s8 : ∀ e, sget (G1.set on e) L1 done = some (.map Ei c4) := fun e => by rw [sget_eq, sapp, get_set_ne hne]; exact m4
    have sG2 : ∀ e e', ssetG (G1.set on e) done e' = (G1.set on e).set done e' := fun e e' => by unfold ssetG; rw [if_pos (by rw [List.length_set]; omega)]
    have sL2 : ∀ e e', ssetL (G1.set on e) L1 done e' = L1 := fun e e' => by unfold ssetL; rw [if_pos (by rw [List.length_set]; omega)]
    have hdel : mdel (.ref r 0 0) (Eon ++ [(.ref r 0 0, .v (.bool true), c1)]) = Eon := mdel_new (by simp [keq]) (by rw [mark_get hI.mon, b1]; rfl)
    have rp2 := fun e => repr_map k1.repr m3 e
    have K1 := mark_keys k1.repr k1.mon
    simp only [boolV] at s6
    (simp only [s4, s6, s7, s8, sG1, sL1, sG2, sL2, hdel, (vmA), Nat.reduceEqDiff, reduceIte, Nat.reduceAdd, Int.reduceToNat, Int.reduceLE, Int.reduceLT, Int.reduceEq, Int.reduceNe, Int.reduceAdd, Int.reduceSub, Int.reduceNeg, Nat.reduceLT, Nat.reduceLeDiff, Nat.reduceBEq, undef, (stA), Nat.reduceMul]; try simp (disch := omega) only [(vmp)])
    have rp3 : ∀ e, ReprG (G1.set on e ++ L1) G L := fun e => by rw [sapp]; exact rp2 e
    have m5 : ∀ e, (G1.set on e ++ L1)[done]? = some (.map Ei c4) := fun e => by rw [sapp, get_set_ne hne]; exact m4
    have hfin : ∀ cc, RInv G L on done σ Eon Ed ((G1.set on (Ent.map Eon c3)).set done (Ent.map (mput (AV.ref r 0 0) (boolV true) c4 Ei) cc) ++ L1) (mput (AV.ref r 0 0) (boolV true) c4 Ei) := fun cc => by
     have e9 : (G1.set on (Ent.map Eon c3)).set done (Ent.map (mput (AV.ref r 0 0) (boolV true) c4 Ei) cc) ++ L1 = (G1.set on (Ent.map Eon c3) ++ L1).set done (Ent.map (mput (AV.ref r 0 0) (boolV true) c4 Ei) cc) := by rw [List.set_append_left _ _ (by rw [List.length_set]; omega)]
     rw [e9]
     refine ⟨by simp; omega, repr_map (rp3 _) (m5 _) _, ⟨c3, by rw [get_set_ne (Ne.symm hne), sapp]; exact get_set_self m3⟩, ⟨cc, get_set_self (m5 _)⟩, hI.mon, mark_rput hrx Ei k1.mdone, fun q hq => by rw [isIn_rput r q _ _ k1.mdone, k1.more q hq]; rfl, fun j hj h1 h2 => ?_⟩
     rw [get_set_ne (Ne.symm h2), sapp, get_set_ne (Ne.symm h1), k1.old j (by omega) h1 h2]
     exact holdA j hj h1 h2
    exact ⟨⟨⟨hpt, plain2 k1.repr hrx⟩, keys2 k1.repr k1.mon⟩, ⟨⟨hpt, plain2 (rp3 _) hrx⟩, keys2 (rp3 _) k1.mdone⟩, true, _, rfl, hfin _, fun e => (by cases e), fun _ t ht => by obtain ⟨u, hu, _⟩ := typR_arg ht er hx hi; exact kno u hu⟩
  ·simp only [b1, b2, Bool.false_eq_true, if_false, if_true] at mo md
   (simp only [gr, go', gd, mo, md, Option.isSome_none, Bool.false_eq_true, if_false, (vmA), Nat.reduceEqDiff, reduceIte, Nat.reduceAdd, Int.reduceToNat, Int.reduceLE, Int.reduceLT, Int.reduceEq, Int.reduceNe, Int.reduceAdd, Int.reduceSub, Int.reduceNeg, Nat.reduceLT, Nat.reduceLeDiff, Nat.reduceBEq, undef, (stA), Nat.reduceMul]; try simp (disch := omega) only [(vmp)])
   exact ⟨⟨⟨hpt, plain_of e1 _⟩, mark_keys hI.repr hI.mon _⟩, ⟨⟨hpt, plain_of e1 _⟩, mark_keys hI.repr hI.mdone _⟩, ⟨⟨hpt, plain_of e1 _⟩, mark_keys hI.repr hI.mon _⟩, false, Ed, rfl, push _, fun _ => ⟨hgr, fun r' h' => by rw [← er.fn h']; exact b2⟩, fun e => (by cases e)⟩
 ·simp only [b1, if_true] at mo
  (simp only [gr, go', gd, mo, Option.isSome_none, Bool.false_eq_true, if_false, (vmA), Nat.reduceEqDiff, reduceIte, Nat.reduceAdd, Int.reduceToNat, Int.reduceLE, Int.reduceLT, Int.reduceEq, Int.reduceNe, Int.reduceAdd, Int.reduceSub, Int.reduceNeg, Nat.reduceLT, Nat.reduceLeDiff, Nat.reduceBEq, undef, (stA), Nat.reduceMul]; try simp (disch := omega) only [(vmp)])
  exact ⟨⟨⟨hpt, plain_of e1 _⟩, mark_keys hI.repr hI.mon _⟩, ⟨⟨hpt, plain_of e1 _⟩, mark_keys hI.repr hI.mon _⟩, true, Ed, rfl, push _, fun e => (by cases e), fun _ t ht => by
   obtain ⟨u, h1, h2⟩ := hanc r b1 t (typR_eq ⟨r, er, .here er.end⟩ ht)
   have := typR_fn _ _ _ h1 ht
   rw [this] at h2; omega⟩
theorem round_ok (G : Gr) (L : Lk) (Pl : List Nat) (on done : Nat) (hne : on ≠ done) (hE : Ended L) (hl : LinkOK G L) (hcl : ClosedG G) (hPl : ∀ p x, G p = some x → p ∈ Pl) (hsm : ∀ p x, G p = some x → x.ks.length ≤ 2) : ∀ N, RoundC G L Pl on done N
 | 0 => fun _ _ _ _ h => by omega
 | N + 1 => round_step G L Pl on done hne hE hl hcl hPl hsm N (round_ok G L Pl on done hne hE hl hcl hPl hsm N)
end Go.D
namespace Go.D
open Go Go.Vm Go.Proofs Go.RowKit
def satS : Int × Int → List (Int × Int) → Int × Int
 | o, [] => o
 | o, s :: r => satS (min (wr (o.1 + s.1)) 2001, max o.2 (wr (s.2 + 1))) r
mutual
def satT : Tr → Int × Int
 | .mk _ _ us => satS (1, 1) (satTs us)
def satTs : List Tr → List (Int × Int)
 | [] => []
 | t :: ts => satT t :: satTs ts
end
theorem satS_app : ∀ (l : List (Int × Int)) (o s : Int × Int), satS o (l ++ [s]) = (min (wr ((satS o l).1 + s.1)) 2001, max (satS o l).2 (wr (s.2 + 1)))
 | [], _, _ => rfl
 | _ :: r, _, s => satS_app r _ s
theorem satTs_map : ∀ l : List Tr, satTs l = l.map satT
 | [] => rfl
 | t :: ts => by rw [satTs, satTs_map ts]; rfl
theorem typRs_at {G : Gr} {L : Lk} : ∀ {ps : List Nat} {ts : List Tr} {i : Nat}, TypRs G L ps ts → i < ps.length → ∃ u, ts[i]? = some u ∧ TypR G L (ps.getD i 0) u
 | _, _, 0, .cons h1 _, _ => ⟨_, rfl, by simpa using h1⟩
 | _, _, i + 1, .cons h1 h2, h => by
  obtain ⟨u, m, hu⟩ := typRs_at h2 (i := i) (by simpa using h)
  exact ⟨u, by simpa using m, by simpa using hu⟩
theorem typRs_len {G : Gr} {L : Lk} : ∀ {ps : List Nat} {ts : List Tr}, TypRs G L ps ts → ts.length = ps.length
 | _, _, .nil => rfl
 | _, _, .cons _ h => by simp [typRs_len h]
def SzOK (G : Gr) (L : Lk) (es : List MEnt) : Prop := ∀ e ∈ es, ∃ q t, e.1 = .ref q 0 0 ∧ (∃ x, G q = some x) ∧ TypR G L q t ∧ e.2.1 = szV (satT t)
theorem sz_get {G : Gr} {L : Lk} {r : Nat} {t : Tr} (ht : TypR G L r t) : ∀ {es : List MEnt}, SzOK G L es → ∀ {x : AV}, mget (.ref r 0 0) es = some x → x = szV (satT t)
 | e :: l, h, x, hm => by
  obtain ⟨q, t', h1, _, h2, h3⟩ := h e (by simp)
  unfold mget at hm
  split at hm
  ·rename_i hk
   rw [h1] at hk
   simp [keq] at hk
   subst hk
   cases hm
   rw [h3, typR_fn _ _ _ ht h2]
  ·exact sz_get ht (fun e he => h e (by simp [he])) hm
theorem sz_put {G : Gr} {L : Lk} {r c : Nat} {t : Tr} (hr : ∃ x, G r = some x) (ht : TypR G L r t) : ∀ es : List MEnt, SzOK G L es → SzOK G L (mput (.ref r 0 0) (szV (satT t)) c es)
 | [], _ => fun e he => by
  simp only [mput, List.mem_singleton] at he
  subst he; exact ⟨r, t, rfl, hr, ht, rfl⟩
 | a :: l, hk => fun e he => by
  unfold mput at he
  split at he
  ·rcases List.mem_cons.1 he with rfl | he
   ·exact ⟨r, t, rfl, hr, ht, rfl⟩
   ·exact hk e (by simp [he])
  ·rcases List.mem_cons.1 he with rfl | he
   ·exact hk _ (by simp)
   ·exact sz_put hr ht l (fun e he => hk e (by simp [he])) e he
theorem sz_keys {G : Gr} {L : Lk} {τ : List Ent} (h : ReprG τ G L) {es : List MEnt} (hm : SzOK G L es) (l : List Ent) : ∀ e ∈ es, kOK tab τ l (TypeDesc.pointer 107) e.1 := fun e he => by
 obtain ⟨q, _, h1, h2, _, _⟩ := hm e he
 rw [h1]; exact ⟨by kernel_rfl, mark_ptr h h2 l⟩
theorem sz_low {G : Gr} {L : Lk} {τ : List Ent} (h : ReprG τ G L) {es : List MEnt} (hm : SzOK G L es) (c : Nat) : (Ent.map es c).low τ.length = true := by
 simp only [Ent.low, Bool.and_eq_true]
 refine ⟨lows_of fun i a ha => ?_, lows_of fun i a ha => ?_⟩
 ·obtain ⟨e, he, rfl⟩ := List.mem_map.1 (List.mem_of_getElem? ha)
  obtain ⟨q, _, h1, ⟨x, hx⟩, _, _⟩ := hm e he
  obtain ⟨w, h2, _⟩ := h q x hx
  rw [h1]
  simp only [AV.low, lt_of_get h2, decide_true]
 ·obtain ⟨e, he, rfl⟩ := List.mem_map.1 (List.mem_of_getElem? ha)
  obtain ⟨q, _, _, _, _, h1⟩ := hm e he
  rw [h1]
  simp only [szV, AV.low, AV.low.lows, Bool.and_self]
def SizeC (G : Gr) (L : Lk) (gid v z : Nat) (t : Tr) : Prop := ∀ (σ : List Ent) (p : Nat) (es : List MEnt) (c : Nat), ReprG σ G L → σ[gid]? = some (graE v z) → σ[z]? = some (.map es c) → SzOK G L es → TypR G L p t → (∃ x, G p = some x) →
 ACalls E 93 [.ref gid 0 0, .ref p 0 0] σ fun r τ => r = szV (satT t) ∧ ∃ es' c', SzOK G L es' ∧ τ = σ.set z (.map es' c')
def szE (s : Int × Int) : Ent := .arr 89 [i64 s.1, i64 s.2] 0 0
set_option maxHeartbeats 16000000 in
theorem gsize_step (G : Gr) (L : Lk) (gid v z : Nat) (hE : Ended L) (hl : LinkOK G L) (hcl : ClosedG G) (hsm : ∀ p x, G p = some x → x.ks.length ≤ 2) (d n : List UInt8) (us : List Tr) (ih : ∀ u ∈ us, SizeC G L gid v z u) : SizeC G L gid v z (.mk d n us) := by
 intro σ p es c hI hg hz hS ht hp
 obtain ⟨r, er⟩ := hE p
 obtain ⟨k, hk⟩ := ends_of hI hl er hp
 cases ht with
 | @mk _ r' x _ er' hx hts =>
 have := er.fn er'
 subst this
 obtain ⟨w, e1, e2⟩ := hI r x hx
 rw [er.end] at e1
 have htr : TypR G L r (.mk x.d x.n us) := .mk (.here er.end) hx hts
 have hrx : ∃ x, G r = some x := ⟨x, hx⟩
 have gr := sget_of e1
 have gg := sget_of hg
 have gz := sget_of hz
 simp only [nodeE, linkR] at gr
 simp only [graE] at gg
 have sG0 : ∀ e, ssetG σ z e = σ.set z e := fun e => by unfold ssetG; rw [if_pos (lt_of_get hz)]
 have sL0 : ∀ e l, ssetL σ l z e = l := fun e l => by unfold ssetL; rw [if_pos (lt_of_get hz)]
 have hpt : isPtrD tab (TypeDesc.pointer 107) = true := by kernel_rfl
 refine xacalls T0 .drop [] Tryz.func93 rfl (by kernel_rfl) (by kernel_rfl) (by simp [Tryz.ntmps93]) ?_
 (simp only [(vmA), Nat.reduceEqDiff, reduceIte, Nat.reduceAdd, Int.reduceToNat, Int.reduceLE, Int.reduceLT, Int.reduceEq, Int.reduceNe, Int.reduceAdd, Int.reduceSub, Int.reduceNeg, Nat.reduceLT, Nat.reduceLeDiff, Nat.reduceBEq, undef, (stA), Nat.reduceMul]; try simp (disch := omega) only [(vmp)])
 refine xWait.go (end_ok _ p r k (hk.push _)) ?_
 cases hm : mget (.ref r 0 0) es with
 | some y =>
  have hy := sz_get htr hS hm
  subst hy
  simp only [szV] at hm
  (simp only [gr, gg, gz, hm, Option.isSome_some, if_true, (vmA), Nat.reduceEqDiff, reduceIte, Nat.reduceAdd, Int.reduceToNat, Int.reduceLE, Int.reduceLT, Int.reduceEq, Int.reduceNe, Int.reduceAdd, Int.reduceSub, Int.reduceNeg, Nat.reduceLT, Nat.reduceLeDiff, Nat.reduceBEq, undef, (stA), Nat.reduceMul]; try simp (disch := omega) only [(vmp)])
  refine ⟨⟨⟨hpt, plain_of e1 _⟩, sz_keys hI hS _⟩, rfl, es, c, hS, by rw [list_set_self hz]⟩
 | none =>
  (simp only [gr, gg, gz, hm, Option.isSome_none, Bool.false_eq_true, if_false, (vmA), Nat.reduceEqDiff, reduceIte, Nat.reduceAdd, Int.reduceToNat, Int.reduceLE, Int.reduceLT, Int.reduceEq, Int.reduceNe, Int.reduceAdd, Int.reduceSub, Int.reduceNeg, Nat.reduceLT, Nat.reduceLeDiff, Nat.reduceBEq, undef, (stA), Nat.reduceMul]; try simp (disch := omega) only [(vmp)])
  refine ⟨⟨⟨hpt, plain_of e1 _⟩, sz_keys hI hS _⟩, ?_⟩
  have hzr : z ≠ r := fun h => by rw [h, e1] at hz; cases hz
  have hzg : z ≠ gid := fun h => by rw [h, hg] at hz; cases hz
  have hul := typRs_len hts
  have hsl := hsm r x hx
  rcases x with ⟨xd, xn, xa⟩
  simp only at *
  rcases xa with _ | ⟨x0, xr⟩
  ·obtain rfl : us = [] := by simpa using hul
   (simp only [argsR, (vmA), Nat.reduceEqDiff, reduceIte, Nat.reduceAdd, Int.reduceToNat, Int.reduceLE, Int.reduceLT, Int.reduceEq, Int.reduceNe, Int.reduceAdd, Int.reduceSub, Int.reduceNeg, Nat.reduceLT, Nat.reduceLeDiff, Nat.reduceBEq, undef, (stA), Nat.reduceMul]; try simp (disch := omega) only [(vmp)])
   refine xloop (α := Nat) T0 (fun i => [(0, .ref gid 0 0), (1, .ref r 0 0), (4, .ref σ.length 0 0), (7, .ref (σ.length + 2) 0 0), (29, i64 0), (30, i64 0)]) (fun _ => σ) (fun _ => [szE (0, 0), szE (0, 0), szE (1, 1)]) (fun i => i = 0) (fun i => i) (by kernel_rfl)
    ⟨0, rfl, by (simp only [(vmA), Nat.reduceEqDiff, reduceIte, Nat.reduceAdd, Int.reduceToNat, Int.reduceLE, Int.reduceLT, Int.reduceEq, Int.reduceNe, Int.reduceAdd, Int.reduceSub, Int.reduceNeg, Nat.reduceLT, Nat.reduceLeDiff, Nat.reduceBEq, undef, (stA), Nat.reduceMul]; try simp (disch := omega) only [(vmp)]), rfl, rfl⟩ ?_
   rintro i hi
   (simp only [szE, (vmA), Nat.reduceEqDiff, reduceIte, Nat.reduceAdd, Int.reduceToNat, Int.reduceLE, Int.reduceLT, Int.reduceEq, Int.reduceNe, Int.reduceAdd, Int.reduceSub, Int.reduceNeg, Nat.reduceLT, Nat.reduceLeDiff, Nat.reduceBEq, undef, (stA), Nat.reduceMul]; try simp (disch := omega) only [(vmp)])
   refine ydraw T0 [6] (by kernel_rfl) (by kernel_rfl) (by kernel_rfl) (by kernel_rfl) ?_
   (simp only [gr, gg, gz, hm, sG0, sL0, Option.isSome_none, Bool.false_eq_true, if_false, (vmA), Nat.reduceEqDiff, reduceIte, Nat.reduceAdd, Int.reduceToNat, Int.reduceLE, Int.reduceLT, Int.reduceEq, Int.reduceNe, Int.reduceAdd, Int.reduceSub, Int.reduceNeg, Nat.reduceLT, Nat.reduceLeDiff, Nat.reduceBEq, undef, (stA), Nat.reduceMul]; try simp (disch := omega) only [(vmp)])
   refine ⟨⟨⟨hpt, plain_of e1 _⟩, sz_keys hI hS _⟩, by simp, ?_⟩
   have hn : σ.length = (σ.set z (.map (mput (.ref r 0 0) (.agg [i64 1, i64 1]) c es) (c + 1))).length := by simp
   have hlow : StoreLow σ.length σ (σ.set z (.map (mput (.ref r 0 0) (.agg [i64 1, i64 1]) c es) (c + 1))) := by
    have hfin := sz_put (c := c) hrx htr es hS
    simp only [szV, satT, satTs, satS] at hfin
    exact storeLow_set (sz_low hI hfin _)
   have hfin := sz_put (c := c) hrx htr es hS
   simp only [szV, satT, satTs, satS] at hfin
   generalize hS1 : σ.set z (.map (mput (.ref r 0 0) (.agg [i64 1, i64 1]) c es) (c + 1)) = S1 at *
   rw [hn]
   (simp only [(vmA), Nat.reduceEqDiff, reduceIte, Nat.reduceAdd, Int.reduceToNat, Int.reduceLE, Int.reduceLT, Int.reduceEq, Int.reduceNe, Int.reduceAdd, Int.reduceSub, Int.reduceNeg, Nat.reduceLT, Nat.reduceLeDiff, Nat.reduceBEq, undef, (stA), Nat.reduceMul]; try simp (disch := omega) only [(vmp)])
   exact ⟨hn ▸ hlow, rfl, _, _, hfin, hS1.symm⟩
  ·have gw := sget_of (e2 (by simp))
   simp only [rowP, List.length_cons, Nat.add_sub_cancel] at gw
   (simp only [argsR, (vmA), Nat.reduceEqDiff, reduceIte, Nat.reduceAdd, Int.reduceToNat, Int.reduceLE, Int.reduceLT, Int.reduceEq, Int.reduceNe, Int.reduceAdd, Int.reduceSub, Int.reduceNeg, Nat.reduceLT, Nat.reduceLeDiff, Nat.reduceBEq, undef, (stA), Nat.reduceMul]; try simp (disch := omega) only [(vmp)])
   refine xloop (α := Nat × List MEnt × Nat × List Ent) T0 (fun x => [(0, .ref gid 0 0), (1, .ref r 0 0), (4, .ref σ.length 0 0), (7, .ref (σ.length + 2) 0 0), (28, .rsl w xr.length 0 (xr.length + 1) 1), (29, i64 (xr.length + 1 : Nat)), (30, i64 x.1)]) (fun x => σ.set z (.map x.2.1 x.2.2.1)) (fun x => szE (0, 0) :: szE (0, 0) :: szE (satS (1, 1) (satTs (us.take x.1))) :: x.2.2.2)
    (fun x => x.1 ≤ xr.length + 1 ∧ SzOK G L x.2.1) (fun x => xr.length + 1 - x.1) (by kernel_rfl)
    ⟨(0, es, c, []), ⟨by simp, hS⟩, by (simp only [(vmA), Nat.reduceEqDiff, reduceIte, Nat.reduceAdd, Int.reduceToNat, Int.reduceLE, Int.reduceLT, Int.reduceEq, Int.reduceNe, Int.reduceAdd, Int.reduceSub, Int.reduceNeg, Nat.reduceLT, Nat.reduceLeDiff, Nat.reduceBEq, undef, (stA), Nat.reduceMul, Int.natCast_zero]; try simp (disch := omega) only [(vmp)]), by simp only [list_set_self hz], rfl⟩ ?_
   rintro ⟨i, es', c', J⟩ ⟨hi, hS'⟩
   simp only at hi hS'
   by_cases h : (i : Int) < (xr.length + 1 : Nat)
   ·have hi1 : i < (x0 :: xr).length := by simp only [List.length_cons]; omega
    obtain ⟨u, hu, hut⟩ := typRs_at hts hi1
    have hum : u ∈ us := List.mem_of_getElem? hu
    have s1 : satS (1, 1) (satTs (us.take (i + 1))) = (min (wr ((satS (1, 1) (satTs (us.take i))).1 + (satT u).1)) 2001, max (satS (1, 1) (satTs (us.take i))).2 (wr ((satT u).2 + 1))) := by
     rw [List.take_add_one, hu, satTs_map, List.map_append]; exact (satS_app _ _ _).trans (by rw [satTs_map])
    have k1 : (refs (x0 :: xr))[i]? = some (.ref ((x0 :: xr).getD i 0) 0 0) := refs_get (by rw [List.getD_eq_getElem?_getD, List.getElem?_eq_getElem hi1]; rfl)
    have hq : ∃ y, G ((x0 :: xr).getD i 0) = some y := hcl r _ hx _ (by rw [List.getD_eq_getElem?_getD, List.getElem?_eq_getElem hi1]; exact List.getElem_mem _)
    have hwz : z ≠ w := fun h => by have := e2 (by simp); rw [← h, hz] at this; cases this
    have hzl := lt_of_get hz
    have hc := fun A => ih u hum (σ.set z (.map es' c') ++ A) _ es' c' (fun q y hy => nodeAt_push (repr_map hI hz _ q y hy) _) (get_olds (by rw [get_set_ne hzg]; exact hg) _) (get_olds (get_set_self hz) _) hS' hut hq
    have hS1 : ∀ e A, (σ.set z (.map es' c') ++ A).set z e = σ.set z e ++ A := fun e A => by rw [List.set_append_left _ _ (by simpa using hzl), List.set_set]
    simp only [hS1] at hc
    have gw' : sget (σ.set z (.map es' c')) (szE (0, 0) :: szE (0, 0) :: szE (satS (1, 1) (satTs (us.take i))) :: J) w = some (.arr 74 (refs (x0 :: xr)) xr.length 0) := sget_of (by rw [get_set_ne hwz]; exact e2 (by simp)) _
    simp only [szE] at gw'
    have hL1 : (σ.set z (.map es' c')).length = σ.length := by simp
    generalize hG1 : σ.set z (.map es' c') = G1 at *
    rw [← hL1]
    (simp only [h, gw', k1, szE, (vmA), Nat.reduceEqDiff, reduceIte, Nat.reduceAdd, Int.reduceToNat, Int.reduceLE, Int.reduceLT, Int.reduceEq, Int.reduceNe, Int.reduceAdd, Int.reduceSub, Int.reduceNeg, Nat.reduceLT, Nat.reduceLeDiff, Nat.reduceBEq, undef, (stA), Nat.reduceMul]; try simp (disch := omega) only [(vmp)])
    refine xWait.of (hc _) ?_
    rintro r1 τ1 ⟨rfl, es2, c2, hS2, rfl⟩
    have hL2 : (σ.set z (.map es2 c2)).length = G1.length := by simp [hL1]
    generalize hG2 : σ.set z (.map es2 c2) = G2 at *
    rw [List.take_left' hL2, List.drop_left' hL2, ← hL2]
    (simp only [szV, (vmA), Nat.reduceEqDiff, reduceIte, Nat.reduceAdd, Int.reduceToNat, Int.reduceLE, Int.reduceLT, Int.reduceEq, Int.reduceNe, Int.reduceAdd, Int.reduceSub, Int.reduceNeg, Nat.reduceLT, Nat.reduceLeDiff, Nat.reduceBEq, undef, (stA), Nat.reduceMul]; try simp (disch := omega) only [(vmp)])
    refine ⟨(i + 1, es2, c2, J ++ [szE (satT u)]), ⟨by simp only; omega, hS2⟩, by simp only; omega, rfl, hG2.symm, ?_⟩
    simp only [s1, szE, wr]
   ·have hie : i = xr.length + 1 := by omega
    subst hie
    have hL1 : (σ.set z (.map es' c')).length = σ.length := by simp
    have hus : us.take (xr.length + 1) = us := List.take_of_length_le (by simp at hul; omega)
    have gg' : ∀ l, sget (σ.set z (.map es' c')) l gid = some (.arr 72 [.mp v, .mp z] 0 0) := fun l => sget_of (by rw [get_set_ne hzg]; exact hg) _
    have gz' : ∀ l, sget (σ.set z (.map es' c')) l z = some (.map es' c') := fun l => sget_of (get_set_self hz) _
    have hs : satS (1, 1) (satTs us) = satT (.mk xd xn us) := rfl
    have K1 : ∀ l, ∀ e ∈ es', kOK tab (σ.set z (.map es' c')) l (TypeDesc.pointer 107) e.1 := sz_keys (repr_map hI hz _) hS'
    have K2 : ∀ l, plainRef (σ.set z (.map es' c')) l r 0 := plain_of (by rw [get_set_ne hzr]; exact e1)
    have sG1 : ∀ e, ssetG (σ.set z (.map es' c')) z e = σ.set z e := fun e => by unfold ssetG; rw [if_pos (by simpa using lt_of_get hz), List.set_set]
    have sL1 : ∀ e l, ssetL (σ.set z (.map es' c')) l z e = l := fun e l => by unfold ssetL; rw [if_pos (by simpa using lt_of_get hz)]
    rw [hus]
    simp only [hs]
    have hfin := sz_put (c := c') hrx htr es' hS'
    generalize satT (.mk xd xn us) = sz at *
    obtain ⟨s1, s2⟩ := sz
    simp only [szV] at hfin
    have hL2 : ∀ e, (σ.set z e).length = σ.length := fun e => by simp
    generalize hG1 : σ.set z (.map es' c') = G1 at *
    rw [← hL1]
    (simp only [h, szE, (vmA), Nat.reduceEqDiff, reduceIte, Nat.reduceAdd, Int.reduceToNat, Int.reduceLE, Int.reduceLT, Int.reduceEq, Int.reduceNe, Int.reduceAdd, Int.reduceSub, Int.reduceNeg, Nat.reduceLT, Nat.reduceLeDiff, Nat.reduceBEq, undef, (stA), Nat.reduceMul]; try simp (disch := omega) only [(vmp)])
    refine ydraw T0 [6] (by kernel_rfl) (by kernel_rfl) (by kernel_rfl) (by kernel_rfl) ?_
    (simp only [gg', gz', sG1, sL1, (vmA), Nat.reduceEqDiff, reduceIte, Nat.reduceAdd, Int.reduceToNat, Int.reduceLE, Int.reduceLT, Int.reduceEq, Int.reduceNe, Int.reduceAdd, Int.reduceSub, Int.reduceNeg, Nat.reduceLT, Nat.reduceLeDiff, Nat.reduceBEq, undef, (stA), Nat.reduceMul]; try simp (disch := omega) only [(vmp)])
    refine ⟨⟨⟨hpt, K2 _⟩, K1 _⟩, by rw [hL1, hL2], ?_⟩
    generalize (if (mget (.ref r 0 0) es').isSome = true then c' else c' + 1) = cc
    have hn : G1.length = (σ.set z (.map (mput (.ref r 0 0) (.agg [i64 s1, i64 s2]) c' es') cc)).length := by rw [hL1, hL2]
    have hlow : StoreLow σ.length σ (σ.set z (.map (mput (.ref r 0 0) (.agg [i64 s1, i64 s2]) c' es') cc)) := storeLow_set (sz_low hI hfin _)
    generalize hS1 : σ.set z (.map (mput (.ref r 0 0) (.agg [i64 s1, i64 s2]) c' es') cc) = S1 at *
    rw [hn]
    (simp only [(vmA), Nat.reduceEqDiff, reduceIte, Nat.reduceAdd, Int.reduceToNat, Int.reduceLE, Int.reduceLT, Int.reduceEq, Int.reduceNe, Int.reduceAdd, Int.reduceSub, Int.reduceNeg, Nat.reduceLT, Nat.reduceLeDiff, Nat.reduceBEq, undef, (stA), Nat.reduceMul]; try simp (disch := omega) only [(vmp)])
    exact ⟨hlow, rfl, _, _, hfin, hS1.symm⟩
theorem gsize_ok (G : Gr) (L : Lk) (gid v z : Nat) (hE : Ended L) (hl : LinkOK G L) (hcl : ClosedG G) (hsm : ∀ p x, G p = some x → x.ks.length ≤ 2) : ∀ (m : Nat) (t : Tr), SizeOf.sizeOf t ≤ m → SizeC G L gid v z t
 | 0, .mk d n us, h => by simp at h
 | m + 1, .mk d n us, h => gsize_step G L gid v z hE hl hcl hsm d n us fun u hu => gsize_ok G L gid v z hE hl hcl hsm m u (by
   have := List.sizeOf_lt_of_mem hu
   simp at h; omega)
end Go.D
namespace Go.D
open Go Go.Vm Go.Proofs Go.RowKit
def TypC (G : Gr) (L : Lk) (gid : Nat) (t : Tr) : Prop := ∀ (σ : List Ent) (p : Nat), ReprG σ G L → TypR G L p t → (∃ x, G p = some x) →
 ACalls E 94 [.ref gid 0 0, .ref p 0 0] σ fun r τ => r = tyV t ∧ τ = σ
set_option maxHeartbeats 16000000 in
theorem gtyp_step (G : Gr) (L : Lk) (gid : Nat) (hE : Ended L) (hl : LinkOK G L) (hcl : ClosedG G) (hsm : ∀ p x, G p = some x → x.ks.length ≤ 2) (d n : List UInt8) (us : List Tr) (ih : ∀ u ∈ us, TypC G L gid u) : TypC G L gid (.mk d n us) := by
 intro σ p hI ht hp
 obtain ⟨r, er⟩ := hE p
 obtain ⟨k, hk⟩ := ends_of hI hl er hp
 cases ht with
 | @mk _ r' x _ er' hx hts =>
 have := er.fn er'
 subst this
 obtain ⟨w, e1, e2⟩ := hI r x hx
 rw [er.end] at e1
 have gr := sget_of e1
 simp only [nodeE, linkR] at gr
 have hul := typRs_len hts
 have hsl := hsm r x hx
 rcases x with ⟨xd, xn, xa⟩
 simp only at *
 refine xacalls T0 .freeze [] Tryz.func94 rfl (by kernel_rfl) (by kernel_rfl) (by simp [Tryz.ntmps94]) ?_
 (simp only [(vmA), Nat.reduceEqDiff, reduceIte, Nat.reduceAdd, Int.reduceToNat, Int.reduceLE, Int.reduceLT, Int.reduceEq, Int.reduceNe, Int.reduceAdd, Int.reduceSub, Int.reduceNeg, Nat.reduceLT, Nat.reduceLeDiff, Nat.reduceBEq, undef, (stA), Nat.reduceMul]; try simp (disch := omega) only [(vmp)])
 refine xWait.go (end_ok _ p r k (hk.push _)) ?_
 (simp only [gr, (vmA), Nat.reduceEqDiff, reduceIte, Nat.reduceAdd, Int.reduceToNat, Int.reduceLE, Int.reduceLT, Int.reduceEq, Int.reduceNe, Int.reduceAdd, Int.reduceSub, Int.reduceNeg, Nat.reduceLT, Nat.reduceLeDiff, Nat.reduceBEq, undef, (stA), Nat.reduceMul]; try simp (disch := omega) only [(vmp)])
 refine zdraw T0 ⟨[10], [9], [1, 2, 3, 5, 6, 7, 8], some [0], true⟩ (by kernel_rfl) (by kernel_rfl) (by kernel_rfl) (by kernel_rfl) ?_
 (simp only [zDraw_nil,zDraw_go,zDraw_if,zSlot_some,zGuard_tt,zGuard_ff,zGuard_tf,zGuard_ft,zGuard_un,zOut_some,zOut_pure,zOut_cond,zNext_move,zNext_assign,zNext_pick,zNext_buildSlice,zNext_build,zNext_load,zNext_store,zNext_builtin,zNext_fieldAddr,zNext_nilCheck,zNext_indexAddr,zNext_unOp,zNext_binOp, (vmA), Nat.reduceEqDiff, reduceIte, Nat.reduceAdd, Int.reduceToNat, Int.reduceLE, Int.reduceLT, Int.reduceEq, Int.reduceNe, Int.reduceAdd, Int.reduceSub, Int.reduceNeg, Nat.reduceLT, Nat.reduceLeDiff, Nat.reduceBEq, undef, (stA), Nat.reduceMul]; try simp (disch := omega) only [(vmp)])
 refine zNext.looseG (r := .ref r 0 0) rfl rfl rfl rfl rfl (fun l' hl' => ⟨True, trivial, by (simp only [gr, (vmA), Nat.reduceEqDiff, reduceIte, Nat.reduceAdd, Int.reduceToNat, Int.reduceLE, Int.reduceLT, Int.reduceEq, Int.reduceNe, Int.reduceAdd, Int.reduceSub, Int.reduceNeg, Nat.reduceLT, Nat.reduceLeDiff, Nat.reduceBEq, undef, (stA), Nat.reduceMul]; try simp (disch := omega) only [(vmp)])⟩) ?_
 (simp only [zDraw_nil,zDraw_go,zDraw_if,zSlot_some,zGuard_tt,zGuard_ff,zGuard_tf,zGuard_ft,zGuard_un,zOut_some,zOut_pure,zOut_cond,zNext_move,zNext_assign,zNext_pick,zNext_buildSlice,zNext_build,zNext_load,zNext_store,zNext_builtin,zNext_fieldAddr,zNext_nilCheck,zNext_indexAddr,zNext_unOp,zNext_binOp, (vmA), Nat.reduceEqDiff, reduceIte, Nat.reduceAdd, Int.reduceToNat, Int.reduceLE, Int.reduceLT, Int.reduceEq, Int.reduceNe, Int.reduceAdd, Int.reduceSub, Int.reduceNeg, Nat.reduceLT, Nat.reduceLeDiff, Nat.reduceBEq, undef, (stA), Nat.reduceMul]; try simp (disch := omega) only [(vmp)])
 refine zNext.looseG (r := .ref r 0 0) rfl rfl rfl rfl rfl (fun l' hl' => ⟨True, trivial, by (simp only [gr, (vmA), Nat.reduceEqDiff, reduceIte, Nat.reduceAdd, Int.reduceToNat, Int.reduceLE, Int.reduceLT, Int.reduceEq, Int.reduceNe, Int.reduceAdd, Int.reduceSub, Int.reduceNeg, Nat.reduceLT, Nat.reduceLeDiff, Nat.reduceBEq, undef, (stA), Nat.reduceMul]; try simp (disch := omega) only [(vmp)])⟩) ?_
 (simp only [zDraw_nil,zDraw_go,zDraw_if,zSlot_some,zGuard_tt,zGuard_ff,zGuard_tf,zGuard_ft,zGuard_un,zOut_some,zOut_pure,zOut_cond,zNext_move,zNext_assign,zNext_pick,zNext_buildSlice,zNext_build,zNext_load,zNext_store,zNext_builtin,zNext_fieldAddr,zNext_nilCheck,zNext_indexAddr,zNext_unOp,zNext_binOp, (vmA), Nat.reduceEqDiff, reduceIte, Nat.reduceAdd, Int.reduceToNat, Int.reduceLE, Int.reduceLT, Int.reduceEq, Int.reduceNe, Int.reduceAdd, Int.reduceSub, Int.reduceNeg, Nat.reduceLT, Nat.reduceLeDiff, Nat.reduceBEq, undef, (stA), Nat.reduceMul]; try simp (disch := omega) only [(vmp)])
 refine zNext.looseG (r := .str xd) rfl rfl rfl rfl rfl (fun l' hl' => ⟨True, trivial, by (simp only [gr, (vmA), Nat.reduceEqDiff, reduceIte, Nat.reduceAdd, Int.reduceToNat, Int.reduceLE, Int.reduceLT, Int.reduceEq, Int.reduceNe, Int.reduceAdd, Int.reduceSub, Int.reduceNeg, Nat.reduceLT, Nat.reduceLeDiff, Nat.reduceBEq, undef, (stA), Nat.reduceMul]; try simp (disch := omega) only [(vmp)])⟩) ?_
 (simp only [zDraw_nil,zDraw_go,zDraw_if,zSlot_some,zGuard_tt,zGuard_ff,zGuard_tf,zGuard_ft,zGuard_un,zOut_some,zOut_pure,zOut_cond,zNext_move,zNext_assign,zNext_pick,zNext_buildSlice,zNext_build,zNext_load,zNext_store,zNext_builtin,zNext_fieldAddr,zNext_nilCheck,zNext_indexAddr,zNext_unOp,zNext_binOp, (vmA), Nat.reduceEqDiff, reduceIte, Nat.reduceAdd, Int.reduceToNat, Int.reduceLE, Int.reduceLT, Int.reduceEq, Int.reduceNe, Int.reduceAdd, Int.reduceSub, Int.reduceNeg, Nat.reduceLT, Nat.reduceLeDiff, Nat.reduceBEq, undef, (stA), Nat.reduceMul]; try simp (disch := omega) only [(vmp)])
 refine zNext.looseG (r := .ref r 0 0) rfl rfl rfl rfl rfl (fun l' hl' => ⟨True, trivial, by (simp only [gr, (vmA), Nat.reduceEqDiff, reduceIte, Nat.reduceAdd, Int.reduceToNat, Int.reduceLE, Int.reduceLT, Int.reduceEq, Int.reduceNe, Int.reduceAdd, Int.reduceSub, Int.reduceNeg, Nat.reduceLT, Nat.reduceLeDiff, Nat.reduceBEq, undef, (stA), Nat.reduceMul]; try simp (disch := omega) only [(vmp)])⟩) ?_
 (simp only [zDraw_nil,zDraw_go,zDraw_if,zSlot_some,zGuard_tt,zGuard_ff,zGuard_tf,zGuard_ft,zGuard_un,zOut_some,zOut_pure,zOut_cond,zNext_move,zNext_assign,zNext_pick,zNext_buildSlice,zNext_build,zNext_load,zNext_store,zNext_builtin,zNext_fieldAddr,zNext_nilCheck,zNext_indexAddr,zNext_unOp,zNext_binOp, (vmA), Nat.reduceEqDiff, reduceIte, Nat.reduceAdd, Int.reduceToNat, Int.reduceLE, Int.reduceLT, Int.reduceEq, Int.reduceNe, Int.reduceAdd, Int.reduceSub, Int.reduceNeg, Nat.reduceLT, Nat.reduceLeDiff, Nat.reduceBEq, undef, (stA), Nat.reduceMul]; try simp (disch := omega) only [(vmp)])
 refine zNext.looseG (r := .ref r 0 1) rfl rfl rfl rfl rfl (fun l' hl' => ⟨True, trivial, by (simp only [gr, (vmA), Nat.reduceEqDiff, reduceIte, Nat.reduceAdd, Int.reduceToNat, Int.reduceLE, Int.reduceLT, Int.reduceEq, Int.reduceNe, Int.reduceAdd, Int.reduceSub, Int.reduceNeg, Nat.reduceLT, Nat.reduceLeDiff, Nat.reduceBEq, undef, (stA), Nat.reduceMul]; try simp (disch := omega) only [(vmp)])⟩) ?_
 (simp only [zDraw_nil,zDraw_go,zDraw_if,zSlot_some,zGuard_tt,zGuard_ff,zGuard_tf,zGuard_ft,zGuard_un,zOut_some,zOut_pure,zOut_cond,zNext_move,zNext_assign,zNext_pick,zNext_buildSlice,zNext_build,zNext_load,zNext_store,zNext_builtin,zNext_fieldAddr,zNext_nilCheck,zNext_indexAddr,zNext_unOp,zNext_binOp, (vmA), Nat.reduceEqDiff, reduceIte, Nat.reduceAdd, Int.reduceToNat, Int.reduceLE, Int.reduceLT, Int.reduceEq, Int.reduceNe, Int.reduceAdd, Int.reduceSub, Int.reduceNeg, Nat.reduceLT, Nat.reduceLeDiff, Nat.reduceBEq, undef, (stA), Nat.reduceMul]; try simp (disch := omega) only [(vmp)])
 refine zNext.looseG (r := .str xn) rfl rfl rfl rfl rfl (fun l' hl' => ⟨True, trivial, by (simp only [gr, (vmA), Nat.reduceEqDiff, reduceIte, Nat.reduceAdd, Int.reduceToNat, Int.reduceLE, Int.reduceLT, Int.reduceEq, Int.reduceNe, Int.reduceAdd, Int.reduceSub, Int.reduceNeg, Nat.reduceLT, Nat.reduceLeDiff, Nat.reduceBEq, undef, (stA), Nat.reduceMul]; try simp (disch := omega) only [(vmp)])⟩) ?_
 (simp only [zDraw_nil,zDraw_go,zDraw_if,zSlot_some,zGuard_tt,zGuard_ff,zGuard_tf,zGuard_ft,zGuard_un,zOut_some,zOut_pure,zOut_cond,zNext_move,zNext_assign,zNext_pick,zNext_buildSlice,zNext_build,zNext_load,zNext_store,zNext_builtin,zNext_fieldAddr,zNext_nilCheck,zNext_indexAddr,zNext_unOp,zNext_binOp, (vmA), Nat.reduceEqDiff, reduceIte, Nat.reduceAdd, Int.reduceToNat, Int.reduceLE, Int.reduceLT, Int.reduceEq, Int.reduceNe, Int.reduceAdd, Int.reduceSub, Int.reduceNeg, Nat.reduceLT, Nat.reduceLeDiff, Nat.reduceBEq, undef, (stA), Nat.reduceMul]; try simp (disch := omega) only [(vmp)])
 refine zNext.looseG (r := .agg [.str xd, .str xn, nilS]) rfl rfl rfl rfl rfl (fun l' hl' => ⟨True, trivial, by (simp only [gr, (vmA), Nat.reduceEqDiff, reduceIte, Nat.reduceAdd, Int.reduceToNat, Int.reduceLE, Int.reduceLT, Int.reduceEq, Int.reduceNe, Int.reduceAdd, Int.reduceSub, Int.reduceNeg, Nat.reduceLT, Nat.reduceLeDiff, Nat.reduceBEq, undef, (stA), Nat.reduceMul]; try simp (disch := omega) only [(vmp)])⟩) ?_
 (simp only [zDraw_nil,zDraw_go,zDraw_if,zSlot_some,zGuard_tt,zGuard_ff,zGuard_tf,zGuard_ft,zGuard_un,zOut_some,zOut_pure,zOut_cond,zNext_move,zNext_assign,zNext_pick,zNext_buildSlice,zNext_build,zNext_load,zNext_store,zNext_builtin,zNext_fieldAddr,zNext_nilCheck,zNext_indexAddr,zNext_unOp,zNext_binOp, (vmA), Nat.reduceEqDiff, reduceIte, Nat.reduceAdd, Int.reduceToNat, Int.reduceLE, Int.reduceLT, Int.reduceEq, Int.reduceNe, Int.reduceAdd, Int.reduceSub, Int.reduceNeg, Nat.reduceLT, Nat.reduceLeDiff, Nat.reduceBEq, undef, (stA), Nat.reduceMul]; try simp (disch := omega) only [(vmp)])
 refine zNext.softS rfl rfl rfl (by (simp only [(vmA), Nat.reduceEqDiff, reduceIte, Nat.reduceAdd, Int.reduceToNat, Int.reduceLE, Int.reduceLT, Int.reduceEq, Int.reduceNe, Int.reduceAdd, Int.reduceSub, Int.reduceNeg, Nat.reduceLT, Nat.reduceLeDiff, Nat.reduceBEq, undef, (stA), Nat.reduceMul]; try simp (disch := omega) only [(vmp)]); exact rfl) (by trivial) rfl (by intro m hm; simp at hm; subst hm; rfl) ?_
 (simp only [gr, zDraw_nil,zDraw_go,zDraw_if,zSlot_some,zGuard_tt,zGuard_ff,zGuard_tf,zGuard_ft,zGuard_un,zOut_some,zOut_pure,zOut_cond,zNext_move,zNext_assign,zNext_pick,zNext_buildSlice,zNext_build,zNext_load,zNext_store,zNext_builtin,zNext_fieldAddr,zNext_nilCheck,zNext_indexAddr,zNext_unOp,zNext_binOp, (vmA), Nat.reduceEqDiff, reduceIte, Nat.reduceAdd, Int.reduceToNat, Int.reduceLE, Int.reduceLT, Int.reduceEq, Int.reduceNe, Int.reduceAdd, Int.reduceSub, Int.reduceNeg, Nat.reduceLT, Nat.reduceLeDiff, Nat.reduceBEq, undef, (stA), Nat.reduceMul]; try simp (disch := omega) only [(vmp)])
 rcases xa with _ | ⟨x0, xr⟩
 ·obtain rfl : us = [] := by simpa using hul
  (simp only [argsR, (vmA), Nat.reduceEqDiff, reduceIte, Nat.reduceAdd, Int.reduceToNat, Int.reduceLE, Int.reduceLT, Int.reduceEq, Int.reduceNe, Int.reduceAdd, Int.reduceSub, Int.reduceNeg, Nat.reduceLT, Nat.reduceLeDiff, Nat.reduceBEq, undef, (stA), Nat.reduceMul]; try simp (disch := omega) only [(vmp)])
  refine xloop (α := Nat) T0 (fun i => [(4, .ref σ.length 0 0), (5, .ref (σ.length + 1) 0 0), (23, i64 0), (24, i64 0)]) (fun _ => σ) (fun _ => [tyE [] [] nilS, tyE xd xn nilS]) (fun i => i = 0) (fun i => i) (by kernel_rfl)
   ⟨0, rfl, by (simp only [(vmA), Nat.reduceEqDiff, reduceIte, Nat.reduceAdd, Int.reduceToNat, Int.reduceLE, Int.reduceLT, Int.reduceEq, Int.reduceNe, Int.reduceAdd, Int.reduceSub, Int.reduceNeg, Nat.reduceLT, Nat.reduceLeDiff, Nat.reduceBEq, undef, (stA), Nat.reduceMul]; try simp (disch := omega) only [(vmp)]), rfl, rfl⟩ ?_
  rintro i hi
  (simp only [tyE, (vmA), Nat.reduceEqDiff, reduceIte, Nat.reduceAdd, Int.reduceToNat, Int.reduceLE, Int.reduceLT, Int.reduceEq, Int.reduceNe, Int.reduceAdd, Int.reduceSub, Int.reduceNeg, Nat.reduceLT, Nat.reduceLeDiff, Nat.reduceBEq, undef, (stA), Nat.reduceMul]; try simp (disch := omega) only [(vmp)])
  exact ⟨_, .agg (.cons (.refl _) (.cons (.refl _) (.cons .none .nil))), by simp only [AV.low, AV.low.lows, Bool.and_self], by simp only [tyV, tysV]⟩
 ·have gw := sget_of (e2 (by simp))
  simp only [rowP, List.length_cons, Nat.add_sub_cancel] at gw
  simp only [List.length_cons] at hul hsl
  (simp only [argsR, (vmA), Nat.reduceEqDiff, reduceIte, Nat.reduceAdd, Int.reduceToNat, Int.reduceLE, Int.reduceLT, Int.reduceEq, Int.reduceNe, Int.reduceAdd, Int.reduceSub, Int.reduceNeg, Nat.reduceLT, Nat.reduceLeDiff, Nat.reduceBEq, undef, (stA), Nat.reduceMul]; try simp (disch := omega) only [(vmp)])
  refine xloop (α := Nat × List Ent × Nat) T0 (fun x => [(0, .ref gid 0 0), (4, .ref σ.length 0 0), (5, .ref (σ.length + 1) 0 0), (22, .rsl w xr.length 0 (xr.length + 1) 1), (23, i64 (xr.length + 1 : Nat)), (24, i64 x.1)]) (fun _ => σ)
   (fun x => tyE [] [] nilS :: tyE xd xn (rowT (σ.length + (x.2.2 + 2)) (us.take x.1)) :: x.2.1)
   (fun x => x.1 ≤ us.length ∧ (us.take x.1 ≠ [] → x.2.1[x.2.2]? = some (.arr 24 ((us.take x.1).flatMap tyCells) ((us.take x.1).length - 1) 0))) (fun x => us.length - x.1) (by kernel_rfl)
   ⟨(0, [], 0), ⟨by simp, by simp⟩, by (simp only [(vmA), Nat.reduceEqDiff, reduceIte, Nat.reduceAdd, Int.reduceToNat, Int.reduceLE, Int.reduceLT, Int.reduceEq, Int.reduceNe, Int.reduceAdd, Int.reduceSub, Int.reduceNeg, Nat.reduceLT, Nat.reduceLeDiff, Nat.reduceBEq, undef, (stA), Nat.reduceMul, Int.natCast_zero]; try simp (disch := omega) only [(vmp)]), rfl, by simp only [List.take_zero, rowT, tyE]⟩ ?_
  rintro ⟨i, junk, rid⟩ ⟨hi, hrow⟩
  simp only at hi hrow
  have hal : (us.take i).length = i := by simp; omega
  by_cases h : (i : Int) < (xr.length + 1 : Nat)
  ·have hi1 : i < (x0 :: xr).length := by simp only [List.length_cons]; omega
   obtain ⟨u, hu, hut⟩ := typRs_at hts hi1
   obtain ⟨s1, s2⟩ := take_split us i _ hu
   have hmem : u ∈ us := List.mem_of_getElem? hu
   have k1 : (refs (x0 :: xr))[i]? = some (.ref ((x0 :: xr).getD i 0) 0 0) := refs_get (by rw [List.getD_eq_getElem?_getD, List.getElem?_eq_getElem hi1]; rfl)
   have hq : ∃ y, G ((x0 :: xr).getD i 0) = some y := hcl r _ hx _ (by rw [List.getD_eq_getElem?_getD, List.getElem?_eq_getElem hi1]; exact List.getElem_mem _)
   have hc := fun A => ih u hmem (σ ++ A) _ (fun q y hy => nodeAt_push (hI q y hy) A) hut hq
   cases u with
   | mk d2 n2 us2 =>
   simp only [tyV] at hc
   (simp only [h, gw, k1, tyE, (vmA), Nat.reduceEqDiff, reduceIte, Nat.reduceAdd, Int.reduceToNat, Int.reduceLE, Int.reduceLT, Int.reduceEq, Int.reduceNe, Int.reduceAdd, Int.reduceSub, Int.reduceNeg, Nat.reduceLT, Nat.reduceLeDiff, Nat.reduceBEq, undef, (stA), Nat.reduceMul]; try simp (disch := omega) only [(vmp)])
   refine ydraw T0 [6, 8] (by kernel_rfl) (by kernel_rfl) (by kernel_rfl) (by kernel_rfl) ?_
   (simp only [(vmA), Nat.reduceEqDiff, reduceIte, Nat.reduceAdd, Int.reduceToNat, Int.reduceLE, Int.reduceLT, Int.reduceEq, Int.reduceNe, Int.reduceAdd, Int.reduceSub, Int.reduceNeg, Nat.reduceLT, Nat.reduceLeDiff, Nat.reduceBEq, undef, (stA), Nat.reduceMul]; try simp (disch := omega) only [(vmp)])
   refine yNext.go (by rfl) _ rfl (hc _) ?_
   generalize hacc : us.take i = acc at *
   rcases acc with _ | ⟨b0, r0⟩
   ·(simp only [rowT, (vmA), Nat.reduceEqDiff, reduceIte, Nat.reduceAdd, Int.reduceToNat, Int.reduceLE, Int.reduceLT, Int.reduceEq, Int.reduceNe, Int.reduceAdd, Int.reduceSub, Int.reduceNeg, Nat.reduceLT, Nat.reduceLeDiff, Nat.reduceBEq, undef, (stA), Nat.reduceMul]; try simp (disch := omega) only [(vmp)])
    refine ⟨by unfold maxRoom; omega, (i + 1, junk ++ [.arr 24 [.str d2, .str n2, .sl (tysV us2)] 0 0], junk.length), ⟨by simp only; omega, fun _ => ?_⟩, by simp only; omega, rfl, ?_⟩
    ·simp only [s1]; simp [tyCells]
    ·simp only [s1, List.nil_append, rowT, List.length_nil, List.append_assoc, List.cons_append, Nat.add_assoc]
     try rfl
   ·have h5 : junk[rid]? = some (.arr 24 ((b0 :: r0).flatMap tyCells) ((b0 :: r0).length - 1) 0) := hrow (by simp)
    have e0 : (tyCells b0).length = 3 := by cases b0; rfl
    have hf0 : (List.flatMap tyCells r0).length = r0.length * 3 := tyCells_len r0
    simp only [List.length_cons] at hal
    (simp only [rowT, h5, (vmA), Nat.reduceEqDiff, reduceIte, Nat.reduceAdd, Int.reduceToNat, Int.reduceLE, Int.reduceLT, Int.reduceEq, Int.reduceNe, Int.reduceAdd, Int.reduceSub, Int.reduceNeg, Nat.reduceLT, Nat.reduceLeDiff, Nat.reduceBEq, undef, (stA), Nat.reduceMul]; try simp (disch := omega) only [(vmp)])
    refine ⟨⟨by omega, by omega, by omega, by unfold maxRoom; omega, by unfold maxRoom; omega⟩, ?_⟩
    refine ⟨(i + 1, junk.set rid (Ent.arr 24 (tyCells b0 ++ (List.flatMap tyCells r0 ++ [AV.str d2, AV.str n2, AV.sl (tysV us2)])) (r0.length + 1 - 1 + 1) 0), rid), ⟨by simp only; omega, fun _ => ?_⟩, by simp only; omega, rfl, ?_⟩
    ·simp only [s1]
     rw [get_set_self h5]
     simp [tyCells]
    ·simp only [s1, rowT, List.cons_append, List.length_append, List.length_cons, List.length_nil]
     try rfl
  ·have hie : i = us.length := by omega
   subst hie
   rw [List.take_of_length_le (Nat.le_refl _)] at hrow
   rcases us with _ | ⟨u0, ur⟩
   ·simp at hul
   ·have hr := hrow (by simp)
    simp only [List.length_cons] at h hr hul
    have h' : ¬ ((ur.length + 1 : Nat) : Int) < (xr.length + 1 : Nat) := h
    (simp only [h', List.take_of_length_le (Nat.le_refl _), List.length_cons, rowT, tyE, (vmA), Nat.reduceEqDiff, reduceIte, Nat.reduceAdd, Int.reduceToNat, Int.reduceLE, Int.reduceLT, Int.reduceEq, Int.reduceNe, Int.reduceAdd, Int.reduceSub, Int.reduceNeg, Nat.reduceLT, Nat.reduceLeDiff, Nat.reduceBEq, undef, (stA), Nat.reduceMul]; try simp (disch := omega) only [(vmp)])
    have hf0 := tyCells_len (u0 :: ur)
    refine ⟨_, .agg (.cons (.refl _) (.cons (.refl _) (.cons (.rsl (ty := 24) (ver := ur.length) (imm := 0) (ag := true) (cells := (u0 :: ur).flatMap tyCells) (es := tysV (u0 :: ur)) (es' := tysV (u0 :: ur)) (by omega) ?_ (by rw [List.drop_zero, tysV_cells]) (by omega) (by rw [tysV_len]; rfl) (by omega) (fun e he => by rw [tysV_map] at he; obtain ⟨x, _, rfl⟩ := List.mem_map.1 he; exact tyV_el x) FrzL.refl) .nil))), by simp only [AV.low, AV.low.lows, tysV_low, Bool.and_self], rfl⟩
    rw [Nat.add_sub_cancel_left]
    simpa using hr
theorem gtyp_ok (G : Gr) (L : Lk) (gid : Nat) (hE : Ended L) (hl : LinkOK G L) (hcl : ClosedG G) (hsm : ∀ p x, G p = some x → x.ks.length ≤ 2) : ∀ (m : Nat) (t : Tr), SizeOf.sizeOf t ≤ m → TypC G L gid t
 | 0, .mk d n us, h => by simp at h
 | m + 1, .mk d n us, h => gtyp_step G L gid hE hl hcl hsm d n us fun u hu => gtyp_ok G L gid hE hl hcl hsm m u (by
   have := List.sizeOf_lt_of_mem hu
   simp at h; omega)
end Go.D
namespace Go.D
open Go Go.Vm Go.Proofs Go.RowKit
structure GFin (G : Gr) (L : Lk) (gid v z : Nat) (σ : List Ent) (es : List MEnt) : Prop where
 repr : ReprG σ G L
 hg : σ[gid]? = some (graE v z)
 hv : σ[v]? = some (.map es es.length)
 hz : σ[z]? = some (.map [] 0)
 vz : v ≠ z
 keys : ∀ e ∈ es, ∃ n p, e.1 = .str n ∧ e.2.1 = .ref p 0 0
 nodup : (es.map fun (e : MEnt) => e.1).Nodup
 clk : ∀ (i : Nat) (e : MEnt), es[i]? = some e → e.2.2 = i
 closed : ClosedG G
 small : ∀ p x, G p = some x → x.ks.length ≤ 2
 vin : ∀ n p, vlook es n = some p → G p = some ⟨kiVar, n, []⟩
 vout : ∀ p x, G p = some x → x.d = kiVar → x.ks = [] ∧ vlook es x.n = some p
 pls : ∃ Pl : List Nat, ∀ p x, G p = some x → p ∈ Pl
 ended : Ended L
 link : LinkOK G L
 few : es.length ≤ 26
def nmI (es : List MEnt) (i : Nat) : List UInt8 := match es[i]? with
 | some (.str n, _, _) => n
 | _ => []
theorem mget_key {k x : AV} {c : Nat} : ∀ {es : List MEnt}, (∀ e ∈ es, ∃ n p, e.1 = .str n ∧ e.2.1 = .ref p 0 0) → (es.map fun (e : MEnt) => e.1).Nodup → (k, x, c) ∈ es → mget k es = some x
 | e :: r, hk, hn, he => by
  obtain ⟨h1, h2⟩ := List.nodup_cons.1 hn
  unfold mget
  rcases List.mem_cons.1 he with rfl | he
  ·obtain ⟨n, p, h3, _⟩ := hk (k, x, c) (by simp)
   simp only at h3
   subst h3
   rw [if_pos (by simp [keq])]
  ·rw [if_neg]
   ·exact mget_key (fun e he => hk e (by simp [he])) h2 he
   ·intro hh
    obtain ⟨n, p, h3, _⟩ := hk e (by simp)
    obtain ⟨m, q, h4, _⟩ := hk (k, x, c) (by simp [he])
    simp only at h4
    rw [h3, h4] at hh
    simp [keq] at hh
    refine h1 (List.mem_map.2 ⟨(k, x, c), he, ?_⟩)
    simp only; rw [h3, h4, hh]
theorem GFin.at {G : Gr} {L : Lk} {gid v z : Nat} {σ : List Ent} {es : List MEnt} (h : GFin G L gid v z σ es) {e : MEnt} (he : e ∈ es) : ∃ n p i, e = (.str n, .ref p 0 0, i) ∧ es[i]? = some e ∧ mget (.str n) es = some (.ref p 0 0) ∧ vlook es n = some p ∧ nmI es i = n ∧ i < es.length ∧ G p = some ⟨kiVar, n, []⟩ := by
 obtain ⟨n, p, h1, h2⟩ := h.keys e he
 obtain ⟨i, hi⟩ := List.getElem?_of_mem he
 have h3 := h.clk i e hi
 obtain ⟨e1, e2, e3⟩ := e
 simp only at h1 h2 h3
 subst h1; subst h2; subst h3
 have h4 := mget_key h.keys h.nodup he
 have h5 : vlook es n = some p := by unfold vlook; rw [h4]; rfl
 exact ⟨n, p, e3, rfl, hi, h4, h5, by unfold nmI; rw [hi], (List.getElem?_eq_some_iff.1 hi).1, h.vin n p h5⟩
theorem GFin.find {G : Gr} {L : Lk} {gid v z : Nat} {σ : List Ent} {es : List MEnt} (h : GFin G L gid v z σ es) {n : List UInt8} {p i : Nat} (he : es[i]? = some (.str n, .ref p 0 0, i)) : List.find? (fun e : MEnt => e.2.2 == i) es = some (.str n, .ref p 0 0, i) := by
 have : ∀ (k : Nat) (l : List MEnt), (∀ (j : Nat) (e : MEnt), l[j]? = some e → e.2.2 = k + j) → ∀ (j : Nat) (e : MEnt), l[j]? = some e → List.find? (fun e : MEnt => e.2.2 == k + j) l = some e := by
  intro k l
  induction l generalizing k with
  | nil => intro _ j e hj; simp at hj
  | cons a r ih =>
   intro hc j e hj
   cases j with
   | zero =>
    have h0 := hc 0 a rfl
    simp at hj
    subst hj
    rw [List.find?_cons, h0]; simp
   | succ j =>
    have h0 := hc 0 a rfl
    rw [List.find?_cons]
    have h1 : (a.2.2 == k + (j + 1)) = false := by rw [h0, beq_eq_false_iff_ne]; omega
    rw [h1]
    have := ih (k + 1) (fun j e hj => by have := hc (j + 1) e (by simpa using hj); omega) j e (by simpa using hj)
    rw [show k + 1 + j = k + (j + 1) from by omega] at this
    exact this
 have h2 := this 0 es (fun j e hj => by have := h.clk j e hj; omega) i _ he
 rw [Nat.zero_add] at h2
 exact h2
theorem nm_inj {G : Gr} {L : Lk} {gid v z : Nat} {σ : List Ent} {es : List MEnt} (h : GFin G L gid v z σ es) {i j : Nat} (hi : i < es.length) (hj : j < es.length) (e : nmI es i = nmI es j) : i = j := by
 obtain ⟨n, p, i', e1, e2, _, _, e3, _, _⟩ := h.at (List.getElem_mem hi)
 obtain ⟨m, q, j', f1, f2, _, _, f3, _, _⟩ := h.at (List.getElem_mem hj)
 have a1 := h.clk i _ (List.getElem?_eq_getElem hi)
 have a2 := h.clk j _ (List.getElem?_eq_getElem hj)
 rw [e1] at a1; rw [f1] at a2
 simp only at a1 a2
 subst a1; subst a2
 have hn : n = m := by rw [← e3, ← f3, e]
 have hp := List.pairwise_iff_getElem.1 h.nodup
 have g1 : ∀ hk, (es.map fun (e : MEnt) => e.1)[i']'hk = .str n := fun hk => by rw [List.getElem_map, e1]
 have g2 : ∀ hk, (es.map fun (e : MEnt) => e.1)[j']'hk = .str m := fun hk => by rw [List.getElem_map, f1]
 rcases Nat.lt_trichotomy i' j' with hlt | hlt | hlt
 ·exact absurd (by rw [g1, g2, hn]) (hp i' j' (by simpa using hi) (by simpa using hj) hlt)
 ·exact hlt
 ·exact absurd (by rw [g1, g2, hn]) (hp j' i' (by simpa using hj) (by simpa using hi) hlt)
theorem vlook_at {es : List MEnt} {n : List UInt8} {p : Nat} (h : vlook es n = some p) (hk : ∀ e ∈ es, ∃ n p, e.1 = .str n ∧ e.2.1 = .ref p 0 0) : ∃ e ∈ es, e.1 = .str n ∧ e.2.1 = .ref p 0 0 := by
 have h1 := vlook_some h
 clear h
 induction es with
 | nil => cases h1
 | cons a r ih =>
  unfold mget at h1
  split at h1
  ·rename_i hh
   obtain ⟨m, q, h3, h4⟩ := hk a (by simp)
   rw [h3] at hh
   simp [keq] at hh
   exact ⟨a, by simp, by rw [h3, hh], by simpa using h1⟩
  ·obtain ⟨e, h2, h3⟩ := ih (fun e he => hk e (by simp [he])) h1
   exact ⟨e, by simp [h2], h3⟩
noncomputable instance : DecidableEq Tr := fun a b => Classical.propDecidable _
def VT (G : Gr) (L : Lk) (es : List MEnt) (f : List UInt8 → Tr) : Prop := ∀ n p, vlook es n = some p → TypR G L p (f n)
theorem vt_ex {G : Gr} {L : Lk} {es : List MEnt} (h : ∀ n p, vlook es n = some p → ∃ t, TypR G L p t) : ∃ f, VT G L es f := by
 have : ∀ n, ∃ t, ∀ p, vlook es n = some p → TypR G L p t := fun n => by
  cases hv : vlook es n with
  | none => exact ⟨vT n, fun p hp => (by cases hp)⟩
  | some p =>
   obtain ⟨t, ht⟩ := h n p hv
   exact ⟨t, fun q hq => by cases hq; exact ht⟩
 exact ⟨fun n => Classical.choose (this n), fun n => Classical.choose_spec (this n)⟩
noncomputable def resC (f : List UInt8 → Tr) (l : List (List UInt8)) : List Cl := (l.filter fun n => decide (¬ f n = vT n) && fitsB (satT (f n))).map fun n => (n, f n)
noncomputable def resN (f : List UInt8 → Tr) (l : List (List UInt8)) : Bool := l.any fun n => decide (¬ f n = vT n) && !fitsB (satT (f n))
theorem resC_app (f : List UInt8 → Tr) (l : List (List UInt8)) (n : List UInt8) : resC f (l ++ [n]) = resC f l ++ if (decide (¬ f n = vT n) && fitsB (satT (f n))) = true then [(n, f n)] else [] := by
 unfold resC
 rw [List.filter_append, List.map_append]
 congr 1
 simp only [List.filter_cons, List.filter_nil]
 split <;> rfl
theorem resN_app (f : List UInt8 → Tr) (l : List (List UInt8)) (n : List UInt8) : resN f (l ++ [n]) = (resN f l || (decide (¬ f n = vT n) && !fitsB (satT (f n)))) := by
 unfold resN
 rw [List.any_append]; simp
theorem resC_len (f : List UInt8 → Tr) (l : List (List UInt8)) : (resC f l).length ≤ l.length := by
 unfold resC; rw [List.length_map]; exact List.length_filter_le _ _
theorem round_own {G : Gr} {L : Lk} {gid v z : Nat} {σ : List Ent} {es : List MEnt} (h : GFin G L gid v z σ es) (A : List Ent) (k : Nat) (hk : ¬ k = 0) (Ed : List MEnt) (c : Nat) (h0 : A[0]? = some (.map Ed c)) (h1 : A[k]? = some (.map [] 0)) (hm : MarkOK G Ed) (hgr : Grounded G L Ed) {p : Nat} (hp : ∃ x, G p = some x) :
  ACalls E 92 [.ref p 0 0, .mp (σ.length + k), .mp σ.length] (σ ++ A) fun r τ => ∃ b Ed' c' A', r = boolV b ∧ τ = σ ++ A' ∧ A'[0]? = some (.map Ed' c') ∧ (∀ j, j < A.length → ¬ j = 0 → ¬ j = k → A'[j]? = A[j]?) ∧ A.length ≤ A'.length ∧ MarkOK G Ed' ∧
   (b = false → Grounded G L Ed' ∧ ∃ t, TypR G L p t) ∧ (b = true → ∀ t, ¬ TypR G L p t) := by
 obtain ⟨Pl, hPl⟩ := h.pls
 have hd : (σ ++ A)[σ.length]? = some (.map Ed c) := by rw [List.getElem?_append_right (Nat.le_refl _), Nat.sub_self]; exact h0
 have ho : (σ ++ A)[σ.length + k]? = some (.map [] 0) := by rw [List.getElem?_append_right (by omega), Nat.add_sub_cancel_left]; exact h1
 have hin : ∀ q, isIn [] q = true → False := fun q hq => by simp [isIn, mget] at hq
 have hI : RInv G L (σ.length + k) σ.length (σ ++ A) [] Ed (σ ++ A) Ed := ⟨Nat.le_refl _, fun q y hy => nodeAt_push (h.repr q y hy) A, ⟨0, ho⟩, ⟨c, hd⟩, fun e he => (by cases he), hm, fun _ h => h, fun _ _ _ _ => rfl⟩
 refine (round_ok G L Pl (σ.length + k) σ.length (by omega) h.ended h.link h.closed hPl h.small (cntM Pl [] + 1) (σ ++ A) p [] Ed (Nat.lt_succ_self _) hI hgr hp fun q hq => (hin q hq).elim).mono ?_
 rintro r τ ⟨b, Ed', rfl, hR, hf, ht⟩
 have hl := hR.len
 rw [List.length_append] at hl
 have hτ : τ.take σ.length = σ := by
  refine List.ext_getElem? fun j => ?_
  rw [List.getElem?_take]
  split
  ·rename_i hj
   rw [hR.old j (by rw [List.length_append]; omega) (by omega) (by omega), List.getElem?_append_left hj]
  ·rw [List.getElem?_eq_none (by omega)]
 have hτ2 : τ = σ ++ τ.drop σ.length := by
  conv => lhs; rw [← List.take_append_drop σ.length τ, hτ]
 have hat : ∀ j, (τ.drop σ.length)[j]? = τ[σ.length + j]? := fun j => by rw [List.getElem?_drop]
 obtain ⟨c', hc'⟩ := hR.hdone
 refine ⟨b, Ed', c', τ.drop σ.length, rfl, hτ2, by rw [hat]; exact hc', fun j hj hj0 hjk => ?_, by rw [List.length_drop]; omega, hR.mdone, fun hb => ?_, ht⟩
 ·rw [hat, hR.old _ (by rw [List.length_append]; omega) (by omega) (by omega), List.getElem?_append_right (by omega), Nat.add_sub_cancel_left]
 ·obtain ⟨a1, a2⟩ := hf hb
  obtain ⟨r, hr⟩ := h.ended p
  obtain ⟨t, ht'⟩ := a1 r (a2 r hr)
  exact ⟨a1, t, typR_end hr ht'⟩
end Go.D
