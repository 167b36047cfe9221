/- The unifier that a graph is: the walk. -/
import Derived.Test.YtoobkfjkohadnaaGreatDoorFnF
import Derived.Test.YtoobkfjkohadnaaGreatDoorFnD
import Derived.Test.YtoobkfjkohadnaaGreatDoorFnE
import Derived.Test.YtoobkfjkohadnaaGreatDoorFnA
set_option linter.unusedVariables false
set_option linter.unusedSimpArgs false
set_option linter.unnecessarySimpa false
set_option maxRecDepth 100000
namespace Go.D
open Go Go.Vm Go.Proofs Go.RowKit
def ResP (G : Gr) (L : Lk) (z : Nat) (σ : List Ent) (es : List MEnt) (r : AV) (τ : List Ent) : Prop := (∃ es' c', τ = σ.set z (.map es' c')) ∧
 ((r = .tup [.sl [], i64 5] ∧ ∃ n p, vlook es n = some p ∧ ∀ t, ¬ TypR G L p t) ∨ ∃ f ns, VT G L es f ∧ ns.Pairwise (· < ·) ∧ (∀ n, n ∈ ns ↔ ∃ p, vlook es n = some p) ∧
  ((resN f ns = true ∧ r = .tup [.sl [], i64 4]) ∨ (resN f ns = false ∧ r = .tup [.sl (clsV (resC f ns)), i64 0])))
def rowSE (l : List (List UInt8)) : List Ent := match l with
 | [] => []
 | a :: r => [.arr 9 (strsV (a :: r)) r.length 0]
set_option maxHeartbeats 32000000 in
theorem gresult_ok (G : Gr) (L : Lk) (gid v z : Nat) (σ : List Ent) (es : List MEnt) (H : GFin G L gid v z σ es) :
  ACalls E 57 [.ref gid 0 0] σ fun r τ => ResP G L z σ es r τ := by
 have gg := sget_of H.hg
 have gv := sget_of H.hv
 have gz := sget_of H.hz
 have hks := keys_str H.keys
 simp only [graE] at gg
 refine xacalls T0 .freeze [] Tryz.func57 rfl (by kernel_rfl) (by kernel_rfl) (by simp [Tryz.ntmps57]) ?_
 (simp only [gg, gv, (vmA), Nat.reduceEqDiff, reduceIte, Nat.reduceAdd, Int.reduceToNat, Int.reduceLE, Int.reduceLT, Int.reduceEq, Int.reduceNe, Int.reduceAdd, Int.reduceSub, Int.reduceNeg, Nat.reduceLT, Nat.reduceLeDiff, Nat.reduceBEq, undef, (stA), Nat.reduceMul]; try simp (disch := omega) only [(vmp)])
 refine xloop (α := List Nat × List MEnt × Nat × List Ent) T0 (fun x => [(0, .ref gid 0 0), (4, rowN (σ.length + 2) (x.1.map (nmI es))), (5, .mp σ.length), (18, .ref (σ.length + 1) 0 0)]) (fun _ => σ)
  (fun x => .map x.2.1 x.2.2.1 :: .iter (some v) es.length x.1 es.length :: (rowSE (x.1.map (nmI es)) ++ x.2.2.2))
  (fun x => x.1.Nodup ∧ (∀ i ∈ x.1, i < es.length) ∧ MarkOK G x.2.1 ∧ Grounded G L x.2.1 ∧ (x.1 = [] → x.2.2.2 = []) ∧ ∀ i ∈ x.1, ∀ n p, es[i]? = some (.str n, .ref p 0 0, i) → ∃ t, TypR G L p t) (fun x => es.length - x.1.length) (by kernel_rfl)
  ⟨([], [], 0, []), ⟨List.nodup_nil, by simp, fun e he => (by cases he), fun q hq => by simp [isIn, mget] at hq, fun _ => rfl, by simp⟩, by (simp only [List.map_nil, rowN, (vmA), Nat.reduceEqDiff, reduceIte, Nat.reduceAdd, Int.reduceToNat, Int.reduceLE, Int.reduceLT, Int.reduceEq, Int.reduceNe, Int.reduceAdd, Int.reduceSub, Int.reduceNeg, Nat.reduceLT, Nat.reduceLeDiff, Nat.reduceBEq, undef, (stA), Nat.reduceMul]; try simp (disch := omega) only [(vmp)]), rfl, by simp only [List.map_nil, rowSE, List.nil_append]⟩ ?_
 rintro ⟨seen, Ed, c, J⟩ ⟨hnd, hlt, hm, hgr, hJ, htr⟩
 simp only at hnd hlt hm hgr hJ htr
 have hb2 : ∀ e ∈ es, e.2.2 < es.length := fun e he => by
  obtain ⟨n, p, i, h1, _, _, _, _, h2, _⟩ := H.at he
  rw [h1]; exact h2
 have hsl : seen.length ≤ es.length := nodup_few _ _ hnd hlt
 have hfew := H.few
 have hseen : ∀ {e : MEnt}, e ∈ es → e.2.2 ∉ seen → ∃ n p, e = (.str n, .ref p 0 0, e.2.2) ∧ es[e.2.2]? = some (.str n, .ref p 0 0, e.2.2) ∧ nmI es e.2.2 = n ∧ e.2.2 < es.length ∧ G p = some ⟨kiVar, n, []⟩ ∧ vlook es n = some p := fun {e} he _ => by
  obtain ⟨n, p, i, rfl, h2, _, h4, h3, h5, h6⟩ := H.at he
  exact ⟨n, p, rfl, h2, h3, h5, h6, h4⟩
 rcases seen with _ | ⟨k0, ks⟩
 ·obtain rfl := hJ rfl
  (simp only [List.map_nil, rowSE, rowN, List.nil_append, (vmA), Nat.reduceEqDiff, reduceIte, Nat.reduceAdd, Int.reduceToNat, Int.reduceLE, Int.reduceLT, Int.reduceEq, Int.reduceNe, Int.reduceAdd, Int.reduceSub, Int.reduceNeg, Nat.reduceLT, Nat.reduceLeDiff, Nat.reduceBEq, undef, (stA), Nat.reduceMul]; try simp (disch := omega) only [(vmp)])
  refine xNxt_go (by rw [sget_l]; rfl) (gv _) hb2 (Nat.le_refl _) (fun hend => ?_) (fun e he hs => ?_)
  ·have hes : es = [] := by
    rcases es with _ | ⟨a, r⟩
    ·rfl
    ·have := hend a (by simp); simp at this
   subst hes
   (simp only [(vmA), Nat.reduceEqDiff, reduceIte, Nat.reduceAdd, Int.reduceToNat, Int.reduceLE, Int.reduceLT, Int.reduceEq, Int.reduceNe, Int.reduceAdd, Int.reduceSub, Int.reduceNeg, Nat.reduceLT, Nat.reduceLeDiff, Nat.reduceBEq, undef, (stA), Nat.reduceMul]; try simp (disch := omega) only [(vmp)])
   refine xWait.go (sort0_ok _) ?_
   (simp only [(vmA), Nat.reduceEqDiff, reduceIte, Nat.reduceAdd, Int.reduceToNat, Int.reduceLE, Int.reduceLT, Int.reduceEq, Int.reduceNe, Int.reduceAdd, Int.reduceSub, Int.reduceNeg, Nat.reduceLT, Nat.reduceLeDiff, Nat.reduceBEq, undef, (stA), Nat.reduceMul]; try simp (disch := omega) only [(vmp)])
   refine xloop (α := Nat) T0 (fun j => [(0, .ref gid 0 0), (8, nilS), (9, .v (.bool false)), (34, nilS), (35, i64 0), (36, i64 0)]) (fun _ => σ) (fun _ => [.map Ed c, .iter (some v) 0 [] 0]) (fun i => i = 0) (fun i => i) (by kernel_rfl)
    ⟨0, rfl, by (simp only [(vmA), Nat.reduceEqDiff, reduceIte, Nat.reduceAdd, Int.reduceToNat, Int.reduceLE, Int.reduceLT, Int.reduceEq, Int.reduceNe, Int.reduceAdd, Int.reduceSub, Int.reduceNeg, Nat.reduceLT, Nat.reduceLeDiff, Nat.reduceBEq, undef, (stA), Nat.reduceMul]; try simp (disch := omega) only [(vmp)]), rfl, rfl⟩ ?_
   rintro i hi
   (simp only [(vmA), Nat.reduceEqDiff, reduceIte, Nat.reduceAdd, Int.reduceToNat, Int.reduceLE, Int.reduceLT, Int.reduceEq, Int.reduceNe, Int.reduceAdd, Int.reduceSub, Int.reduceNeg, Nat.reduceLT, Nat.reduceLeDiff, Nat.reduceBEq, undef, (stA), Nat.reduceMul]; try simp (disch := omega) only [(vmp)])
   obtain ⟨f, hf⟩ := vt_ex (G := G) (L := L) (es := []) fun n p hv => by simp [vlook, mget] at hv
   exact ⟨_, .tup (.cons .none (.cons (.refl _) .nil)), by simp only [AV.low, AV.low.lows, Bool.and_self], ⟨[], 0, (list_set_self H.hz).symm⟩, .inr ⟨f, [], hf, List.Pairwise.nil, by simp [vlook, mget], .inr ⟨rfl, rfl⟩⟩⟩
  ·obtain ⟨n, p, he1, hg1, hn1, hlt1, hG1, hV1⟩ := hseen he hs
   generalize hi : e.2.2 = i at *
   subst he1
   have hfd := H.find hg1
   (simp only [gv, hfd, List.nil_append, List.getLast?_singleton, (vmA), Nat.reduceEqDiff, reduceIte, Nat.reduceAdd, Int.reduceToNat, Int.reduceLE, Int.reduceLT, Int.reduceEq, Int.reduceNe, Int.reduceAdd, Int.reduceSub, Int.reduceNeg, Nat.reduceLT, Nat.reduceLeDiff, Nat.reduceBEq, undef, (stA), Nat.reduceMul]; try simp (disch := omega) only [(vmp)])
   refine ⟨by unfold maxRoom; omega, ?_⟩
   refine xWait.of (round_own H [.map Ed c, .iter (some v) es.length [i] es.length, .arr 9 [.str n] 0 0, .map [] 0] 3 (by omega) Ed c rfl rfl hm hgr ⟨_, hG1⟩) ?_
   rintro r τ ⟨b, Ed', c', A, rfl, rfl, a0, aj, al, am, af, at'⟩
   have a1 := aj 1 (by simp) (by omega) (by omega)
   have a2 := aj 2 (by simp) (by omega) (by omega)
   rcases A with _ | ⟨x0, _ | ⟨x1, _ | ⟨x2, J'⟩⟩⟩ <;> simp at al
   simp only [List.getElem?_cons_zero, List.getElem?_cons_succ, Option.some.injEq] at a0 a1 a2
   subst a0; subst a1; subst a2
   rw [List.take_left, List.drop_left]
   cases b
   ·obtain ⟨b1, b2⟩ := af rfl
    (simp only [(vmA), Nat.reduceEqDiff, reduceIte, Nat.reduceAdd, Int.reduceToNat, Int.reduceLE, Int.reduceLT, Int.reduceEq, Int.reduceNe, Int.reduceAdd, Int.reduceSub, Int.reduceNeg, Nat.reduceLT, Nat.reduceLeDiff, Nat.reduceBEq, undef, (stA), Nat.reduceMul]; try simp (disch := omega) only [(vmp)])
    refine ⟨([i], Ed', c', J'), ⟨by simp, by simpa using hlt1, am, b1, by simp, fun i' hi' n' p' hh => ?_⟩, by simp; omega, ?_, ?_⟩
    ·obtain rfl := List.mem_singleton.1 hi'
     rw [hg1] at hh; cases hh
     exact b2
    ·simp only [List.map_cons, List.map_nil, hn1, rowN]; rfl
    ·simp only [List.map_cons, List.map_nil, hn1, rowSE, strsV]; rfl
   ·(simp only [(vmA), Nat.reduceEqDiff, reduceIte, Nat.reduceAdd, Int.reduceToNat, Int.reduceLE, Int.reduceLT, Int.reduceEq, Int.reduceNe, Int.reduceAdd, Int.reduceSub, Int.reduceNeg, Nat.reduceLT, Nat.reduceLeDiff, Nat.reduceBEq, undef, (stA), Nat.reduceMul]; try simp (disch := omega) only [(vmp)])
    exact ⟨_, .tup (.cons .none (.cons (.refl _) .nil)), by simp only [AV.low, AV.low.lows, Bool.and_self], ⟨[], 0, (list_set_self H.hz).symm⟩, .inl ⟨rfl, n, p, hV1, at' rfl⟩⟩
 ·have hml : (List.map (nmI es) ks).length = ks.length := List.length_map ..
  (simp only [List.map_cons, rowSE, rowN, hml, List.cons_append, List.nil_append, (vmA), Nat.reduceEqDiff, reduceIte, Nat.reduceAdd, Int.reduceToNat, Int.reduceLE, Int.reduceLT, Int.reduceEq, Int.reduceNe, Int.reduceAdd, Int.reduceSub, Int.reduceNeg, Nat.reduceLT, Nat.reduceLeDiff, Nat.reduceBEq, undef, (stA), Nat.reduceMul]; try simp (disch := omega) only [(vmp)])
  simp only [List.length_cons] at hsl
  refine xNxt_go (by rw [sget_l]; rfl) (gv _) hb2 (Nat.le_refl _) (fun hend => ?_) (fun e he hs => ?_)
  ·have hns : (nmI es k0 :: List.map (nmI es) ks) = (k0 :: ks).map (nmI es) := rfl
   have hso := sortS_ok (nmI es k0 :: List.map (nmI es) ks) (by simp only [List.length_cons, hml]; omega) (σ ++ .map Ed c :: .iter (some v) es.length (k0 :: ks) es.length :: .arr 9 (strsV (nmI es k0 :: List.map (nmI es) ks)) ks.length 0 :: J) (σ.length + 2) 9 ks.length (by rw [List.getElem?_append_right (by omega), Nat.add_sub_cancel_left]; rfl)
   rw [List.set_append_right _ _ (by omega), Nat.add_sub_cancel_left] at hso
   simp only [List.length_cons, hml, List.set_cons_succ, List.set_cons_zero] at hso
   (simp only [(vmA), Nat.reduceEqDiff, reduceIte, Nat.reduceAdd, Int.reduceToNat, Int.reduceLE, Int.reduceLT, Int.reduceEq, Int.reduceNe, Int.reduceAdd, Int.reduceSub, Int.reduceNeg, Nat.reduceLT, Nat.reduceLeDiff, Nat.reduceBEq, undef, (stA), Nat.reduceMul]; try simp (disch := omega) only [(vmp)])
   refine xWait.go hso ?_
   rw [List.take_left, List.drop_left]
   have hnn : ((k0 :: ks).map (nmI es)).Nodup := List.pairwise_map.2 (List.Pairwise.imp_of_mem (fun {a b} ha hb hab e => hab (nm_inj H (hlt a ha) (hlt b hb) e)) hnd)
   have ha := sortS_asc hnn
   have hmem : ∀ n, n ∈ sortS ((k0 :: ks).map (nmI es)) ↔ ∃ p, vlook es n = some p := fun n => by
    rw [sortS_mem, List.mem_map]
    constructor
    ·rintro ⟨i, hi, rfl⟩
     obtain ⟨n, p, i', q1, q2, _, q4, q5, q6, _⟩ := H.at (List.getElem_mem (hlt i hi))
     have := H.clk i _ (List.getElem?_eq_getElem (hlt i hi))
     rw [q1] at this
     simp only at this
     subst this
     exact ⟨p, by rw [q5]; exact q4⟩
    ·rintro ⟨p, hp⟩
     obtain ⟨e, he, q1, q2⟩ := vlook_at hp H.keys
     obtain ⟨m, q, i, q3, _, _, _, q4, _⟩ := H.at he
     have := hend e he
     rw [q3] at this q1
     simp only [AV.str.injEq] at this q1
     exact ⟨i, this, by rw [q4, q1]⟩
   have hnl : (sortS ((k0 :: ks).map (nmI es))).length = ks.length + 1 := by unfold sortS; rw [List.length_mergeSort]; simp
   rw [hns]
   obtain ⟨f, hf⟩ := vt_ex (G := G) (L := L) (es := es) fun n p hv => by
    obtain ⟨e, he, q1, q2⟩ := vlook_at hv H.keys
    obtain ⟨m, q, i, rfl, q4, _⟩ := H.at he
    have := hend _ he
    simp only [AV.str.injEq, AV.ref.injEq, and_true] at q1 q2 this
    subst q1; subst q2
    exact htr i this _ _ q4
   generalize sortS ((k0 :: ks).map (nmI es)) = ns at *
   generalize Ent.iter (some v) es.length (k0 :: ks) es.length = it
   (simp only [(vmA), Nat.reduceEqDiff, reduceIte, Nat.reduceAdd, Int.reduceToNat, Int.reduceLE, Int.reduceLT, Int.reduceEq, Int.reduceNe, Int.reduceAdd, Int.reduceSub, Int.reduceNeg, Nat.reduceLT, Nat.reduceLeDiff, Nat.reduceBEq, undef, (stA), Nat.reduceMul]; try simp (disch := omega) only [(vmp)])
   refine xloop (α := Nat × List MEnt × Nat × List Ent × Nat) T0 (fun x => [(0, .ref gid 0 0), (8, rowC (σ.length + (x.2.2.2.2 + 3)) (resC f (ns.take x.1))), (9, .v (.bool (resN f (ns.take x.1)))), (34, .rsl (σ.length + 2) ks.length 0 (ks.length + 1) 1), (35, i64 (ks.length + 1 : Nat)), (36, i64 x.1)]) (fun x => σ.set z (.map x.2.1 x.2.2.1))
    (fun x => .map Ed c :: it :: .arr 9 (strsV ns) ks.length 0 :: x.2.2.2.1)
    (fun x => x.1 ≤ ks.length + 1 ∧ SzOK G L x.2.1 ∧ (resC f (ns.take x.1) ≠ [] → x.2.2.2.1[x.2.2.2.2]? = some (.arr 33 ((resC f (ns.take x.1)).flatMap clC) ((resC f (ns.take x.1)).length - 1) 0))) (fun x => ks.length + 1 - x.1) (by kernel_rfl)
    ⟨(0, [], 0, J, 0), ⟨by simp, fun e he => (by cases he), by simp [resC]⟩, by (simp only [List.take_zero, resC, resN, List.filter_nil, List.map_nil, List.any_nil, rowC, (vmA), Nat.reduceEqDiff, reduceIte, Nat.reduceAdd, Int.reduceToNat, Int.reduceLE, Int.reduceLT, Int.reduceEq, Int.reduceNe, Int.reduceAdd, Int.reduceSub, Int.reduceNeg, Nat.reduceLT, Nat.reduceLeDiff, Nat.reduceBEq, undef, (stA), Nat.reduceMul, Int.natCast_zero]; try simp (disch := omega) only [(vmp)]), by simp only [list_set_self H.hz], rfl⟩ ?_
   rintro ⟨j, es2, c2, J2, rid⟩ ⟨hj, hS2, hrow⟩
   simp only at hj hS2 hrow
   have hzl := lt_of_get H.hz
   have hzg : z ≠ gid := fun e => by have := H.hg; rw [← e, H.hz] at this; cases this
   have hG1l : ∀ e, (σ.set z e).length = σ.length := fun e => by simp
   have hI1 : ∀ e, ReprG (σ.set z e) G L := fun e => repr_map H.repr H.hz e
   have hg1 : ∀ e, (σ.set z e)[gid]? = some (graE v z) := fun e => by rw [get_set_ne hzg]; exact H.hg
   have hv1 : ∀ e, (σ.set z e)[v]? = some (.map es es.length) := fun e => by rw [get_set_ne (Ne.symm H.vz)]; exact H.hv
   have hz1 : ∀ e, (σ.set z e)[z]? = some e := fun e => get_set_self H.hz
   have hlow : ∀ es' c', SzOK G L es' → StoreLow σ.length σ (σ.set z (.map es' c')) := fun es' c' hh => storeLow_set (sz_low H.repr hh _)
   have hacl := resC_len f (ns.take j)
   have htl : (ns.take j).length ≤ ks.length + 1 := by rw [List.length_take]; omega
   by_cases h : (j : Int) < (ks.length + 1 : Nat)
   ·have hj1 : j < ns.length := by omega
    obtain ⟨n, hn⟩ : ∃ n, ns[j]? = some n := ⟨_, List.getElem?_eq_getElem hj1⟩
    obtain ⟨p, hp⟩ := (hmem n).1 (List.mem_of_getElem? hn)
    have ht := hf n p hp
    have hGp := H.vin n p hp
    have hmg := vlook_some hp
    obtain ⟨s1, _⟩ := take_splitC ns j n hn
    have hsn : (strsV ns)[j]? = some (.str n) := by simp [strsV, hn]
    obtain ⟨r, er⟩ := H.ended p
    obtain ⟨k, hk⟩ := ends_of (hI1 (.map es2 c2)) H.link er ⟨_, hGp⟩
    obtain ⟨x, hx⟩ := end_in H.link er ⟨_, hGp⟩
    obtain ⟨w, e1, e2⟩ := hI1 (.map es2 c2) r x hx
    rw [er.end] at e1
    have htr' : TypR G L r (f n) := typR_eq ⟨r, er, .here er.end⟩ ht
    have hsh : ∀ t, TypR G L p t → ∃ ts, t = .mk x.d x.n ts ∧ TypRs G L x.ks ts := fun t ht => by
     cases ht with
     | mk q1 q2 q3 =>
      have := er.fn q1
      subst this
      rw [hx] at q2
      cases q2
      exact ⟨_, rfl, q3⟩
    obtain ⟨ts, hfn, hts⟩ := hsh _ ht
    have hown : f n = vT n ↔ x.d = kiVar ∧ x.n = n := by
     rw [hfn]
     constructor
     ·intro e; unfold vT at e; obtain ⟨q1, q2, _⟩ := Tr.mk.inj e; exact ⟨q1, q2⟩
     ·rintro ⟨q1, q2⟩
      have q3 := (H.vout r x hx q1).1
      rw [q3] at hts
      cases hts
      rw [q1, q2]; rfl
    have hset : ∀ e A, (σ.set z (.map es2 c2) ++ A).set z e = σ.set z e ++ A := fun e A => by rw [List.set_append_left _ _ (by simpa using hzl), List.set_set]
    have hsz := fun A => gsize_ok G L gid v z H.ended H.link H.closed H.small _ (f n) (Nat.le_refl _) (σ.set z (.map es2 c2) ++ A) r es2 c2 (fun q y hy => nodeAt_push (hI1 _ q y hy) A) (get_olds (hg1 _) A) (get_olds (hz1 _) A) hS2 htr' ⟨x, hx⟩
    simp only [hset] at hsz
    have hfit := fun σ' => Fits_ok (satT (f n)) σ'
    have hty := fun e A => gtyp_ok G L gid H.ended H.link H.closed H.small _ (f n) (Nat.le_refl _) (σ.set z e ++ A) r (fun q y hy => nodeAt_push (hI1 e q y hy) A) htr' ⟨x, hx⟩
    have r1 := resC_app f (ns.take j) n
    have r2 := resN_app f (ns.take j) n
    rw [← s1] at r1 r2
    have gr := sget_of e1
    have gG := sget_of (hg1 (.map es2 c2))
    have gV := sget_of (hv1 (.map es2 c2))
    simp only [nodeE, linkR] at gr
    simp only [graE] at gG
    have hl1 := hG1l (.map es2 c2)
    have hend1 := fun A => end_ok _ p r k (hk.push A)
    generalize hG1 : σ.set z (.map es2 c2) = G1 at *
    rw [← hl1]
    (simp only [h, hsn, gG, gV, hmg, Option.isSome_some, if_true, (vmA), Nat.reduceEqDiff, reduceIte, Nat.reduceAdd, Int.reduceToNat, Int.reduceLE, Int.reduceLT, Int.reduceEq, Int.reduceNe, Int.reduceAdd, Int.reduceSub, Int.reduceNeg, Nat.reduceLT, Nat.reduceLeDiff, Nat.reduceBEq, undef, (stA), Nat.reduceMul]; try simp (disch := omega) only [(vmp)])
    refine ⟨⟨rfl, strK_ok hks _ _ _⟩, ?_⟩
    refine xWait.go (hend1 _) ?_
    by_cases hvn : x.d = kiVar ∧ x.n = n
    ·have hself := hown.2 hvn
     have r1' : resC f (ns.take (j + 1)) = resC f (ns.take j) := by rw [r1, if_neg (by simp [hself]), List.append_nil]
     have r2' : resN f (ns.take (j + 1)) = resN f (ns.take j) := by rw [r2]; simp [hself]
     have t1 : (x.d = [118, 97, 114]) = True := eq_true hvn.1
     have t2 : (x.n = n) = True := eq_true hvn.2
     (simp only [gr, t1, t2, (vmA), Nat.reduceEqDiff, reduceIte, Nat.reduceAdd, Int.reduceToNat, Int.reduceLE, Int.reduceLT, Int.reduceEq, Int.reduceNe, Int.reduceAdd, Int.reduceSub, Int.reduceNeg, Nat.reduceLT, Nat.reduceLeDiff, Nat.reduceBEq, undef, (stA), Nat.reduceMul]; try simp (disch := omega) only [(vmp)])
     exact ⟨(j + 1, es2, c2, J2, rid), ⟨by simp only; omega, hS2, by simp only [r1']; exact hrow⟩, by simp only; omega, by simp only [r1', r2', hl1, and_self], hG1.symm, rfl⟩
    have hself : ¬ f n = vT n := fun e => hvn (hown.1 e)
    have hor : (x.d = kiVar ∧ ¬ x.n = n) ∨ ¬ x.d = kiVar := by
     by_cases hd : x.d = kiVar
     ·exact .inl ⟨hd, fun e => hvn ⟨hd, e⟩⟩
     ·exact .inr hd
    cases hfits : fitsB (satT (f n))
    ·have r1' : resC f (ns.take (j + 1)) = resC f (ns.take j) := by rw [r1, if_neg (by simp [hfits]), List.append_nil]
     have r2' : resN f (ns.take (j + 1)) = true := by rw [r2]; simp [hself, hfits]
     rw [hfits] at hfit
     rcases hor with ⟨hd, hnn'⟩ | hd
     rotate_left
     have hd' : ¬ x.d = [118, 97, 114] := hd
     (simp only [gr, hd', (vmA), Nat.reduceEqDiff, reduceIte, Nat.reduceAdd, Int.reduceToNat, Int.reduceLE, Int.reduceLT, Int.reduceEq, Int.reduceNe, Int.reduceAdd, Int.reduceSub, Int.reduceNeg, Nat.reduceLT, Nat.reduceLeDiff, Nat.reduceBEq, undef, (stA), Nat.reduceMul]; try simp (disch := omega) only [(vmp)])
     rotate_left
     have t1 : (x.d = [118, 97, 114]) = True := eq_true hd
     (simp only [gr, t1, hnn', (vmA), Nat.reduceEqDiff, reduceIte, Nat.reduceAdd, Int.reduceToNat, Int.reduceLE, Int.reduceLT, Int.reduceEq, Int.reduceNe, Int.reduceAdd, Int.reduceSub, Int.reduceNeg, Nat.reduceLT, Nat.reduceLeDiff, Nat.reduceBEq, undef, (stA), Nat.reduceMul]; try simp (disch := omega) only [(vmp)])
     all_goals
      refine xWait.of (hsz _) ?_
      rintro r1 τ1 ⟨rfl, es3, c3, hS3, rfl⟩
      have hl3 := hG1l (.map es3 c3)
      have hlw := hl3.trans hl1.symm
      generalize hG3 : σ.set z (.map es3 c3) = G3 at *
      rw [List.take_left' hlw, List.drop_left' hlw, ← hlw]
      (simp only [(vmA), Nat.reduceEqDiff, reduceIte, Nat.reduceAdd, Int.reduceToNat, Int.reduceLE, Int.reduceLT, Int.reduceEq, Int.reduceNe, Int.reduceAdd, Int.reduceSub, Int.reduceNeg, Nat.reduceLT, Nat.reduceLeDiff, Nat.reduceBEq, undef, (stA), Nat.reduceMul]; try simp (disch := omega) only [(vmp)])
      refine xWait.go (hfit _) ?_
      (simp only [(vmA), Nat.reduceEqDiff, reduceIte, Nat.reduceAdd, Int.reduceToNat, Int.reduceLE, Int.reduceLT, Int.reduceEq, Int.reduceNe, Int.reduceAdd, Int.reduceSub, Int.reduceNeg, Nat.reduceLT, Nat.reduceLeDiff, Nat.reduceBEq, undef, (stA), Nat.reduceMul]; try simp (disch := omega) only [(vmp)])
      exact ⟨(j + 1, es3, c3, J2, rid), ⟨by simp only; omega, hS3, by simp only [r1']; exact hrow⟩, by simp only; omega, (by simp only [r1', r2']; refine ⟨?_, ?_, ?_⟩ <;> first | trivial | rfl), hG3.symm, rfl⟩
    ·have r1' : resC f (ns.take (j + 1)) = resC f (ns.take j) ++ [(n, .mk x.d x.n ts)] := by rw [r1, if_pos (by simp [hself, hfits]), hfn]
     have r2' : resN f (ns.take (j + 1)) = resN f (ns.take j) := by rw [r2]; simp [hfits]
     rw [hfits] at hfit
     rcases hor with ⟨hd, hnn'⟩ | hd
     rotate_left
     have hd' : ¬ x.d = [118, 97, 114] := hd
     (simp only [gr, hd', (vmA), Nat.reduceEqDiff, reduceIte, Nat.reduceAdd, Int.reduceToNat, Int.reduceLE, Int.reduceLT, Int.reduceEq, Int.reduceNe, Int.reduceAdd, Int.reduceSub, Int.reduceNeg, Nat.reduceLT, Nat.reduceLeDiff, Nat.reduceBEq, undef, (stA), Nat.reduceMul]; try simp (disch := omega) only [(vmp)])
     rotate_left
     have t1 : (x.d = [118, 97, 114]) = True := eq_true hd
     (simp only [gr, t1, hnn', (vmA), Nat.reduceEqDiff, reduceIte, Nat.reduceAdd, Int.reduceToNat, Int.reduceLE, Int.reduceLT, Int.reduceEq, Int.reduceNe, Int.reduceAdd, Int.reduceSub, Int.reduceNeg, Nat.reduceLT, Nat.reduceLeDiff, Nat.reduceBEq, undef, (stA), Nat.reduceMul]; try simp (disch := omega) only [(vmp)])
     all_goals
      refine xWait.of (hsz _) ?_
      rintro r1 τ1 ⟨rfl, es3, c3, hS3, rfl⟩
      have hl3 := hG1l (.map es3 c3)
      have hlw := hl3.trans hl1.symm
      have hty3 := fun A => hty (.map es3 c3) A
      rw [hfn] at hty3
      simp only [tyV] at hty3
      generalize hG3 : σ.set z (.map es3 c3) = G3 at *
      rw [List.take_left' hlw, List.drop_left' hlw, ← hlw]
      (simp only [(vmA), Nat.reduceEqDiff, reduceIte, Nat.reduceAdd, Int.reduceToNat, Int.reduceLE, Int.reduceLT, Int.reduceEq, Int.reduceNe, Int.reduceAdd, Int.reduceSub, Int.reduceNeg, Nat.reduceLT, Nat.reduceLeDiff, Nat.reduceBEq, undef, (stA), Nat.reduceMul]; try simp (disch := omega) only [(vmp)])
      refine xWait.go (hfit _) ?_
      (simp only [(vmA), Nat.reduceEqDiff, reduceIte, Nat.reduceAdd, Int.reduceToNat, Int.reduceLE, Int.reduceLT, Int.reduceEq, Int.reduceNe, Int.reduceAdd, Int.reduceSub, Int.reduceNeg, Nat.reduceLT, Nat.reduceLeDiff, Nat.reduceBEq, undef, (stA), Nat.reduceMul]; try simp (disch := omega) only [(vmp)])
      refine xWait.go (hty3 _) ?_
      generalize resC f (ns.take j) = acc at *
      rcases acc with _ | ⟨b0, r0⟩
      ·(simp only [rowC, (vmA), Nat.reduceEqDiff, reduceIte, Nat.reduceAdd, Int.reduceToNat, Int.reduceLE, Int.reduceLT, Int.reduceEq, Int.reduceNe, Int.reduceAdd, Int.reduceSub, Int.reduceNeg, Nat.reduceLT, Nat.reduceLeDiff, Nat.reduceBEq, undef, (stA), Nat.reduceMul]; try simp (disch := omega) only [(vmp)])
       refine ⟨by unfold maxRoom; omega, (j + 1, es3, c3, J2 ++ [Ent.arr 33 [AV.str n, AV.str x.d, AV.str x.n, AV.sl (tysV ts)] 0 0], J2.length), ⟨by simp only; omega, hS3, fun _ => by simp only [r1']; simp [clC, tyCells]⟩, by simp only; omega, (by simp only [r1', r2']; refine ⟨?_, ?_, ?_⟩ <;> first | trivial | rfl), hG3.symm, rfl⟩
      ·have h5 := hrow (by simp)
       have e0 : (clC b0).length = 4 := clC_len b0
       have hf0 : (List.flatMap clC r0).length = r0.length * 4 := clCs_len r0
       simp only [List.length_cons] at hacl
       (simp only [rowC, h5, (vmA), Nat.reduceEqDiff, reduceIte, Nat.reduceAdd, Int.reduceToNat, Int.reduceLE, Int.reduceLT, Int.reduceEq, Int.reduceNe, Int.reduceAdd, Int.reduceSub, Int.reduceNeg, Nat.reduceLT, Nat.reduceLeDiff, Nat.reduceBEq, undef, (stA), Nat.reduceMul]; try simp (disch := omega) only [(vmp)])
       refine ⟨⟨by omega, by omega, by omega, by unfold maxRoom; omega, by unfold maxRoom; omega⟩, ?_⟩
       refine ⟨(j + 1, es3, c3, J2.set rid (Ent.arr 33 (clC b0 ++ (List.flatMap clC r0 ++ [AV.str n, AV.str x.d, AV.str x.n, AV.sl (tysV ts)])) (r0.length + 1 - 1 + 1) 0), rid), ⟨by simp only; omega, hS3, fun _ => ?_⟩, by simp only; omega, ?_, hG3.symm, rfl⟩
       ·simp only [r1']
        rw [get_set_self h5]
        simp [clC, tyCells]
       ·simp only [r1', r2', rowC, List.cons_append, List.length_append, List.length_cons, List.length_nil]
        refine ⟨?_, ?_, ?_⟩ <;> first | trivial | rfl
   ·have hje : j = ks.length + 1 := by omega
    have htk : ns.take j = ns := List.take_of_length_le (by omega)
    rw [htk] at hrow htl hacl
    rw [htk]
    have hlo := hlow es2 c2 hS2
    have hl1 := hG1l (.map es2 c2)
    cases hlim : resN f ns
    ·rcases hacc : resC f ns with _ | ⟨b0, r0⟩
     ·generalize hG1 : σ.set z (.map es2 c2) = G1 at *
      rw [← hl1]
      (simp only [h, rowC, (vmA), Nat.reduceEqDiff, reduceIte, Nat.reduceAdd, Int.reduceToNat, Int.reduceLE, Int.reduceLT, Int.reduceEq, Int.reduceNe, Int.reduceAdd, Int.reduceSub, Int.reduceNeg, Nat.reduceLT, Nat.reduceLeDiff, Nat.reduceBEq, undef, (stA), Nat.reduceMul]; try simp (disch := omega) only [(vmp)])
      exact ⟨_, .tup (.cons .none (.cons (.refl _) .nil)), by simp only [AV.low, AV.low.lows, Bool.and_self], hlo, ⟨es2, c2, hG1.symm⟩, .inr ⟨f, ns, hf, ha, hmem, .inr ⟨hlim, by rw [hacc]; rfl⟩⟩⟩
     ·rw [hacc] at hrow hacl
      have h5 := hrow (by simp)
      have hf0 := clCs_len (b0 :: r0)
      simp only [List.length_cons] at hacl
      generalize hG1 : σ.set z (.map es2 c2) = G1 at *
      rw [← hl1]
      (simp only [h, rowC, (vmA), Nat.reduceEqDiff, reduceIte, Nat.reduceAdd, Int.reduceToNat, Int.reduceLE, Int.reduceLT, Int.reduceEq, Int.reduceNe, Int.reduceAdd, Int.reduceSub, Int.reduceNeg, Nat.reduceLT, Nat.reduceLeDiff, Nat.reduceBEq, undef, (stA), Nat.reduceMul]; try simp (disch := omega) only [(vmp)])
      rw [hl1]
      refine ⟨_, .tup (.cons (.rsl (ty := 33) (ver := r0.length) (imm := 0) (ag := true) (cells := (b0 :: r0).flatMap clC) (es := clsV (b0 :: r0)) (es' := clsV (b0 :: r0)) (by omega) ?_ (by rw [List.drop_zero, clsV_cells]) (by omega) (by rw [clsV_len]; rfl) (by omega) (fun e he => by obtain ⟨x, _, rfl⟩ := List.mem_map.1 he; exact clV_el x) FrzL.refl) (.cons (.refl _) .nil)), by simp only [AV.low, AV.low.lows, clsV_low, Bool.and_self], hlo, ⟨es2, c2, hG1.symm⟩, .inr ⟨f, ns, hf, ha, hmem, .inr ⟨hlim, by rw [hacc]⟩⟩⟩
      rw [Nat.add_sub_cancel_left]
      simpa using h5
    ·generalize hG1 : σ.set z (.map es2 c2) = G1 at *
     rw [← hl1]
     (simp only [h, (vmA), Nat.reduceEqDiff, reduceIte, Nat.reduceAdd, Int.reduceToNat, Int.reduceLE, Int.reduceLT, Int.reduceEq, Int.reduceNe, Int.reduceAdd, Int.reduceSub, Int.reduceNeg, Nat.reduceLT, Nat.reduceLeDiff, Nat.reduceBEq, undef, (stA), Nat.reduceMul]; try simp (disch := omega) only [(vmp)])
     exact ⟨_, .tup (.cons .none (.cons (.refl _) .nil)), by simp only [AV.low, AV.low.lows, Bool.and_self], hlo, ⟨es2, c2, hG1.symm⟩, .inr ⟨f, ns, hf, ha, hmem, .inl ⟨hlim, rfl⟩⟩⟩
  ·obtain ⟨n, p, he1, hg1, hn1, hlt1, hG1, hV1⟩ := hseen he hs
   generalize hi : e.2.2 = i at *
   subst he1
   have hfd := H.find hg1
   have hsn : (strsV (nmI es k0 :: List.map (nmI es) ks)).length = ks.length + 1 := by rw [strsV_len, List.length_cons, hml]
   have hgl : (k0 :: (ks ++ [i])).getLast? = some i := by rw [← List.cons_append]; exact List.getLast?_concat ..
   (simp only [gv, hfd, hgl, hsn, List.cons_append, (vmA), Nat.reduceEqDiff, reduceIte, Nat.reduceAdd, Int.reduceToNat, Int.reduceLE, Int.reduceLT, Int.reduceEq, Int.reduceNe, Int.reduceAdd, Int.reduceSub, Int.reduceNeg, Nat.reduceLT, Nat.reduceLeDiff, Nat.reduceBEq, undef, (stA), Nat.reduceMul]; try simp (disch := omega) only [(vmp)])
   refine ⟨by unfold maxRoom; omega, ?_⟩
   refine xWait.of (round_own H (.map Ed c :: .iter (some v) es.length (k0 :: (ks ++ [i])) es.length :: .arr 9 (strsV (nmI es k0 :: List.map (nmI es) ks) ++ [.str n]) (ks.length + 1) 0 :: (J ++ [.map [] 0])) (J.length + 3) (by omega) Ed c rfl (by simp) hm hgr ⟨_, hG1⟩) ?_
   rintro r τ ⟨b, Ed', c', A, rfl, rfl, a0, aj, al, am, af, at'⟩
   have a1 := aj 1 (by simp) (by omega) (by omega)
   have a2 := aj 2 (by simp) (by omega) (by omega)
   rcases A with _ | ⟨x0, _ | ⟨x1, _ | ⟨x2, J'⟩⟩⟩ <;> simp at al
   simp only [List.getElem?_cons_zero, List.getElem?_cons_succ, Option.some.injEq] at a0 a1 a2
   subst a0; subst a1; subst a2
   rw [List.take_left, List.drop_left]
   have hin : i ∉ k0 :: ks := hs
   cases b
   ·obtain ⟨b1, b2⟩ := af rfl
    have hnd' : (k0 :: (ks ++ [i])).Nodup := by
     rw [← List.cons_append]
     refine List.nodup_append.2 ⟨hnd, by simp, fun a ha b hb => ?_⟩
     rw [List.mem_singleton.1 hb]
     exact fun e => hin (e ▸ ha)
    have hlt' : ∀ i' ∈ k0 :: (ks ++ [i]), i' < es.length := by
     intro i' hi'
     rw [← List.cons_append] at hi'
     rcases List.mem_append.1 hi' with hi' | hi'
     ·exact hlt i' hi'
     ·rw [List.mem_singleton.1 hi']; exact hlt1
    have hls := nodup_few _ _ hnd' hlt'
    simp only [List.length_cons, List.length_append, List.length_nil] at hls
    (simp only [(vmA), Nat.reduceEqDiff, reduceIte, Nat.reduceAdd, Int.reduceToNat, Int.reduceLE, Int.reduceLT, Int.reduceEq, Int.reduceNe, Int.reduceAdd, Int.reduceSub, Int.reduceNeg, Nat.reduceLT, Nat.reduceLeDiff, Nat.reduceBEq, undef, (stA), Nat.reduceMul]; try simp (disch := omega) only [(vmp)])
    refine ⟨(k0 :: (ks ++ [i]), Ed', c', J'), ⟨hnd', hlt', am, b1, by simp, fun i' hi' n' p' hh => ?_⟩, by simp only [List.length_cons, List.length_append, List.length_nil]; omega, ?_, ?_⟩
    ·simp only at hi'
     rw [← List.cons_append] at hi'
     rcases List.mem_append.1 hi' with hi' | hi'
     ·exact htr i' hi' n' p' hh
     ·obtain rfl := List.mem_singleton.1 hi'
      rw [hg1] at hh; cases hh
      exact b2
    ·simp only [List.map_cons, List.map_append, List.map_nil, hn1, rowN, List.length_append, hml, List.length_cons, List.length_nil]
    ·simp only [List.map_cons, List.map_append, List.map_nil, hn1, rowSE, strsV, List.length_append, List.length_map, List.length_cons, List.length_nil, List.cons_append, List.nil_append]
   ·(simp only [(vmA), Nat.reduceEqDiff, reduceIte, Nat.reduceAdd, Int.reduceToNat, Int.reduceLE, Int.reduceLT, Int.reduceEq, Int.reduceNe, Int.reduceAdd, Int.reduceSub, Int.reduceNeg, Nat.reduceLT, Nat.reduceLeDiff, Nat.reduceBEq, undef, (stA), Nat.reduceMul]; try simp (disch := omega) only [(vmp)])
    exact ⟨_, .tup (.cons .none (.cons (.refl _) .nil)), by simp only [AV.low, AV.low.lows, Bool.and_self], ⟨[], 0, (list_set_self H.hz).symm⟩, .inl ⟨rfl, n, p, hV1, at' rfl⟩⟩
end Go.D
namespace Go.D
open Go Go.Vm Go.Proofs Go.RowKit
mutual
def putF (f : List UInt8 → Tr) : Tr → Tr
 | .mk d n us => if d = kiVar then f n else .mk d n (putFs f us)
def putFs (f : List UInt8 → Tr) : List Tr → List Tr
 | [] => []
 | t :: ts => putF f t :: putFs f ts
end
theorem putF_vT (f : List UInt8 → Tr) (n : List UInt8) : putF f (vT n) = f n := by unfold vT putF; rw [if_pos rfl]
theorem putF_non {f : List UInt8 → Tr} {d n : List UInt8} {us : List Tr} (h : ¬ d = kiVar) : putF f (.mk d n us) = .mk d n (putFs f us) := by unfold putF; rw [if_neg h]
theorem putFs_map (f : List UInt8 → Tr) : ∀ l : List Tr, putFs f l = l.map (putF f)
 | [] => rfl
 | t :: ts => by rw [putFs, putFs_map f ts]; rfl
def Unif (ps : List (Tr × Tr)) (θ : List UInt8 → Tr) : Prop := ∀ c ∈ ps, putF θ c.1 = putF θ c.2
structure Mgu (ps : List (Tr × Tr)) (f : List UInt8 → Tr) : Prop where
 uni : Unif ps f
 idem : ∀ n, putF f (f n) = f n
 gen : ∀ θ, Unif ps θ → ∀ n, putF θ (f n) = θ n
 least : ∀ n m, f n = vT m → ¬ n < m
 ok : ∀ n, f n = vT n ∨ (varB n = true ∧ okT (f n))
def VOK (G : Gr) (V : Vs') : Prop := ∀ n p, V n = some p → G p = some ⟨kiVar, n, []⟩
mutual
theorem laid_fn {G : Gr} {V : Vs'} (hV : VOK G V) : ∀ (t u : Tr) (p : Nat), LaidG G V t p → LaidG G V u p → t = u
 | _, u, p, .var h1, k => by
  cases k with
  | var k1 =>
   have e1 := hV _ _ h1
   have e2 := hV _ _ k1
   rw [e1] at e2; cases e2; rfl
  | node hd k1 _ =>
   have e1 := hV _ _ h1
   rw [e1] at k1; cases k1; exact absurd rfl hd
 | .mk d n us, u, p, .node hd h1 h2, k => by
  cases k with
  | var k1 =>
   have e1 := hV _ _ k1
   rw [e1] at h1; cases h1; exact absurd rfl hd
  | node _ k1 k2 =>
   rw [h1] at k1; cases k1
   rw [laids_fn hV us _ _ h2 k2]
theorem laids_fn {G : Gr} {V : Vs'} (hV : VOK G V) : ∀ (l l' : List Tr) (ps : List Nat), LaidGs G V l ps → LaidGs G V l' ps → l = l'
 | _, _, _, .nil, k => by cases k; rfl
 | _, _, _, .cons (t := t) (ts := ts) h1 h2, k => by
  cases k with
  | cons k1 k2 => rw [laid_fn hV t _ _ h1 k1, laids_fn hV ts _ _ h2 k2]
end
noncomputable def Mod (G : Gr) (V : Vs') (θ : List UInt8 → Tr) (p : Nat) : Tr := open Classical in if h : ∃ t, LaidG G V t p then putF θ (Classical.choose h) else vT []
theorem mod_at {G : Gr} {V : Vs'} (hV : VOK G V) {θ : List UInt8 → Tr} {t : Tr} {p : Nat} (h : LaidG G V t p) : Mod G V θ p = putF θ t := by
 have hh : ∃ t, LaidG G V t p := ⟨t, h⟩
 unfold Mod
 rw [dif_pos hh, laid_fn hV _ _ _ (Classical.choose_spec hh) h]
theorem mods_at {G : Gr} {V : Vs'} (hV : VOK G V) {θ : List UInt8 → Tr} : ∀ (us : List Tr) (ps : List Nat), LaidGs G V us ps → ps.map (Mod G V θ) = putFs θ us
 | _, _, .nil => rfl
 | _, _, .cons (t := t) (ts := ts) h1 h2 => by
  rw [List.map_cons, mod_at hV h1, mods_at hV ts _ h2]; rfl
theorem mod_model {G : Gr} {V : Vs'} (hV : VOK G V) (hl : ∀ p x, G p = some x → ∃ t, LaidG G V t p) (θ : List UInt8 → Tr) : Model G (Mod G V θ) := fun p x hp hd => by
 obtain ⟨t, ht⟩ := hl p x hp
 cases ht with
 | var h1 => have := hV _ _ h1; rw [hp] at this; cases this; exact absurd rfl hd
 | @node d n us _ qs0 hd' h1 h2 =>
  rw [hp] at h1; cases h1
  rw [mod_at hV (.node hd' hp h2), putF_non hd', mods_at hV us _ h2]
theorem mod_tree {G : Gr} {L : Lk} {M : Nat → Tr} (hE : Ended L) (hl : LinkOK G L) (hM : Model G M) (hR : Resp M L) (hcl : ClosedG G) (hva : ∀ p x, G p = some x → x.d = kiVar → x.ks = []) : ∀ (m p : Nat), SizeOf.sizeOf (M p) ≤ m → (∃ x, G p = some x) → ∃ t, TypR G L p t
 | 0, p, h, _ => by cases hp : M p with | mk d n us => rw [hp] at h; simp at h
 | m + 1, p, h, hp => by
  obtain ⟨r, hr⟩ := hE p
  obtain ⟨x, hx⟩ := end_in hl hr hp
  have e1 := resp_end hR hr
  by_cases hd : x.d = kiVar
  ·obtain ⟨t, ht⟩ := typR_of hr.end hx fun q hq => by rw [hva r x hx hd] at hq; cases hq
   exact ⟨t, typR_end hr ht⟩
  ·have e2 := hM r x hx hd
   obtain ⟨t, ht⟩ := typR_of hr.end hx fun q hq => mod_tree hE hl hM hR hcl hva m q (by
    have h3 : M q ∈ x.ks.map M := List.mem_map.2 ⟨q, hq, rfl⟩
    have h4 := List.sizeOf_lt_of_mem h3
    rw [e1, e2] at h
    simp at h; omega) (hcl r x hx q hq)
   exact ⟨t, typR_end hr ht⟩
mutual
theorem typR_mod {G : Gr} {L : Lk} {M : Nat → Tr} {θ : List UInt8 → Tr} (hM : Model G M) (hR : Resp M L) (hv : ∀ p x, G p = some x → x.d = kiVar → M p = θ x.n) : ∀ (t : Tr) (p : Nat), TypR G L p t → putF θ t = M p
 | _, p, .mk (ts := ts) h1 h2 h3 => by
  rename_i r x
  rw [resp_end hR h1]
  by_cases hd : x.d = kiVar
  ·rw [hv r x h2 hd]
   unfold putF; rw [if_pos hd]
  ·rw [putF_non hd, hM r x h2 hd, typRs_mod hM hR hv ts _ h3]
theorem typRs_mod {G : Gr} {L : Lk} {M : Nat → Tr} {θ : List UInt8 → Tr} (hM : Model G M) (hR : Resp M L) (hv : ∀ p x, G p = some x → x.d = kiVar → M p = θ x.n) : ∀ (ts : List Tr) (ps : List Nat), TypRs G L ps ts → putFs θ ts = ps.map M
 | _, _, .nil => rfl
 | _, _, .cons (t := t) (ts := ts) h1 h2 => by
  rw [putFs, typR_mod hM hR hv t _ h1, typRs_mod hM hR hv ts _ h2]; rfl
end
mutual
theorem laid_typ {G : Gr} {L : Lk} {V : Vs'} {f : List UInt8 → Tr} (hE : Ended L) (hI : InvL G L) (hf : ∀ n p, V n = some p → TypR G L p (f n)) : ∀ (t : Tr) (p : Nat), LaidG G V t p → TypR G L p (putF f t)
 | _, p, .var h => by rw [putF_vT]; exact hf _ _ h
 | .mk d n us, p, .node hd hg hl => by
  have h1 := laids_typ hE hI hf us _ hl
  obtain ⟨r, hr⟩ := hE p
  obtain ⟨y, f1, f2, f3, f4, f5⟩ := inv_end hE hI hr hg hd
  rw [putF_non hd]
  have h2 := TypR.mk hr f1 (typRs_eq f4 f5 h1)
  rw [f2, f3] at h2
  exact h2
theorem laids_typ {G : Gr} {L : Lk} {V : Vs'} {f : List UInt8 → Tr} (hE : Ended L) (hI : InvL G L) (hf : ∀ n p, V n = some p → TypR G L p (f n)) : ∀ (us : List Tr) (ps : List Nat), LaidGs G V us ps → TypRs G L ps (putFs f us)
 | _, _, .nil => .nil
 | _, _, .cons (t := t) (ts := ts) h1 h2 => .cons (laid_typ hE hI hf t _ h1) (laids_typ hE hI hf ts _ h2)
end
mutual
theorem typR_idem {G : Gr} {L : Lk} {V : Vs'} {f : List UInt8 → Tr} (hf : ∀ n p, V n = some p → TypR G L p (f n)) (hvo : ∀ p x, G p = some x → x.d = kiVar → x.ks = [] ∧ V x.n = some p) : ∀ (u : Tr) (p : Nat), TypR G L p u → putF f u = u
 | _, p, .mk (ts := ts) h1 h2 h3 => by
  rename_i r x
  by_cases hd : x.d = kiVar
  ·obtain ⟨k1, k2⟩ := hvo r x h2 hd
   rw [k1] at h3
   cases h3
   have ht := typR_fn _ _ _ (hf _ _ k2) (.mk (.here h1.end) h2 (by rw [k1]; exact .nil))
   unfold putF; rw [if_pos hd, ht]
  ·rw [putF_non hd, typRs_idem hf hvo ts _ h3]
theorem typRs_idem {G : Gr} {L : Lk} {V : Vs'} {f : List UInt8 → Tr} (hf : ∀ n p, V n = some p → TypR G L p (f n)) (hvo : ∀ p x, G p = some x → x.d = kiVar → x.ks = [] ∧ V x.n = some p) : ∀ (us : List Tr) (ps : List Nat), TypRs G L ps us → putFs f us = us
 | _, _, .nil => rfl
 | _, _, .cons (t := t) (ts := ts) h1 h2 => by rw [putFs, typR_idem hf hvo t _ h1, typRs_idem hf hvo ts _ h2]
end
mutual
theorem typR_ok {G : Gr} {L : Lk} (hnm : ∀ p x, G p = some x → ∀ ts : List Tr, ts.length = x.ks.length → (∀ u ∈ ts, okT u) → okT (.mk x.d x.n ts)) : ∀ (t : Tr) (p : Nat), TypR G L p t → okT t
 | _, p, .mk (ts := ts) h1 h2 h3 => hnm _ _ h2 ts (typRs_len h3) (typRs_ok hnm ts _ h3)
theorem typRs_ok {G : Gr} {L : Lk} (hnm : ∀ p x, G p = some x → ∀ ts : List Tr, ts.length = x.ks.length → (∀ u ∈ ts, okT u) → okT (.mk x.d x.n ts)) : ∀ (us : List Tr) (ps : List Nat), TypRs G L ps us → ∀ u ∈ us, okT u
 | _, _, .nil => fun u hu => by cases hu
 | _, _, .cons (t := t) (ts := ts) h1 h2 => fun u hu => by
  rcases List.mem_cons.1 hu with e | hu
  ·rw [e]; exact typR_ok hnm t _ h1
  ·exact typRs_ok hnm ts _ h2 u hu
end
theorem end_least {G : Gr} {L : Lk} (hI : InvL G L) (hd : VDir G L) {p r : Nat} (he : EndR L p r) : ∀ {x y : AN}, G p = some x → G r = some y → y.d = kiVar → x.d = kiVar ∧ ¬ x.n < y.n := by
 induction he with
 | here _ => intro x y hx hy h; rw [hx] at hy; cases hy; exact ⟨h, List.lt_irrefl _⟩
 | on h1 _ ih =>
  intro x y hx hy h
  obtain ⟨x', z, e1, e2, e3⟩ := hI _ _ h1
  rw [hx] at e1; cases e1
  obtain ⟨f1, f2⟩ := ih e2 hy h
  have hxd : x.d = kiVar := by
   rcases e3 with e3 | ⟨e3, _⟩
   ·exact e3
   ·rw [e3]; exact f1
  refine ⟨hxd, fun hlt => ?_⟩
  have f3 := hd _ _ x z h1 hx e2 hxd f1
  rcases lt_tri y.n z.n with h4 | h4 | h4
  ·exact f3 (List.lt_trans hlt h4)
  ·exact f3 (h4 ▸ hlt)
  ·exact f2 h4
end Go.D
namespace Go.D
open Go Go.Vm Go.Proofs Go.RowKit
structure UInv (X : Nat → Prop) (gid v z : Nat) (S : List Ent) (es : List MEnt) (clock : Nat) (Ps : List (Nat × AN)) (L : Lk) (ps : List (Tr × Tr)) : Prop where
 ok : GOK X L gid v z S es clock Ps
 hz : S[z]? = some (.map [] 0)
 vz : v ≠ z
 ended : Ended L
 inv : InvL (glook Ps) L
 dir : VDir (glook Ps) L
 done : ∀ c ∈ ps, ∃ pa pb, LaidG (glook Ps) (vlook es) c.1 pa ∧ LaidG (glook Ps) (vlook es) c.2 pb ∧ EqL L pa pb
 gen : ∀ θ, Unif ps θ → Resp (Mod (glook Ps) (vlook es) θ) L
theorem uinv_nil {X : Nat → Prop} {gid v z : Nat} {S : List Ent} (hg : S[gid]? = some (graE v z)) (hv : S[v]? = some (.map [] 0)) (hz : S[z]? = some (.map [] 0)) (hne : v ≠ z) (xg : ¬ X gid) (xv : ¬ X v) : UInv X gid v z S [] 0 [] noL [] :=
 ⟨⟨hg, hv, xg, xv, fun e he => (by cases he), fun p x hp => (by cases hp), fun p x hp => (by cases hp), fun p x hp => (by cases hp), fun n p hp => by simp [vlook, mget] at hp, fun p x hp => (by cases hp), by simp, ⟨rfl, fun i e he => by simp at he⟩, fun p x hp => (by cases hp), fun p q hp => (by cases hp), fun p x hp => (by cases hp)⟩,
  hz, hne, noL_ended, fun p q hp => (by cases hp), fun p q x y hp => (by cases hp), fun c hc => (by cases hc), fun θ _ p q hp => (by cases hp)⟩
theorem uinv_node {X : Nat → Prop} {gid v z : Nat} {S : List Ent} {es : List MEnt} {clock : Nat} {Ps : List (Nat × AN)} {L : Lk} {ps : List (Tr × Tr)} (h : UInv X gid v z S es clock Ps L ps) (hX : ∀ q, X q → q < S.length) {t : Tr} (ht : okT t) :
  ∃ p es' clock' N Qs, UInv X gid v z (S.set v (.map es' clock') ++ N) es' clock' (Ps ++ Qs) L ps ∧ LaidG (glook (Ps ++ Qs)) (vlook es') t p ∧ (∀ n q, vlook es n = some q → vlook es' n = some q) ∧ (∃ x, glook (Ps ++ Qs) p = some x) ∧
   ACalls E 56 [.ref gid 0 0, tyV t] S fun r τ => r = .ref p 0 0 ∧ τ = S.set v (.map es' clock') ++ N := by
 obtain ⟨p, es', clock', N, Qs, a1, a2, a3, a4, a5⟩ := node_ok gid v z _ t (Nat.le_refl _) ht X L S es clock Ps hX h.ok
 have hmo : ∀ p x, glook Ps p = some x → glook (Ps ++ Qs) p = some x := fun p x hp => glook_old _ hp
 refine ⟨p, es', clock', N, Qs, ⟨a1, get_olds (by rw [get_set_ne h.vz]; exact h.hz) _, h.vz, h.ended, fun p q hp => ?_, fun p q x y hp hx hy => ?_, fun c hc => ?_, fun θ hθ p q hp => ?_⟩, a2, a3, a4, a5⟩
 ·obtain ⟨x, y, b1, b2, b3⟩ := h.inv p q hp
  exact ⟨x, y, hmo _ _ b1, hmo _ _ b2, b3⟩
 ·obtain ⟨⟨x', hx'⟩, y', hy'⟩ := h.ok.lk p q hp
  have e1 := hmo _ _ hx'; rw [hx] at e1; cases e1
  have e2 := hmo _ _ hy'; rw [hy] at e2; cases e2
  exact h.dir p q x y hp hx' hy'
 ·obtain ⟨pa, pb, b1, b2, b3⟩ := h.done c hc
  exact ⟨pa, pb, laid_mono hmo a3 _ _ b1, laid_mono hmo a3 _ _ b2, b3⟩
 ·obtain ⟨⟨x', hx'⟩, y', hy'⟩ := h.ok.lk p q hp
  obtain ⟨t1, k1⟩ := h.ok.lay _ _ hx'
  obtain ⟨t2, k2⟩ := h.ok.lay _ _ hy'
  have := h.gen θ hθ p q hp
  rw [mod_at h.ok.vin k1, mod_at h.ok.vin k2] at this
  rw [mod_at a1.vin (laid_mono hmo a3 _ _ k1), mod_at a1.vin (laid_mono hmo a3 _ _ k2), this]
theorem uinv_unify {X : Nat → Prop} {gid v z : Nat} {S : List Ent} {es : List MEnt} {clock : Nat} {Ps : List (Nat × AN)} {L : Lk} {ps : List (Tr × Tr)} (h : UInv X gid v z S es clock Ps L ps) {a b : Tr} {pa pb : Nat} (la : LaidG (glook Ps) (vlook es) a pa) (lb : LaidG (glook Ps) (vlook es) b pb)
  (ha : ∃ x, glook Ps pa = some x) (hb : ∃ x, glook Ps pb = some x) (gv : AV) : ∃ ok τ L', UCall gv S pa pb ok τ ∧ τ.length = S.length ∧ (∀ j, glook Ps j = none → τ[j]? = S[j]?) ∧ (ok = true → UInv X gid v z τ es clock Ps L' (ps ++ [(a, b)])) ∧ (ok = false → ∀ θ, ¬ Unif (ps ++ [(a, b)]) θ) := by
 obtain ⟨ok, τ, L', hU, hC⟩ := gok_unify h.ok h.ended gv ha hb
 obtain ⟨b1, b2, b3⟩ := gok_after h.ok hU
 have hmod : ∀ θ, Unif (ps ++ [(a, b)]) θ → ok = true ∧ Resp (Mod (glook Ps) (vlook es) θ) L' := fun θ hθ =>
  hU.model _ (mod_model h.ok.vin h.ok.lay θ) (h.gen θ fun c hc => hθ c (by simp [hc])) (by rw [mod_at h.ok.vin la, mod_at h.ok.vin lb]; exact hθ (a, b) (by simp))
 refine ⟨ok, τ, L', hC, b2, b3, fun e => ?_, fun e θ hθ => by rw [(hmod θ hθ).1] at e; cases e⟩
 subst e
 obtain ⟨c1, c2, c3⟩ := uni_left h.ended h.inv hU
 refine ⟨b1, ?_, h.vz, c1, c2, hU.dir h.dir, fun c hc => ?_, fun θ hθ => (hmod θ hθ).2⟩
 ·rw [b3 z ?_]; · exact h.hz
  cases hj : glook Ps z with
  | none => rfl
  | some x =>
   obtain ⟨_, w, h1, _⟩ := h.ok.nodes z x hj
   rw [h.hz] at h1; cases h1
 ·rcases List.mem_append.1 hc with hc | hc
  ·obtain ⟨pa, pb, d1, d2, d3⟩ := h.done c hc
   exact ⟨pa, pb, d1, d2, hU.later.2.1 _ _ d3⟩
  ·rw [List.mem_singleton.1 hc]; exact ⟨pa, pb, la, lb, c3⟩
theorem names_of : ∀ {es : List MEnt}, (∀ e ∈ es, ∃ n p, e.1 = .str n ∧ e.2.1 = .ref p 0 0) → ∃ ns : List (List UInt8), (es.map fun (e : MEnt) => e.1) = ns.map AV.str
 | [], _ => ⟨[], rfl⟩
 | e :: r, h => by
  obtain ⟨ns, hn⟩ := names_of (es := r) fun e he => h e (by simp [he])
  obtain ⟨n, _, h1, _⟩ := h e (by simp)
  exact ⟨n :: ns, by simp [h1, hn]⟩
theorem vlook_of {es : List MEnt} (hk : ∀ e ∈ es, ∃ n p, e.1 = .str n ∧ e.2.1 = .ref p 0 0) (hn : (es.map fun (e : MEnt) => e.1).Nodup) {n : List UInt8} (h : AV.str n ∈ es.map fun (e : MEnt) => e.1) : ∃ p, vlook es n = some p := by
 obtain ⟨e, he, h1⟩ := List.mem_map.1 h
 obtain ⟨m, p, h2, h3⟩ := hk e he
 obtain ⟨e1, e2, e3⟩ := e
 simp only at h1 h2 h3
 subst h1; subst h3
 exact ⟨p, by unfold vlook; rw [mget_key hk hn he]; rfl⟩
theorem uinv_var {X : Nat → Prop} {gid v z : Nat} {S : List Ent} {es : List MEnt} {clock : Nat} {Ps : List (Nat × AN)} {L : Lk} {ps : List (Tr × Tr)} (h : UInv X gid v z S es clock Ps L ps) {n : List UInt8} {p : Nat} (hv : vlook es n = some p) : varB n = true := by
 have h1 := h.ok.nm _ _ (h.ok.vin n p hv) [] rfl (fun u hu => by cases hu)
 exact (vT_args h1.2).2
theorem uinv_fin {X : Nat → Prop} {gid v z : Nat} {S : List Ent} {es : List MEnt} {clock : Nat} {Ps : List (Nat × AN)} {L : Lk} {ps : List (Tr × Tr)} (h : UInv X gid v z S es clock Ps L ps) : GFin (glook Ps) L gid v z S es := by
 refine ⟨gok_repr h.ok, h.ok.hg, by rw [h.ok.hv, h.ok.clk.1], h.hz, h.vz, h.ok.keys, h.ok.nodup, h.ok.clk.2, h.ok.closed, h.ok.small, h.ok.vin, h.ok.vout, ⟨Ps.map (·.1), fun p x hp => glook_mem hp⟩, h.ended, h.ok.lk, ?_⟩
 obtain ⟨ns, hn⟩ := names_of h.ok.keys
 have h1 : ns.Nodup := by
  have := h.ok.nodup
  rw [hn] at this
  exact (List.pairwise_map.1 this).imp fun hab e => hab (by rw [e])
 have h2 := vars_few h1 fun n hm => by
  obtain ⟨p, hp⟩ := vlook_of h.ok.keys h.ok.nodup (n := n) (by rw [hn]; exact List.mem_map.2 ⟨n, hm, rfl⟩)
  exact uinv_var h hp
 have h3 := congrArg List.length hn
 simp only [List.length_map] at h3
 omega
theorem typR_shape {G : Gr} {L : Lk} {p : Nat} {t : Tr} (h : TypR G L p t) : ∃ r x ts, EndR L p r ∧ G r = some x ∧ t = .mk x.d x.n ts := by
 cases h with
 | mk h1 h2 h3 => exact ⟨_, _, _, h1, h2, rfl⟩
def extF (es : List MEnt) (f : List UInt8 → Tr) (n : List UInt8) : Tr := if (vlook es n).isSome = true then f n else vT n
theorem extF_in {es : List MEnt} {f : List UInt8 → Tr} {n : List UInt8} {p : Nat} (h : vlook es n = some p) : extF es f n = f n := by unfold extF; rw [h]; rfl
theorem extF_out {es : List MEnt} {f : List UInt8 → Tr} {n : List UInt8} (h : vlook es n = none) : extF es f n = vT n := by unfold extF; rw [h]; rfl
theorem uinv_mgu {X : Nat → Prop} {gid v z : Nat} {S : List Ent} {es : List MEnt} {clock : Nat} {Ps : List (Nat × AN)} {L : Lk} {ps : List (Tr × Tr)} (h : UInv X gid v z S es clock Ps L ps) {f : List UInt8 → Tr} (hf : VT (glook Ps) L es f) : Mgu ps (extF es f) := by
 have hf' : ∀ n p, vlook es n = some p → TypR (glook Ps) L p (extF es f n) := fun n p hv => by rw [extF_in hv]; exact hf n p hv
 refine ⟨fun c hc => ?_, fun n => ?_, fun θ hθ n => ?_, fun n m he => ?_, fun n => ?_⟩
 ·obtain ⟨pa, pb, d1, d2, d3⟩ := h.done c hc
  exact typR_fn _ _ _ (typR_eq d3 (laid_typ h.ended h.inv hf' _ _ d1)) (laid_typ h.ended h.inv hf' _ _ d2)
 ·cases hv : vlook es n with
  | none => rw [extF_out hv, putF_vT, extF_out hv]
  | some p => exact typR_idem hf' h.ok.vout _ _ (hf' n p hv)
 ·cases hv : vlook es n with
  | none => rw [extF_out hv, putF_vT]
  | some p =>
   have hvar : ∀ p x, glook Ps p = some x → x.d = kiVar → Mod (glook Ps) (vlook es) θ p = θ x.n := fun p x hp hd => by
    rw [mod_at h.ok.vin (.var (h.ok.vout p x hp hd).2), putF_vT]
   rw [typR_mod (mod_model h.ok.vin h.ok.lay θ) (h.gen θ hθ) hvar _ _ (hf' n p hv), mod_at h.ok.vin (.var hv), putF_vT]
 ·cases hv : vlook es n with
  | none =>
   rw [extF_out hv] at he
   cases he; exact List.lt_irrefl _
  | some p =>
   have ht := hf' n p hv
   obtain ⟨r, x, ts, h1, h2, h3⟩ := typR_shape ht
   rw [he] at h3
   obtain ⟨h4, h5, _⟩ := Tr.mk.inj h3
   have hx := h.ok.vin n p hv
   rw [h5]
   exact (end_least h.inv h.dir h1 hx h2 h4.symm).2
 ·cases hv : vlook es n with
  | none => exact .inl (extF_out hv)
  | some p => exact .inr ⟨uinv_var h hv, typR_ok h.ok.nm _ _ (hf' n p hv)⟩
theorem uinv_none {X : Nat → Prop} {gid v z : Nat} {S : List Ent} {es : List MEnt} {clock : Nat} {Ps : List (Nat × AN)} {L : Lk} {ps : List (Tr × Tr)} (h : UInv X gid v z S es clock Ps L ps) {n : List UInt8} {p : Nat} (hv : vlook es n = some p) (hno : ∀ t, ¬ TypR (glook Ps) L p t) : ∀ θ, ¬ Unif ps θ := fun θ hθ => by
 obtain ⟨t, ht⟩ := mod_tree h.ended h.ok.lk (mod_model h.ok.vin h.ok.lay θ) (h.gen θ hθ) h.ok.closed (fun p x hp hd => (h.ok.vout p x hp hd).1) _ p (Nat.le_refl _) ⟨_, h.ok.vin n p hv⟩
 exact hno t ht
def lets : List (List UInt8) := (List.range 26).map letA
theorem lets_len : lets.length = 26 := by simp [lets]
def UniR (ps : List (Tr × Tr)) (r : List Cl × Int) : Prop := (r = ([], 5) ∧ ∀ θ, ¬ Unif ps θ) ∨ ∃ f, Mgu ps f ∧ ((resN f (lets) = true ∧ r = ([], 4)) ∨ (resN f (lets) = false ∧ r = (resC f (lets), 0)))
theorem lets_asc : (lets).Pairwise (· < ·) := by
 refine List.pairwise_iff_getElem.2 fun i j hi hj hij => ?_
 rw [lets_len] at hi hj
 simp only [lets, List.getElem_map, List.getElem_range]
 exact letA_lt hi hj hij
theorem lets_mem {n : List UInt8} : n ∈ lets ↔ varB n = true := by
 constructor
 ·intro h
  obtain ⟨i, hi, rfl⟩ := List.mem_map.1 h
  exact letter_varB (List.mem_range.1 hi)
 ·intro h
  obtain ⟨i, hi, rfl⟩ := varB_letter h
  exact List.mem_map.2 ⟨i, List.mem_range.2 hi, rfl⟩
theorem ext_res {X : Nat → Prop} {gid v z : Nat} {S : List Ent} {es : List MEnt} {clock : Nat} {Ps : List (Nat × AN)} {L : Lk} {ps : List (Tr × Tr)} (h : UInv X gid v z S es clock Ps L ps) {f : List UInt8 → Tr} {ns : List (List UInt8)} (ha : ns.Pairwise (· < ·)) (hm : ∀ n, n ∈ ns ↔ ∃ p, vlook es n = some p) :
  resC (extF es f) (lets) = resC f ns ∧ resN (extF es f) (lets) = resN f ns := by
 have e1 : ∀ n ∈ ns, extF es f n = f n := fun n hn => by
  obtain ⟨p, hp⟩ := (hm n).1 hn
  exact extF_in hp
 have e2 : ∀ n, n ∉ ns → extF es f n = vT n := fun n hn => by
  cases hv : vlook es n with
  | none => exact extF_out hv
  | some p => exact absurd ((hm n).2 ⟨p, hv⟩) hn
 have e3 : ∀ n ∈ ns, n ∈ lets := fun n hn => by
  obtain ⟨p, hp⟩ := (hm n).1 hn
  exact lets_mem.2 (uinv_var h hp)
 refine ⟨?_, ?_⟩
 ·unfold resC
  have : (lets).filter (fun n => decide (¬ extF es f n = vT n) && fitsB (satT (extF es f n))) = ns.filter fun n => decide (¬ f n = vT n) && fitsB (satT (f n)) := by
   refine asc_ext _ _ (lets_asc.filter _) (ha.filter _) fun n => ?_
   rw [List.mem_filter, List.mem_filter]
   by_cases hn : n ∈ ns
   ·rw [e1 n hn]; exact ⟨fun h => ⟨hn, h.2⟩, fun h => ⟨e3 n hn, h.2⟩⟩
   ·rw [e2 n hn]; simp [hn]
  rw [this]
  exact List.map_congr_left fun n hn => by rw [e1 n (List.mem_filter.1 hn).1]
 ·unfold resN
  rw [Bool.eq_iff_iff, List.any_eq_true, List.any_eq_true]
  constructor
  ·rintro ⟨n, h1, h2⟩
   by_cases hn : n ∈ ns
   ·rw [e1 n hn] at h2; exact ⟨n, hn, h2⟩
   ·rw [e2 n hn] at h2; simp at h2
  ·rintro ⟨n, h1, h2⟩
   exact ⟨n, e3 n h1, by rw [e1 n h1]; exact h2⟩
theorem uinv_ex {X : Nat → Prop} {gid v z : Nat} {S : List Ent} {es : List MEnt} {clock : Nat} {Ps : List (Nat × AN)} {L : Lk} {ps : List (Tr × Tr)} (h : UInv X gid v z S es clock Ps L ps) : ∃ u, UniR ps u := by
 by_cases hh : ∀ n p, vlook es n = some p → ∃ t, TypR (glook Ps) L p t
 ·obtain ⟨f, hf⟩ := vt_ex hh
  have hM := uinv_mgu h hf
  cases hn : resN (extF es f) (lets)
  ·exact ⟨_, .inr ⟨_, hM, .inr ⟨hn, rfl⟩⟩⟩
  ·exact ⟨_, .inr ⟨_, hM, .inl ⟨hn, rfl⟩⟩⟩
 ·simp only [Classical.not_forall] at hh
  obtain ⟨n, p, hv, hno⟩ := hh
  exact ⟨_, .inl ⟨rfl, uinv_none h hv fun t ht => hno ⟨t, ht⟩⟩⟩
theorem uinv_res {X : Nat → Prop} {gid v z : Nat} {S : List Ent} {es : List MEnt} {clock : Nat} {Ps : List (Nat × AN)} {L : Lk} {ps : List (Tr × Tr)} (h : UInv X gid v z S es clock Ps L ps) {r : AV} {τ : List Ent} (hr : ResP (glook Ps) L z S es r τ) : ∃ u, UniR ps u ∧ r = .tup [.sl (clsV u.1), i64 u.2] := by
 rcases hr.2 with ⟨rfl, n, p, hv, hno⟩ | ⟨f, ns, hf, ha, hm, hor⟩
 ·exact ⟨([], 5), .inl ⟨rfl, uinv_none h hv hno⟩, rfl⟩
 ·obtain ⟨e1, e2⟩ := ext_res h (f := f) ha hm
  have hM := uinv_mgu h hf
  rcases hor with ⟨k1, rfl⟩ | ⟨k1, rfl⟩
  ·exact ⟨([], 4), .inr ⟨_, hM, .inl ⟨by rw [e2]; exact k1, rfl⟩⟩, rfl⟩
  ·exact ⟨(resC f ns, 0), .inr ⟨_, hM, .inr ⟨by rw [e2]; exact k1, by rw [e1]⟩⟩, rfl⟩
mutual
theorem put_idem {f g : List UInt8 → Tr} (hfg : ∀ x, f x = vT x → g x = vT x) : ∀ t : Tr, typeB conB t = true → putF f t = t → putF g t = t
 | .mk d n us, hb, h => by
  by_cases hd : d = kiVar
  ·subst hd
   obtain ⟨rfl, _⟩ := vT_args hb
   have h1 : putF f (vT n) = vT n := h
   show putF g (vT n) = vT n
   rw [putF_vT] at h1 ⊢
   exact hfg n h1
  ·rw [putF_non hd] at h ⊢
   simp only [typeB, Bool.and_eq_true] at hb
   rw [puts_idem hfg us hb.2.2.2.2 (Tr.mk.inj h).2.2]
theorem puts_idem {f g : List UInt8 → Tr} (hfg : ∀ x, f x = vT x → g x = vT x) : ∀ l : List Tr, typeBs conB l = true → putFs f l = l → putFs g l = l
 | [], _, _ => rfl
 | t :: ts, hb, h => by
  simp only [typeBs, Bool.and_eq_true] at hb
  rw [putFs] at h
  obtain ⟨h1, h2⟩ := List.cons.inj h
  rw [putFs, put_idem hfg t hb.1 h1, puts_idem hfg ts hb.2 h2]
end
theorem mgu_self {ps : List (Tr × Tr)} {f g : List UInt8 → Tr} (hf : Mgu ps f) (hg : Mgu ps g) {x : List UInt8} (h : f x = vT x) : g x = vT x := by
 have h1 := hg.gen f hf.uni x
 rw [h] at h1
 have h2 : ∃ y, g x = vT y := by
  rcases hg.ok x with h3 | ⟨_, h3⟩
  ·exact ⟨x, h3⟩
  ·cases hgx : g x with
   | mk d n us =>
   rw [hgx] at h1 h3
   by_cases hd : d = kiVar
   ·subst hd
    obtain ⟨rfl, _⟩ := vT_args h3.2
    exact ⟨n, rfl⟩
   ·rw [putF_non hd] at h1
    exact absurd (Tr.mk.inj h1).1 hd
 obtain ⟨y, hy⟩ := h2
 rw [hy, putF_vT] at h1
 rcases lt_tri x y with h3 | h3 | h3
 ·exact absurd h3 (hg.least x y hy)
 ·rw [hy, h3]
 ·exact absurd h3 (hf.least y x h1)
theorem mgu_fn {ps : List (Tr × Tr)} {f g : List UInt8 → Tr} (hf : Mgu ps f) (hg : Mgu ps g) : f = g := by
 funext n
 rcases hf.ok n with h | ⟨_, h⟩
 ·rw [h, mgu_self hf hg h]
 ·rw [← hf.gen g hg.uni n, put_idem (fun x hx => mgu_self hf hg hx) _ h.2 (hf.idem n)]
theorem uniR_fn {ps : List (Tr × Tr)} {u u' : List Cl × Int} (h : UniR ps u) (k : UniR ps u') : u = u' := by
 rcases h with ⟨rfl, h⟩ | ⟨f, hf, h⟩
 ·rcases k with ⟨rfl, _⟩ | ⟨g, hg, _⟩
  ·rfl
  ·exact absurd hg.uni (h g)
 ·rcases k with ⟨_, k⟩ | ⟨g, hg, k⟩
  ·exact absurd hf.uni (k f)
  ·rw [mgu_fn hf hg] at h
   rcases h with ⟨h, rfl⟩ | ⟨h, rfl⟩ <;> rcases k with ⟨k, rfl⟩ | ⟨k, rfl⟩
   ·rfl
   ·rw [h] at k; cases k
   ·rw [h] at k; cases k
   ·rfl
end Go.D
namespace Go.D
open Go Go.Vm Go.Proofs Go.RowKit
def ofV (l : List Cl) (n : List UInt8) : AV := match Sub'.look l n with
 | some u => .tup [tyV u, boolV true]
 | none => .tup [.agg [.str [], .str [], .v (.slice none 0 0)], boolV false]
theorem look_take {l : List Cl} {n : List UInt8} {i : Nat} {c : Cl} (h : l[i]? = some c) (h0 : Sub'.look (l.take i) n = none) : (n = c.1 → Sub'.look l n = some c.2) ∧ (¬ n = c.1 → Sub'.look (l.take (i + 1)) n = none) := by
 obtain ⟨s1, s2⟩ := take_splitC l i c h
 obtain ⟨a, t⟩ := c
 constructor
 ·intro hn
  simp only at hn
  subst hn
  rw [s2]
  clear s1 s2 h
  generalize l.take i = p at *
  generalize l.drop (i + 1) = q
  induction p with
  | nil => simp [Sub'.look]
  | cons e r ih =>
   unfold Sub'.look at h0
   by_cases hh : n = e.1
   ·simp only [hh, if_true] at h0; cases h0
   ·simp only [hh, if_false] at h0
    simp only [List.cons_append]
    unfold Sub'.look
    rw [if_neg hh]
    exact ih h0
 ·intro hn
  rw [s1, look_app, h0]
  simp only [hn, if_false]
set_option maxHeartbeats 4000000 in
theorem of_ok (l : List Cl) (hl : lenC l) (n : List UInt8) (σ : List Ent) : ACalls E 52 [.sl (clsV l), .str n] σ fun r τ => r = ofV l n ∧ τ = σ := by
 refine xacalls T0 .drop [] Tryz.func52 rfl (by kernel_rfl) (by kernel_rfl) (by simp [Tryz.ntmps52]) ?_
 have hb := hl.1
 (simp only [clsV_len, (vmA), Nat.reduceEqDiff, reduceIte, Nat.reduceAdd, Int.reduceToNat, Int.reduceLE, Int.reduceLT, Int.reduceEq, Int.reduceNe, Int.reduceAdd, Int.reduceSub, Int.reduceNeg, Nat.reduceLT, Nat.reduceLeDiff, Nat.reduceBEq, undef, (stA), Nat.reduceMul]; try simp (disch := omega) only [(vmp)])
 refine xloop (α := Nat × List Ent) T0 (fun x => [(1, .str n), (4, .ref σ.length 0 0), (8, .sl (clsV l)), (9, i64 l.length), (10, i64 x.1)]) (fun _ => σ) (fun x => .arr 24 [.str [], .str [], .v (.slice none 0 0)] 0 0 :: x.2)
  (fun x => x.1 ≤ l.length ∧ Sub'.look (l.take x.1) n = none) (fun x => l.length - x.1) (by kernel_rfl)
  ⟨(0, []), ⟨by simp, rfl⟩, by (simp only [(vmA), Nat.reduceEqDiff, reduceIte, Nat.reduceAdd, Int.reduceToNat, Int.reduceLE, Int.reduceLT, Int.reduceEq, Int.reduceNe, Int.reduceAdd, Int.reduceSub, Int.reduceNeg, Nat.reduceLT, Nat.reduceLeDiff, Nat.reduceBEq, undef, (stA), Nat.reduceMul, Int.natCast_zero]; try simp (disch := omega) only [(vmp)]), rfl, rfl⟩ ?_
 rintro ⟨i, junk⟩ ⟨hi, hno⟩
 simp only at hi hno
 by_cases h : (i : Int) < l.length
 ·have hi1 : i < l.length := by omega
  have hu : l[i]? = some l[i] := List.getElem?_eq_getElem hi1
  obtain ⟨k1, k2⟩ := look_take hu hno
  generalize l[i] = u at *
  have hg := clsV_get hu
  obtain ⟨a, t⟩ := u
  cases t with
  | mk b c cs =>
  simp only [clV, clC, tyCells] at hg
  by_cases ha : a = n
  ·have k3 := k1 ha.symm
   unfold ofV
   rw [k3]
   (simp only [h, hg, ha, clsV_len, tyV, (vmA), Nat.reduceEqDiff, reduceIte, Nat.reduceAdd, Int.reduceToNat, Int.reduceLE, Int.reduceLT, Int.reduceEq, Int.reduceNe, Int.reduceAdd, Int.reduceSub, Int.reduceNeg, Nat.reduceLT, Nat.reduceLeDiff, Nat.reduceBEq, undef, (stA), Nat.reduceMul]; try simp (disch := omega) only [(vmp)])
   exact tysV_low _ _
  ·(simp only [h, hg, ha, clsV_len, (vmA), Nat.reduceEqDiff, reduceIte, Nat.reduceAdd, Int.reduceToNat, Int.reduceLE, Int.reduceLT, Int.reduceEq, Int.reduceNe, Int.reduceAdd, Int.reduceSub, Int.reduceNeg, Nat.reduceLT, Nat.reduceLeDiff, Nat.reduceBEq, undef, (stA), Nat.reduceMul]; try simp (disch := omega) only [(vmp)])
   exact ⟨(i + 1, junk ++ [.arr 33 [.str a, .str b, .str c, .sl (tysV cs)] 0 0]), ⟨by simp only; omega, k2 (fun hh => ha hh.symm)⟩, by simp only; omega, rfl, rfl⟩
 ·have hie : i = l.length := by omega
  subst hie
  rw [List.take_of_length_le (Nat.le_refl _)] at hno
  unfold ofV
  rw [hno]
  (simp only [h, (vmA), Nat.reduceEqDiff, reduceIte, Nat.reduceAdd, Int.reduceToNat, Int.reduceLE, Int.reduceLT, Int.reduceEq, Int.reduceNe, Int.reduceAdd, Int.reduceSub, Int.reduceNeg, Nat.reduceLT, Nat.reduceLeDiff, Nat.reduceBEq, undef, (stA), Nat.reduceMul]; try simp (disch := omega) only [(vmp)])
def PR (t : Tr) : Prop := ∀ (s : List Cl) (σ : List Ent), lenC s → okT t → ACalls E 21 [.sl (clsV s), tyV t] σ fun r τ => r = tyV (putT s t) ∧ τ = σ
set_option maxHeartbeats 8000000 in
theorem Put_step (d n : List UInt8) (us : List Tr) (ih : ∀ u ∈ us, PR u) : PR (.mk d n us) := by
 intro s σ hs hl
 obtain ⟨hfew, hdn⟩ := okT_down d n us hl
 have hof := fun σ' => of_ok s hs n σ'
 refine xacalls T0 .freeze [] Tryz.func21 rfl (by kernel_rfl) (by kernel_rfl) (by simp [Tryz.ntmps21]) ?_
 unfold ofV at hof
 obtain ⟨EE, hEE⟩ : ∃ EE, (∃ d2 n2 us2, Sub'.look s n = some (.mk d2 n2 us2) ∧ ¬ d = kiVar ∧ EE = Ent.arr 24 [.str d2, .str n2, .sl (tysV us2)] 0 0) ∨ (Sub'.look s n = none ∧ EE = Ent.arr 24 [.str [], .str [], .v (.slice none 0 0)] 0 0) ∨ (∃ d2 n2 us2, Sub'.look s n = some (.mk d2 n2 us2) ∧ d = kiVar) := by
  rcases hlk : Sub'.look s n with _ | ⟨d2, n2, us2⟩
  ·exact ⟨_, .inr (.inl ⟨rfl, rfl⟩)⟩
  ·by_cases hd : d = kiVar
   ·exact ⟨.arr 0 [] 0 0, .inr (.inr ⟨d2, n2, us2, rfl, hd⟩)⟩
   ·exact ⟨_, .inl ⟨d2, n2, us2, rfl, hd, rfl⟩⟩
 rw [← or_assoc] at hEE
 rcases hEE with hEE | ⟨d2, n2, us2, hlk, hd⟩
 rotate_left
 ·have t1 : (d = [118, 97, 114]) = True := eq_true hd
  have heq : putT s (.mk d n us) = .mk d2 n2 us2 := by unfold putT; rw [if_pos ⟨hd, by rw [hlk]; rfl⟩, hlk]; rfl
  rw [heq]
  simp only [hlk, tyV] at hof
  (simp only [tyV, tysV_len, (vmA), Nat.reduceEqDiff, reduceIte, Nat.reduceAdd, Int.reduceToNat, Int.reduceLE, Int.reduceLT, Int.reduceEq, Int.reduceNe, Int.reduceAdd, Int.reduceSub, Int.reduceNeg, Nat.reduceLT, Nat.reduceLeDiff, Nat.reduceBEq, undef, (stA), Nat.reduceMul]; try simp (disch := omega) only [(vmp)])
  refine xWait.go (hof _) ?_
  (simp only [t1, (vmA), Nat.reduceEqDiff, reduceIte, Nat.reduceAdd, Int.reduceToNat, Int.reduceLE, Int.reduceLT, Int.reduceEq, Int.reduceNe, Int.reduceAdd, Int.reduceSub, Int.reduceNeg, Nat.reduceLT, Nat.reduceLeDiff, Nat.reduceBEq, undef, (stA), Nat.reduceMul]; try simp (disch := omega) only [(vmp)])
  exact ⟨_, .refl _, by simp only [AV.low, AV.low.lows, tysV_low, Bool.and_self], rfl⟩
 have heq : putT s (.mk d n us) = .mk d n (putTs s us) := by
  unfold putT
  rcases hEE with ⟨d2, n2, us2, hlk, n1, _⟩ | ⟨hlk, _⟩
  ·rw [if_neg (fun h => n1 h.1)]
  ·rw [if_neg (fun h => by rw [hlk] at h; cases h.2)]
 rw [heq]
 rcases hEE with ⟨d2, n2, us2, hlk, n1, hEE⟩ | ⟨hlk, hEE⟩
 rotate_left
 simp only [hlk] at hof
 (simp only [tyV, tysV_len, (vmA), Nat.reduceEqDiff, reduceIte, Nat.reduceAdd, Int.reduceToNat, Int.reduceLE, Int.reduceLT, Int.reduceEq, Int.reduceNe, Int.reduceAdd, Int.reduceSub, Int.reduceNeg, Nat.reduceLT, Nat.reduceLeDiff, Nat.reduceBEq, undef, (stA), Nat.reduceMul]; try simp (disch := omega) only [(vmp)])
 refine xWait.go (hof _) ?_
 (simp only [tysV_len, (vmA), Nat.reduceEqDiff, reduceIte, Nat.reduceAdd, Int.reduceToNat, Int.reduceLE, Int.reduceLT, Int.reduceEq, Int.reduceNe, Int.reduceAdd, Int.reduceSub, Int.reduceNeg, Nat.reduceLT, Nat.reduceLeDiff, Nat.reduceBEq, undef, (stA), Nat.reduceMul]; try simp (disch := omega) only [(vmp)])
 rotate_left
 have n1 : ¬ d = [118, 97, 114] := n1
 simp only [hlk, tyV] at hof
 (simp only [tyV, tysV_len, (vmA), Nat.reduceEqDiff, reduceIte, Nat.reduceAdd, Int.reduceToNat, Int.reduceLE, Int.reduceLT, Int.reduceEq, Int.reduceNe, Int.reduceAdd, Int.reduceSub, Int.reduceNeg, Nat.reduceLT, Nat.reduceLeDiff, Nat.reduceBEq, undef, (stA), Nat.reduceMul]; try simp (disch := omega) only [(vmp)])
 refine xWait.go (hof _) ?_
 (simp only [n1, tysV_len, (vmA), Nat.reduceEqDiff, reduceIte, Nat.reduceAdd, Int.reduceToNat, Int.reduceLE, Int.reduceLT, Int.reduceEq, Int.reduceNe, Int.reduceAdd, Int.reduceSub, Int.reduceNeg, Nat.reduceLT, Nat.reduceLeDiff, Nat.reduceBEq, undef, (stA), Nat.reduceMul]; try simp (disch := omega) only [(vmp)])
 all_goals
  refine xloop (α := Nat × List Ent × Nat) T0 (fun x => [(0, .sl (clsV s)), (4, .ref (σ.length + 1) 0 0), (7, .ref (σ.length + 3) 0 0), (30, .sl (tysV us)), (31, i64 us.length), (32, i64 x.1)]) (fun _ => σ)
   (fun x => .arr 24 [.str d, .str n, .sl (tysV us)] 0 0 :: .arr 24 [.str [], .str [], .v (.slice none 0 0)] 0 0 :: EE :: .arr 24 [.str d, .str n, rowT (σ.length + (x.2.2 + 4)) (putTs s (us.take x.1))] 0 0 :: x.2.1)
   (fun x => x.1 ≤ us.length ∧ (putTs s (us.take x.1) ≠ [] → x.2.1[x.2.2]? = some (.arr 24 ((putTs s (us.take x.1)).flatMap tyCells) ((putTs s (us.take x.1)).length - 1) 0))) (fun x => us.length - x.1) (by kernel_rfl)
   ⟨(0, [], 0), ⟨by simp, by simp [putTs]⟩, by (simp only [(vmA), Nat.reduceEqDiff, reduceIte, Nat.reduceAdd, Int.reduceToNat, Int.reduceLE, Int.reduceLT, Int.reduceEq, Int.reduceNe, Int.reduceAdd, Int.reduceSub, Int.reduceNeg, Nat.reduceLT, Nat.reduceLeDiff, Nat.reduceBEq, undef, (stA), Nat.reduceMul, Int.natCast_zero]; try simp (disch := omega) only [(vmp)]), rfl, by subst hEE; simp only [List.take_zero, putTs, rowT]⟩ ?_
  rintro ⟨i, junk, rid⟩ ⟨hi, hrow⟩
  simp only at hi hrow
  have hal : (putTs s (us.take i)).length = i := by rw [putTs_map]; simp; omega
  by_cases h : (i : Int) < us.length
  ·have hi' : i < us.length := by omega
   have hu : us[i]? = some us[i] := List.getElem?_eq_getElem hi'
   obtain ⟨s1, s2⟩ := take_split us i _ hu
   have hmem : us[i] ∈ us := List.getElem_mem hi'
   generalize us[i] = u at *
   have hg := tysV_get hu
   have hc := fun σ' => ih u hmem s σ' hs (hdn u hmem)
   have hnext : putTs s (us.take (i + 1)) = putTs s (us.take i) ++ [putT s u] := by rw [s1, putTs_map, putTs_map]; simp
   rcases hr : putT s u with ⟨a3, b3, us3⟩
   rw [hr] at hnext
   simp only [hr] at hc
   cases u with
   | mk d4 n4 us4 =>
   simp only [tyV] at hg hc
   (simp only [h, hg, tysV_len, (vmA), Nat.reduceEqDiff, reduceIte, Nat.reduceAdd, Int.reduceToNat, Int.reduceLE, Int.reduceLT, Int.reduceEq, Int.reduceNe, Int.reduceAdd, Int.reduceSub, Int.reduceNeg, Nat.reduceLT, Nat.reduceLeDiff, Nat.reduceBEq, undef, (stA), Nat.reduceMul]; try simp (disch := omega) only [(vmp)])
   refine ydraw T0 [6, 8] (by kernel_rfl) (by kernel_rfl) (by kernel_rfl) (by kernel_rfl) ?_
   (simp only [(vmA), Nat.reduceEqDiff, reduceIte, Nat.reduceAdd, Int.reduceToNat, Int.reduceLE, Int.reduceLT, Int.reduceEq, Int.reduceNe, Int.reduceAdd, Int.reduceSub, Int.reduceNeg, Nat.reduceLT, Nat.reduceLeDiff, Nat.reduceBEq, undef, (stA), Nat.reduceMul]; try simp (disch := omega) only [(vmp)])
   refine yNext.go (by rfl) _ rfl (hc _) ?_
   generalize hacc : putTs s (us.take i) = acc at *
   rcases acc with _ | ⟨b0, r0⟩
   ·(simp only [rowT, (vmA), Nat.reduceEqDiff, reduceIte, Nat.reduceAdd, Int.reduceToNat, Int.reduceLE, Int.reduceLT, Int.reduceEq, Int.reduceNe, Int.reduceAdd, Int.reduceSub, Int.reduceNeg, Nat.reduceLT, Nat.reduceLeDiff, Nat.reduceBEq, undef, (stA), Nat.reduceMul]; try simp (disch := omega) only [(vmp)])
    refine ⟨by unfold maxRoom; omega, (i + 1, junk ++ [.arr 24 [.str d4, .str n4, .sl (tysV us4)] 0 0, .arr 24 [.str a3, .str b3, .sl (tysV us3)] 0 0], junk.length + 1), ⟨by simp only; omega, fun _ => ?_⟩, by simp only; omega, rfl, ?_⟩
    ·simp only [hnext]; simp [tyCells]
    ·simp only [hnext, List.nil_append, rowT, List.length_nil, List.append_assoc, List.cons_append, Nat.add_assoc]
     try rfl
   ·have h5 : ∀ e, (junk ++ [e])[rid]? = some (.arr 24 ((b0 :: r0).flatMap tyCells) ((b0 :: r0).length - 1) 0) := fun e => get_old (hrow (by simp))
    have e0 : (tyCells b0).length = 3 := by cases b0; rfl
    have hf0 : (List.flatMap tyCells r0).length = r0.length * 3 := tyCells_len r0
    simp only [List.length_cons] at hal
    (simp only [rowT, h5, (vmA), Nat.reduceEqDiff, reduceIte, Nat.reduceAdd, Int.reduceToNat, Int.reduceLE, Int.reduceLT, Int.reduceEq, Int.reduceNe, Int.reduceAdd, Int.reduceSub, Int.reduceNeg, Nat.reduceLT, Nat.reduceLeDiff, Nat.reduceBEq, undef, (stA), Nat.reduceMul]; try simp (disch := omega) only [(vmp)])
    refine ⟨⟨by omega, by omega, by omega, by unfold maxRoom; omega, by unfold maxRoom; omega⟩, ?_⟩
    refine ⟨(i + 1, (junk ++ [Ent.arr 24 [AV.str d4, AV.str n4, AV.sl (tysV us4)] 0 0]).set rid (Ent.arr 24 (tyCells b0 ++ (List.flatMap tyCells r0 ++ [AV.str a3, AV.str b3, AV.sl (tysV us3)])) (r0.length + 1 - 1 + 1) 0), rid), ⟨by simp only; omega, fun _ => ?_⟩, by simp only; omega, rfl, ?_⟩
    ·simp only [hnext]
     rw [get_set_self (h5 _)]
     simp [tyCells]
    ·simp only [hnext, rowT, List.cons_append, List.length_append, List.length_cons, List.length_nil]
     try rfl
  ·have hie : i = us.length := by omega
   subst hie
   rw [List.take_of_length_le (Nat.le_refl _)] at hrow
   have hpl : (putTs s us).length = us.length := by rw [putTs_map, List.length_map]
   (simp only [h, List.take_of_length_le (Nat.le_refl _), (vmA), Nat.reduceEqDiff, reduceIte, Nat.reduceAdd, Int.reduceToNat, Int.reduceLE, Int.reduceLT, Int.reduceEq, Int.reduceNe, Int.reduceAdd, Int.reduceSub, Int.reduceNeg, Nat.reduceLT, Nat.reduceLeDiff, Nat.reduceBEq, undef, (stA), Nat.reduceMul]; try simp (disch := omega) only [(vmp)])
   generalize putTs s us = ps at *
   rcases ps with _ | ⟨u0, ur⟩
   ·(simp only [rowT, (vmA), Nat.reduceEqDiff, reduceIte, Nat.reduceAdd, Int.reduceToNat, Int.reduceLE, Int.reduceLT, Int.reduceEq, Int.reduceNe, Int.reduceAdd, Int.reduceSub, Int.reduceNeg, Nat.reduceLT, Nat.reduceLeDiff, Nat.reduceBEq, undef, (stA), Nat.reduceMul]; try simp (disch := omega) only [(vmp)])
    exact ⟨_, .agg (.cons (.refl _) (.cons (.refl _) (.cons .none .nil))), by simp only [AV.low, AV.low.lows, Bool.and_self], by simp only [tysV]⟩
   ·have hr := hrow (by simp)
    simp only [List.length_cons] at hr
    (simp only [rowT, (vmA), Nat.reduceEqDiff, reduceIte, Nat.reduceAdd, Int.reduceToNat, Int.reduceLE, Int.reduceLT, Int.reduceEq, Int.reduceNe, Int.reduceAdd, Int.reduceSub, Int.reduceNeg, Nat.reduceLT, Nat.reduceLeDiff, Nat.reduceBEq, undef, (stA), Nat.reduceMul]; try simp (disch := omega) only [(vmp)])
    have hf0 := tyCells_len (u0 :: ur)
    refine ⟨_, .agg (.cons (.refl _) (.cons (.refl _) (.cons (.rsl (ty := 24) (ver := ur.length) (imm := 0) (ag := true) (cells := (u0 :: ur).flatMap tyCells) (es := tysV (u0 :: ur)) (es' := tysV (u0 :: ur)) (by omega) ?_ (by rw [List.drop_zero, tysV_cells]) (by omega) (by rw [tysV_len]; rfl) (by omega) (fun e he => by rw [tysV_map] at he; obtain ⟨x, _, rfl⟩ := List.mem_map.1 he; exact tyV_el x) FrzL.refl) .nil))), by simp only [AV.low, AV.low.lows, tysV_low, Bool.and_self], rfl⟩
    rw [Nat.add_sub_cancel_left]
    simpa using hr
theorem Put_ok : ∀ (m : Nat) (t : Tr), SizeOf.sizeOf t ≤ m → PR t
 | 0, .mk d n us, h => by simp at h
 | m + 1, .mk d n us, h => Put_step d n us fun u hu => Put_ok m u (by
   have := List.sizeOf_lt_of_mem hu
   simp at h; omega)
end Go.D
namespace Go.D
open Go Go.Vm Go.Proofs Go.RowKit
end Go.D
namespace Go.D
open Go Go.Vm Go.Proofs Go.RowKit
theorem satS_bd : ∀ (l : List (Int × Int)) (o : Int × Int), 1 ≤ o.1 → o.1 ≤ 2001 → (∀ s ∈ l, 1 ≤ s.1 ∧ s.1 ≤ 2001) → o.1 ≤ (satS o l).1 ∧ (satS o l).1 ≤ 2001
 | [], o, h1, h2, _ => ⟨Int.le_refl _, h2⟩
 | s :: r, o, h1, h2, h3 => by
  obtain ⟨a1, a2⟩ := h3 s (by simp)
  have e : wr (o.1 + s.1) = o.1 + s.1 := wrapI64 (by omega) (by omega)
  unfold satS
  rw [e]
  obtain ⟨b1, b2⟩ := satS_bd r (min (o.1 + s.1) 2001, max o.2 (wr (s.2 + 1))) (by simp only; omega) (by simp only; omega) fun s hs => h3 s (by simp [hs])
  simp only at b1
  exact ⟨by omega, b2⟩
mutual
theorem satT_bd : ∀ t : Tr, 1 ≤ (satT t).1 ∧ (satT t).1 ≤ 2001
 | .mk d n us => by
  have := satS_bd (satTs us) (1, 1) (by simp) (by simp) (satTs_bd us)
  unfold satT
  simp only at this
  exact ⟨by omega, this.2⟩
theorem satTs_bd : ∀ (l : List Tr), ∀ s ∈ satTs l, 1 ≤ s.1 ∧ s.1 ≤ 2001
 | [], s, h => by simp [satTs] at h
 | t :: ts, s, h => by
  rw [satTs] at h
  rcases List.mem_cons.1 h with rfl | h
  ·exact satT_bd t
  ·exact satTs_bd ts s h
end
theorem satS_of : ∀ (l k : List (Int × Int)) (o o' : Int × Int), l.length = k.length → (∀ (i : Nat) (s s' : Int × Int), l[i]? = some s → k[i]? = some s' → s.2 = s'.2 ∧ (s.1 ≤ 2000 → s.1 = s'.1)) → (∀ s ∈ l, 1 ≤ s.1 ∧ s.1 ≤ 2001) → 1 ≤ o.1 → o.1 ≤ 2001 → o.2 = o'.2 → (o.1 ≤ 2000 → o.1 = o'.1) →
  (satS o l).2 = (aboveS o' k).2 ∧ ((satS o l).1 ≤ 2000 → (satS o l).1 = (aboveS o' k).1)
 | [], [], o, o', _, _, _, _, _, h1, h2 => ⟨h1, h2⟩
 | [], _ :: _, _, _, h, _, _, _, _, _, _ => by simp at h
 | _ :: _, [], _, _, h, _, _, _, _, _, _ => by simp at h
 | s :: r, s' :: r', o, o', hl, hs, hb, o1, o2, h1, h2 => by
  obtain ⟨c1, c2⟩ := hs 0 s s' rfl rfl
  obtain ⟨a1, a2⟩ := hb s (by simp)
  have e : wr (o.1 + s.1) = o.1 + s.1 := wrapI64 (by omega) (by omega)
  unfold satS aboveS
  rw [e]
  refine satS_of r r' _ _ (by simpa using hl) (fun i a b ha hb' => hs (i + 1) a b (by simpa using ha) (by simpa using hb')) (fun s hs => hb s (by simp [hs])) (by simp only; omega) (by simp only; omega) (by simp only [h1, c1]) fun hm => ?_
  simp only at hm ⊢
  have o3 := h2 (by omega)
  have o4 := c2 (by omega)
  rw [← o3, ← o4, e]; omega
theorem satT_of : ∀ (m : Nat) (t : Tr), SizeOf.sizeOf t ≤ m → (satT t).2 = (ofT t).2 ∧ ((satT t).1 ≤ 2000 → (satT t).1 = (ofT t).1)
 | 0, .mk d n us, h => by simp at h
 | m + 1, .mk d n us, h => by
  unfold satT ofT
  refine satS_of _ _ (1, 1) (1, 1) (by rw [satTs_map, ofTs_map]; simp) (fun i s s' h1 h2 => ?_) (satTs_bd us) (by simp) (by simp) rfl fun _ => rfl
  rw [satTs_map, List.getElem?_map, Option.map_eq_some_iff] at h1
  rw [ofTs_map, List.getElem?_map, Option.map_eq_some_iff] at h2
  obtain ⟨u, hu, rfl⟩ := h1
  obtain ⟨u', hu', rfl⟩ := h2
  rw [hu] at hu'; cases hu'
  have := List.sizeOf_lt_of_mem (List.mem_of_getElem? hu)
  exact satT_of m u (by simp at h; omega)
theorem fits_sat {t : Tr} (h : fitsB (satT t) = true) : fitsB (ofT t) = true := by
 obtain ⟨h1, h2⟩ := satT_of _ t (Nat.le_refl _)
 unfold fitsB at *
 simp only [Bool.and_eq_true, decide_eq_true_eq] at *
 have := h2 h.1
 omega
theorem resC_mem {f : List UInt8 → Tr} {l : List (List UInt8)} {c : Cl} (h : c ∈ resC f l) : c.1 ∈ l ∧ c.2 = f c.1 ∧ ¬ f c.1 = vT c.1 ∧ fitsB (satT (f c.1)) = true := by
 obtain ⟨n, hn, rfl⟩ := List.mem_map.1 h
 obtain ⟨h1, h2⟩ := List.mem_filter.1 hn
 simp only [Bool.and_eq_true, decide_eq_true_eq] at h2
 exact ⟨h1, rfl, h2.1, h2.2⟩
theorem resC_asc {f : List UInt8 → Tr} {l : List (List UInt8)} (h : l.Pairwise (· < ·)) : ascC (resC f l) := by
 unfold resC ascC
 exact List.pairwise_map.2 (h.filter _)
theorem resC_look {f : List UInt8 → Tr} : ∀ {l : List (List UInt8)}, resN f l = false → ∀ n, Sub'.look (resC f l) n = if n ∈ l ∧ ¬ f n = vT n then some (f n) else none
 | [], _, n => by simp [resC, Sub'.look]
 | a :: r, h, n => by
  unfold resN at h
  rw [List.any_cons, Bool.or_eq_false_iff] at h
  have ih := resC_look (f := f) (l := r) h.2 n
  unfold resC at ih ⊢
  rw [List.filter_cons]
  by_cases ha : f a = vT a
  ·rw [if_neg (by simp [ha]), ih]
   by_cases e : n = a
   ·subst e; simp [ha]
   ·simp [e]
  ·have hf : fitsB (satT (f a)) = true := by
    have := h.1
    simp only [Bool.and_eq_false_iff, decide_eq_false_iff_not] at this
    rcases this with h1 | h1
    ·exact absurd ha h1
    ·simpa using h1
   rw [if_pos (by simp [ha, hf]), List.map_cons]
   unfold Sub'.look
   by_cases e : n = a
   ·subst e; simp [ha]
   ·simp only [e, if_false]
    rw [ih]
    simp [e]
theorem mgu_look {ps : List (Tr × Tr)} {f : List UInt8 → Tr} (hf : Mgu ps f) (h : resN f (lets) = false) (n : List UInt8) : (Sub'.look (resC f (lets)) n).getD (vT n) = f n := by
 rw [resC_look h]
 by_cases hn : f n = vT n
 ·rw [if_neg (fun e => e.2 hn), hn]; rfl
 ·rcases hf.ok n with h1 | ⟨h1, _⟩
  ·exact absurd h1 hn
  ·rw [if_pos ⟨lets_mem.2 h1, hn⟩]; rfl
mutual
theorem putT_putF {s : List Cl} {f : List UInt8 → Tr} (h : ∀ n, (Sub'.look s n).getD (vT n) = f n) : ∀ t : Tr, typeB conB t = true → putT s t = putF f t
 | .mk d n us, hb => by
  by_cases hd : d = kiVar
  ·subst hd
   obtain ⟨rfl, _⟩ := vT_args hb
   show putT s (vT n) = putF f (vT n)
   rw [put_vT, putF_vT, h]
  ·rw [put_non hd, putF_non hd]
   simp only [typeB, Bool.and_eq_true] at hb
   rw [putTs_putFs h us hb.2.2.2.2]
theorem putTs_putFs {s : List Cl} {f : List UInt8 → Tr} (h : ∀ n, (Sub'.look s n).getD (vT n) = f n) : ∀ l : List Tr, typeBs conB l = true → putTs s l = putFs f l
 | [], _ => rfl
 | t :: ts, hb => by
  simp only [typeBs, Bool.and_eq_true] at hb
  rw [putTs, putFs, putT_putF h t hb.1, putTs_putFs h ts hb.2]
end
theorem mgu_sub {ps : List (Tr × Tr)} {f : List UInt8 → Tr} (hf : Mgu ps f) : substB (resC f (lets)) = true ∧ lenC (resC f (lets)) ∧ ∀ c ∈ resC f (lets), ¬ c.2 = vT c.1 ∧ okT c.2 := by
 have hok : ∀ c ∈ resC f (lets), varB c.1 = true ∧ okT c.2 ∧ fitsB (satT c.2) = true ∧ ¬ c.2 = vT c.1 := fun c hc => by
  obtain ⟨h1, h2, h3, h4⟩ := resC_mem hc
  rcases hf.ok c.1 with h5 | ⟨_, h5⟩
  ·exact absurd h5 h3
  ·rw [h2]; exact ⟨lets_mem.1 h1, h5, h4, h3⟩
 refine ⟨asc_subst (resC_asc lets_asc) fun c hc => ?_, ⟨?_, fun c hc => ?_⟩, fun c hc => ⟨(hok c hc).2.2.2, (hok c hc).2.1⟩⟩
 ·obtain ⟨h1, h2, h3, _⟩ := hok c hc
  refine ⟨h1, ?_⟩
  unfold validT
  rw [h2.2, fits_sat h3]; rfl
 ·have := resC_len f (lets)
  rw [lets_len] at this
  omega
 ·obtain ⟨h1, h2, _⟩ := hok c hc
  refine ⟨?_, h2.1⟩
  obtain ⟨b, hb, _⟩ := varB_shape h1
  rw [hb]; simp
end Go.D
namespace Go.D
open Go Go.Vm Go.Proofs Go.RowKit
theorem uinv_push {X : Nat → Prop} {gid v z : Nat} {S : List Ent} {es : List MEnt} {clock : Nat} {Ps : List (Nat × AN)} {L : Lk} {ps : List (Tr × Tr)} (h : UInv X gid v z S es clock Ps L ps) (l : List Ent) : UInv X gid v z (S ++ l) es clock Ps L ps :=
 ⟨h.ok.push l fun _ _ h => h, get_olds h.hz l, h.vz, h.ended, h.inv, h.dir, h.done, h.gen⟩
def UOwn (σ K : List Ent) (gi vi zi : Nat) (ps : List (Tr × Tr)) : Prop := ∃ es clock Ps L, UInv (fun q => q < σ.length) (σ.length + gi) (σ.length + vi) (σ.length + zi) (σ ++ K) es clock Ps L ps
def plainE (x : Ent) : Prop := (∀ d n a l, ¬ x = nodeE d n a l) ∧ ∀ es c, ¬ x = .map es c
theorem pair_step {σ K : List Ent} {gi vi zi : Nat} {ps : List (Tr × Tr)} (h : UOwn σ K gi vi zi ps) (x : Ent) (hx : plainE x) {a b : Tr} (ha : okT a) (hb : okT b) (gv : AV) :
  ∃ pa pb K2 K3 K4 ok, K2[K.length]? = some x ∧ K3[K.length]? = some x ∧ K4[K.length]? = some x ∧
   (ACalls E 56 [.ref (σ.length + gi) 0 0, tyV a] (σ ++ (K ++ [x])) fun r τ => r = .ref pa 0 0 ∧ τ = σ ++ K2) ∧
   (ACalls E 56 [.ref (σ.length + gi) 0 0, tyV b] (σ ++ K2) fun r τ => r = .ref pb 0 0 ∧ τ = σ ++ K3) ∧
   (ACalls E 55 [gv, .ref pa 0 0, .ref pb 0 0] (σ ++ K3) fun r τ => r = boolV ok ∧ τ = σ ++ K4) ∧
   (ok = true → UOwn σ K4 gi vi zi (ps ++ [(a, b)])) ∧ (ok = false → ∀ θ, ¬ Unif (ps ++ [(a, b)]) θ) := by
 obtain ⟨es, clock, Ps, L, h⟩ := h
 have h1 := uinv_push h [x]
 rw [List.append_assoc] at h1
 have vK : vi < K.length := by
  have := lt_of_get h.ok.hv
  rw [List.length_append] at this; omega
 obtain ⟨pa, es1, c1, N1, Q1, i1, l1, m1, x1, call1⟩ := uinv_node h1 (fun q hq => by rw [List.length_append]; omega) ha
 have e2 : (σ ++ (K ++ [x])).set (σ.length + vi) (.map es1 c1) ++ N1 = σ ++ ((K ++ [x]).set vi (.map es1 c1) ++ N1) := by
  rw [List.set_append_right _ _ (by omega), Nat.add_sub_cancel_left, List.append_assoc]
 rw [e2] at i1 call1
 have k2 : ((K ++ [x]).set vi (.map es1 c1) ++ N1)[K.length]? = some x := get_olds (by rw [get_set_ne (by omega), List.getElem?_append_right (Nat.le_refl _), Nat.sub_self]; rfl) _
 have v2 : vi < ((K ++ [x]).set vi (.map es1 c1) ++ N1).length := by simp; omega
 generalize (K ++ [x]).set vi (.map es1 c1) ++ N1 = K2 at *
 obtain ⟨pb, es2, c2, N2, Q2, i2, l2, m2, x2, call2⟩ := uinv_node i1 (fun q hq => by rw [List.length_append]; omega) hb
 have e3 : (σ ++ K2).set (σ.length + vi) (.map es2 c2) ++ N2 = σ ++ (K2.set vi (.map es2 c2) ++ N2) := by
  rw [List.set_append_right _ _ (by omega), Nat.add_sub_cancel_left, List.append_assoc]
 rw [e3] at i2 call2
 have k3 : (K2.set vi (.map es2 c2) ++ N2)[K.length]? = some x := get_olds (by rw [get_set_ne (by omega)]; exact k2) _
 generalize K2.set vi (.map es2 c2) ++ N2 = K3 at *
 have hmo : ∀ p x, glook (Ps ++ Q1) p = some x → glook (Ps ++ Q1 ++ Q2) p = some x := fun p x hp => glook_old _ hp
 obtain ⟨ok, τ, L', C, hl, fr, ht, hf⟩ := uinv_unify i2 (laid_mono hmo m2 _ _ l1) l2 (x1.imp fun _ => hmo _ _) x2 gv
 have hlow : ∀ j, j < σ.length → glook (Ps ++ Q1 ++ Q2) j = none := fun j hj => by
  cases hq : glook (Ps ++ Q1 ++ Q2) j with
  | none => rfl
  | some y => exact absurd hj (i2.ok.nodes j y hq).1
 have hxn : glook (Ps ++ Q1 ++ Q2) (σ.length + K.length) = none := by
  cases hq : glook (Ps ++ Q1 ++ Q2) (σ.length + K.length) with
  | none => rfl
  | some y =>
   obtain ⟨_, w, h1, _⟩ := i2.ok.nodes _ y hq
   rw [List.getElem?_append_right (by omega), Nat.add_sub_cancel_left, k3] at h1
   cases h1
   exact absurd rfl (hx.1 _ _ _ _)
 have hτ1 : τ.take σ.length = σ := by
  refine List.ext_getElem? fun j => ?_
  rw [List.getElem?_take]
  split
  ·rename_i hj
   rw [fr j (hlow j hj), List.getElem?_append_left hj]
  ·rw [List.getElem?_eq_none (by omega)]
 have hτ2 : τ = σ ++ τ.drop σ.length := by
  conv => lhs; rw [← List.take_append_drop σ.length τ, hτ1]
 have hat : (τ.drop σ.length)[K.length]? = some x := by
  rw [List.getElem?_drop, fr _ hxn, List.getElem?_append_right (by omega), Nat.add_sub_cancel_left]; exact k3
 refine ⟨pa, pb, K2, K3, τ.drop σ.length, ok, k2, k3, hat, call1, call2, ?_, fun e => ⟨_, _, _, _, by rw [← hτ2]; exact ht e⟩, hf⟩
 rw [← hτ2]; exact C
theorem uown_nil (σ J : List Ent) : UOwn σ (J ++ [.map [] 0, .map [] 0, graE (σ.length + J.length) (σ.length + (J.length + 1))]) (J.length + 2) J.length (J.length + 1) [] := by
 refine ⟨[], 0, [], noL, uinv_nil ?_ ?_ ?_ (by omega) (by omega) (by omega)⟩
 ·rw [List.getElem?_append_right (by omega), Nat.add_sub_cancel_left, List.getElem?_append_right (by omega), Nat.add_sub_cancel_left]; rfl
 ·rw [List.getElem?_append_right (by omega), Nat.add_sub_cancel_left, List.getElem?_append_right (by omega), Nat.sub_self]; rfl
 ·rw [List.getElem?_append_right (by omega), Nat.add_sub_cancel_left, List.getElem?_append_right (by omega), Nat.add_sub_cancel_left]; rfl
theorem uniR_run : ∀ (rest done : List (Tr × Tr)) (σ K : List Ent) (gi vi zi : Nat), UOwn σ K gi vi zi done → (∀ c ∈ rest, okT c.1 ∧ okT c.2) → ∃ u, UniR (done ++ rest) u
 | [], done, _, _, _, _, _, ⟨_, _, _, _, h⟩, _ => by rw [List.append_nil]; exact uinv_ex h
 | c :: r, done, σ, K, gi, vi, zi, h, hok => by
  obtain ⟨pa, pb, K2, K3, K4, ok, _, _, _, _, _, _, ht, hf⟩ := pair_step h (.iter none 0 [] 0) ⟨fun _ _ _ _ e => by simp [nodeE] at e, fun _ _ e => by cases e⟩ (hok c (by simp)).1 (hok c (by simp)).2 nilP
  cases ok
  ·exact ⟨([], 5), .inl ⟨rfl, fun θ hθ => hf rfl θ fun d hd => hθ d (by
    rcases List.mem_append.1 hd with hd | hd
    ·simp [hd]
    ·rw [List.mem_singleton.1 hd]; simp)⟩⟩
  ·have := uniR_run r (done ++ [c]) σ K4 gi vi zi (ht rfl) fun d hd => hok d (by simp [hd])
   rw [List.append_assoc] at this
   exact this
theorem uniR_ex (ps : List (Tr × Tr)) (h : ∀ c ∈ ps, okT c.1 ∧ okT c.2) : ∃ u, UniR ps u := uniR_run ps [] [] _ _ _ _ (uown_nil [] []) h
end Go.D
