/- The variables and datatypes of a type, whether it is closed and plain, its depth: by the document. -/
import Derived.Test.YtoobkfjkohadnaaGreatDoorFnH
import Derived.Test.YtoobkfjkohadnaaGreatDoorFnI
import Derived.Test.YtoobkfjkohadnaaGreatDoorFnE
import Derived.Test.YtoobkfjkohadnaaGreatDoorFnC
import Derived.Test.YtoobkfjkohadnaaGreatDoorFnG
set_option linter.unusedVariables false
set_option linter.unusedSimpArgs false
set_option linter.unnecessarySimpa false
set_option maxRecDepth 100000
namespace Go.D
open Go Go.Vm Go.Proofs Go.RowKit
mutual
def colT (k : List UInt8) : Tr → List (List UInt8) → List (List UInt8)
 | .mk d n us, acc => if d = k then putS acc n else colTs k us acc
def colTs (k : List UInt8) : List Tr → List (List UInt8) → List (List UInt8)
 | [], acc => acc
 | t :: ts, acc => colTs k ts (colT k t acc)
end
mutual
def hasN (k x : List UInt8) : Tr → Prop
 | .mk d n us => if d = k then x = n else hasNs k x us
def hasNs (k x : List UInt8) : List Tr → Prop
 | [] => False
 | t :: ts => hasN k x t ∨ hasNs k x ts
end
theorem colTs_app (k : List UInt8) : ∀ (a b : List Tr) (acc : List (List UInt8)), colTs k (a ++ b) acc = colTs k b (colTs k a acc)
 | [], b, acc => rfl
 | t :: a, b, acc => by simp only [List.cons_append, colTs]; exact colTs_app k a b _
mutual
theorem col_mem (k x : List UInt8) : ∀ (t : Tr) (acc : List (List UInt8)), x ∈ colT k t acc ↔ hasN k x t ∨ x ∈ acc
 | .mk d n us, acc => by
  unfold colT hasN
  split
  ·exact putS_mem
  ·exact col_mems k x us acc
theorem col_mems (k x : List UInt8) : ∀ (l : List Tr) (acc : List (List UInt8)), x ∈ colTs k l acc ↔ hasNs k x l ∨ x ∈ acc
 | [], acc => by simp [colTs, hasNs]
 | t :: ts, acc => by
  simp only [colTs, hasNs]
  rw [col_mems k x ts, col_mem k x t, or_left_comm, or_assoc]
end
mutual
theorem col_len (k : List UInt8) : ∀ (t : Tr) (acc : List (List UInt8)), (colT k t acc).length ≤ acc.length + cntT t
 | .mk d n us, acc => by
  unfold colT
  simp only [cntT]
  split
  ·have := putS_len n acc; omega
  ·have := col_lens k us acc; omega
theorem col_lens (k : List UInt8) : ∀ (l : List Tr) (acc : List (List UInt8)), (colTs k l acc).length ≤ acc.length + cntTs l
 | [], acc => by simp [colTs]
 | t :: ts, acc => by
  simp only [colTs, cntTs]
  have := col_len k t acc
  have := col_lens k ts (colT k t acc)
  omega
end
theorem cntTs_app2 : ∀ a b : List Tr, cntTs (a ++ b) = cntTs a + cntTs b
 | [], b => by simp [cntTs]
 | t :: a, b => by simp only [List.cons_append, cntTs, cntTs_app2 a b]; omega
def KVars (t : Tr) : Prop := ∀ (acc : List (List UInt8)) (σ : List Ent), okT t → acc.length + cntT t ≤ 2097152 → ACalls E 66 [tyV t, .sl (strsV acc)] σ fun r τ => r = .sl (strsV (colT kiVar t acc)) ∧ τ = σ
set_option maxHeartbeats 4000000 in
theorem vars_step (d n : List UInt8) (us : List Tr) (ih : ∀ u ∈ us, KVars u) : KVars (.mk d n us) := by
 intro acc σ hl hac
 obtain ⟨hfew, hdn⟩ := okT_down d n us hl
 simp only [cntT] at hac
 refine xacalls T0 .freeze [] Tryz.func66 rfl (by kernel_rfl) (by kernel_rfl) (by simp [Tryz.ntmps66]) ?_
 by_cases hd : d = kiVar
 ·have t1 : (d = [118, 97, 114]) = True := eq_true hd
  unfold colT
  rw [if_pos hd]
  (simp only [tyV, t1, (vmA), Nat.reduceEqDiff, reduceIte, Nat.reduceAdd, Int.reduceToNat, Int.reduceLE, Int.reduceLT, Int.reduceEq, Int.reduceNe, Int.reduceAdd, Int.reduceSub, Int.reduceNeg, Nat.reduceLT, Nat.reduceLeDiff, Nat.reduceBEq, undef, (stA), Nat.reduceMul]; try simp (disch := omega) only [(vmp)])
  refine xWait.go (PutT_ok acc n (by omega) _) ?_
  (simp only [(vmA), Nat.reduceEqDiff, reduceIte, Nat.reduceAdd, Int.reduceToNat, Int.reduceLE, Int.reduceLT, Int.reduceEq, Int.reduceNe, Int.reduceAdd, Int.reduceSub, Int.reduceNeg, Nat.reduceLT, Nat.reduceLeDiff, Nat.reduceBEq, undef, (stA), Nat.reduceMul]; try simp (disch := omega) only [(vmp)])
  exact ⟨_, .refl _, by simp only [AV.low]; exact strsV_low _ _, rfl⟩
 have n1 : ¬ d = [118, 97, 114] := hd
 unfold colT
 rw [if_neg hd]
 (simp only [tyV, n1, tysV_len, (vmA), Nat.reduceEqDiff, reduceIte, Nat.reduceAdd, Int.reduceToNat, Int.reduceLE, Int.reduceLT, Int.reduceEq, Int.reduceNe, Int.reduceAdd, Int.reduceSub, Int.reduceNeg, Nat.reduceLT, Nat.reduceLeDiff, Nat.reduceBEq, undef, (stA), Nat.reduceMul]; try simp (disch := omega) only [(vmp)])
 refine xloop (α := Nat × List Ent) T0 (fun x => [(1, .sl (strsV (colTs kiVar (us.take x.1) acc))), (15, .sl (tysV us)), (16, i64 us.length), (17, i64 x.1)]) (fun _ => σ)
  (fun x => .arr 24 [.str d, .str n, .sl (tysV us)] 0 0 :: x.2) (fun x => x.1 ≤ us.length) (fun x => us.length - x.1) (by kernel_rfl)
  ⟨(0, []), by simp, by (simp only [List.take_zero, colTs, (vmA), Nat.reduceEqDiff, reduceIte, Nat.reduceAdd, Int.reduceToNat, Int.reduceLE, Int.reduceLT, Int.reduceEq, Int.reduceNe, Int.reduceAdd, Int.reduceSub, Int.reduceNeg, Nat.reduceLT, Nat.reduceLeDiff, Nat.reduceBEq, undef, (stA), Nat.reduceMul, Int.natCast_zero]; try simp (disch := omega) only [(vmp)]), rfl, rfl⟩ ?_
 rintro ⟨i, junk⟩ hi
 simp only at hi
 by_cases h : (i : Int) < us.length
 ·have hi' : i < us.length := by omega
  have hu : us[i]? = some us[i] := List.getElem?_eq_getElem hi'
  have hmem : us[i] ∈ us := List.getElem_mem hi'
  obtain ⟨s1, s2⟩ := take_split us i _ hu
  generalize us[i] = u at *
  have hg := tysV_get hu
  have hcs : cntTs (us.take i) + cntT u ≤ cntTs us := by
   have : cntTs us = cntTs (us.take i ++ u :: us.drop (i + 1)) := by rw [← s2]
   rw [this, cntTs_app2]; simp only [cntTs]; omega
  have hln := col_lens kiVar (us.take i) acc
  have hnext : colTs kiVar (us.take (i + 1)) acc = colT kiVar u (colTs kiVar (us.take i) acc) := by rw [s1, colTs_app]; rfl
  have hc := fun σ' => ih u hmem (colTs kiVar (us.take i) acc) σ' (hdn u hmem) (by omega)
  generalize colTs kiVar (us.take i) acc = A at *
  cases u with
  | mk d2 n2 us2 =>
  simp only [tyV] at hg hc
  (simp only [h, hg, tysV_len, (vmA), Nat.reduceEqDiff, reduceIte, Nat.reduceAdd, Int.reduceToNat, Int.reduceLE, Int.reduceLT, Int.reduceEq, Int.reduceNe, Int.reduceAdd, Int.reduceSub, Int.reduceNeg, Nat.reduceLT, Nat.reduceLeDiff, Nat.reduceBEq, undef, (stA), Nat.reduceMul]; try simp (disch := omega) only [(vmp)])
  refine xWait.go (hc _) ?_
  (simp only [(vmA), Nat.reduceEqDiff, reduceIte, Nat.reduceAdd, Int.reduceToNat, Int.reduceLE, Int.reduceLT, Int.reduceEq, Int.reduceNe, Int.reduceAdd, Int.reduceSub, Int.reduceNeg, Nat.reduceLT, Nat.reduceLeDiff, Nat.reduceBEq, undef, (stA), Nat.reduceMul]; try simp (disch := omega) only [(vmp)])
  refine ⟨(i + 1, junk ++ [.arr 24 [.str d2, .str n2, .sl (tysV us2)] 0 0]), by simp only; omega, by simp only; omega, ?_⟩
  simp only [hnext]
  first | trivial | exact ⟨rfl, rfl⟩
 ·have hie : i = us.length := by omega
  subst hie
  (simp only [h, List.take_of_length_le (Nat.le_refl _), (vmA), Nat.reduceEqDiff, reduceIte, Nat.reduceAdd, Int.reduceToNat, Int.reduceLE, Int.reduceLT, Int.reduceEq, Int.reduceNe, Int.reduceAdd, Int.reduceSub, Int.reduceNeg, Nat.reduceLT, Nat.reduceLeDiff, Nat.reduceBEq, undef, (stA), Nat.reduceMul]; try simp (disch := omega) only [(vmp)])
  exact ⟨_, .refl _, by simp only [AV.low]; exact strsV_low _ _, rfl⟩
theorem vars_ok2 : ∀ (m : Nat) (t : Tr), SizeOf.sizeOf t ≤ m → KVars t
 | 0, .mk d n us, h => by simp at h
 | m + 1, .mk d n us, h => vars_step d n us fun u hu => vars_ok2 m u (by
   have := List.sizeOf_lt_of_mem hu
   simp at h; omega)
end Go.D
namespace Go.D
open Go Go.Vm Go.Proofs Go.RowKit
def chT (f : List UInt8 → Tr) (l : List (List UInt8)) : Tr := l.foldl (fun acc n => .mk kiPair [] [acc, f n]) tI
theorem chT_app (f : List UInt8 → Tr) (l : List (List UInt8)) (n : List UInt8) : chT f (l ++ [n]) = .mk kiPair [] [chT f l, f n] := by
 unfold chT; rw [List.foldl_append]; rfl
def sbF (s : List Cl) (n : List UInt8) : Tr := putT s (vT n)
theorem sbF_look (s : List Cl) (n : List UInt8) : (Sub'.look s n).getD (vT n) = sbF s n := (put_vT s n).symm
mutual
theorem has_var (x : List UInt8) : ∀ t : Tr, typeB conB t = true → hasN kiVar x t → varB x = true
 | .mk d n us, hb, h => by
  unfold hasN at h
  by_cases hd : d = kiVar
  ·rw [if_pos hd] at h
   subst hd; subst h
   exact (vT_args hb).2
  ·rw [if_neg hd] at h
   simp only [typeB, Bool.and_eq_true] at hb
   exact has_vars x us hb.2.2.2.2 h
theorem has_vars (x : List UInt8) : ∀ l : List Tr, typeBs conB l = true → hasNs kiVar x l → varB x = true
 | [], _, h => by cases h
 | t :: ts, hb, h => by
  simp only [typeBs, Bool.and_eq_true] at hb
  simp only [hasNs] at h
  rcases h with h | h
  ·exact has_var x t hb.1 h
  ·exact has_vars x ts hb.2 h
end
theorem vT_okT {n : List UInt8} (h : varB n = true) : okT (vT n) := by
 obtain ⟨i, hi, rfl⟩ := varB_letter h
 exact ⟨by simp only [vT, lenT, lenTs, letA, List.length_cons, List.length_nil]; exact ⟨by omega, by omega, trivial⟩, vT_typ hi⟩
theorem vT_lenN {n : List UInt8} (h : varB n = true) : lenN (vT n) := by
 obtain ⟨b, hb, _⟩ := varB_shape h
 rw [hb]
 simp only [vT, lenN, lenNs, List.length_cons, List.length_nil]
 exact ⟨by omega, by omega, trivial⟩
mutual
theorem lenN_back (f : List UInt8 → Tr) : ∀ t : Tr, typeB conB t = true → lenN (putF f t) → lenN t
 | .mk d n us, hb, h => by
  by_cases hd : d = kiVar
  ·subst hd
   obtain ⟨rfl, hv⟩ := vT_args hb
   exact vT_lenN hv
  ·rw [putF_non hd] at h
   simp only [typeB, Bool.and_eq_true] at hb
   simp only [lenN] at h ⊢
   rw [putFs_map, List.length_map] at h
   rw [← putFs_map] at h
   exact ⟨h.1, h.2.1, lenNs_back f us hb.2.2.2.2 h.2.2⟩
theorem lenNs_back (f : List UInt8 → Tr) : ∀ l : List Tr, typeBs conB l = true → lenNs (putFs f l) → lenNs l
 | [], _, _ => trivial
 | t :: ts, hb, h => by
  simp only [typeBs, Bool.and_eq_true] at hb
  simp only [putFs, lenNs] at h
  exact ⟨lenN_back f t hb.1 h.1, lenNs_back f ts hb.2 h.2⟩
end
theorem sbF_lenN {s : List Cl} (hs : bulkC s ≤ 1048576) {n : List UInt8} (hn : varB n = true) : lenN (sbF s n) := by
 rw [← sbF_look]
 cases hl : Sub'.look s n with
 | none => exact vT_lenN hn
 | some t =>
  have h1 := bulkC_mem (look_some_mem hl)
  exact bulk_lenN t (by simp only at h1; omega)
theorem chT_lenN {f : List UInt8 → Tr} : ∀ (l : List (List UInt8)), (∀ n ∈ l, lenN (f n)) → lenN (chT f l) := fun l => by
 have : ∀ (l : List (List UInt8)) (t : Tr), lenN t → (∀ n ∈ l, lenN (f n)) → lenN (l.foldl (fun acc n => .mk kiPair [] [acc, f n]) t) := by
  intro l
  induction l with
  | nil => exact fun t ht _ => ht
  | cons a r ih =>
   intro t ht h
   refine ih _ ?_ fun n hn => h n (by simp [hn])
   simp only [lenN, lenNs, List.length_cons, List.length_nil]
   exact ⟨by omega, by omega, ht, h a (by simp), trivial⟩
 exact this l tI (by simp [lenN, lenNs])
theorem chT_put (s : List Cl) (f g : List UInt8 → Tr) : ∀ (l : List (List UInt8)), (∀ n ∈ l, putT s (f n) = g n) → putT s (chT f l) = chT g l := fun l => by
 have : ∀ (l : List (List UInt8)) (t t' : Tr), putT s t = t' → (∀ n ∈ l, putT s (f n) = g n) → putT s (l.foldl (fun acc n => .mk kiPair [] [acc, f n]) t) = l.foldl (fun acc n => .mk kiPair [] [acc, g n]) t' := by
  intro l
  induction l with
  | nil => exact fun t t' ht _ => ht
  | cons a r ih =>
   intro t t' ht h
   refine ih _ _ ?_ fun n hn => h n (by simp [hn])
   rw [put_non (by decide), putTs, putTs, putTs, ht, h a (by simp)]
 exact this l tI tI (by rw [put_non (by decide)]; rfl)
structure GenS (a b : Tr) (s : List Cl) : Prop where
 va : validT conB a = true
 vb : validT conB b = true
 sub : substB s = true
 same : putT s a = putT s b
theorem gen_unif {a b : Tr} {s : List Cl} (h : GenS a b s) : Unif [(a, b)] (sbF s) := fun c hc => by
 rw [List.mem_singleton.1 hc]
 show putF (sbF s) a = putF (sbF s) b
 rw [← putT_putF (sbF_look s) a (valid_typ h.va), ← putT_putF (sbF_look s) b (valid_typ h.vb), h.same]
theorem gen_cases {a b : Tr} {s : List Cl} (h : GenS a b s) {u : List Cl × Int} (hu : UAll [(a, b)] u) : u.2 = 4 ∨ (u.2 = 0 ∧ ∃ f, Mgu [(a, b)] f ∧ lenC u.1 ∧ okV u.1 ∧ ∀ n, sbF u.1 n = f n) := by
 have hv : ∀ c ∈ [(a, b)], vB c = true := fun c hc => by
  rw [List.mem_singleton.1 hc]; unfold vB; rw [h.va, h.vb]; rfl
 rcases hu.uni hv (by simp) with ⟨_, hno⟩ | ⟨f, hf, ⟨_, rfl⟩ | ⟨h2, rfl⟩⟩
 ·exact absurd (gen_unif h) (hno _)
 ·exact .inl rfl
 ·obtain ⟨k1, k2, k3⟩ := mgu_sub hf
  exact .inr ⟨rfl, f, hf, k2, fun c hc => (k3 c hc).2, fun n => by rw [← sbF_look]; exact mgu_look hf h2 n⟩
theorem gen_put {a b : Tr} {s : List Cl} (h : GenS a b s) {f : List UInt8 → Tr} (hf : Mgu [(a, b)] f) (n : List UInt8) : putT s (f n) = sbF s n := by
 rcases hf.ok n with h1 | ⟨_, h1⟩
 ·rw [h1]; rfl
 ·rw [putT_putF (sbF_look s) _ h1.2]
  exact hf.gen _ (gen_unif h) n
theorem gen_lenN {a b : Tr} {s : List Cl} (h : GenS a b s) (hs : bulkC s ≤ 1048576) {f : List UInt8 → Tr} (hf : Mgu [(a, b)] f) {n : List UInt8} (hn : varB n = true) : lenN (f n) := by
 rcases hf.ok n with h1 | ⟨_, h1⟩
 ·rw [h1]; exact vT_lenN hn
 ·refine lenN_back (sbF s) _ h1.2 ?_
  rw [hf.gen _ (gen_unif h) n]
  exact sbF_lenN hs hn
theorem gen_inst {g x : Tr} {s : List Cl} (hx : putT s g = x) (v1 : validT conB g = true) (v2 : validT conB x = true) : ∃ l, instR g x = (l, 0) := by
 have hm : (matT g x []).1 = true := by rw [← hx]; exact (mat_sub g s [] (valid_typ v1) (fun n x hx => by cases hx)).1
 exact ⟨_, by unfold instR; rw [if_pos ⟨v1, v2⟩, if_pos hm]⟩
end Go.D
namespace Go.D
open Go Go.Vm Go.Proofs Go.RowKit
theorem VarsOf_ok (t : Tr) (ho : okT t) (hc : cntT t ≤ 2097152) (σ : List Ent) : ACalls E 40 [tyV t] σ fun r τ => r = .sl (strsV (colT kiVar t [])) ∧ τ = σ := by
 have h := fun σ' => vars_ok2 _ t (Nat.le_refl _) [] σ' ho (by simpa using hc)
 rcases t with ⟨d, n, us⟩
 refine xacalls T0 .freeze [] Tryz.func40 rfl (by kernel_rfl) (by kernel_rfl) (by simp [Tryz.ntmps40]) ?_
 have h' : ∀ σ', ACalls E 66 [.agg [.str d, .str n, .sl (tysV us)], .v (.slice none 0 0)] σ' fun r τ => r = .sl (strsV (colT kiVar (.mk d n us) [])) ∧ τ = σ' := fun σ' =>
  ACalls.wk (.cons (.refl _) (.cons .nil .nil)) (h σ')
 (simp only [tyV, (vmA), Nat.reduceEqDiff, reduceIte, Nat.reduceAdd, Int.reduceToNat, Int.reduceLE, Int.reduceLT, Int.reduceEq, Int.reduceNe, Int.reduceAdd, Int.reduceSub, Int.reduceNeg, Nat.reduceLT, Nat.reduceLeDiff, Nat.reduceBEq, undef, (stA), Nat.reduceMul]; try simp (disch := omega) only [(vmp)])
 refine xWait.go (h' _) ?_
 (simp only [(vmA), Nat.reduceEqDiff, reduceIte, Nat.reduceAdd, Int.reduceToNat, Int.reduceLE, Int.reduceLT, Int.reduceEq, Int.reduceNe, Int.reduceAdd, Int.reduceSub, Int.reduceNeg, Nat.reduceLT, Nat.reduceLeDiff, Nat.reduceBEq, undef, (stA), Nat.reduceMul]; try simp (disch := omega) only [(vmp)])
 exact ⟨_, .refl _, by simp only [AV.low, strsV_low], rfl⟩
def chCl (f : List UInt8 → Tr) (l : List (List UInt8)) : List AV := l.foldl (fun acc n => [.str kiPair, .str [], .sl [.agg acc, tyV (f n)]]) [.str kiInt, .str [], nilS]
theorem chCl_app (f : List UInt8 → Tr) (l : List (List UInt8)) (n : List UInt8) : chCl f (l ++ [n]) = [.str kiPair, .str [], .sl [.agg (chCl f l), tyV (f n)]] := by
 unfold chCl; rw [List.foldl_append]; rfl
theorem snocInd {P : List (List UInt8) → Prop} (h0 : P []) (h1 : ∀ l n, P l → P (l ++ [n])) (l : List (List UInt8)) : P l := by
 have : ∀ k, P (l.take k) := fun k => by
  induction k with
  | zero => exact h0
  | succ k ih =>
   rw [List.take_add_one]
   cases l[k]? with
   | none => simpa using ih
   | some x => exact h1 _ _ ih
 have h2 := this l.length
 rwa [List.take_length] at h2
theorem chCl_shape (f : List UInt8 → Tr) (l : List (List UInt8)) : ∃ d A, chCl f l = [.str d, .str [], A] ∧ A.isCell = true := by
 refine snocInd (P := fun l => ∃ d A, chCl f l = [.str d, .str [], A] ∧ A.isCell = true) ⟨_, _, rfl, rfl⟩ (fun l n _ => ⟨_, _, chCl_app f l n, rfl⟩) l
theorem tyV_low1 (m : Nat) (t : Tr) : AV.low m (tyV t) = true := by
 cases t; simp only [tyV, AV.low, AV.low.lows, tysV_low, Bool.and_self]
theorem chCl_low (m : Nat) (f : List UInt8 → Tr) (l : List (List UInt8)) : AV.low m (.agg (chCl f l)) = true := by
 refine snocInd (P := fun l => AV.low m (.agg (chCl f l)) = true) rfl (fun l n ih => ?_) l
 rw [chCl_app]
 simp only [AV.low, AV.low.lows] at ih ⊢
 rw [ih, tyV_low1]; rfl
theorem chCl_wk (f : List UInt8 → Tr) (l : List (List UInt8)) : Wk (.agg (chCl f l)) (tyV (chT f l)) := by
 refine snocInd (P := fun l => Wk (.agg (chCl f l)) (tyV (chT f l))) (.agg (.cons (.refl _) (.cons (.refl _) (.cons .nil .nil)))) (fun l n ih => ?_) l
 rw [chCl_app, chT_app]
 simp only [tyV, tysV]
 exact .agg (.cons (.refl _) (.cons (.refl _) (.cons (.sl (.cons ih (.cons (.refl _) .nil))) .nil)))
set_option maxHeartbeats 32000000 in
theorem law_general (haw : AwakeOK) (a b : Tr) (s : List Cl) (hba : bulkT a ≤ 1048576) (hbb : bulkT b ≤ 1048576) (hbs : bulkC s ≤ 1048576) (σ : List Ent) :
  HasBody E 11 ∧ ∀ (z : S) (vs : List Value), z.σ = σ → HInv z → E.Γ z.B z.w → RepL z [tyV a, tyV b, .sl (clsV s)] vs →
   Calls E.P 11 vs.toArray z.w fun e w' => ∃ v r s', e = .returned v ∧ s'.w = w' ∧ HInv s' ∧ Ext z s' ∧ Rep s' r v ∧ (r = boolV true ∧ s'.σ = σ) := by
 refine xbody T0 .drop [] Tryz.func11 rfl (by kernel_rfl) (by kernel_rfl) (by simp [Tryz.ntmps11]) (R := fun r τ => r = boolV true ∧ τ = σ) ?_
 have ha := bulk_len a hba
 have hb := bulk_len b hbb
 have hs := bulkC_len hbs
 have hca := cnt_bulk a
 have hcb := cnt_bulk b
 obtain ⟨d3, n3, us3, hx3⟩ : ∃ d n us, putT s a = .mk d n us := by cases putT s a; exact ⟨_, _, _, rfl⟩
 obtain ⟨d4, n4, us4, hx4⟩ : ∃ d n us, putT s b = .mk d n us := by cases putT s b; exact ⟨_, _, _, rfl⟩
 have c1 := fun σ' => Apply_ok s hs a ha σ'
 have c2 := fun σ' => Apply_ok s hs b hb σ'
 rcases appR_cases s a with ⟨v1, v2, v3, e1⟩ | ⟨e1, v4, v5⟩
 rotate_left
 ·simp only [v4, tyV, tysV] at c1
  rcases hx : appR s b with ⟨⟨d5, n5, us5⟩, e3⟩
  simp only [hx, tyV] at c2
  rcases a with ⟨d, n, us⟩
  rcases b with ⟨d', n', us'⟩
  simp only [tyV] at c1 c2
  (simp only [tyV, (vmA), Nat.reduceEqDiff, reduceIte, Nat.reduceAdd, Int.reduceToNat, Int.reduceLE, Int.reduceLT, Int.reduceEq, Int.reduceNe, Int.reduceAdd, Int.reduceSub, Int.reduceNeg, Nat.reduceLT, Nat.reduceLeDiff, Nat.reduceBEq, undef, (stA), Nat.reduceMul]; try simp (disch := omega) only [(vmp)])
  refine xWait.go (c1 _) ?_
  (simp only [(vmA), Nat.reduceEqDiff, reduceIte, Nat.reduceAdd, Int.reduceToNat, Int.reduceLE, Int.reduceLT, Int.reduceEq, Int.reduceNe, Int.reduceAdd, Int.reduceSub, Int.reduceNeg, Nat.reduceLT, Nat.reduceLeDiff, Nat.reduceBEq, undef, (stA), Nat.reduceMul]; try simp (disch := omega) only [(vmp)])
  refine xWait.go (c2 _) ?_
  (simp only [v5, (vmA), Nat.reduceEqDiff, reduceIte, Nat.reduceAdd, Int.reduceToNat, Int.reduceLE, Int.reduceLT, Int.reduceEq, Int.reduceNe, Int.reduceAdd, Int.reduceSub, Int.reduceNeg, Nat.reduceLT, Nat.reduceLeDiff, Nat.reduceBEq, undef, (stA), Nat.reduceMul]; try simp (disch := omega) only [(vmp)])
  refine xWait.go (haw _) ?_
  (simp only [(vmA), Nat.reduceEqDiff, reduceIte, Nat.reduceAdd, Int.reduceToNat, Int.reduceLE, Int.reduceLT, Int.reduceEq, Int.reduceNe, Int.reduceAdd, Int.reduceSub, Int.reduceNeg, Nat.reduceLT, Nat.reduceLeDiff, Nat.reduceBEq, undef, (stA), Nat.reduceMul]; try simp (disch := omega) only [(vmp)])
 rcases appR_cases s b with ⟨_, w2, w3, e2⟩ | ⟨e2, w4, w5⟩
 rotate_left
 ·simp only [w4, tyV, tysV] at c2
  simp only [e1] at c1
  rcases a with ⟨d, n, us⟩
  rcases b with ⟨d', n', us'⟩
  simp only [hx3, tyV] at c1 c2
  (simp only [tyV, (vmA), Nat.reduceEqDiff, reduceIte, Nat.reduceAdd, Int.reduceToNat, Int.reduceLE, Int.reduceLT, Int.reduceEq, Int.reduceNe, Int.reduceAdd, Int.reduceSub, Int.reduceNeg, Nat.reduceLT, Nat.reduceLeDiff, Nat.reduceBEq, undef, (stA), Nat.reduceMul]; try simp (disch := omega) only [(vmp)])
  refine xWait.go (c1 _) ?_
  (simp only [(vmA), Nat.reduceEqDiff, reduceIte, Nat.reduceAdd, Int.reduceToNat, Int.reduceLE, Int.reduceLT, Int.reduceEq, Int.reduceNe, Int.reduceAdd, Int.reduceSub, Int.reduceNeg, Nat.reduceLT, Nat.reduceLeDiff, Nat.reduceBEq, undef, (stA), Nat.reduceMul]; try simp (disch := omega) only [(vmp)])
  refine xWait.go (c2 _) ?_
  (simp only [w5, (vmA), Nat.reduceEqDiff, reduceIte, Nat.reduceAdd, Int.reduceToNat, Int.reduceLE, Int.reduceLT, Int.reduceEq, Int.reduceNe, Int.reduceAdd, Int.reduceSub, Int.reduceNeg, Nat.reduceLT, Nat.reduceLeDiff, Nat.reduceBEq, undef, (stA), Nat.reduceMul]; try simp (disch := omega) only [(vmp)])
  refine xWait.go (haw _) ?_
  (simp only [(vmA), Nat.reduceEqDiff, reduceIte, Nat.reduceAdd, Int.reduceToNat, Int.reduceLE, Int.reduceLT, Int.reduceEq, Int.reduceNe, Int.reduceAdd, Int.reduceSub, Int.reduceNeg, Nat.reduceLT, Nat.reduceLeDiff, Nat.reduceBEq, undef, (stA), Nat.reduceMul]; try simp (disch := omega) only [(vmp)])
 have hla : lenT (putT s a) := putT_len s (fun e he => (hs.2 e he).2) a ha
 have hlb : lenT (putT s b) := putT_len s (fun e he => (hs.2 e he).2) b hb
 have c3 := fun σ' => SameType2_ok _ (putT s a) (Nat.le_refl _) (putT s b) σ' hla hlb
 simp only [e1] at c1
 simp only [e2] at c2
 cases hsame : sameB (putT s a) (putT s b)
 ·simp only [hsame] at c3
  rcases a with ⟨d, n, us⟩
  rcases b with ⟨d', n', us'⟩
  simp only [hx3, hx4, tyV] at c1 c2 c3
  (simp only [tyV, (vmA), Nat.reduceEqDiff, reduceIte, Nat.reduceAdd, Int.reduceToNat, Int.reduceLE, Int.reduceLT, Int.reduceEq, Int.reduceNe, Int.reduceAdd, Int.reduceSub, Int.reduceNeg, Nat.reduceLT, Nat.reduceLeDiff, Nat.reduceBEq, undef, (stA), Nat.reduceMul]; try simp (disch := omega) only [(vmp)])
  refine xWait.go (c1 _) ?_
  (simp only [(vmA), Nat.reduceEqDiff, reduceIte, Nat.reduceAdd, Int.reduceToNat, Int.reduceLE, Int.reduceLT, Int.reduceEq, Int.reduceNe, Int.reduceAdd, Int.reduceSub, Int.reduceNeg, Nat.reduceLT, Nat.reduceLeDiff, Nat.reduceBEq, undef, (stA), Nat.reduceMul]; try simp (disch := omega) only [(vmp)])
  refine xWait.go (c2 _) ?_
  (simp only [(vmA), Nat.reduceEqDiff, reduceIte, Nat.reduceAdd, Int.reduceToNat, Int.reduceLE, Int.reduceLT, Int.reduceEq, Int.reduceNe, Int.reduceAdd, Int.reduceSub, Int.reduceNeg, Nat.reduceLT, Nat.reduceLeDiff, Nat.reduceBEq, undef, (stA), Nat.reduceMul]; try simp (disch := omega) only [(vmp)])
  refine xWait.go (c3 _) ?_
  (simp only [(vmA), Nat.reduceEqDiff, reduceIte, Nat.reduceAdd, Int.reduceToNat, Int.reduceLE, Int.reduceLT, Int.reduceEq, Int.reduceNe, Int.reduceAdd, Int.reduceSub, Int.reduceNeg, Nat.reduceLT, Nat.reduceLeDiff, Nat.reduceBEq, undef, (stA), Nat.reduceMul]; try simp (disch := omega) only [(vmp)])
  refine xWait.go (haw _) ?_
  (simp only [(vmA), Nat.reduceEqDiff, reduceIte, Nat.reduceAdd, Int.reduceToNat, Int.reduceLE, Int.reduceLT, Int.reduceEq, Int.reduceNe, Int.reduceAdd, Int.reduceSub, Int.reduceNeg, Nat.reduceLT, Nat.reduceLeDiff, Nat.reduceBEq, undef, (stA), Nat.reduceMul]; try simp (disch := omega) only [(vmp)])
 simp only [hsame] at c3
 have hG : GenS a b s := ⟨v2, w2, v1, sameB_eq _ _ hsame⟩
 obtain ⟨u, hu⟩ := uall_ex [(a, b)] fun c hc => by rw [List.mem_singleton.1 hc]; exact ⟨ha, hb⟩
 have c4 := fun σ' => unifyG_ok a b ha hb u hu σ'
 rcases gen_cases hG hu with h4 | ⟨h0, f, hf, hlu, hou, hfn⟩
 ·rcases u with ⟨u1, u2⟩
  simp only at h4
  subst h4
  rcases a with ⟨d, n, us⟩
  rcases b with ⟨d', n', us'⟩
  simp only [hx3, hx4, tyV] at c1 c2 c3 c4
  (simp only [tyV, (vmA), Nat.reduceEqDiff, reduceIte, Nat.reduceAdd, Int.reduceToNat, Int.reduceLE, Int.reduceLT, Int.reduceEq, Int.reduceNe, Int.reduceAdd, Int.reduceSub, Int.reduceNeg, Nat.reduceLT, Nat.reduceLeDiff, Nat.reduceBEq, undef, (stA), Nat.reduceMul]; try simp (disch := omega) only [(vmp)])
  refine xWait.go (c1 _) ?_
  (simp only [(vmA), Nat.reduceEqDiff, reduceIte, Nat.reduceAdd, Int.reduceToNat, Int.reduceLE, Int.reduceLT, Int.reduceEq, Int.reduceNe, Int.reduceAdd, Int.reduceSub, Int.reduceNeg, Nat.reduceLT, Nat.reduceLeDiff, Nat.reduceBEq, undef, (stA), Nat.reduceMul]; try simp (disch := omega) only [(vmp)])
  refine xWait.go (c2 _) ?_
  (simp only [(vmA), Nat.reduceEqDiff, reduceIte, Nat.reduceAdd, Int.reduceToNat, Int.reduceLE, Int.reduceLT, Int.reduceEq, Int.reduceNe, Int.reduceAdd, Int.reduceSub, Int.reduceNeg, Nat.reduceLT, Nat.reduceLeDiff, Nat.reduceBEq, undef, (stA), Nat.reduceMul]; try simp (disch := omega) only [(vmp)])
  refine xWait.go (c3 _) ?_
  (simp only [(vmA), Nat.reduceEqDiff, reduceIte, Nat.reduceAdd, Int.reduceToNat, Int.reduceLE, Int.reduceLT, Int.reduceEq, Int.reduceNe, Int.reduceAdd, Int.reduceSub, Int.reduceNeg, Nat.reduceLT, Nat.reduceLeDiff, Nat.reduceBEq, undef, (stA), Nat.reduceMul]; try simp (disch := omega) only [(vmp)])
  refine xWait.go (c4 _) ?_
  (simp only [(vmA), Nat.reduceEqDiff, reduceIte, Nat.reduceAdd, Int.reduceToNat, Int.reduceLE, Int.reduceLT, Int.reduceEq, Int.reduceNe, Int.reduceAdd, Int.reduceSub, Int.reduceNeg, Nat.reduceLT, Nat.reduceLeDiff, Nat.reduceBEq, undef, (stA), Nat.reduceMul]; try simp (disch := omega) only [(vmp)])
  refine xWait.go (haw _) ?_
  (simp only [(vmA), Nat.reduceEqDiff, reduceIte, Nat.reduceAdd, Int.reduceToNat, Int.reduceLE, Int.reduceLT, Int.reduceEq, Int.reduceNe, Int.reduceAdd, Int.reduceSub, Int.reduceNeg, Nat.reduceLT, Nat.reduceLeDiff, Nat.reduceBEq, undef, (stA), Nat.reduceMul]; try simp (disch := omega) only [(vmp)])
 have hop : okT (.mk kiPair [] [a, b]) := by
  refine ⟨by simp only [lenT, lenTs, List.length_cons, List.length_nil]; exact ⟨by omega, by omega, ha, hb, trivial⟩, ?_⟩
  simp only [typeB, typeBs, valid_typ v2, valid_typ w2, List.length_cons, List.length_nil]
  rfl
 have hcp : cntT (.mk kiPair [] [a, b]) ≤ 2097152 := by simp only [cntT, cntTs]; omega
 have hns : ∀ n ∈ colT kiVar (.mk kiPair [] [a, b]) [], varB n = true := fun n hn => by
  rcases (col_mem kiVar n _ _).1 hn with h | h
  ·exact has_var n _ hop.2 h
  ·cases h
 have hnl : (colT kiVar (.mk kiPair [] [a, b]) []).length ≤ 2097152 := by
  have := col_len kiVar (.mk kiPair [] [a, b]) []
  simp only [List.length_nil] at this
  omega
 have c5 := fun σ' => VarsOf_ok (.mk kiPair [] [a, b]) hop hcp σ'
 generalize colT kiVar (.mk kiPair [] [a, b]) [] = ns at *
 have hput : putT s (chT f ns) = chT (sbF s) ns := chT_put s f (sbF s) ns fun n _ => gen_put hG hf n
 have hn1 : lenN (chT f ns) := chT_lenN ns fun n hn => gen_lenN hG hbs hf (hns n hn)
 have hn2 : lenN (chT (sbF s) ns) := chT_lenN ns fun n hn => sbF_lenN hbs (hns n hn)
 have d1 : ∀ σ', ACalls E 42 [.agg (chCl f ns)] σ' fun r τ => r = boolV (validT conB (chT f ns)) ∧ τ = σ' := fun σ' => ACalls.wk (.cons (chCl_wk f ns) .nil) (ValidTypeN_ok _ hn1 σ')
 have d2 : ∀ σ', ACalls E 42 [.agg (chCl (sbF s) ns)] σ' fun r τ => r = boolV (validT conB (chT (sbF s) ns)) ∧ τ = σ' := fun σ' => ACalls.wk (.cons (chCl_wk (sbF s) ns) .nil) (ValidTypeN_ok _ hn2 σ')
 have d3' : ∀ σ', ACalls E 13 [.agg (chCl f ns), .agg (chCl (sbF s) ns)] σ' fun r τ => r = .tup [.sl (clsV (instR (chT f ns) (chT (sbF s) ns)).1), i64 (instR (chT f ns) (chT (sbF s) ns)).2] ∧ τ = σ' := fun σ' =>
  ACalls.wk (.cons (chCl_wk f ns) (.cons (chCl_wk (sbF s) ns) .nil)) (Instance_ok _ _ (lenN_len _ hn1) (lenN_len _ hn2) σ')
 have p1 : ∀ n, varB n = true → ∀ σ', ACalls E 21 [.sl (clsV u.1), .agg [.str kiVar, .str n, nilS]] σ' fun r τ => r = tyV (f n) ∧ τ = σ' := fun n hn σ' => by
  have := ACalls.wk (.cons (.refl _) (.cons (.agg (.cons (.refl _) (.cons (.refl _) (.cons .nil .nil)))) .nil)) (Put_ok _ (vT n) (Nat.le_refl _) u.1 σ' hlu (vT_okT hn))
  rw [show putT u.1 (vT n) = f n from hfn n] at this
  exact this
 have p2 : ∀ n, varB n = true → ∀ σ', ACalls E 21 [.sl (clsV s), .agg [.str kiVar, .str n, nilS]] σ' fun r τ => r = tyV (sbF s n) ∧ τ = σ' := fun n hn σ' =>
  ACalls.wk (.cons (.refl _) (.cons (.agg (.cons (.refl _) (.cons (.refl _) (.cons .nil .nil)))) .nil)) (Put_ok _ (vT n) (Nat.le_refl _) s σ' hs (vT_okT hn))
 have tyc : ∀ (g : List UInt8 → Tr) (l : List (List UInt8)) (n : List UInt8) σ', ACalls E 39 [.str kiPair, .sl [.agg (chCl g l), tyV (g n)]] σ' fun r τ => r = .agg (chCl g (l ++ [n])) ∧ τ = σ' := fun g l n σ' => by
  have := ty_ok kiPair [.agg (chCl g l), tyV (g n)] (fun m => by simp only [AV.low.lows, chCl_low, tyV_low1, Bool.and_self]) σ'
  rw [chCl_app]; exact this
 have lAB : ∀ m, AV.low.lows m [tyV a, tyV b] = true := fun m => by simp only [AV.low.lows, tyV_low1, Bool.and_self]
 have typ := fun σ' => ty_ok kiPair [tyV a, tyV b] lAB σ'
 rcases u with ⟨us1, u2⟩
 simp only at h0 p1
 subst h0
 rcases a with ⟨d, n, us⟩
 rcases b with ⟨d', n', us'⟩
 simp only [hx3, hx4, tyV, tysV] at c1 c2 c3 c4 c5 typ
 (simp only [tyV, (vmA), Nat.reduceEqDiff, reduceIte, Nat.reduceAdd, Int.reduceToNat, Int.reduceLE, Int.reduceLT, Int.reduceEq, Int.reduceNe, Int.reduceAdd, Int.reduceSub, Int.reduceNeg, Nat.reduceLT, Nat.reduceLeDiff, Nat.reduceBEq, undef, (stA), Nat.reduceMul]; try simp (disch := omega) only [(vmp)])
 refine xWait.go (c1 _) ?_
 (simp only [(vmA), Nat.reduceEqDiff, reduceIte, Nat.reduceAdd, Int.reduceToNat, Int.reduceLE, Int.reduceLT, Int.reduceEq, Int.reduceNe, Int.reduceAdd, Int.reduceSub, Int.reduceNeg, Nat.reduceLT, Nat.reduceLeDiff, Nat.reduceBEq, undef, (stA), Nat.reduceMul]; try simp (disch := omega) only [(vmp)])
 refine xWait.go (c2 _) ?_
 (simp only [(vmA), Nat.reduceEqDiff, reduceIte, Nat.reduceAdd, Int.reduceToNat, Int.reduceLE, Int.reduceLT, Int.reduceEq, Int.reduceNe, Int.reduceAdd, Int.reduceSub, Int.reduceNeg, Nat.reduceLT, Nat.reduceLeDiff, Nat.reduceBEq, undef, (stA), Nat.reduceMul]; try simp (disch := omega) only [(vmp)])
 refine xWait.go (c3 _) ?_
 (simp only [(vmA), Nat.reduceEqDiff, reduceIte, Nat.reduceAdd, Int.reduceToNat, Int.reduceLE, Int.reduceLT, Int.reduceEq, Int.reduceNe, Int.reduceAdd, Int.reduceSub, Int.reduceNeg, Nat.reduceLT, Nat.reduceLeDiff, Nat.reduceBEq, undef, (stA), Nat.reduceMul]; try simp (disch := omega) only [(vmp)])
 refine xWait.go (c4 _) ?_
 (simp only [(vmA), Nat.reduceEqDiff, reduceIte, Nat.reduceAdd, Int.reduceToNat, Int.reduceLE, Int.reduceLT, Int.reduceEq, Int.reduceNe, Int.reduceAdd, Int.reduceSub, Int.reduceNeg, Nat.reduceLT, Nat.reduceLeDiff, Nat.reduceBEq, undef, (stA), Nat.reduceMul]; try simp (disch := omega) only [(vmp)])
 refine xWait.go (ty0_ok kiInt _) ?_
 (simp only [(vmA), Nat.reduceEqDiff, reduceIte, Nat.reduceAdd, Int.reduceToNat, Int.reduceLE, Int.reduceLT, Int.reduceEq, Int.reduceNe, Int.reduceAdd, Int.reduceSub, Int.reduceNeg, Nat.reduceLT, Nat.reduceLeDiff, Nat.reduceBEq, undef, (stA), Nat.reduceMul]; try simp (disch := omega) only [(vmp)])
 refine xWait.go (ty0_ok kiInt _) ?_
 (simp only [(vmA), Nat.reduceEqDiff, reduceIte, Nat.reduceAdd, Int.reduceToNat, Int.reduceLE, Int.reduceLT, Int.reduceEq, Int.reduceNe, Int.reduceAdd, Int.reduceSub, Int.reduceNeg, Nat.reduceLT, Nat.reduceLeDiff, Nat.reduceBEq, undef, (stA), Nat.reduceMul]; try simp (disch := omega) only [(vmp)])
 refine xWait.go (typ _) ?_
 (simp only [(vmA), Nat.reduceEqDiff, reduceIte, Nat.reduceAdd, Int.reduceToNat, Int.reduceLE, Int.reduceLT, Int.reduceEq, Int.reduceNe, Int.reduceAdd, Int.reduceSub, Int.reduceNeg, Nat.reduceLT, Nat.reduceLeDiff, Nat.reduceBEq, undef, (stA), Nat.reduceMul]; try simp (disch := omega) only [(vmp)])
 refine xWait.go (c5 _) ?_
 (simp only [strsV_len, (vmA), Nat.reduceEqDiff, reduceIte, Nat.reduceAdd, Int.reduceToNat, Int.reduceLE, Int.reduceLT, Int.reduceEq, Int.reduceNe, Int.reduceAdd, Int.reduceSub, Int.reduceNeg, Nat.reduceLT, Nat.reduceLeDiff, Nat.reduceBEq, undef, (stA), Nat.reduceMul]; try simp (disch := omega) only [(vmp)])
 refine xloop (α := Nat) T0 (fun j => [(2, .sl (clsV s)), (11, .sl (clsV us1)), (12, .ref (σ.length + 4) 0 0), (13, .ref (σ.length + 5) 0 0), (60, .sl (strsV ns)), (61, i64 ns.length), (62, i64 j)]) (fun _ => σ)
  (fun j => [.arr 24 [.str d, .str n, .sl (tysV us)] 0 0, .arr 24 [.str d', .str n', .sl (tysV us')] 0 0, .arr 24 [.str d3, .str n3, .sl (tysV us3)] 0 0, .arr 24 [.str d4, .str n4, .sl (tysV us4)] 0 0, .arr 24 (chCl f (ns.take j)) 0 0, .arr 24 (chCl (sbF s) (ns.take j)) 0 0])
  (fun j => j ≤ ns.length) (fun j => ns.length - j) (by kernel_rfl)
  ⟨0, Nat.zero_le _, by (simp only [(vmA), Nat.reduceEqDiff, reduceIte, Nat.reduceAdd, Int.reduceToNat, Int.reduceLE, Int.reduceLT, Int.reduceEq, Int.reduceNe, Int.reduceAdd, Int.reduceSub, Int.reduceNeg, Nat.reduceLT, Nat.reduceLeDiff, Nat.reduceBEq, undef, (stA), Nat.reduceMul, Int.natCast_zero]; try simp (disch := omega) only [(vmp)]), rfl, rfl⟩ ?_
 rintro j hj
 by_cases h : (j : Int) < ns.length
 ·have hj1 : j < ns.length := by omega
  have hnj : ns[j]? = some ns[j] := List.getElem?_eq_getElem hj1
  obtain ⟨s1, _⟩ := take_splitC ns j _ hnj
  have hsn := strsV_at hnj
  have hvn := hns _ (List.getElem_mem hj1)
  generalize ns[j] = m at *
  have q1 := fun σ' => p1 m hvn σ'
  have q2 := fun σ' => p2 m hvn σ'
  rcases hfm : f m with ⟨e1', e2', e3'⟩
  rcases hsm : sbF s m with ⟨f1', f2', f3'⟩
  have t1 := fun σ' => tyc f (ns.take j) m σ'
  have t2 := fun σ' => tyc (sbF s) (ns.take j) m σ'
  rw [← s1] at t1 t2
  obtain ⟨x1, A1, g1, i1⟩ := chCl_shape f (ns.take j)
  obtain ⟨x2, A2, g2, i2⟩ := chCl_shape (sbF s) (ns.take j)
  obtain ⟨x3, A3, g3, i3⟩ := chCl_shape f (ns.take (j + 1))
  obtain ⟨x4, A4, g4, i4⟩ := chCl_shape (sbF s) (ns.take (j + 1))
  rw [g1, g3, hfm] at t1
  rw [g2, g4, hsm] at t2
  rw [hfm] at q1
  rw [hsm] at q2
  simp only [tyV] at q1 q2 t1 t2
  simp only [g1, g2]
  (simp only [h, hsn, strsV_len, (vmA), Nat.reduceEqDiff, reduceIte, Nat.reduceAdd, Int.reduceToNat, Int.reduceLE, Int.reduceLT, Int.reduceEq, Int.reduceNe, Int.reduceAdd, Int.reduceSub, Int.reduceNeg, Nat.reduceLT, Nat.reduceLeDiff, Nat.reduceBEq, undef, (stA), Nat.reduceMul]; try simp (disch := omega) only [(vmp)])
  refine zdraw T0 ⟨[7], [3, 4, 6], [0], none, false⟩ (by kernel_rfl) (by kernel_rfl) (by kernel_rfl) (by kernel_rfl) ?_
  (simp only [zDraw_nil,zDraw_go,zDraw_if,zSlot_some,zGuard_tt,zGuard_ff,zGuard_tf,zGuard_ft,zGuard_un,zOut_some,zOut_pure,zOut_cond,zNext_move,zNext_assign,zNext_pick,zNext_buildSlice,zNext_build,zNext_load,zNext_store,zNext_builtin,zNext_fieldAddr,zNext_nilCheck,zNext_indexAddr,zNext_unOp,zNext_binOp, (vmA), Nat.reduceEqDiff, reduceIte, Nat.reduceAdd, Int.reduceToNat, Int.reduceLE, Int.reduceLT, Int.reduceEq, Int.reduceNe, Int.reduceAdd, Int.reduceSub, Int.reduceNeg, Nat.reduceLT, Nat.reduceLeDiff, Nat.reduceBEq, undef, (stA), Nat.reduceMul]; try simp (disch := omega) only [(vmp)])
  refine zNext.looseS (r := .agg [.str x1, .str [], A1]) rfl rfl rfl rfl (fun g' l' hg' hl' => ⟨True, trivial, ?_⟩) ?_
  ·obtain rfl : l' = _ := hl'
   have qq : sget g' _ (σ.length + 4) = _ := (by unfold sget; rw [if_neg (by omega), hg', Nat.add_sub_cancel_left]; rfl : sget g' [Ent.arr 24 [.str d, .str n, .sl (tysV us)] 0 0, .arr 24 [.str d', .str n', .sl (tysV us')] 0 0, .arr 24 [.str d3, .str n3, .sl (tysV us3)] 0 0, .arr 24 [.str d4, .str n4, .sl (tysV us4)] 0 0, .arr 24 [.str x1, .str [], A1] 0 0, .arr 24 [.str x2, .str [], A2] 0 0] (σ.length + 4) = some (.arr 24 [.str x1, .str [], A1] 0 0))
   (simp only [qq, (vmA), Nat.reduceEqDiff, reduceIte, Nat.reduceAdd, Int.reduceToNat, Int.reduceLE, Int.reduceLT, Int.reduceEq, Int.reduceNe, Int.reduceAdd, Int.reduceSub, Int.reduceNeg, Nat.reduceLT, Nat.reduceLeDiff, Nat.reduceBEq, undef, (stA), Nat.reduceMul]; try simp (disch := omega) only [(vmp)])
  (simp only [zDraw_nil,zDraw_go,zDraw_if,zSlot_some,zGuard_tt,zGuard_ff,zGuard_tf,zGuard_ft,zGuard_un,zOut_some,zOut_pure,zOut_cond,zNext_move,zNext_assign,zNext_pick,zNext_buildSlice,zNext_build,zNext_load,zNext_store,zNext_builtin,zNext_fieldAddr,zNext_nilCheck,zNext_indexAddr,zNext_unOp,zNext_binOp, (vmA), Nat.reduceEqDiff, reduceIte, Nat.reduceAdd, Int.reduceToNat, Int.reduceLE, Int.reduceLT, Int.reduceEq, Int.reduceNe, Int.reduceAdd, Int.reduceSub, Int.reduceNeg, Nat.reduceLT, Nat.reduceLeDiff, Nat.reduceBEq, undef, (stA), Nat.reduceMul]; try simp (disch := omega) only [(vmp)])
  refine zNext.soft (by rfl) (by rfl) _ rfl (variable_ok m _) rfl ?_
  (simp only [zDraw_nil,zDraw_go,zDraw_if,zSlot_some,zGuard_tt,zGuard_ff,zGuard_tf,zGuard_ft,zGuard_un,zOut_some,zOut_pure,zOut_cond,zNext_move,zNext_assign,zNext_pick,zNext_buildSlice,zNext_build,zNext_load,zNext_store,zNext_builtin,zNext_fieldAddr,zNext_nilCheck,zNext_indexAddr,zNext_unOp,zNext_binOp, (vmA), Nat.reduceEqDiff, reduceIte, Nat.reduceAdd, Int.reduceToNat, Int.reduceLE, Int.reduceLT, Int.reduceEq, Int.reduceNe, Int.reduceAdd, Int.reduceSub, Int.reduceNeg, Nat.reduceLT, Nat.reduceLeDiff, Nat.reduceBEq, undef, (stA), Nat.reduceMul]; try simp (disch := omega) only [(vmp)])
  refine zNext.soft (by rfl) (by rfl) _ rfl (q1 _) rfl ?_
  (simp only [i1, zDraw_nil,zDraw_go,zDraw_if,zSlot_some,zGuard_tt,zGuard_ff,zGuard_tf,zGuard_ft,zGuard_un,zOut_some,zOut_pure,zOut_cond,zNext_move,zNext_assign,zNext_pick,zNext_buildSlice,zNext_build,zNext_load,zNext_store,zNext_builtin,zNext_fieldAddr,zNext_nilCheck,zNext_indexAddr,zNext_unOp,zNext_binOp, (vmA), Nat.reduceEqDiff, reduceIte, Nat.reduceAdd, Int.reduceToNat, Int.reduceLE, Int.reduceLT, Int.reduceEq, Int.reduceNe, Int.reduceAdd, Int.reduceSub, Int.reduceNeg, Nat.reduceLT, Nat.reduceLeDiff, Nat.reduceBEq, undef, (stA), Nat.reduceMul]; try simp (disch := omega) only [(vmp)])
  refine zNext.soft (by rfl) (by rfl) _ rfl (t1 _) rfl ?_
  (simp only [i3, zDraw_nil,zDraw_go,zDraw_if,zSlot_some,zGuard_tt,zGuard_ff,zGuard_tf,zGuard_ft,zGuard_un,zOut_some,zOut_pure,zOut_cond,zNext_move,zNext_assign,zNext_pick,zNext_buildSlice,zNext_build,zNext_load,zNext_store,zNext_builtin,zNext_fieldAddr,zNext_nilCheck,zNext_indexAddr,zNext_unOp,zNext_binOp, (vmA), Nat.reduceEqDiff, reduceIte, Nat.reduceAdd, Int.reduceToNat, Int.reduceLE, Int.reduceLT, Int.reduceEq, Int.reduceNe, Int.reduceAdd, Int.reduceSub, Int.reduceNeg, Nat.reduceLT, Nat.reduceLeDiff, Nat.reduceBEq, undef, (stA), Nat.reduceMul]; try simp (disch := omega) only [(vmp)])
  refine zdraw T0 ⟨[7], [3, 4, 6], [0], none, false⟩ (by kernel_rfl) (by kernel_rfl) (by kernel_rfl) (by kernel_rfl) ?_
  (simp only [zDraw_nil,zDraw_go,zDraw_if,zSlot_some,zGuard_tt,zGuard_ff,zGuard_tf,zGuard_ft,zGuard_un,zOut_some,zOut_pure,zOut_cond,zNext_move,zNext_assign,zNext_pick,zNext_buildSlice,zNext_build,zNext_load,zNext_store,zNext_builtin,zNext_fieldAddr,zNext_nilCheck,zNext_indexAddr,zNext_unOp,zNext_binOp, (vmA), Nat.reduceEqDiff, reduceIte, Nat.reduceAdd, Int.reduceToNat, Int.reduceLE, Int.reduceLT, Int.reduceEq, Int.reduceNe, Int.reduceAdd, Int.reduceSub, Int.reduceNeg, Nat.reduceLT, Nat.reduceLeDiff, Nat.reduceBEq, undef, (stA), Nat.reduceMul]; try simp (disch := omega) only [(vmp)])
  refine zNext.looseS (r := .agg [.str x2, .str [], A2]) rfl rfl rfl rfl (fun g' l' hg' hl' => ⟨True, trivial, ?_⟩) ?_
  ·obtain rfl : l' = _ := hl'
   have qq : sget g' _ (σ.length + 5) = _ := (by unfold sget; rw [if_neg (by omega), hg', Nat.add_sub_cancel_left]; rfl : sget g' [Ent.arr 24 [.str d, .str n, .sl (tysV us)] 0 0, .arr 24 [.str d', .str n', .sl (tysV us')] 0 0, .arr 24 [.str d3, .str n3, .sl (tysV us3)] 0 0, .arr 24 [.str d4, .str n4, .sl (tysV us4)] 0 0, .arr 24 [.str x3, .str [], A3] 0 0, .arr 24 [.str x2, .str [], A2] 0 0] (σ.length + 5) = some (.arr 24 [.str x2, .str [], A2] 0 0))
   (simp only [qq, (vmA), Nat.reduceEqDiff, reduceIte, Nat.reduceAdd, Int.reduceToNat, Int.reduceLE, Int.reduceLT, Int.reduceEq, Int.reduceNe, Int.reduceAdd, Int.reduceSub, Int.reduceNeg, Nat.reduceLT, Nat.reduceLeDiff, Nat.reduceBEq, undef, (stA), Nat.reduceMul]; try simp (disch := omega) only [(vmp)])
  (simp only [zDraw_nil,zDraw_go,zDraw_if,zSlot_some,zGuard_tt,zGuard_ff,zGuard_tf,zGuard_ft,zGuard_un,zOut_some,zOut_pure,zOut_cond,zNext_move,zNext_assign,zNext_pick,zNext_buildSlice,zNext_build,zNext_load,zNext_store,zNext_builtin,zNext_fieldAddr,zNext_nilCheck,zNext_indexAddr,zNext_unOp,zNext_binOp, (vmA), Nat.reduceEqDiff, reduceIte, Nat.reduceAdd, Int.reduceToNat, Int.reduceLE, Int.reduceLT, Int.reduceEq, Int.reduceNe, Int.reduceAdd, Int.reduceSub, Int.reduceNeg, Nat.reduceLT, Nat.reduceLeDiff, Nat.reduceBEq, undef, (stA), Nat.reduceMul]; try simp (disch := omega) only [(vmp)])
  refine zNext.soft (by rfl) (by rfl) _ rfl (variable_ok m _) rfl ?_
  (simp only [zDraw_nil,zDraw_go,zDraw_if,zSlot_some,zGuard_tt,zGuard_ff,zGuard_tf,zGuard_ft,zGuard_un,zOut_some,zOut_pure,zOut_cond,zNext_move,zNext_assign,zNext_pick,zNext_buildSlice,zNext_build,zNext_load,zNext_store,zNext_builtin,zNext_fieldAddr,zNext_nilCheck,zNext_indexAddr,zNext_unOp,zNext_binOp, (vmA), Nat.reduceEqDiff, reduceIte, Nat.reduceAdd, Int.reduceToNat, Int.reduceLE, Int.reduceLT, Int.reduceEq, Int.reduceNe, Int.reduceAdd, Int.reduceSub, Int.reduceNeg, Nat.reduceLT, Nat.reduceLeDiff, Nat.reduceBEq, undef, (stA), Nat.reduceMul]; try simp (disch := omega) only [(vmp)])
  refine zNext.soft (by rfl) (by rfl) _ rfl (q2 _) rfl ?_
  (simp only [i2, zDraw_nil,zDraw_go,zDraw_if,zSlot_some,zGuard_tt,zGuard_ff,zGuard_tf,zGuard_ft,zGuard_un,zOut_some,zOut_pure,zOut_cond,zNext_move,zNext_assign,zNext_pick,zNext_buildSlice,zNext_build,zNext_load,zNext_store,zNext_builtin,zNext_fieldAddr,zNext_nilCheck,zNext_indexAddr,zNext_unOp,zNext_binOp, (vmA), Nat.reduceEqDiff, reduceIte, Nat.reduceAdd, Int.reduceToNat, Int.reduceLE, Int.reduceLT, Int.reduceEq, Int.reduceNe, Int.reduceAdd, Int.reduceSub, Int.reduceNeg, Nat.reduceLT, Nat.reduceLeDiff, Nat.reduceBEq, undef, (stA), Nat.reduceMul]; try simp (disch := omega) only [(vmp)])
  refine zNext.soft (by rfl) (by rfl) _ rfl (t2 _) rfl ?_
  (simp only [i4, zDraw_nil,zDraw_go,zDraw_if,zSlot_some,zGuard_tt,zGuard_ff,zGuard_tf,zGuard_ft,zGuard_un,zOut_some,zOut_pure,zOut_cond,zNext_move,zNext_assign,zNext_pick,zNext_buildSlice,zNext_build,zNext_load,zNext_store,zNext_builtin,zNext_fieldAddr,zNext_nilCheck,zNext_indexAddr,zNext_unOp,zNext_binOp, (vmA), Nat.reduceEqDiff, reduceIte, Nat.reduceAdd, Int.reduceToNat, Int.reduceLE, Int.reduceLT, Int.reduceEq, Int.reduceNe, Int.reduceAdd, Int.reduceSub, Int.reduceNeg, Nat.reduceLT, Nat.reduceLeDiff, Nat.reduceBEq, undef, (stA), Nat.reduceMul]; try simp (disch := omega) only [(vmp)])
  exact ⟨j + 1, by omega, by omega, rfl, by rw [g3, g4]⟩
 ·have hje : j = ns.length := by omega
  subst hje
  rw [List.take_length]
  obtain ⟨x1, A1, g1, i1⟩ := chCl_shape f ns
  obtain ⟨x2, A2, g2, i2⟩ := chCl_shape (sbF s) ns
  rw [g1] at d1 d3'
  rw [g2] at d2 d3'
  simp only [g1, g2]
  (simp only [h, (vmA), Nat.reduceEqDiff, reduceIte, Nat.reduceAdd, Int.reduceToNat, Int.reduceLE, Int.reduceLT, Int.reduceEq, Int.reduceNe, Int.reduceAdd, Int.reduceSub, Int.reduceNeg, Nat.reduceLT, Nat.reduceLeDiff, Nat.reduceBEq, undef, (stA), Nat.reduceMul]; try simp (disch := omega) only [(vmp)])
  refine xWait.go (d1 _) ?_
  cases hv1 : validT conB (chT f ns)
  ·(simp only [(vmA), Nat.reduceEqDiff, reduceIte, Nat.reduceAdd, Int.reduceToNat, Int.reduceLE, Int.reduceLT, Int.reduceEq, Int.reduceNe, Int.reduceAdd, Int.reduceSub, Int.reduceNeg, Nat.reduceLT, Nat.reduceLeDiff, Nat.reduceBEq, undef, (stA), Nat.reduceMul]; try simp (disch := omega) only [(vmp)])
   refine xWait.go (haw _) ?_
   (simp only [(vmA), Nat.reduceEqDiff, reduceIte, Nat.reduceAdd, Int.reduceToNat, Int.reduceLE, Int.reduceLT, Int.reduceEq, Int.reduceNe, Int.reduceAdd, Int.reduceSub, Int.reduceNeg, Nat.reduceLT, Nat.reduceLeDiff, Nat.reduceBEq, undef, (stA), Nat.reduceMul]; try simp (disch := omega) only [(vmp)])
  ·(simp only [(vmA), Nat.reduceEqDiff, reduceIte, Nat.reduceAdd, Int.reduceToNat, Int.reduceLE, Int.reduceLT, Int.reduceEq, Int.reduceNe, Int.reduceAdd, Int.reduceSub, Int.reduceNeg, Nat.reduceLT, Nat.reduceLeDiff, Nat.reduceBEq, undef, (stA), Nat.reduceMul]; try simp (disch := omega) only [(vmp)])
   refine xWait.go (d2 _) ?_
   cases hv2 : validT conB (chT (sbF s) ns)
   ·(simp only [(vmA), Nat.reduceEqDiff, reduceIte, Nat.reduceAdd, Int.reduceToNat, Int.reduceLE, Int.reduceLT, Int.reduceEq, Int.reduceNe, Int.reduceAdd, Int.reduceSub, Int.reduceNeg, Nat.reduceLT, Nat.reduceLeDiff, Nat.reduceBEq, undef, (stA), Nat.reduceMul]; try simp (disch := omega) only [(vmp)])
    refine xWait.go (haw _) ?_
    (simp only [(vmA), Nat.reduceEqDiff, reduceIte, Nat.reduceAdd, Int.reduceToNat, Int.reduceLE, Int.reduceLT, Int.reduceEq, Int.reduceNe, Int.reduceAdd, Int.reduceSub, Int.reduceNeg, Nat.reduceLT, Nat.reduceLeDiff, Nat.reduceBEq, undef, (stA), Nat.reduceMul]; try simp (disch := omega) only [(vmp)])
   ·obtain ⟨l, hl⟩ := gen_inst hput hv1 hv2
    simp only [hl] at d3'
    (simp only [(vmA), Nat.reduceEqDiff, reduceIte, Nat.reduceAdd, Int.reduceToNat, Int.reduceLE, Int.reduceLT, Int.reduceEq, Int.reduceNe, Int.reduceAdd, Int.reduceSub, Int.reduceNeg, Nat.reduceLT, Nat.reduceLeDiff, Nat.reduceBEq, undef, (stA), Nat.reduceMul]; try simp (disch := omega) only [(vmp)])
    refine xWait.go (d3' _) ?_
    (simp only [(vmA), Nat.reduceEqDiff, reduceIte, Nat.reduceAdd, Int.reduceToNat, Int.reduceLE, Int.reduceLT, Int.reduceEq, Int.reduceNe, Int.reduceAdd, Int.reduceSub, Int.reduceNeg, Nat.reduceLT, Nat.reduceLeDiff, Nat.reduceBEq, undef, (stA), Nat.reduceMul]; try simp (disch := omega) only [(vmp)])
    refine xWait.go (haw _) ?_
    (simp only [(vmA), Nat.reduceEqDiff, reduceIte, Nat.reduceAdd, Int.reduceToNat, Int.reduceLE, Int.reduceLT, Int.reduceEq, Int.reduceNe, Int.reduceAdd, Int.reduceSub, Int.reduceNeg, Nat.reduceLT, Nat.reduceLeDiff, Nat.reduceBEq, undef, (stA), Nat.reduceMul]; try simp (disch := omega) only [(vmp)])
end Go.D
