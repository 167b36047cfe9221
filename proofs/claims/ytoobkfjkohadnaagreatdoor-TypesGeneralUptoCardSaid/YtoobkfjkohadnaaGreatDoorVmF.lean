/- Regions that draw their order: operations that stand alone but leave the call's own entries ('soft'), and others that look at those alone ('loose'). Printed by mkdraws.py. -/
import Derived.Test.YtoobkfjkohadnaaGreatDoorVmD
import Derived.Test.YtoobkfjkohadnaaGreatDoorVmE
import Derived.Laws.AppendOwn
import Derived.Laws.IdiomCopy
import Derived.Lib.RowBridge
import Derived.Sort.Grow
set_option linter.unusedVariables false
set_option linter.unusedSimpArgs false
set_option linter.unusedSectionVars false
namespace Go.Vm
open Go.RowKit
structure Bars where
 hard : List Nat
 soft : List Nat
 loose : List Nat
 same : Option (List Nat)
 keepG : Bool
def Bars.ok (b : Bars) (l' l : List Ent) : Prop := match b.same with | none => l' = l | some ns => ∀ n ∈ ns, l'[n]? = l[n]?
theorem Bars.ok_refl (b : Bars) (l : List Ent) : b.ok l l := by
 unfold Bars.ok; cases b.same with
 | none => rfl
 | some ns => exact fun _ _ => rfl
theorem Bars.ok_symm {b : Bars} {l l' : List Ent} (h : b.ok l' l) : b.ok l l' := by
 unfold Bars.ok at *; cases hb : b.same with
 | none => rw [hb] at h; exact h.symm
 | some ns => rw [hb] at h; exact fun n hn => (h n hn).symm
theorem Bars.ok_trans {b : Bars} {l l' l2 : List Ent} (h : b.ok l' l) (h2 : b.ok l l2) : b.ok l' l2 := by
 unfold Bars.ok at *; cases hb : b.same with
 | none => rw [hb] at h h2; exact h.trans h2
 | some ns => rw [hb] at h h2; exact fun n hn => (h n hn).trans (h2 n hn)
def Bars.ok2 (b : Bars) (g' l' g l : List Ent) : Prop := (b.keepG = true → g' = g) ∧ b.ok l' l
theorem Bars.ok2_refl (b : Bars) (g l : List Ent) : b.ok2 g l g l := ⟨fun _ => rfl, Bars.ok_refl b l⟩
theorem Bars.ok2_symm {b : Bars} {g g' l l' : List Ent} (h : b.ok2 g' l' g l) : b.ok2 g l g' l' := ⟨fun hh => (h.1 hh).symm, Bars.ok_symm h.2⟩
theorem Bars.ok2_trans {b : Bars} {g g' g2 l l' l2 : List Ent} (h : b.ok2 g' l' g l) (h2 : b.ok2 g l g2 l2) : b.ok2 g' l' g2 l2 := ⟨fun hh => (h.1 hh).trans (h2.1 hh), Bars.ok_trans h.2 h2.2⟩
def Bars.bar (b : Bars) : List Nat := b.hard ++ b.soft
def freeH (ops : Array Oper) (bars : Bars) (i : Nat) : Bool := !bars.bar.contains i && (ops[i]?).any blind
def freeS (ops : Array Oper) (bars : Bars) (i : Nat) : Bool := freeH ops bars i || (!bars.bar.contains i && bars.loose.contains i)
def barredS (ops : Array Oper) (bars : Bars) : Bool :=
 (bars.hard.all fun j => (List.range j).all (fun i => ((ancOf ops).getD j []).contains i || freeH ops bars i) && (List.range ops.size).all fun k => !decide (j < k) || ((ancOf ops).getD k []).contains j || freeH ops bars k) &&
 (bars.soft.all fun j => (List.range j).all (fun i => ((ancOf ops).getD j []).contains i || freeS ops bars i) && (List.range ops.size).all fun k => !decide (j < k) || ((ancOf ops).getD k []).contains j || freeS ops bars k)
def sNext (bars : Bars) (k : Nat) (E : Env) (T : Nat → TI) (o : Oper) (ts : Ts) (g l : List Ent) (K : AV → List Ent → List Ent → Prop) : Prop :=
 if bars.hard.contains k = true then ∃ r g1 l1, aFix E T o ts g l r g1 l1 ∧ g1.length = g.length ∧ K r g1 l1
 else if bars.soft.contains k = true then ∃ r g1 l1, aFix E T o ts g l r g1 l1 ∧ g1.length = g.length ∧ bars.ok2 g1 l1 g l ∧ K r g1 l1
 else if bars.loose.contains k = true then ∃ r, (∀ g' l', g'.length = g.length → bars.ok2 g' l' g l → aFix E T o ts g' l' r g' l') ∧ K r g l
 else ∃ r, aFix E T o ts g l r g l ∧ K r g l
def sDraw (E : Env) (T : Nat → TI) (all : Array Oper) (bars : Bars) : Nat → List Oper → Ts → List Ent → List Ent → (Ts → List Ent → List Ent → Prop) → Prop
 | _, [], ts, g, l, K => K ts g l
 | k, o :: rest, ts, g, l, K =>
  match o.guard with
  | none => sNext bars k E T o ts g l fun r g l => sDraw E T all bars (k + 1) rest (tput ts o.dst r) g l K
  | some (j, want) =>
   match gslot all j with
   | none => False
   | some d =>
    match tget ts d with
    | .v (.bool b) =>
     if b = want then sNext bars k E T o ((d, boolV want) :: ts) g l fun r g l => sDraw E T all bars (k + 1) rest (tput ((d, boolV want) :: ts) o.dst r) g l K
     else sDraw E T all bars (k + 1) rest (tput ((d, boolV (!want)) :: ts) o.dst (.v undef)) g l K
    | .v (.tuple _) => sDraw E T all bars (k + 1) rest (tput ts o.dst (.v undef)) g l K
    | _ => False
def STrace (E : Env) (T : Nat → TI) (all : Array Oper) (bars : Bars) : Nat → Ts → List Ent → List Ent → List Oper → List Tr → Prop
 | _, _, _, _, [], [] => True
 | k, ts, g, l, o :: os, r :: rs => OpFact E T all o ts g l r.r r.g r.l ∧ r.g.length = g.length ∧ (bars.bar.contains k = false → r.g = g ∧ r.l = l) ∧ (bars.hard.contains k = false → bars.ok2 r.g r.l g l) ∧
   (bars.bar.contains k = false → bars.loose.contains k = true → ∀ g' l', g'.length = g.length → bars.ok2 g' l' g l → OpFact E T all o ts g' l' r.r g' l') ∧ STrace E T all bars (k + 1) (tput ts o.dst r.r) r.g r.l os rs
 | _, _, _, _, _, _ => False
theorem sDraw_trace {E : Env} {T : Nat → TI} {all : Array Oper} {bars : Bars} {K : Ts → List Ent → List Ent → Prop} : ∀ (ops : List Oper) (k : Nat) (g l : List Ent) (ts ts1 : Ts), TsEq ts1 ts → sDraw E T all bars k ops ts1 g l K →
  ∃ rs, STrace E T all bars k ts g l ops rs ∧ ∃ tsE, TsEq tsE (tsRun ts ops rs) ∧ K tsE (endS g l rs).1 (endS g l rs).2
 | [], k, g, l, ts, ts1, he, h => ⟨[], trivial, ts1, he, h⟩
 | o :: rest, k, g, l, ts, ts1, he, h => by
  unfold sDraw at h
  have go : ∀ {ts2 : Ts} {r : AV} {g1 l1 : List Ent}, TsEq ts2 ts → OpFact E T all o ts g l r g1 l1 → g1.length = g.length → (bars.bar.contains k = false → g1 = g ∧ l1 = l) → (bars.hard.contains k = false → bars.ok2 g1 l1 g l) → (bars.bar.contains k = false → bars.loose.contains k = true → ∀ g' l', g'.length = g.length → bars.ok2 g' l' g l → OpFact E T all o ts g' l' r g' l') → sDraw E T all bars (k + 1) rest (tput ts2 o.dst r) g1 l1 K →
    ∃ rs, STrace E T all bars k ts g l (o :: rest) rs ∧ ∃ tsE, TsEq tsE (tsRun ts (o :: rest) rs) ∧ K tsE (endS g l rs).1 (endS g l rs).2 := by
   intro ts2 r g1 l1 h2 hf hlen hb hb2 hb3 hd
   obtain ⟨rs, h3, tsE, h4, h5⟩ := sDraw_trace rest (k + 1) g1 l1 (tput ts o.dst r) (tput ts2 o.dst r) (h2.put o.dst r) hd
   exact ⟨⟨r, g1, l1⟩ :: rs, ⟨hf, hlen, hb, hb2, hb3, h3⟩, tsE, h4, h5⟩
  have go2 : ∀ {ts2 : Ts}, TsEq ts2 ts → (∀ {r : AV} {g0 l0 g1 l1 : List Ent}, aFix E T o ts2 g0 l0 r g1 l1 → OpFact E T all o ts g0 l0 r g1 l1) → sNext bars k E T o ts2 g l (fun r g l => sDraw E T all bars (k + 1) rest (tput ts2 o.dst r) g l K) →
    ∃ rs, STrace E T all bars k ts g l (o :: rest) rs ∧ ∃ tsE, TsEq tsE (tsRun ts (o :: rest) rs) ∧ K tsE (endS g l rs).1 (endS g l rs).2 := by
   intro ts2 h2 hf hn
   unfold sNext at hn
   split at hn
   ·rename_i hb
    obtain ⟨r, g1, l1, h3, h4, h5⟩ := hn
    have hbb : bars.bar.contains k = true := by simp only [Bars.bar, List.contains_eq_mem, List.mem_append, decide_eq_true_eq] at *; exact .inl hb
    exact go h2 (hf h3) h4 (fun hh => by rw [hbb] at hh; cases hh) (fun hh => by rw [hb] at hh; cases hh) (fun hh => by rw [hbb] at hh; cases hh) h5
   ·rename_i hb
    split at hn
    ·rename_i hs
     obtain ⟨r, g1, l1, h3, h4, h41, h5⟩ := hn
     have hbb : bars.bar.contains k = true := by simp only [Bars.bar, List.contains_eq_mem, List.mem_append, decide_eq_true_eq] at *; exact .inr hs
     exact go h2 (hf h3) h4 (fun hh => by rw [hbb] at hh; cases hh) (fun _ => h41) (fun hh => by rw [hbb] at hh; cases hh) h5
    ·split at hn
     ·obtain ⟨r, h3, h5⟩ := hn
      exact go h2 (hf (h3 g l rfl (Bars.ok2_refl _ _ _))) rfl (fun _ => ⟨rfl, rfl⟩) (fun _ => Bars.ok2_refl _ _ _) (fun _ _ g' l' hg' hl' => hf (h3 g' l' hg' hl')) h5
     ·rename_i hl
      obtain ⟨r, h3, h5⟩ := hn
      exact go h2 (hf h3) rfl (fun _ => ⟨rfl, rfl⟩) (fun _ => Bars.ok2_refl _ _ _) (fun _ hh => absurd hh hl) h5
  cases hg : o.guard with
  | none =>
   simp only [hg] at h
   refine go2 he (fun {r g0 l0 g1 l1} h1 => ?_) h
   unfold OpFact; simp only [hg]
   rw [← aFix_congr (ts := ts1) fun x _ => he.ev x]; exact h1
  | some jw =>
   obtain ⟨j, want⟩ := jw
   simp only [hg] at h
   cases hs : gslot all j with
   | none => simp [hs] at h
   | some d =>
    simp only [hs] at h
    split at h
    ·rename_i b hb
     have hb2 : tget ts d = .v (.bool b) := by rw [← he d]; exact hb
     split at h
     ·rename_i hw
      subst hw
      have ht : TsEq ((d, boolV b) :: ts1) ts := fun i => (TsEq.tell hb i).trans (he i)
      refine go2 ht (fun {r g0 l0 g1 l1} h1 => ?_) h
      unfold OpFact; simp only [hg]
      refine ⟨d, hs, .inl ⟨hb2, ?_⟩⟩
      rw [← aFix_congr (ts := (d, boolV b) :: ts1) fun x _ => ht.ev x]; exact h1
     ·rename_i hw
      have hbn : b = !want := by cases b <;> cases want <;> simp_all
      subst hbn
      have ht : TsEq ((d, boolV (!want)) :: ts1) ts := fun i => (TsEq.tell hb i).trans (he i)
      refine go ht ?_ rfl (fun _ => ⟨rfl, rfl⟩) (fun _ => Bars.ok2_refl _ _ _) (fun _ _ g' l' _ _ => ?_) h
      ·unfold OpFact; simp only [hg]
       exact ⟨d, hs, .inr (.inl ⟨hb2, by simp⟩)⟩
      ·unfold OpFact; simp only [hg]
       exact ⟨d, hs, .inr (.inl ⟨hb2, by simp⟩)⟩
    ·rename_i q hb
     refine go he ?_ rfl (fun _ => ⟨rfl, rfl⟩) (fun _ => Bars.ok2_refl _ _ _) (fun _ _ g' l' _ _ => ?_) h
     ·unfold OpFact; simp only [hg]
      exact ⟨d, hs, .inr (.inr ⟨⟨q, by rw [← he d]; exact hb⟩, by simp⟩)⟩
     ·unfold OpFact; simp only [hg]
      exact ⟨d, hs, .inr (.inr ⟨⟨q, by rw [← he d]; exact hb⟩, by simp⟩)⟩
    ·exact h.elim
theorem tsRun_envS {ops : Array Oper} {rs : List Tr} {ts : Ts} {E : Env} {T : Nat → TI} {bars : Bars} {g l : List Ent} : ∀ (os : List Oper) (qs : List Tr) (k : Nat) (tk : Ts), ops.toList.drop k = os → rs.drop k = qs → k ≤ ops.size →
  (∀ t, tget tk t = envD ops (rs.map Tr.r) (fun _ => true) ts k t) → (stAt g l rs k).1.length = g.length → STrace E T ops bars k tk (stAt g l rs k).1 (stAt g l rs k).2 os qs →
  (∀ t, tget (tsRun tk os qs) t = envD ops (rs.map Tr.r) (fun _ => true) ts ops.size t) ∧ endS (stAt g l rs k).1 (stAt g l rs k).2 qs = stAt g l rs ops.size ∧
  (∀ (j : Nat) o, k ≤ j → ops[j]? = some o → ∃ tj, (∀ t, tget tj t = envD ops (rs.map Tr.r) (fun _ => true) ts j t) ∧
   OpFact E T ops o tj (stAt g l rs j).1 (stAt g l rs j).2 ((rs.map Tr.r).getD j .un) (stAt g l rs (j + 1)).1 (stAt g l rs (j + 1)).2 ∧
   (stAt g l rs j).1.length = g.length ∧ (stAt g l rs (j + 1)).1.length = g.length ∧ (bars.bar.contains j = false → stAt g l rs (j + 1) = stAt g l rs j) ∧ (bars.hard.contains j = false → bars.ok2 (stAt g l rs (j + 1)).1 (stAt g l rs (j + 1)).2 (stAt g l rs j).1 (stAt g l rs j).2) ∧
   (bars.bar.contains j = false → bars.loose.contains j = true → ∀ g' l', g'.length = (stAt g l rs j).1.length → bars.ok2 g' l' (stAt g l rs j).1 (stAt g l rs j).2 → OpFact E T ops o tj g' l' ((rs.map Tr.r).getD j .un) g' l'))
 | [], [], k, tk, h1, h2, hk, h3, _, _ => by
  have : k = ops.size := by have := congrArg List.length h1; simp at this; omega
  subst this
  exact ⟨h3, rfl, fun j o hj ho => by have := (Array.getElem?_eq_some_iff.1 ho).1; omega⟩
 | o :: os, r :: qs, k, tk, h1, h2, hk, h3, hg, h4 => by
  have hlt : k < ops.size := by have := congrArg List.length h1; simp at this; omega
  have ho : ops[k]? = some o := by
   have : ops.toList[k]? = some o := by rw [← List.head?_drop, h1]; rfl
   simpa using this
  have hrk : rs[k]? = some r := by rw [← List.head?_drop, h2]; rfl
  have hr : (rs.map Tr.r).getD k .un = r.r := by simp [List.getD, hrk]
  have hst : stAt g l rs (k + 1) = (r.g, r.l) := by simp [stAt, hrk]
  have h1' : ops.toList.drop (k + 1) = os := by rw [← List.tail_drop, h1]; rfl
  have h2' : rs.drop (k + 1) = qs := by rw [← List.tail_drop, h2]; rfl
  have h3' : ∀ t, tget (tput tk o.dst r.r) t = envD ops (rs.map Tr.r) (fun _ => true) ts (k + 1) t := by
   intro t
   rw [envD, ho]
   simp only [Option.bind_some, true_and]
   cases hd : o.dst with
   | none => simp [tput, h3 t]
   | some d =>
    simp only [tput, tget, Option.some.injEq]
    split
    ·exact hr.symm
    ·exact h3 t
  obtain ⟨h5, h6, h7, h71, h72, h8⟩ := h4
  obtain ⟨a1, a2, a3⟩ := tsRun_envS (bars := bars) (g := g) (l := l) os qs (k + 1) (tput tk o.dst r.r) h1' h2' hlt h3' (by rw [hst]; exact h6.trans hg) (by rw [hst]; exact h8)
  refine ⟨a1, by rw [hst] at a2; exact a2, fun j o' hj ho' => ?_⟩
  rcases Nat.lt_or_ge k j with h9 | h9
  ·exact a3 j o' h9 ho'
  ·have : j = k := by omega
   subst this
   rw [ho] at ho'; cases ho'
   refine ⟨tk, h3, by rw [hr, hst]; exact h5, hg, by rw [hst]; exact h6.trans hg, fun hb => ?_, fun hb => by rw [hst]; exact h71 hb, fun hb hl g' l' hg' hl' => by rw [hr]; exact h72 hb hl g' l' hg' hl'⟩
   obtain ⟨b1, b2⟩ := h7 hb
   rw [hst, b1, b2]
 | [], _ :: _, _, _, _, _, _, _, _, h => h.elim
 | _ :: _, [], _, _, _, _, _, _, _, h => h.elim
theorem stAt_soft {g l : List Ent} {rs : List Tr} {b : Bars} {bars : List Nat} {n : Nat} (h : ∀ j, j < n → bars.contains j = false → b.ok2 (stAt g l rs (j + 1)).1 (stAt g l rs (j + 1)).2 (stAt g l rs j).1 (stAt g l rs j).2) : ∀ {i k : Nat}, i ≤ k → k ≤ n → (∀ j, i ≤ j → j < k → bars.contains j = false) → b.ok2 (stAt g l rs k).1 (stAt g l rs k).2 (stAt g l rs i).1 (stAt g l rs i).2
 | i, 0, hik, _, _ => by have : i = 0 := (by omega); subst this; exact Bars.ok2_refl _ _ _
 | i, k + 1, hik, hk, hb => by
  rcases Nat.lt_or_ge k i with h1 | h1
  ·have : i = k + 1 := by omega
   subst this; exact Bars.ok2_refl _ _ _
  ·exact Bars.ok2_trans (h k (by omega) (hb k h1 (by omega))) (stAt_soft h h1 (by omega) fun j h2 h3 => hb j h2 (by omega))
section
variable {E : Env} {T : Nat → TI} (hT : TabOK E.P T)
include hT
theorem awp_drawS {n id : Nat} {ops : Array Oper} {Q : Exit → Ts → List Ent → List Ent → Prop} {ts : Ts} {g l : List Ent} (bars : Bars) (hm : E.P.follows .mixedOrders = true) (hord : ordered ops = true) (hbar : barredS ops bars = true) (hok : opsOK n ops.toList = true)
  (h : sDraw E T ops bars 0 ops.toList ts g l fun ts' g' l' => Q .normal ts' g' l') : AWp E n (.region id ops true) Q ts g l := by
 obtain ⟨trs, htr, tsE, heq, hQ⟩ := sDraw_trace ops.toList 0 g l ts ts (TsEq.refl ts) h
 obtain ⟨hend, hends, hfact⟩ := tsRun_envS (ops := ops) (rs := trs) (ts := ts) (bars := bars) (g := g) (l := l) ops.toList trs 0 ts (by simp) (by simp) (Nat.zero_le _) (fun t => rfl) rfl htr
 generalize hrs : trs.map Tr.r = rs at hend hfact
 rw [show endS g l trs = stAt g l trs ops.size from hends] at hQ
 have hsame := fun {i k : Nat} => stAt_same (g := g) (l := l) (rs := trs) (bars := bars.bar) (n := ops.size) (fun j hj hb => by
  obtain ⟨_, _, _, _, _, h1, _⟩ := hfact j ops[j] (Nat.zero_le _) (Array.getElem?_eq_getElem hj)
  exact h1 hb) (i := i) (k := k)
 have hsoft := fun {i k : Nat} => stAt_soft (g := g) (l := l) (rs := trs) (b := bars) (bars := bars.hard) (n := ops.size) (fun j hj hb => by
  obtain ⟨_, _, _, _, _, _, h1, _⟩ := hfact j ops[j] (Nat.zero_le _) (Array.getElem?_eq_getElem hj)
  exact h1 hb) (i := i) (k := k)
 unfold barredS at hbar
 simp only [Bool.and_eq_true, List.all_eq_true] at hbar
 have hh1 : ∀ j ∈ bars.hard, ∀ i, i < j → i ∈ (ancOf ops).getD j [] ∨ freeH ops bars i = true := by
  intro j hj i hi
  simpa using (hbar.1 j hj).1 i (by simpa using hi)
 have hh2 : ∀ j ∈ bars.hard, ∀ k, j < k → k < ops.size → j ∈ (ancOf ops).getD k [] ∨ freeH ops bars k = true := by
  intro j hj k hk hk2
  have := (hbar.1 j hj).2 k (by simpa using hk2)
  simp only [Bool.or_eq_true, Bool.not_eq_true', decide_eq_false_iff_not] at this
  rcases this with (h1 | h1) | h1
  ·exact absurd hk h1
  ·left; simpa using h1
  ·exact .inr h1
 have hHS : ∀ i, freeH ops bars i = true → freeS ops bars i = true := fun i h => by unfold freeS; rw [h]; rfl
 have hbar1 : ∀ j ∈ bars.bar, ∀ i, i < j → i ∈ (ancOf ops).getD j [] ∨ freeS ops bars i = true := by
  intro j hj i hi
  rcases List.mem_append.1 hj with hj | hj
  ·exact (hh1 j hj i hi).imp (fun h => h) (hHS i)
  ·simpa using (hbar.2 j hj).1 i (by simpa using hi)
 have hbar2 : ∀ j ∈ bars.bar, ∀ k, j < k → k < ops.size → j ∈ (ancOf ops).getD k [] ∨ freeS ops bars k = true := by
  intro j hj k hk hk2
  rcases List.mem_append.1 hj with hj | hj
  ·exact (hh2 j hj k hk hk2).imp (fun h => h) (hHS k)
  ·have := (hbar.2 j hj).2 k (by simpa using hk2)
   simp only [Bool.or_eq_true, Bool.not_eq_true', decide_eq_false_iff_not] at this
   rcases this with (h1 | h1) | h1
   ·exact absurd hk h1
   ·left; simpa using h1
   ·exact .inr h1
 have hbarf : ∀ j ∈ bars.bar, freeS ops bars j = false := by
  intro j hj
  unfold freeS freeH
  have : bars.bar.contains j = true := by simpa using hj
  rw [this]; rfl
 let InSt : Array Bool → S → Prop := fun listed s => ∃ k, k ≤ ops.size ∧ s.σ = (stAt g l trs k).1 ++ (stAt g l trs k).2 ∧ (stAt g l trs k).1.length = g.length ∧ (∀ j ∈ bars.bar, j < k → listed.getD j false = true) ∧ (∀ j ∈ bars.bar, k ≤ j → listed.getD j false = false)
 unfold ordered at hord
 rw [List.all_eq_true] at hord
 have hpred : ∀ (j : Nat) o, ops[j]? = some o → ∀ e ∈ o.after.toList, Region.binds .any e = true → e.on < j := by
  intro j o ho e he hb
  have hj := hord j (by simpa using (Array.getElem?_eq_some_iff.1 ho).1)
  simp only [ho, Option.any_some, Bool.and_eq_true, List.all_eq_true, Bool.or_eq_true, Bool.not_eq_true', decide_eq_true_eq] at hj
  rcases hj.1 e he with h1 | h1
  ·rw [hb] at h1; cases h1
  ·exact h1
 have hclash : ∀ (i j : Nat) oi oj, i < j → ops[i]? = some oi → ops[j]? = some oj → (clash ops oi oj = true ∨ clash ops oj oi = true) → i ∈ (ancOf ops).getD j [] := by
  intro i j oi oj hij hi hj hc
  have h1 := hord j (by simpa using (Array.getElem?_eq_some_iff.1 hj).1)
  simp only [hj, Option.any_some, Bool.and_eq_true, List.all_eq_true] at h1
  have h2 := h1.2 i (by simpa using hij)
  simp only [hi, Option.any_some, Bool.or_eq_true, Bool.not_eq_true'] at h2
  rcases h2 with h2 | h2
  ·rcases hc with hc | hc <;> simp [hc] at h2
  ·simpa using h2
 intro s0 a0 D hs0 hI0 hΓ0 ht0 hn0 hd0
 refine wp_region_any hm ?_
 -- the state behind the draw of the order
 have hbd : Below s0.w.heap.size s0.w { s0.w with drawn := s0.w.drawn + 1 } := (Below.refl _ _).drew
 have key : ∀ (fuel : Nat) (listed : Array Bool) (s : S) (a : Act), listed.size = ops.size → listed.toList.countP (fun b => !b) ≤ fuel →
   (∀ (j : Nat) o, ops[j]? = some o → listed.getD j false = true → ∀ e ∈ o.after.toList, Region.binds .any e = true → listed.getD e.on false = true) →
   InSt listed s → HInv s → Ext s0 s → (∀ t, Rep s (envD ops rs (fun i => listed.getD i false) ts ops.size t) (a.tmps.getD t undef)) → a.tmps.size = n → a.defers = D →
   wpAny E.P .any ops (fun e a' w' => ∃ ts' g' l' s', s'.w = w' ∧ s'.σ = g' ++ l' ∧ g'.length = g.length ∧ HInv s' ∧ Ext s0 s' ∧ TsRep s' ts' a' ∧ a'.tmps.size = n ∧ a'.defers = D ∧ Q e ts' g' l') fuel listed a s.w := by
  intro fuel
  induction fuel with
  | zero =>
   intro listed s a hls hcnt hdown hs hI hE ht hn hd
   have hall : ∀ i, i < ops.size → listed.getD i false = true := by
    intro i hi
    have hi' : i < listed.size := by omega
    have := count_zero (l := listed.toList) (by omega) (i := i) (b := listed[i]) (by simp [hi'])
    simp [hi', this]
   have hs' : s.σ = (stAt g l trs ops.size).1 ++ (stAt g l trs ops.size).2 ∧ (stAt g l trs ops.size).1.length = g.length := by
    obtain ⟨k, hk, h1, h2, h3, h4⟩ := hs
    have : stAt g l trs ops.size = stAt g l trs k := hsame hk (Nat.le_refl _) fun j h5 h6 => by
     cases hb : bars.bar.contains j with
     | false => rfl
     | true =>
      have := h4 j (by simpa using hb) h5
      rw [hall j h6] at this; cases this
    rw [this]; exact ⟨h1, h2⟩
   refine ⟨?_, tsE, _, _, s, rfl, hs'.1, hs'.2, hI, hE, ?_, hn, hd, hQ⟩
   ·cases hr : Region.ready .any ops listed with
    | nil => rfl
    | cons j r =>
     have hj : j ∈ Region.ready .any ops listed := by rw [hr]; simp
     obtain ⟨h1, o, h2, _⟩ := mem_ready.1 hj
     have hlt := (Array.getElem?_eq_some_iff.1 h2).1
     have := hall j hlt
     have hj2 : j < listed.size := by omega
     simp [hj2] at h1 this
     rw [h1] at this; cases this
   ·intro t
    rw [heq t, hend t]
    have := ht t
    rwa [envD_same (D' := fun _ => true) fun i hi _ => hall i hi] at this
  | succ fuel ih =>
   intro listed s a hls hcnt hdown hs hI hE ht hn hd
   refine ⟨fun hr => ?_, fun j hj => ?_⟩
   ·-- nothing is ready: all are through
    have hall : ∀ i, i < ops.size → listed.getD i false = true := by
     intro i
     induction i using Nat.strongRecOn with
     | _ i ihi =>
      intro hi
      have hi' : i < listed.size := by omega
      cases hb : listed[i] with
      | true => simp [hi', hb]
      | false =>
       have hget : ops[i]? = some ops[i] := Array.getElem?_eq_getElem hi
       have : i ∈ Region.ready .any ops listed := mem_ready.2 ⟨by simp [hi', hb], _, hget, fun e he hbind => by
        have := hpred i _ hget e (by simpa using he) hbind
        exact ihi e.on this (by omega)⟩
       rw [hr] at this; cases this
    have hs' : s.σ = (stAt g l trs ops.size).1 ++ (stAt g l trs ops.size).2 ∧ (stAt g l trs ops.size).1.length = g.length := by
     obtain ⟨k, hk, h1, h2, h3, h4⟩ := hs
     have : stAt g l trs ops.size = stAt g l trs k := hsame hk (Nat.le_refl _) fun j h5 h6 => by
      cases hb : bars.bar.contains j with
      | false => rfl
      | true =>
       have := h4 j (by simpa using hb) h5
       rw [hall j h6] at this; cases this
     rw [this]; exact ⟨h1, h2⟩
    refine ⟨tsE, _, _, s, rfl, hs'.1, hs'.2, hI, hE, ?_, hn, hd, hQ⟩
    intro t
    rw [heq t, hend t]
    have := ht t
    rwa [envD_same (D' := fun _ => true) fun i hi _ => hall i hi] at this
   ·obtain ⟨hun, o, ho, hpr⟩ := mem_ready.1 hj
    have hjlt := (Array.getElem?_eq_some_iff.1 ho).1
    have hjl : j < listed.size := by omega
    have hjf : listed[j] = false := by simpa [hjl] using hun
    have hpr' : ∀ e ∈ o.after.toList, Region.binds .any e = true → listed.getD e.on false = true := fun e he => hpr e (by simpa using he)
    have hthr := anc_through (D := fun i => listed.getD i false) hdown j o ho hpr'
    -- later operations that clash with this one are not through
    have hlate : ∀ i oi, j < i → ops[i]? = some oi → (clash ops o oi = true ∨ clash ops oi o = true) → listed.getD i false = false := by
     intro i oi hij hi hc
     cases hb : listed.getD i false with
     | false => rfl
     | true =>
      have h1 := hclash j i o oi hij ho hi hc
      have h2 := anc_through (D := fun i => listed.getD i false) hdown i oi hi (hdown i oi hi hb) j h1
      simp [hjl, hjf] at h2
    obtain ⟨tj, htj, hf, hgj, hgj1, hnob, _, hloose⟩ := hfact j o (Nat.zero_le _) ho
    -- the store here is as in the order of the text; what it is behind this operation
    have hsj : freeS ops bars j = false → s.σ = (stAt g l trs j).1 ++ (stAt g l trs j).2 := by
     intro hnf
     obtain ⟨k, hk, h1, h2, h3, h4⟩ := hs
     have : stAt g l trs j = stAt g l trs k := by
      rcases Nat.lt_or_ge j k with hjk | hjk
      ·refine (hsame (Nat.le_of_lt hjk) hk fun i h5 h6 => ?_).symm
       cases hb : bars.bar.contains i with
       | false => rfl
       | true =>
        have hbm : i ∈ bars.bar := by simpa using hb
        have hli := h3 i hbm h6
        have hni : i ≠ j := by intro hh; subst hh; simp [hjl, hjf] at hli
        have hlt : i < ops.size := by omega
        have := anc_through (D := fun i => listed.getD i false) hdown i ops[i] (Array.getElem?_eq_getElem hlt) (hdown i _ (Array.getElem?_eq_getElem hlt) hli) j ((hbar1 i hbm j (by omega)).resolve_right (by rw [hnf]; simp))
        simp [hjl, hjf] at this
      ·refine hsame hjk (Nat.le_of_lt hjlt) fun i h5 h6 => ?_
       cases hb : bars.bar.contains i with
       | false => rfl
       | true =>
        have hbm : i ∈ bars.bar := by simpa using hb
        have hli := h4 i hbm h5
        have := hthr i ((hbar2 i hbm j h6 hjlt).resolve_right (by rw [hnf]; simp))
        rw [hli] at this; cases this
     rw [this]; exact h1
    have hInNext : freeS ops bars j = false → ∀ s' : S, s'.σ = (stAt g l trs (j + 1)).1 ++ (stAt g l trs (j + 1)).2 → InSt (listed.setIfInBounds j true) s' := by
     intro hnf s' hs'
     have hset : ∀ i, (listed.setIfInBounds j true).getD i false = if i = j then true else listed.getD i false := by
      intro i
      by_cases hij : i = j
      ·subst hij; simp [hjl]
      ·rw [if_neg hij, getD_set_ne false (fun h => hij h.symm)]
     obtain ⟨k, hk, h1, h2, h3, h4⟩ := hs
     cases hb : bars.bar.contains j with
     | true =>
      have hbm : j ∈ bars.bar := by simpa using hb
      have hkj : k ≤ j := by
       rcases Nat.lt_or_ge j k with h5 | h5
       ·have := h3 j hbm h5; simp [hjl, hjf] at this
       ·exact h5
      refine ⟨j + 1, hjlt, hs', hgj1, fun i hi hij => ?_, fun i hi hij => ?_⟩
      ·rw [hset]
       split
       ·rfl
       ·exact hthr i ((hbar1 j hbm i (by omega)).resolve_right (by rw [hbarf i hi]; simp))
      ·rw [hset, if_neg (by omega)]
       exact h4 i hi (by omega)
     | false =>
      refine ⟨k, hk, ?_, h2, fun i hi hij => ?_, fun i hi hij => ?_⟩
      ·rw [hs', hnob hb, ← hsj hnf, h1]
      ·rw [hset]; split
       ·rfl
       ·exact h3 i hi hij
      ·rw [hset, if_neg (by intro hh; subst hh; have : bars.bar.contains i = true := (by simpa using hi); rw [this] at hb; cases hb)]
       exact h4 i hi hij
    -- the store before and behind, as this operation sees it
    obtain ⟨P0, P1, hsP, hfP, hInP⟩ : ∃ P0 P1 : List Ent × List Ent, s.σ = P0.1 ++ P0.2 ∧ OpFact E T ops o tj P0.1 P0.2 (rs.getD j .un) P1.1 P1.2 ∧
      ∀ s' : S, s'.σ = P1.1 ++ P1.2 → InSt (listed.setIfInBounds j true) s' := by
     cases hfr : freeS ops bars j with
     | false => exact ⟨_, _, hsj hfr, hf, hInNext hfr⟩
     | true =>
      have hnb : bars.bar.contains j = false := by
       unfold freeS freeH at hfr
       cases hq : bars.bar.contains j with
       | false => rfl
       | true => rw [hq] at hfr; simp at hfr
      obtain ⟨k, hk, h1, h2, h3, h4⟩ := hs
      have hin : ∀ s' : S, s'.σ = (stAt g l trs k).1 ++ (stAt g l trs k).2 → InSt (listed.setIfInBounds j true) s' := fun s' hs' => ⟨k, hk, hs', h2, fun i hi hij => by
        by_cases hij2 : i = j
        ·subst hij2; simp [hjl]
        ·rw [getD_set_ne false (fun h => hij2 h.symm)]; exact h3 i hi hij, fun i hi hij => by
        have hij2 : i ≠ j := by
         intro hh; subst hh
         have : bars.bar.contains i = true := by simpa using hi
         rw [this] at hnb; cases hnb
        rw [getD_set_ne false (fun h => hij2 h.symm)]; exact h4 i hi hij⟩
      cases hfh : freeH ops bars j with
      | true =>
       unfold freeH at hfh
       simp only [ho, Option.any_some, Bool.and_eq_true, Bool.not_eq_true'] at hfh
       exact ⟨_, _, h1, blind_fact hfh.2 hf _ _, hin⟩
      | false =>
       have hl : bars.loose.contains j = true := by
        unfold freeS at hfr
        rw [hfh, hnb] at hfr
        simpa using hfr
       have hmemh : ∀ i, i ∈ bars.hard → i ∈ bars.bar := fun i hi => List.mem_append_left _ hi
       have hsame2 : bars.ok2 (stAt g l trs k).1 (stAt g l trs k).2 (stAt g l trs j).1 (stAt g l trs j).2 := by
        rcases Nat.lt_or_ge j k with hjk | hjk
        ·refine hsoft (Nat.le_of_lt hjk) hk fun i h5 h6 => ?_
         cases hb : bars.hard.contains i with
         | false => rfl
         | true =>
          have hbh : i ∈ bars.hard := by simpa using hb
          have hli := h3 i (hmemh i hbh) h6
          have hni : i ≠ j := by intro hh; subst hh; simp [hjl, hjf] at hli
          have hlt : i < ops.size := by omega
          have := anc_through (D := fun i => listed.getD i false) hdown i ops[i] (Array.getElem?_eq_getElem hlt) (hdown i _ (Array.getElem?_eq_getElem hlt) hli) j ((hh1 i hbh j (by omega)).resolve_right (by rw [hfh]; simp))
          simp [hjl, hjf] at this
        ·refine Bars.ok2_symm (hsoft hjk (Nat.le_of_lt hjlt) fun i h5 h6 => ?_)
         cases hb : bars.hard.contains i with
         | false => rfl
         | true =>
          have hbh : i ∈ bars.hard := by simpa using hb
          have hli := h4 i (hmemh i hbh) h5
          have := hthr i ((hh2 i hbh j h6 hjlt).resolve_right (by rw [hfh]; simp))
          rw [hli] at this; cases this
       have hfl := hloose hnb hl (stAt g l trs k).1 (stAt g l trs k).2 (by rw [h2, hgj]) hsame2
       exact ⟨_, _, h1, hfl, hin⟩
    clear hInNext hf
    have hf := hfP
    -- what it looks at is as in the order of the text
    have hlook : ∀ t ∈ looks ops o, Rep s (tget tj t) (a.tmps.getD t undef) := by
     intro t htl
     rw [htj t]
     have := ht t
     have e1 : envD ops rs (fun i => listed.getD i false) ts ops.size t = envD ops rs (fun i => listed.getD i false) ts j t := by
      refine envD_skip (by omega) fun i h1 h2 h3 h4 => ?_
      have hi : ops[i]? = some ops[i] := Array.getElem?_eq_getElem h2
      rw [hi] at h4
      simp only [Option.bind_some] at h4
      rcases Nat.lt_or_ge j i with h5 | h5
      ·have := hlate i _ h5 hi (.inr (by unfold clash; rw [h4]; simp [htl]))
       rw [this] at h3; cases h3
      ·have : i = j := by omega
       subst this; simp [hjl, hjf] at h3
     have e2 : envD ops rs (fun i => listed.getD i false) ts j t = envD ops rs (fun _ => true) ts j t := by
      refine envD_same fun i hi h4 => ?_
      have hi2 : ops[i]? = some ops[i] := Array.getElem?_eq_getElem (by omega)
      rw [hi2] at h4
      simp only [Option.bind_some] at h4
      exact hthr i (hclash i j _ o hi hi2 ho (.inl (by unfold clash; rw [h4]; simp [htl])))
     rw [e1, e2] at this
     exact this
    have hdst := opsOK_dst hok (i := j) (o := o) (by simpa using ho)
    -- the step, and what holds behind it
    have hnext : ∀ (v : Value) (s' : S), s'.σ = P1.1 ++ P1.2 → HInv s' → Ext s s' → Rep s' (rs.getD j .un) v →
      wpAny E.P .any ops (fun e a' w' => ∃ ts' g' l' s', s'.w = w' ∧ s'.σ = g' ++ l' ∧ g'.length = g.length ∧ HInv s' ∧ Ext s0 s' ∧ TsRep s' ts' a' ∧ a'.tmps.size = n ∧ a'.defers = D ∧ Q e ts' g' l') fuel (listed.setIfInBounds j true) (a.put o.dst v) s'.w := by
     intro v s' hs' hI' hE' hr'
     have hset : ∀ i, (listed.setIfInBounds j true).getD i false = if i = j then true else listed.getD i false := by
      intro i
      by_cases hij : i = j
      ·subst hij; simp [hjl]
      ·rw [if_neg hij, getD_set_ne false (fun h => hij h.symm)]
     refine ih _ s' _ (by simp [hls]) ?_ ?_ (hInP s' hs') hI' (hE.trans hE') ?_ (by rw [put_size]; exact hn) (by rw [put_defers]; exact hd)
     ·have := count_set (l := listed.toList) (i := j) (by simp [hjl, hjf])
      simp only [Array.toList_setIfInBounds]
      omega
     ·intro i oi hi hli e he hb
      rw [hset] at hli ⊢
      by_cases hij : i = j
      ·subst hij
       rw [ho] at hi; cases hi
       split
       ·rfl
       ·exact hpr' e he hb
      ·rw [if_neg hij] at hli
       split
       ·rfl
       ·exact hdown i oi hi hli e he hb
     ·intro t
      have hold := Rep.ext hE' (ht t)
      by_cases hdt : o.dst = some t
      ·have hval : envD ops rs (fun i => (listed.setIfInBounds j true).getD i false) ts ops.size t = rs.getD j .un := by
        rw [envD_skip (k := j + 1) (by omega) fun i h1 h2 h3 h4 => ?_]
        ·rw [envD, ho, if_pos ⟨by simp [hset], by simpa using hdt⟩]
        ·have hi : ops[i]? = some ops[i] := Array.getElem?_eq_getElem h2
         rw [hi] at h4
         simp only [Option.bind_some] at h4
         have hne : i ≠ j := by omega
         simp only [hset, if_neg hne] at h3
         have := hlate i _ (by omega) hi (.inl (by unfold clash; rw [hdt]; simp [h4]))
         rw [this] at h3; cases h3
       rw [hval, hdt]
       show Rep s' _ ((a.tmps.setIfInBounds t v).getD t undef)
       rw [getD_set, if_pos ⟨rfl, by rw [hn]; exact hdst t hdt⟩]
       exact hr'
      ·have hval : envD ops rs (fun i => (listed.setIfInBounds j true).getD i false) ts ops.size t = envD ops rs (fun i => listed.getD i false) ts ops.size t := by
        refine envD_same fun i hi h4 => ?_
        rw [hset]
        by_cases hij : i = j
        ·subst hij; rw [ho] at h4; exact absurd h4 hdt
        ·rw [if_neg hij]
       rw [hval]
       have hput : (a.put o.dst v).tmps.getD t undef = a.tmps.getD t undef := by
        cases hd2 : o.dst with
        | none => rfl
        | some d =>
         show (a.tmps.setIfInBounds d v).getD t undef = _
         rw [getD_set, if_neg (fun hh => hdt (by rw [hd2, hh.1]))]
       rw [hput]; exact hold
    have hΓ : E.Γ s.B s.w := hE.B ▸ E.stable _ _ _ hE.below hΓ0
    have hrun : aFix E T o tj P0.1 P0.2 (rs.getD j .un) P1.1 P1.2 → o.wp E.P a s.w (wpAny E.P .any ops (fun e a' w' => ∃ ts' g' l' s', s'.w = w' ∧ s'.σ = g' ++ l' ∧ g'.length = g.length ∧ HInv s' ∧ Ext s0 s' ∧ TsRep s' ts' a' ∧ a'.tmps.size = n ∧ a'.defers = D ∧ Q e ts' g' l') fuel (listed.setIfInBounds j true))
      (fun e a' w' => ∃ ts' g' l' s', s'.w = w' ∧ s'.σ = g' ++ l' ∧ g'.length = g.length ∧ HInv s' ∧ Ext s0 s' ∧ TsRep s' ts' a' ∧ a'.tmps.size = n ∧ a'.defers = D ∧ Q e ts' g' l') := by
     intro hfix
     have hR : TsRep s ((looks ops o).map fun t => (t, tget tj t)) a := by
      intro t
      rw [tget_map]
      split
      ·rename_i hm; exact hlook t hm
      ·unfold Rep; trivial
     have hcong : aFix E T o ((looks ops o).map fun t => (t, tget tj t)) P0.1 P0.2 (rs.getD j .un) P1.1 P1.2 := by
      rw [aFix_congr (ts' := tj) fun x hx => ?_]
      ·exact hfix
      ·refine ev_const x fun t htx => ?_
       rw [tget_map, if_pos]
       unfold looks
       refine List.mem_append_left _ (List.mem_filterMap.2 ⟨x, by simpa using hx, by rw [htx]⟩)
     refine aOne_sound hT hcong hsP hI hΓ hR fun v r g' l' s' h1 h2 h3 h4 h5 h6 => ?_
     obtain ⟨rfl, rfl, rfl⟩ := h6
     exact hnext v s' h1 h3 h4 h5
    unfold wpOp
    simp only [ho]
    unfold OpFact at hf
    cases hg : o.guard with
    | none =>
     simp only [hg] at hf
     have hw : Region.wanted o (yielded ops a.tmps) = true := by simp [Region.wanted, hg]
     rw [if_pos hw]
     exact .inl (hrun hf)
    | some jw =>
     obtain ⟨k, want⟩ := jw
     simp only [hg] at hf
     obtain ⟨d, hsl, hcase⟩ := hf
     unfold gslot at hsl
     have hmem : d ∈ looks ops o := by unfold looks; simp [hg, hsl]
     have hrep := hlook d hmem
     rcases hcase with ⟨hb, hfix⟩ | ⟨hb, hr, hg1, hl1⟩ | ⟨⟨q, hb⟩, hr, hg1, hl1⟩
     ·rw [hb] at hrep
      simp only [boolV] at hrep
      unfold Rep at hrep
      have hy : yielded ops a.tmps k = some want := by unfold yielded; rw [hsl]; simp [getD_bool hT hrep]
      have hw : Region.wanted o (yielded ops a.tmps) = true := by simp [Region.wanted, hg, hy]
      rw [if_pos hw]
      exact .inl (hrun hfix)
     ·rw [hb] at hrep
      simp only [boolV] at hrep
      unfold Rep at hrep
      have hy : yielded ops a.tmps k = some (!want) := by unfold yielded; rw [hsl]; simp [getD_bool hT hrep]
      have hw : ¬ Region.wanted o (yielded ops a.tmps) = true := by simp [Region.wanted, hg, hy]
      rw [if_neg hw]
      exact hnext undef s (by rw [hg1, hl1]; exact hsP) hI (Ext.refl s) (by rw [hr]; unfold Rep; rfl)
     ·rw [hb] at hrep
      unfold Rep at hrep
      have hy : yielded ops a.tmps k = none := by
       unfold yielded; rw [hsl]
       simp only [Option.bind_some]
       rw [Array.getD_eq_getD_getElem?] at hrep
       cases hh : a.tmps[d]? with
       | none => rfl
       | some x => rw [hh] at hrep; simp at hrep; rw [hrep]
      have hw : ¬ Region.wanted o (yielded ops a.tmps) = true := by simp [Region.wanted, hg, hy]
      rw [if_neg hw]
      exact hnext undef s (by rw [hg1, hl1]; exact hsP) hI (Ext.refl s) (by rw [hr]; unfold Rep; rfl)
 have hE1 : Ext s0 { s0 with w := { s0.w with drawn := s0.w.drawn + 1 } } := Ext.of_below hI0 hbd
 have hfalse : ∀ i, (Array.replicate ops.size false).getD i false = false := by
  intro i
  rw [Array.getD_eq_getD_getElem?]
  by_cases hi : i < ops.size <;> simp [hi]
 refine key ops.size (Array.replicate ops.size false) { s0 with w := { s0.w with drawn := s0.w.drawn + 1 } } a0 (by simp) (by simp [Array.toList_replicate, List.countP_replicate]) (fun j o ho hj => by rw [hfalse] at hj; cases hj) ⟨0, Nat.zero_le _, hs0, rfl, fun j _ hj => by omega, fun j _ _ => hfalse j⟩ (hI0.of_below hbd) hE1 ?_ hn0 hd0
 intro t
 rw [envD_skip (k := 0) (Nat.zero_le _) fun i _ _ h3 => by rw [hfalse] at h3; cases h3]
 exact Rep.ext hE1 (ht0 t)
end
end Go.Vm
namespace Go.Vm
open Go.RowKit
section
variable (E : Env) (n : Nat) (T : Nat → TI) (rows : List Nat) (all : Array Oper) (ts : Ts) (g l : List Ent) (bars : Bars) (k : Nat)
theorem sDraw_if (dst : Option Nat) (op : Op) (ty : TypeId) (pos : String) (after : Array Edge) (j : Nat) (want : Bool) (rest : List Oper) (K : Ts → List Ent → List Ent → Prop) :
  sDraw E T all bars k (⟨dst, op, ty, pos, after, some (j, want)⟩ :: rest) ts g l K = slotK (gslot all j) fun d => guardK (tget ts d) want
   (sNext bars k E T ⟨dst, op, ty, pos, after, some (j, want)⟩ ((d, boolV want) :: ts) g l fun r g l => sDraw E T all bars (k + 1) rest (tput ((d, boolV want) :: ts) dst r) g l K)
   (sDraw E T all bars (k + 1) rest (tput ((d, boolV (!want)) :: ts) dst (.v undef)) g l K) (sDraw E T all bars (k + 1) rest (tput ts dst (.v undef)) g l K) := by
 rw [sDraw]
 simp only
 generalize gslot all j = s
 cases s with
 | none => rfl
 | some d =>
  simp only [slotK, guardK]
  generalize tget ts d = v
  cases v with
  | v x => cases x <;> rfl
  | _ => rfl
end
section
variable {bars : Bars} {k : Nat} {E : Env} {T : Nat → TI} {o : Oper} {ts : Ts} {g l : List Ent} {K : AV → List Ent → List Ent → Prop}
theorem sNext_det (h : notCall o.op = true) (hs : bars.soft.contains k = false) (hl : bars.loose.contains k = false) : sNext bars k E T o ts g l K = detK (bars.hard.contains k) g l (aDet T [] o ts g l) K := by
 have e : sNext bars k E T o ts g l K = aNext bars.hard k E T o ts g l K := by
  unfold sNext aNext
  rw [hs, hl]
  simp only [Bool.false_eq_true, if_false]
 rw [e]; exact aNext_det _ _ _ _ _ _ _ _ _ h
theorem sNext_call {dst : Option Nat} {f : FuncId} {as : Array Operand} {tys : Array TypeId} {ty : TypeId} {pos : String} {after : Array Edge} {gd : Option (Nat × Bool)} {r : AV} (hb : bars.hard.contains k = false) (hs : bars.soft.contains k = false) (hl : bars.loose.contains k = false)
  (h : ACalls E f (as.toList.map (ev ts)) (g ++ l) fun r' τ => r' = r ∧ τ = g ++ l) (hK : K r g l) :
  sNext bars k E T ⟨dst, .call { callee := .value (.func f), args := as, argTypes := tys }, ty, pos, after, gd⟩ ts g l K := by
 have e : ∀ o, sNext bars k E T o ts g l K = aNext bars.hard k E T o ts g l K := fun o => by
  unfold sNext aNext
  rw [hs, hl]
  simp only [Bool.false_eq_true, if_false]
 rw [e]; exact aNext_call _ _ _ _ _ _ _ _ hb h hK
end
theorem xdrawS {E : Env} {T : Nat → TI} (hT : TabOK E.P T) {n id : Nat} {rows : List Nat} {ops : Array Oper} {k : Kont} {ts : Ts} {g l : List Ent} (bars : Bars)
  (hm : E.P.follows .mixedOrders = true) (hord : ordered ops = true) (hbar : barredS ops bars = true) (hok : opsOK n ops.toList = true)
  (h : sDraw E T ops bars 0 ops.toList ts g l fun ts' g' l' => xK E n T rows k .normal ts' g' l') : xCode E n T rows (.region id ops true) k ts g l := by
 unfold xCode
 rw [aCode_draw]
 exact awp_drawS hT bars hm hord hbar hok h
section
variable (E : Env) (n : Nat) (T : Nat → TI) (rows : List Nat) (bars : Bars) (i : Nat)
def zDraw (all : Array Oper) (os : List Oper) (k : Kont) (ts : Ts) (g l : List Ent) : Prop := sDraw E T all bars i os ts g l fun ts g l => xK E n T rows k .normal ts g l
def zNext (o : Oper) (all : Array Oper) (os : List Oper) (k : Kont) (ts : Ts) (g l : List Ent) : Prop :=
 sNext bars i E T o ts g l fun r g l => zDraw E n T rows bars (i + 1) all os k (tput ts o.dst r) g l
def zOut (bar : Bool) (dst : Option Nat) (all : Array Oper) (os : List Oper) (k : Kont) (ts : Ts) (g l : List Ent) (o : Out) : Prop :=
 detK bar g l o fun r g l => zDraw E n T rows bars (i + 1) all os k (tput ts dst r) g l
def zSlot (o : Oper) (want : Bool) (all : Array Oper) (os : List Oper) (k : Kont) (ts : Ts) (g l : List Ent) (s : Option Nat) : Prop :=
 slotK s fun d => guardK (tget ts d) want
   (sNext bars i E T o ((d, boolV want) :: ts) g l fun r g l => sDraw E T all bars (i + 1) os (tput ((d, boolV want) :: ts) o.dst r) g l fun ts g l => xK E n T rows k .normal ts g l)
   (sDraw E T all bars (i + 1) os (tput ((d, boolV (!want)) :: ts) o.dst (.v undef)) g l fun ts g l => xK E n T rows k .normal ts g l)
   (sDraw E T all bars (i + 1) os (tput ts o.dst (.v undef)) g l fun ts g l => xK E n T rows k .normal ts g l)
def zGuard (d : Nat) (o : Oper) (want : Bool) (all : Array Oper) (os : List Oper) (k : Kont) (ts : Ts) (g l : List Ent) (v : AV) : Prop :=
 guardK v want (zNext E n T rows bars i o all os k ((d, boolV want) :: ts) g l)
   (zDraw E n T rows bars (i + 1) all os k (tput ((d, boolV (!want)) :: ts) o.dst (.v undef)) g l) (zDraw E n T rows bars (i + 1) all os k (tput ts o.dst (.v undef)) g l)
def zWait (dst : Option Nat) (all : Array Oper) (os : List Oper) (k : Kont) (ts : Ts) (f : FuncId) (args : List AV) (g l : List Ent) : Prop :=
 bars.hard.contains i = false ∧ bars.soft.contains i = false ∧ bars.loose.contains i = false ∧ ∃ r, (ACalls E f args (g ++ l) fun r' τ' => r' = r ∧ τ' = g ++ l) ∧ zDraw E n T rows bars (i + 1) all os k (tput ts dst r) g l
variable (all : Array Oper) (os : List Oper) (k : Kont) (ts : Ts) (g l : List Ent)
theorem zDraw_nil : zDraw E n T rows bars i all [] k ts g l = xK E n T rows k .normal ts g l := nrfl rfl
theorem zDraw_go (dst : Option Nat) (op : Op) (ty : TypeId) (pos : String) (after : Array Edge) :
  zDraw E n T rows bars i all (⟨dst, op, ty, pos, after, none⟩ :: os) k ts g l = zNext E n T rows bars i ⟨dst, op, ty, pos, after, none⟩ all os k ts g l := nrfl rfl
theorem zDraw_if (dst : Option Nat) (op : Op) (ty : TypeId) (pos : String) (after : Array Edge) (j : Nat) (want : Bool) :
  zDraw E n T rows bars i all (⟨dst, op, ty, pos, after, some (j, want)⟩ :: os) k ts g l = zSlot E n T rows bars i ⟨dst, op, ty, pos, after, some (j, want)⟩ want all os k ts g l (gslot all j) := by
 unfold zDraw zSlot
 rw [sDraw_if]
theorem zSlot_some (o : Oper) (want : Bool) (d : Nat) : zSlot E n T rows bars i o want all os k ts g l (some d) = zGuard E n T rows bars i d o want all os k ts g l (tget ts d) := nrfl rfl
theorem zGuard_tt (d : Nat) (o : Oper) : zGuard E n T rows bars i d o true all os k ts g l (.v (.bool true)) = zNext E n T rows bars i o all os k ((d, boolV true) :: ts) g l := nrfl rfl
theorem zGuard_ff (d : Nat) (o : Oper) : zGuard E n T rows bars i d o false all os k ts g l (.v (.bool false)) = zNext E n T rows bars i o all os k ((d, boolV false) :: ts) g l := nrfl rfl
theorem zGuard_tf (d : Nat) (o : Oper) : zGuard E n T rows bars i d o false all os k ts g l (.v (.bool true)) = zDraw E n T rows bars (i + 1) all os k (tput ((d, boolV true) :: ts) o.dst (.v undef)) g l := nrfl rfl
theorem zGuard_ft (d : Nat) (o : Oper) : zGuard E n T rows bars i d o true all os k ts g l (.v (.bool false)) = zDraw E n T rows bars (i + 1) all os k (tput ((d, boolV false) :: ts) o.dst (.v undef)) g l := nrfl rfl
theorem zGuard_un (d : Nat) (o : Oper) (want : Bool) (vs : Array Value) : zGuard E n T rows bars i d o want all os k ts g l (.v (.tuple vs)) = zDraw E n T rows bars (i + 1) all os k (tput ts o.dst (.v undef)) g l := nrfl rfl
theorem zOut_some (bar : Bool) (dst : Option Nat) (p : Prop) (r : AV) (g1 l1 : List Ent) : zOut E n T rows bars i bar dst all os k ts g l (some (p, r, g1, l1)) =
  (p ∧ (if bar = true then g1.length = g.length else g1 = g ∧ l1 = l) ∧ zDraw E n T rows bars (i + 1) all os k (tput ts dst r) g1 l1) := nrfl rfl
theorem zOut_pure (dst : Option Nat) (r : AV) : zOut E n T rows bars i false dst all os k ts g l (some (True, r, g, l)) = zDraw E n T rows bars (i + 1) all os k (tput ts dst r) g l := by
 rw [zOut_some]; simp
theorem zOut_cond (dst : Option Nat) (p : Prop) (r : AV) : zOut E n T rows bars i false dst all os k ts g l (some (p, r, g, l)) = (p ∧ zDraw E n T rows bars (i + 1) all os k (tput ts dst r) g l) := by
 rw [zOut_some]; simp
theorem zNext_det (o : Oper) (h : notCall o.op = true) (hs : bars.soft.contains i = false) (hl : bars.loose.contains i = false) : zNext E n T rows bars i o all os k ts g l = zOut E n T rows bars i (bars.hard.contains i) o.dst all os k ts g l (aDet T [] o ts g l) := by
 unfold zNext
 rw [sNext_det h hs hl]; rfl
theorem zWait_call {dst : Option Nat} {f : FuncId} {as : Array Operand} {tys : Array TypeId} {ty : TypeId} {pos : String} {after : Array Edge} {gd : Option (Nat × Bool)}
  (h : zWait E n T rows bars i dst all os k ts f (as.toList.map (ev ts)) g l) : zNext E n T rows bars i ⟨dst, .call { callee := .value (.func f), args := as, argTypes := tys }, ty, pos, after, gd⟩ all os k ts g l := by
 obtain ⟨h0, hs, hl, r, h1, h2⟩ := h
 exact sNext_call h0 hs hl h1 h2
variable (ix : Nat)
theorem zNext_move (dst : Option Nat) (x : Operand) (ty : TypeId) (pos : String) (after : Array Edge) (gd : Option (Nat × Bool)) (hs : bars.soft.contains ix = false) (hl : bars.loose.contains ix = false) :
  zNext E n T rows bars ix ⟨dst, .move x, ty, pos, after, gd⟩ all os k ts g l = zOut E n T rows bars ix (bars.hard.contains ix) dst all os k ts g l (aDet T [] ⟨dst, .move x, ty, pos, after, gd⟩ ts g l) := zNext_det E n T rows bars ix all os k ts g l _ rfl hs hl
theorem zNext_assign (dst : Option Nat) (x : Operand) (ty : TypeId) (pos : String) (after : Array Edge) (gd : Option (Nat × Bool)) (hs : bars.soft.contains ix = false) (hl : bars.loose.contains ix = false) :
  zNext E n T rows bars ix ⟨dst, .assign x, ty, pos, after, gd⟩ all os k ts g l = zOut E n T rows bars ix (bars.hard.contains ix) dst all os k ts g l (aDet T [] ⟨dst, .assign x, ty, pos, after, gd⟩ ts g l) := zNext_det E n T rows bars ix all os k ts g l _ rfl hs hl
theorem zNext_pick (dst : Option Nat) (c a b : Operand) (ty : TypeId) (pos : String) (after : Array Edge) (gd : Option (Nat × Bool)) (hs : bars.soft.contains ix = false) (hl : bars.loose.contains ix = false) :
  zNext E n T rows bars ix ⟨dst, .pick c a b, ty, pos, after, gd⟩ all os k ts g l = zOut E n T rows bars ix (bars.hard.contains ix) dst all os k ts g l (aDet T [] ⟨dst, .pick c a b, ty, pos, after, gd⟩ ts g l) := zNext_det E n T rows bars ix all os k ts g l _ rfl hs hl
theorem zNext_build (dst : Option Nat) (t : TypeId) (parts : Array (Nat × Operand)) (ty : TypeId) (pos : String) (after : Array Edge) (gd : Option (Nat × Bool)) (hs : bars.soft.contains ix = false) (hl : bars.loose.contains ix = false) :
  zNext E n T rows bars ix ⟨dst, .build t parts, ty, pos, after, gd⟩ all os k ts g l = zOut E n T rows bars ix (bars.hard.contains ix) dst all os k ts g l (aDet T [] ⟨dst, .build t parts, ty, pos, after, gd⟩ ts g l) := zNext_det E n T rows bars ix all os k ts g l _ rfl hs hl
theorem zNext_buildSlice (dst : Option Nat) (t : TypeId) (m : Nat) (parts : Array (Nat × Operand)) (ty : TypeId) (pos : String) (after : Array Edge) (gd : Option (Nat × Bool)) (hs : bars.soft.contains ix = false) (hl : bars.loose.contains ix = false) :
  zNext E n T rows bars ix ⟨dst, .buildSlice t m parts, ty, pos, after, gd⟩ all os k ts g l = zOut E n T rows bars ix (bars.hard.contains ix) dst all os k ts g l (aDet T [] ⟨dst, .buildSlice t m parts, ty, pos, after, gd⟩ ts g l) := zNext_det E n T rows bars ix all os k ts g l _ rfl hs hl
theorem zNext_load (dst : Option Nat) (t : TypeId) (a : Operand) (ty : TypeId) (pos : String) (after : Array Edge) (gd : Option (Nat × Bool)) (hs : bars.soft.contains ix = false) (hl : bars.loose.contains ix = false) :
  zNext E n T rows bars ix ⟨dst, .load t a, ty, pos, after, gd⟩ all os k ts g l = zOut E n T rows bars ix (bars.hard.contains ix) dst all os k ts g l (aDet T [] ⟨dst, .load t a, ty, pos, after, gd⟩ ts g l) := zNext_det E n T rows bars ix all os k ts g l _ rfl hs hl
theorem zNext_store (dst : Option Nat) (t : TypeId) (a v : Operand) (ty : TypeId) (pos : String) (after : Array Edge) (gd : Option (Nat × Bool)) (hs : bars.soft.contains ix = false) (hl : bars.loose.contains ix = false) :
  zNext E n T rows bars ix ⟨dst, .store t a v, ty, pos, after, gd⟩ all os k ts g l = zOut E n T rows bars ix (bars.hard.contains ix) dst all os k ts g l (aDet T [] ⟨dst, .store t a v, ty, pos, after, gd⟩ ts g l) := zNext_det E n T rows bars ix all os k ts g l _ rfl hs hl
theorem zNext_nilCheck (dst : Option Nat) (x : Operand) (ty : TypeId) (pos : String) (after : Array Edge) (gd : Option (Nat × Bool)) (hs : bars.soft.contains ix = false) (hl : bars.loose.contains ix = false) :
  zNext E n T rows bars ix ⟨dst, .nilCheck x, ty, pos, after, gd⟩ all os k ts g l = zOut E n T rows bars ix (bars.hard.contains ix) dst all os k ts g l (aDet T [] ⟨dst, .nilCheck x, ty, pos, after, gd⟩ ts g l) := zNext_det E n T rows bars ix all os k ts g l _ rfl hs hl
theorem zNext_binOp (dst : Option Nat) (op : BinOp) (t : TypeId) (x y : Operand) (u : TypeId) (ty : TypeId) (pos : String) (after : Array Edge) (gd : Option (Nat × Bool)) (hs : bars.soft.contains ix = false) (hl : bars.loose.contains ix = false) :
  zNext E n T rows bars ix ⟨dst, .binOp op t x y u, ty, pos, after, gd⟩ all os k ts g l = zOut E n T rows bars ix (bars.hard.contains ix) dst all os k ts g l (aDet T [] ⟨dst, .binOp op t x y u, ty, pos, after, gd⟩ ts g l) := zNext_det E n T rows bars ix all os k ts g l _ rfl hs hl
theorem zNext_unOp (dst : Option Nat) (op : UnOp) (t : TypeId) (x : Operand) (ty : TypeId) (pos : String) (after : Array Edge) (gd : Option (Nat × Bool)) (hs : bars.soft.contains ix = false) (hl : bars.loose.contains ix = false) :
  zNext E n T rows bars ix ⟨dst, .unOp op t x, ty, pos, after, gd⟩ all os k ts g l = zOut E n T rows bars ix (bars.hard.contains ix) dst all os k ts g l (aDet T [] ⟨dst, .unOp op t x, ty, pos, after, gd⟩ ts g l) := zNext_det E n T rows bars ix all os k ts g l _ rfl hs hl
theorem zNext_fieldAddr (dst : Option Nat) (t : TypeId) (x : Operand) (f : Nat) (ty : TypeId) (pos : String) (after : Array Edge) (gd : Option (Nat × Bool)) (hs : bars.soft.contains ix = false) (hl : bars.loose.contains ix = false) :
  zNext E n T rows bars ix ⟨dst, .fieldAddr t x f, ty, pos, after, gd⟩ all os k ts g l = zOut E n T rows bars ix (bars.hard.contains ix) dst all os k ts g l (aDet T [] ⟨dst, .fieldAddr t x f, ty, pos, after, gd⟩ ts g l) := zNext_det E n T rows bars ix all os k ts g l _ rfl hs hl
theorem zNext_indexAddr (dst : Option Nat) (t : TypeId) (x i : Operand) (ty : TypeId) (pos : String) (after : Array Edge) (gd : Option (Nat × Bool)) (hs : bars.soft.contains ix = false) (hl : bars.loose.contains ix = false) :
  zNext E n T rows bars ix ⟨dst, .indexAddr t x i, ty, pos, after, gd⟩ all os k ts g l = zOut E n T rows bars ix (bars.hard.contains ix) dst all os k ts g l (aDet T [] ⟨dst, .indexAddr t x i, ty, pos, after, gd⟩ ts g l) := zNext_det E n T rows bars ix all os k ts g l _ rfl hs hl
theorem zNext_builtin (dst : Option Nat) (b : Builtin) (as : Array Operand) (tys : Array TypeId) (ty : TypeId) (pos : String) (after : Array Edge) (gd : Option (Nat × Bool)) (hs : bars.soft.contains ix = false) (hl : bars.loose.contains ix = false) :
  zNext E n T rows bars ix ⟨dst, .call { callee := .builtin b, args := as, argTypes := tys }, ty, pos, after, gd⟩ all os k ts g l = zOut E n T rows bars ix (bars.hard.contains ix) dst all os k ts g l (aDet T [] ⟨dst, .call { callee := .builtin b, args := as, argTypes := tys }, ty, pos, after, gd⟩ ts g l) := zNext_det E n T rows bars ix all os k ts g l _ rfl hs hl
end
theorem zNext.go {E : Env} {n : Nat} {T : Nat → TI} {rows : List Nat} {bars : Bars} {i : Nat} {all : Array Oper} {os : List Oper} {k : Kont} {ts : Ts} {g l : List Ent}
  {dst : Option Nat} {f : FuncId} {as : Array Operand} {tys : Array TypeId} {ty : TypeId} {pos : String} {after : Array Edge} {gd : Option (Nat × Bool)} {r : AV}
  (h0 : bars.hard.contains i = false) (hs : bars.soft.contains i = false) (hl : bars.loose.contains i = false) (args : List AV) (ha : as.toList.map (ev ts) = args) (h : ACalls E f args (g ++ l) fun r' τ' => r' = r ∧ τ' = g ++ l)
  (hk : zDraw E n T rows bars (i + 1) all os k (tput ts dst r) g l) :
  zNext E n T rows bars i ⟨dst, .call { callee := .value (.func f), args := as, argTypes := tys }, ty, pos, after, gd⟩ all os k ts g l :=
 zWait_call E n T rows bars i all os k ts g l ⟨h0, hs, hl, r, by rw [ha]; exact h, hk⟩
theorem zdraw {E : Env} {T : Nat → TI} (hT : TabOK E.P T) {n id : Nat} {rows : List Nat} {ops : Array Oper} {k : Kont} {ts : Ts} {g l : List Ent} (bars : Bars)
  (hm : E.P.follows .mixedOrders = true) (hord : ordered ops = true) (hbar : barredS ops bars = true) (hok : opsOK n ops.toList = true)
  (h : zDraw E n T rows bars 0 ops ops.toList k ts g l) : xCode E n T rows (.region id ops true) k ts g l :=
 xdrawS hT bars hm hord hbar hok h
theorem zNext.soft {E : Env} {n : Nat} {T : Nat → TI} {rows : List Nat} {bars : Bars} {i : Nat} {all : Array Oper} {os : List Oper} {k : Kont} {ts : Ts} {g l g1 : List Ent}
  {dst : Option Nat} {f : FuncId} {as : Array Operand} {tys : Array TypeId} {ty : TypeId} {pos : String} {after : Array Edge} {gd : Option (Nat × Bool)} {r : AV}
  (h0 : bars.hard.contains i = false) (h1 : bars.soft.contains i = true) (args : List AV) (ha : as.toList.map (ev ts) = args) (h : ACalls E f args (g ++ l) fun r' τ' => r' = r ∧ τ' = g1 ++ l) (hl : g1.length = g.length)
  (hk : zDraw E n T rows bars (i + 1) all os k (tput ts dst r) g1 l) (hkg : bars.keepG = false := by rfl) :
  zNext E n T rows bars i ⟨dst, .call { callee := .value (.func f), args := as, argTypes := tys }, ty, pos, after, gd⟩ all os k ts g l := by
 unfold zNext sNext
 rw [if_neg (by rw [h0]; simp), if_pos h1]
 refine ⟨r, g1, l, ?_, hl, ⟨fun hh => (by rw [hkg] at hh; cases hh), Bars.ok_refl _ _⟩, hk⟩
 unfold aFix
 have hh : aOne E T [] ⟨dst, .call { callee := .value (.func f), args := as, argTypes := tys }, ty, pos, after, gd⟩ ts g l (fun r' g' l' => r' = r ∧ g' = g1 ∧ l' = l) =
   ACalls E f ([] ++ as.toList.map (ev ts) ++ []) (g ++ l) (fun r' τ => r' = r ∧ τ.take g.length = g1 ∧ τ.drop g.length = l) := rfl
 rw [hh, ha, List.nil_append, List.append_nil]
 exact h.mono fun r' τ' ⟨h1, h2⟩ => ⟨h1, by rw [h2, ← hl, List.take_left], by rw [h2, ← hl, List.drop_left]⟩
theorem zNext.looseS {E : Env} {n : Nat} {T : Nat → TI} {rows : List Nat} {bars : Bars} {i : Nat} {all : Array Oper} {os : List Oper} {k : Kont} {ts : Ts} {g l : List Ent} {o : Oper} {r : AV}
  (h0 : bars.hard.contains i = false) (h1 : bars.soft.contains i = false) (h2 : bars.loose.contains i = true) (hc : notCall o.op = true) (h : ∀ g' l', g'.length = g.length → bars.ok l' l → ∃ p : Prop, p ∧ aDet T [] o ts g' l' = some (p, r, g', l'))
  (hk : zDraw E n T rows bars (i + 1) all os k (tput ts o.dst r) g l) : zNext E n T rows bars i o all os k ts g l := by
 unfold zNext sNext
 rw [if_neg (by rw [h0]; simp), if_neg (by rw [h1]; simp), if_pos h2]
 refine ⟨r, fun g' l' hg' hl' => ?_, hk⟩
 obtain ⟨p, hp, hd⟩ := h g' l' hg' hl'.2
 unfold aFix
 rw [aOne_det _ _ _ _ _ _ _ _ hc, hd]
 exact ⟨hp, rfl, rfl, rfl⟩
theorem zNext.loose {E : Env} {n : Nat} {T : Nat → TI} {rows : List Nat} {bars : Bars} {i : Nat} {all : Array Oper} {os : List Oper} {k : Kont} {ts : Ts} {g l : List Ent} {o : Oper} {r : AV}
  (h0 : bars.hard.contains i = false) (h1 : bars.soft.contains i = false) (h2 : bars.loose.contains i = true) (hc : notCall o.op = true) (h : ∀ g', g'.length = g.length → ∃ p : Prop, p ∧ aDet T [] o ts g' l = some (p, r, g', l))
  (hk : zDraw E n T rows bars (i + 1) all os k (tput ts o.dst r) g l) (hn : bars.same = none := by rfl) : zNext E n T rows bars i o all os k ts g l :=
 zNext.looseS h0 h1 h2 hc (fun g' l' hg' hl' => by
  unfold Bars.ok at hl'; rw [hn] at hl'
  subst hl'
  exact h g' hg') hk
theorem zNext.softS {E : Env} {n : Nat} {T : Nat → TI} {rows : List Nat} {bars : Bars} {i : Nat} {all : Array Oper} {os : List Oper} {k : Kont} {ts : Ts} {g l : List Ent} {o : Oper} {r : AV} {g1 l1 : List Ent} {p : Prop}
  (h0 : bars.hard.contains i = false) (h1 : bars.soft.contains i = true) (hc : notCall o.op = true) (h : aDet T [] o ts g l = some (p, r, g1, l1)) (hp : p) (hl : g1.length = g.length) (hs : bars.ok l1 l)
  (hk : zDraw E n T rows bars (i + 1) all os k (tput ts o.dst r) g1 l1) (hkg : bars.keepG = true → g1 = g := by first | (intro _; rfl) | (intro h; cases h)) : zNext E n T rows bars i o all os k ts g l := by
 unfold zNext sNext
 rw [if_neg (by rw [h0]; simp), if_pos h1]
 refine ⟨r, g1, l1, ?_, hl, ⟨hkg, hs⟩, hk⟩
 unfold aFix
 rw [aOne_det _ _ _ _ _ _ _ _ hc, h]
 exact ⟨hp, rfl, rfl, rfl⟩
theorem zNext.looseG {E : Env} {n : Nat} {T : Nat → TI} {rows : List Nat} {bars : Bars} {i : Nat} {all : Array Oper} {os : List Oper} {k : Kont} {ts : Ts} {g l : List Ent} {o : Oper} {r : AV}
  (h0 : bars.hard.contains i = false) (h1 : bars.soft.contains i = false) (h2 : bars.loose.contains i = true) (hkg : bars.keepG = true) (hc : notCall o.op = true) (h : ∀ l', bars.ok l' l → ∃ p : Prop, p ∧ aDet T [] o ts g l' = some (p, r, g, l'))
  (hk : zDraw E n T rows bars (i + 1) all os k (tput ts o.dst r) g l) : zNext E n T rows bars i o all os k ts g l := by
 unfold zNext sNext
 rw [if_neg (by rw [h0]; simp), if_neg (by rw [h1]; simp), if_pos h2]
 refine ⟨r, fun g' l' hg' hl' => ?_, hk⟩
 obtain rfl := hl'.1 hkg
 obtain ⟨p, hp, hd⟩ := h l' hl'.2
 unfold aFix
 rw [aOne_det _ _ _ _ _ _ _ _ hc, hd]
 exact ⟨hp, rfl, rfl, rfl⟩
end Go.Vm
namespace Go.Vm
open Go.RowKit
section
variable {E : Env} {n : Nat} {T : Nat → TI} {rows : List Nat} {all : Array Oper} {os : List Oper} {k : Kont} {ts : Ts}
end
end Go.Vm
namespace Go.Vm
open Go.RowKit
mutual
inductive Wk : AV → AV → Prop
 | refl (x : AV) : Wk x x
 | nil : Wk (.v (.slice none 0 0)) (.sl [])
 | agg {cs cs' : List AV} : WkL cs cs' → Wk (.agg cs) (.agg cs')
 | tup {cs cs' : List AV} : WkL cs cs' → Wk (.tup cs) (.tup cs')
 | sl {es es' : List AV} : WkL es es' → Wk (.sl es) (.sl es')
 | iptr {cs cs' : List AV} : WkL cs cs' → Wk (.iptr cs) (.iptr cs')
inductive WkL : List AV → List AV → Prop
 | nil : WkL [] []
 | cons {x x' : AV} {r r' : List AV} : Wk x x' → WkL r r' → WkL (x :: r) (x' :: r')
end
theorem WkL.refl : ∀ {es : List AV}, WkL es es
 | [] => .nil
 | _ :: _ => .cons (.refl _) WkL.refl
theorem WkL.len : ∀ {es es' : List AV}, WkL es es' → es'.length = es.length
 | _, _, .nil => rfl
 | _, _, .cons h1 h2 => by simp [h2.len]
theorem Wk.isAgg {x x' : AV} (h : Wk x x') : x'.isAgg = x.isAgg := by cases h <;> rfl
mutual
theorem Rep.wk {s : S} : ∀ {x x' : AV}, Wk x x' → ∀ {y : Value}, Rep s x y → Rep s x' y
 | _, _, .refl x, y, h => h
 | _, _, .nil, y, h => by
  unfold Rep at h ⊢
  subst h
  exact ⟨none, 0, rfl, Nat.zero_le _, .inl rfl⟩
 | _, _, .agg h1, y, h => by
  unfold Rep at h ⊢
  obtain ⟨vs, rfl, h2⟩ := h
  exact ⟨vs, rfl, RepL.wk h1 h2⟩
 | _, _, .tup h1, y, h => by
  unfold Rep at h ⊢
  obtain ⟨vs, rfl, h2⟩ := h
  exact ⟨vs, rfl, RepL.wk h1 h2⟩
 | _, _, .sl h1, y, h => by
  have hlen := h1.len
  unfold Rep at h ⊢
  obtain ⟨a, cap, rfl, h2, h3⟩ := h
  refine ⟨a, cap, by rw [hlen], by rw [hlen]; exact h2, ?_⟩
  rcases h3 with rfl | ⟨blk, off, k, ha, hk, hr⟩
  ·left; cases h1; rfl
  ·exact .inr ⟨blk, off, k, ha, hk, RepRow.wk h1 hr⟩
 | _, _, .iptr h1, y, h => by
  unfold Rep at h ⊢
  obtain ⟨blk, off, rfl, h2⟩ := h
  exact ⟨blk, off, rfl, RepAt.wk h1 h2⟩
theorem RepL.wk {s : S} : ∀ {x x' : List AV}, WkL x x' → ∀ {y : List Value}, RepL s x y → RepL s x' y
 | _, _, .nil, y, h => h
 | _, _, .cons h1 h2, y, h => by
  unfold RepL at h ⊢
  obtain ⟨v, vs, rfl, h3, h4⟩ := h
  exact ⟨v, vs, rfl, Rep.wk h1 h3, RepL.wk h2 h4⟩
theorem RepRow.wk {s : S} : ∀ {x x' : List AV}, WkL x x' → ∀ {k blk off : Nat}, RepRow s k blk off x → RepRow s k blk off x'
 | _, _, .nil, k, blk, off, h => h
 | _, _, .cons h1 h2, k, blk, off, h => by
  unfold RepRow at h ⊢
  obtain ⟨⟨y, h3, h4⟩, h5⟩ := h
  exact ⟨⟨y, by rw [h1.isAgg]; exact h3, Rep.wk h1 h4⟩, RepRow.wk h2 h5⟩
theorem RepAt.wk {s : S} : ∀ {x x' : List AV}, WkL x x' → ∀ {blk off : Nat}, RepAt s blk off x → RepAt s blk off x'
 | _, _, .nil, blk, off, h => h
 | _, _, .cons h1 h2, blk, off, h => by
  unfold RepAt at h ⊢
  obtain ⟨⟨y, h3, h4, h5⟩, h6⟩ := h
  exact ⟨⟨y, h3, h4, Rep.wk h1 h5⟩, RepAt.wk h2 h6⟩
end
theorem ACalls.wk {E : Env} {f : FuncId} {args args' : List AV} {σ : List Ent} {R : AV → List Ent → Prop} (h : WkL args args') (hc : ACalls E f args' σ R) : ACalls E f args σ R := by
 rcases hc with ⟨hb, hc⟩ | hc
 ·exact .inl ⟨hb, fun s vs h1 h2 h3 h4 => hc s vs h1 h2 h3 (RepL.wk h h4)⟩
 ·exact .inr fun s vs h1 h2 h3 h4 => hc s vs h1 h2 h3 (RepL.wk h h4)
section
variable {E : Env} {n : Nat} {T : Nat → TI} {rows : List Nat} {all : Array Oper} {os : List Oper} {k : Kont} {ts : Ts}
theorem xWait.wk {dst : Option Nat} {f : FuncId} {args args' : List AV} {σ : List Ent} {m : Nat} (h : WkL args args') (hk : xWait E n T rows dst all os k ts f args' σ m) : xWait E n T rows dst all os k ts f args σ m := ACalls.wk h hk
end
end Go.Vm
namespace Go.Vm
open Go.RowKit Go.Sort
theorem list_set_self {α : Type} {l : List α} {i : Nat} {x : α} (h : l[i]? = some x) : l.set i x = l := by
 apply List.ext_getElem?
 intro j
 rw [List.getElem?_set]
 by_cases hij : i = j
 ·subst hij; rw [if_pos rfl, if_pos (lt_of_get h), h]
 ·rw [if_neg hij]
theorem HInv.puts {id ty : Nat} {ver imm : Nat} {b : Slot} : ∀ (cs : List AV) (ys : List Value) (j : Nat) {s : S} {cells : List AV}, HInv s → s.σ[id]? = some (.arr ty cells ver imm) → s.β[id]? = some b → cs.length = ys.length → j + cs.length ≤ b.ext → imm ≤ j →
  (∀ (i : Nat) c y, cs[i]? = some c → ys[i]? = some y → Rep s c y ∧ cellV y) →
  ∃ s' : S, s'.w = s.w.setCells b.blk (b.off + j) ys ∧ s'.σ = s.σ.set id (.arr ty (setRange cells j cs) ver imm) ∧ s'.β = s.β ∧ HInv s' ∧ Ext s s'
 | [], ys, j, s, cells, hI, he, hb, hl, hx, hi, hr => by
  obtain rfl : ys = [] := List.length_eq_zero_iff.1 hl.symm
  exact ⟨s, rfl, (list_set_self he).symm, rfl, hI, Ext.refl s⟩
 | c :: cs, [], j, s, cells, hI, he, hb, hl, hx, hi, hr => by simp at hl
 | c :: cs, y :: ys, j, s, cells, hI, he, hb, hl, hx, hi, hr => by
  simp only [List.length_cons] at hx
  have hj : j < b.ext := by omega
  obtain ⟨r1, r2⟩ := hr 0 c y rfl rfl
  have hI1 := HInv.put hI he hb hj hi r1 r2
  have hE1 := Ext.put hI he hb hj hi (c := c) (y := y)
  obtain ⟨s', a1, a2, a3, a4, a5⟩ := HInv.puts cs ys (j + 1) hI1 (get_set_self he) hb (by simpa using hl) (by omega) (by omega) (fun i c' y' hc hy => by
   obtain ⟨q1, q2⟩ := hr (i + 1) c' y' (by simpa using hc) (by simpa using hy)
   exact ⟨Rep.ext hE1 q1, q2⟩)
  refine ⟨s', ?_, ?_, a3, a4, hE1.trans a5⟩
  ·rw [a1, World.setCells]; rfl
  ·rw [a2]; simp only [S.put]; rw [List.set_set]; rfl
theorem setRange_at0 : ∀ (cs pre cells : List AV), cells.length = cs.length → setRange (pre ++ cells) pre.length cs = pre ++ cs
 | [], pre, cells, h => by obtain rfl : cells = [] := (by simpa using h); rfl
 | c :: cs, pre, [], h => by simp at h
 | c :: cs, pre, d :: cells, h => by
  have := setRange_at0 cs (pre ++ [c]) cells (by simpa using h)
  unfold setRange
  rw [show (pre ++ d :: cells).set pre.length c = (pre ++ [c]) ++ cells by simp]
  simpa using this
theorem setRange_full {cells cs : List AV} (h : cells.length = cs.length) : setRange cells 0 cs = cs := by simpa using setRange_at0 cs [] cells h
theorem below_grow0 (w : World) (os : Array Obj) : Below w.heap.size w (grow w os) :=
 ⟨rfl, rfl, rfl, by simp [grow], fun k hk => by simp only [grow]; rw [Array.getElem?_append_left hk]⟩
theorem below_drewN0 (w : World) (n : Nat) : Below w.heap.size w (w.drewN n) := ⟨rfl, rfl, rfl, Nat.le_refl _, fun _ _ => rfl⟩
theorem row_at {s : S} (hI : HInv s) {id ty ver n : Nat} {cells : List AV} {v : Value} (he : s.σ[id]? = some (.arr ty cells ver 0)) (hr : Rep s (.rsl id ver 0 n 1) v) :
  ∃ ab ao cap b, v = .slice (some ⟨ab, ao, none⟩) n cap ∧ s.β[id]? = some b ∧ b.off = 0 ∧ n ≤ cap ∧ cap = b.ext ∧ cells.length ≤ b.ext ∧ (0 < cap → ab = b.blk ∧ ao = 0) ∧ b.blk < s.w.heap.size ∧
   (∀ (j : Nat) c, cells[j]? = some c → ∃ y, s.w.cell? ⟨b.blk, j, none⟩ = some y ∧ Rep s c y ∧ cellV y) ∧ ∀ j, j < b.ext → s.w.frozen? ⟨b.blk, j, none⟩ = false := by
 unfold Rep at hr
 obtain ⟨e, b, he', hb, _, ab, ao, cap, rfl, hh⟩ := hr
 rw [he] at he'; cases he'
 obtain ⟨h1, h2, h3⟩ := hh rfl
 obtain ⟨h0, _⟩ := hI.shape _ _ _ he hb rfl
 obtain ⟨h5, _, h6, h7⟩ := hI.ent _ _ _ he hb
 refine ⟨ab, ao, cap, b, rfl, hb, h0, h2, by omega, h5, fun hc => ?_, (hI.slot _ _ hb).2, fun j c hj => ?_, fun j hj => ?_⟩
 ·have := h1 hc; rw [h0] at this; exact ⟨this.1, by omega⟩
 ·obtain ⟨y, a1, a2, a3⟩ := h7 j c hj
  exact ⟨y, by simpa [h0] using a1, a2, a3⟩
 ·have := (h6 j hj).2 (Nat.zero_le _)
  simpa [h0] using this
theorem row_written {s : S} (hI : HInv s) {id ty ver : Nat} {cells cs : List AV} {b : Slot} {ys : List Value} (he : s.σ[id]? = some (.arr ty cells ver 0)) (hb : s.β[id]? = some b) (hb0 : b.off = 0) (hl : cs.length = cells.length) (hly : ys.length = cs.length) (hx : cells.length ≤ b.ext)
  (hr : ∀ (i : Nat) c y, cs[i]? = some c → ys[i]? = some y → Rep s c y ∧ cellV y) (n : Nat) (os : Array Obj) :
  ∃ s' : S, s'.w = grow ((s.w.drewN n).setCells b.blk 0 ys) os ∧ s'.σ = s.σ.set id (.arr ty cs ver 0) ∧ HInv s' ∧ Ext s s' := by
 have hd := below_drewN0 s.w n
 have hI0 := hI.of_below hd
 have hE0 := Ext.of_below hI hd
 obtain ⟨s1, a1, a2, a3, a4, a5⟩ := HInv.puts (s := { s with w := s.w.drewN n }) cs ys 0 hI0 he hb hly.symm (by omega) (Nat.zero_le _) (fun i c y hc hy => ⟨Rep.ext hE0 (hr i c y hc hy).1, (hr i c y hc hy).2⟩)
 rw [hb0, Nat.zero_add] at a1
 rw [setRange_full hl.symm] at a2
 have hg := below_grow0 s1.w os
 refine ⟨{ s1 with w := grow s1.w os }, by rw [a1], a2, a4.of_below hg, (hE0.trans a5).trans (Ext.of_below a4 hg)⟩
end Go.Vm
namespace Go.Vm
open Go.RowKit
theorem yNext.bar {E : Env} {n : Nat} {T : Nat → TI} {rows bars : List Nat} {i : Nat} {all : Array Oper} {os : List Oper} {k : Kont} {ts : Ts} {g l g1 l1 : List Ent}
  {dst : Option Nat} {f : FuncId} {as : Array Operand} {tys : Array TypeId} {ty : TypeId} {pos : String} {after : Array Edge} {gd : Option (Nat × Bool)} {r : AV}
  (h0 : bars.contains i = true) (args : List AV) (ha : as.toList.map (ev ts) = args) (h : ACalls E f args (g ++ l) fun r' τ' => r' = r ∧ τ' = g1 ++ l1) (hl : g1.length = g.length)
  (hk : yDraw E n T rows bars (i + 1) all os k (tput ts dst r) g1 l1) :
  yNext E n T rows bars i ⟨dst, .call { callee := .value (.func f), args := as, argTypes := tys }, ty, pos, after, gd⟩ all os k ts g l := by
 unfold yNext aNext
 rw [if_pos h0]
 refine ⟨r, g1, l1, ?_, hl, hk⟩
 unfold aFix
 have hh : aOne E T [] ⟨dst, .call { callee := .value (.func f), args := as, argTypes := tys }, ty, pos, after, gd⟩ ts g l (fun r' g' l' => r' = r ∧ g' = g1 ∧ l' = l1) =
   ACalls E f ([] ++ as.toList.map (ev ts) ++ []) (g ++ l) (fun r' τ => r' = r ∧ τ.take g.length = g1 ∧ τ.drop g.length = l1) := rfl
 rw [hh, ha, List.nil_append, List.append_nil]
 exact h.mono fun r' τ' ⟨h1, h2⟩ => ⟨h1, by rw [h2, ← hl, List.take_left], by rw [h2, ← hl, List.drop_left]⟩
theorem ADef.mono {E : Env} {f : FuncId} {args : List AV} {σ : List Ent} {R R' : AV → List Ent → Prop} (h : ADef E f args σ R) (hr : ∀ r τ, R r τ → R' r τ) : ADef E f args σ R' :=
 ⟨h.1, fun s vs u h1 h2 h3 h4 => (h.2 s vs u h1 h2 h3 h4).mono fun _ _ _ ⟨hu, v, r, s', a, b, c, d, e, g⟩ => ⟨hu, v, r, s', a, b, c, d, e, hr _ _ g⟩⟩
end Go.Vm
namespace Go.Vm
open Go.RowKit
theorem zNext.softC {E : Env} {n : Nat} {T : Nat → TI} {rows : List Nat} {bars : Bars} {i : Nat} {all : Array Oper} {os : List Oper} {k : Kont} {ts : Ts} {g l g1 l1 : List Ent}
  {dst : Option Nat} {f : FuncId} {as : Array Operand} {tys : Array TypeId} {ty : TypeId} {pos : String} {after : Array Edge} {gd : Option (Nat × Bool)} {r : AV}
  (h0 : bars.hard.contains i = false) (h1 : bars.soft.contains i = true) (args : List AV) (ha : as.toList.map (ev ts) = args) (h : ACalls E f args (g ++ l) fun r' τ' => r' = r ∧ τ' = g1 ++ l1) (hl : g1.length = g.length) (hs : bars.ok l1 l)
  (hk : zDraw E n T rows bars (i + 1) all os k (tput ts dst r) g1 l1) (hkg : bars.keepG = false := by rfl) :
  zNext E n T rows bars i ⟨dst, .call { callee := .value (.func f), args := as, argTypes := tys }, ty, pos, after, gd⟩ all os k ts g l := by
 unfold zNext sNext
 rw [if_neg (by rw [h0]; simp), if_pos h1]
 refine ⟨r, g1, l1, ?_, hl, ⟨fun hh => (by rw [hkg] at hh; cases hh), hs⟩, hk⟩
 unfold aFix
 have hh : aOne E T [] ⟨dst, .call { callee := .value (.func f), args := as, argTypes := tys }, ty, pos, after, gd⟩ ts g l (fun r' g' l' => r' = r ∧ g' = g1 ∧ l' = l1) =
   ACalls E f ([] ++ as.toList.map (ev ts) ++ []) (g ++ l) (fun r' τ => r' = r ∧ τ.take g.length = g1 ∧ τ.drop g.length = l1) := rfl
 rw [hh, ha, List.nil_append, List.append_nil]
 exact h.mono fun r' τ' ⟨h1, h2⟩ => ⟨h1, by rw [h2, ← hl, List.take_left], by rw [h2, ← hl, List.drop_left]⟩
end Go.Vm
namespace Go.Vm
open Go.RowKit Go.ChangeShapes Go.WideShapes
def OpensD {H : Type} (enc : TypeId × Value → H) (P : Program) (s : S) (t : TypeId) (n : Nat) {α : Type} (ok : DataW H → α → Prop) (f : α → AV) : Prop :=
 ∀ (cs : List Value) (d : DataW H × List MemPlace), DataW.trod enc P s.w 0 (fun _ => true) true n t cs = some d → ∃ x : α, ok d.1 x ∧ RepL s (f x).cells cs
def Opens {H : Type} (enc : TypeId × Value → H) (P : Program) (s : S) (t : TypeId) (n : Nat) {α : Type} (ok : α → Prop) (f : α → AV) : Prop :=
 ∀ (cs : List Value) (d : DataW H × List MemPlace), DataW.trod enc P s.w 0 (fun _ => true) true n t cs = some d → ∃ x : α, ok x ∧ RepL s (f x).cells cs
def okSl {H α : Type} (ok : DataW H → α → Prop) (d : DataW H) (xs : List α) : Prop :=
 xs.length ≤ maxLen ∧ ((xs = [] ∧ d = .nil) ∨ ∃ ds rest, d = .slice ds rest ∧ ds.length = xs.length ∧ ∀ (i : Nat) e x, ds[i]? = some e → xs[i]? = some x → ok e x)
theorem okSl.mem {H α : Type} {ok : DataW H → α → Prop} {d : DataW H} {xs : List α} (h : okSl ok d xs) : ∀ x ∈ xs, ∃ e, ok e x := by
 intro x hx
 rcases h.2 with ⟨rfl, _⟩ | ⟨ds, rest, _, hl, hk⟩
 ·cases hx
 ·obtain ⟨i, hi⟩ := List.getElem?_of_mem hx
  have : i < ds.length := by rw [hl]; exact (List.getElem?_eq_some_iff.1 hi).1
  exact ⟨_, hk i _ x (List.getElem?_eq_getElem this) hi⟩
section
variable {H : Type} {enc : TypeId × Value → H} {P : Program} {s : S} {t : TypeId} {n : Nat}
theorem Opens.ofD {α : Type} {ok : DataW H → α → Prop} {f : α → AV} {ok' : α → Prop} (h : OpensD enc P s t n ok f) (hk : ∀ d x, ok d x → ok' x) : Opens enc P s t n ok' f := fun cs d hd =>
 (h cs d hd).imp fun _ hx => ⟨hk _ _ hx.1, hx.2⟩
theorem Opens.toD {α : Type} {ok : α → Prop} {f : α → AV} (h : Opens enc P s t n ok f) : OpensD enc P s t n (fun _ => ok) f := h
theorem opensD_string (ht : P.underlying t = some .string) : OpensD enc P s t n (fun d (l : List UInt8) => d = .lit (.string l) ∧ l.length ≤ maxLen) AV.str := by
 intro cs d h
 obtain ⟨x, rfl, hd, hl⟩ := DataW.trod_string ht h
 refine ⟨x.data.toList, ⟨by rw [hd], by show x.data.toList.length ≤ maxLen; rw [Array.length_toList]; exact hl⟩, ?_⟩
 unfold AV.cells RepL RepL Rep
 exact ⟨_, _, rfl, rfl, rfl⟩
theorem opens_string (ht : P.underlying t = some .string) : Opens enc P s t n (fun l : List UInt8 => l.length ≤ maxLen) AV.str := Opens.ofD (opensD_string ht) fun _ _ h => h.2
theorem list_of {α : Type} {Q : Nat → α → Prop} : ∀ (n : Nat), (∀ i, i < n → ∃ x, Q i x) → ∃ l : List α, l.length = n ∧ ∀ (i : Nat) x, l[i]? = some x → Q i x
 | 0, _ => ⟨[], rfl, fun i x h => by simp at h⟩
 | n + 1, h => by
  obtain ⟨l, hl, hq⟩ := list_of n fun i hi => h i (by omega)
  obtain ⟨x, hx⟩ := h n (by omega)
  refine ⟨l ++ [x], by simp [hl], fun i y hy => ?_⟩
  rcases Nat.lt_or_ge i n with hi | hi
  ·rw [List.getElem?_append_left (by omega)] at hy; exact hq i y hy
  ·rw [List.getElem?_append_right (by omega)] at hy
   have : i = n := by
    have := lt_of_get hy
    simp at this; omega
   subst this
   rw [hl] at hy; simp at hy; subst hy; exact hx
theorem opensD_slice {e : TypeId} {α : Type} {ok : DataW H → α → Prop} {f : α → AV} {k : Nat} {ag : Bool} (ht : P.underlying t = some (.slice e)) (hk : P.cellsOf e = k) (hk0 : 0 < k) (hσ : s.σ = []) (he : ∀ m, m < n → OpensD enc P s e m ok f)
  (hf : ∀ d x, ok d x → isEl k ag (f x) = true) : OpensD enc P s t n (okSl ok) (fun xs => .sl (xs.map f)) := by
 intro cs d h
 rcases DataW.trod_slice ht h with ⟨rfl, hx0⟩ | ⟨a, len, cap, elems, rest, m, rfl, rfl, hx0, _, hl, hm, hlen, hel, _⟩
 ·refine ⟨[], ⟨Nat.zero_le _, .inl ⟨rfl, by rw [hx0]⟩⟩, ?_⟩
  unfold List.map AV.cells RepL RepL Rep
  exact ⟨_, _, rfl, ⟨_, _, rfl, Nat.zero_le _, .inl rfl⟩, rfl⟩
 ·rw [hk] at hel
  obtain ⟨blk, off, spot⟩ := a
  have hsp : 0 < len → spot = none := by
   intro h0
   have h1 := hel 0 h0
   rw [List.getElem?_eq_getElem (by omega)] at h1
   obtain ⟨cs', h2, h3⟩ := Option.bind_eq_some_iff.1 h1
   obtain ⟨_, h4, h5⟩ := World.cells?_some h2
   have g0 := h5 0 hk0
   obtain ⟨c0, hc0⟩ : ∃ c0, cs'[0]? = some c0 := by
    cases cs' with
    | nil => simp at h4; omega
    | cons c _ => exact ⟨c, rfl⟩
   rw [hc0] at g0
   simpa [Addr.add] using World.cell?_spot g0
  have each : ∀ i, i < len → ∃ x : α, (∀ e, (elems.map (·.1))[i]? = some e → ok e x) ∧ spot = none ∧ ∃ cs' : List Value, RepL s (f x).cells cs' ∧ ∀ j y, cs'[j]? = some y → s.w.cell? ⟨blk, off + i * k + j, none⟩ = some y ∧ Imm s blk (off + i * k + j) := by
   intro i hi
   have h1 := hel i hi
   rw [List.getElem?_eq_getElem (by omega)] at h1
   obtain ⟨cs', h2, h3⟩ := Option.bind_eq_some_iff.1 h1
   obtain ⟨_, h4, h5⟩ := World.cells?_some h2
   obtain ⟨x, hx, hr⟩ := he m (by omega) cs' _ h3
   have hspot := hsp (by omega)
   subst hspot
   refine ⟨x, fun e' he' => ?_, rfl, cs', hr, fun j y hj => ?_⟩
   ·rw [List.getElem?_map, List.getElem?_eq_getElem (by omega)] at he'
    cases he'; exact hx
   have hjk := lt_of_get hj
   have g := h5 j (by omega)
   rw [hj] at g
   have g' : s.w.cell? ⟨blk, off + i * k + j, none⟩ = some y := by
    rw [add_plain, add_plain] at g; exact g
   refine ⟨g', block_lt g', fun id e' b he' _ _ => ?_⟩
   rw [hσ] at he'; simp at he'
  obtain ⟨xs, hxl, hxs⟩ := list_of len each
  refine ⟨xs, ⟨by rw [hxl]; omega, .inr ⟨_, _, by rw [hx0], by rw [List.length_map]; omega, fun i e x he hx => (hxs i x hx).1 e he⟩⟩, ?_⟩
  ·unfold AV.cells RepL RepL
   refine ⟨_, _, rfl, ?_, rfl⟩
   unfold Rep
   refine ⟨_, cap, by rw [List.length_map, hxl], by rw [List.length_map, hxl]; exact hl, ?_⟩
   rcases Nat.eq_zero_or_pos len with h0 | h0
   ·left; rw [List.map_eq_nil_iff, ← List.length_eq_zero_iff]; omega
   ·right
    have hspot : spot = none := by
     have : 0 < xs.length := by omega
     exact (hxs 0 xs[0] (List.getElem?_eq_getElem this)).2.1
    subst hspot
    refine ⟨blk, off, k, rfl, hk0, RepRow.mk fun i e' hi => ?_⟩
    rw [List.getElem?_map, Option.map_eq_some_iff] at hi
    obtain ⟨x, hx, rfl⟩ := hi
    obtain ⟨hok, _, cs', hr, hc⟩ := hxs i x hx
    have hel' := hf _ x (hok _ (by rw [List.getElem?_map, List.getElem?_eq_getElem (by have := lt_of_get hx; omega)]; rfl))
    simp only [isEl, Bool.and_eq_true, beq_iff_eq] at hel'
    obtain ⟨⟨q1, q2⟩, q3⟩ := hel'
    have hcl := hr.length
    generalize f x = fx at *
    cases fx with
    | agg cells =>
     refine ⟨.agg cs'.toArray, ?_, ?_⟩
     ·unfold LoadsAt
      simp only [AV.isAgg, if_true]
      refine ⟨_, rfl, by simpa [AV.cells] using hcl.trans q2, fun j y hj => hc j y (by simpa using hj)⟩
     ·unfold Rep; exact ⟨_, rfl, by simpa [AV.cells] using hr⟩
    | _ =>
     unfold AV.cells RepL RepL at hr
     obtain ⟨y, cs2, rfl, hy, rfl⟩ := hr
     refine ⟨y, ?_, hy⟩
     unfold LoadsAt
     simp only [AV.isAgg, Bool.false_eq_true, if_false]
     have hk1 : k = 1 := by simpa [AV.cells] using q2.symm
     exact ⟨hk1, hc 0 y rfl⟩
theorem opens_slice {e : TypeId} {α : Type} {ok : α → Prop} {f : α → AV} {k : Nat} {ag : Bool} (ht : P.underlying t = some (.slice e)) (hk : P.cellsOf e = k) (hk0 : 0 < k) (hσ : s.σ = []) (he : ∀ m, m < n → Opens enc P s e m ok f)
  (hf : ∀ x, ok x → isEl k ag (f x) = true) : Opens enc P s t n (fun xs : List α => xs.length ≤ maxLen ∧ ∀ x ∈ xs, ok x) (fun xs => .sl (xs.map f)) :=
 Opens.ofD (opensD_slice (ag := ag) ht hk hk0 hσ (fun m hm => (he m hm).toD) (fun _ x => hf x)) fun _ _ h => ⟨h.1, fun x hx => (h.mem x hx).elim fun _ h => h⟩
theorem RepL.piece {a b : List AV} {cs : List Value} {o k m : Nat} (hm : m = o + k) (h : RepL s a ((cs.drop o).take k)) (h2 : RepL s b (cs.drop m)) : RepL s (a ++ b) (cs.drop o) := by
 subst hm
 have := RepL.append h h2
 rwa [← List.drop_drop, List.take_append_drop] at this
theorem opensD_struct2 {f0 f1 : Field} {α β : Type} {oa : DataW H → α → Prop} {ob : DataW H → β → Prop} {fa : α → AV} {fb : β → AV} (ht : P.underlying t = some (.struct #[f0, f1]))
  (o0 : f0.offset = 0) (o1 : f1.offset = P.cellsOf f0.type) (hc : P.cellsOf t = f1.offset + P.cellsOf f1.type) (ha : ∀ m, m < n → OpensD enc P s f0.type m oa fa) (hb : ∀ m, m < n → OpensD enc P s f1.type m ob fb) :
  OpensD enc P s t n (fun d (x : α × β) => ∃ da db, d = .agg [da, db] ∧ oa da x.1 ∧ ob db x.2) (fun x => .agg ((fa x.1).cells ++ (fb x.2).cells)) := by
 intro cs d h
 obtain ⟨xs, m, rfl, hd, hl, _, hf⟩ := DataW.trod_struct ht h
 have g0 := hf 0 f0 rfl
 have g1 := hf 1 f1 rfl
 rename_i hxl
 have hx2 : xs.length = 2 := hxl
 rw [List.getElem?_eq_getElem (by omega)] at g0 g1
 obtain ⟨x0, p0, r0⟩ := ha m (by omega) _ _ g0
 obtain ⟨x1, p1, r1⟩ := hb m (by omega) _ _ g1
 refine ⟨(x0, x1), ⟨_, _, ?_, p0, p1⟩, ?_⟩
 ·rw [hd]
  obtain ⟨y0, y1, rfl⟩ : ∃ y0 y1, xs = [y0, y1] := by
   rcases xs with _ | ⟨y0, _ | ⟨y1, _ | _⟩⟩ <;> simp at hx2
   exact ⟨y0, y1, rfl⟩
  rfl
 have e1 := RepL.piece (b := []) rfl r1 (by rw [List.drop_of_length_le (by omega)]; unfold RepL; rfl)
 rw [o0] at r0
 have e0 := RepL.piece (by omega) r0 e1
 simpa [AV.cells] using e0
theorem opensD_struct3 {f0 f1 f2 : Field} {α β γ : Type} {oa : DataW H → α → Prop} {ob : DataW H → β → Prop} {oc : DataW H → γ → Prop} {fa : α → AV} {fb : β → AV} {fc : γ → AV} (ht : P.underlying t = some (.struct #[f0, f1, f2]))
  (o0 : f0.offset = 0) (o1 : f1.offset = P.cellsOf f0.type) (o2 : f2.offset = f1.offset + P.cellsOf f1.type) (hc : P.cellsOf t = f2.offset + P.cellsOf f2.type)
  (ha : ∀ m, m < n → OpensD enc P s f0.type m oa fa) (hb : ∀ m, m < n → OpensD enc P s f1.type m ob fb) (hg : ∀ m, m < n → OpensD enc P s f2.type m oc fc) :
  OpensD enc P s t n (fun d (x : α × β × γ) => ∃ da db dc, d = .agg [da, db, dc] ∧ oa da x.1 ∧ ob db x.2.1 ∧ oc dc x.2.2) (fun x => .agg ((fa x.1).cells ++ ((fb x.2.1).cells ++ (fc x.2.2).cells))) := by
 intro cs d h
 obtain ⟨xs, m, rfl, hd, hl, hxl, hf⟩ := DataW.trod_struct ht h
 have g0 := hf 0 f0 rfl
 have g1 := hf 1 f1 rfl
 have g2 := hf 2 f2 rfl
 have hx2 : xs.length = 3 := hxl
 rw [List.getElem?_eq_getElem (by omega)] at g0 g1 g2
 obtain ⟨x0, p0, r0⟩ := ha m (by omega) _ _ g0
 obtain ⟨x1, p1, r1⟩ := hb m (by omega) _ _ g1
 obtain ⟨x2, p2, r2⟩ := hg m (by omega) _ _ g2
 refine ⟨(x0, x1, x2), ⟨_, _, _, ?_, p0, p1, p2⟩, ?_⟩
 ·rw [hd]
  obtain ⟨y0, y1, y2, rfl⟩ : ∃ y0 y1 y2, xs = [y0, y1, y2] := by
   rcases xs with _ | ⟨y0, _ | ⟨y1, _ | ⟨y2, _ | _⟩⟩⟩ <;> simp at hx2
   exact ⟨y0, y1, y2, rfl⟩
  rfl
 have e2 := RepL.piece (b := []) rfl r2 (by rw [List.drop_of_length_le (by omega)]; unfold RepL; rfl)
 have e1 := RepL.piece (by omega) r1 e2
 rw [o0] at r0
 have e0 := RepL.piece (by omega) r0 e1
 simpa [AV.cells] using e0
theorem opens_struct3 {f0 f1 f2 : Field} {α β γ : Type} {oa : α → Prop} {ob : β → Prop} {oc : γ → Prop} {fa : α → AV} {fb : β → AV} {fc : γ → AV} (ht : P.underlying t = some (.struct #[f0, f1, f2]))
  (o0 : f0.offset = 0) (o1 : f1.offset = P.cellsOf f0.type) (o2 : f2.offset = f1.offset + P.cellsOf f1.type) (hc : P.cellsOf t = f2.offset + P.cellsOf f2.type)
  (ha : ∀ m, m < n → Opens enc P s f0.type m oa fa) (hb : ∀ m, m < n → Opens enc P s f1.type m ob fb) (hg : ∀ m, m < n → Opens enc P s f2.type m oc fc) :
  Opens enc P s t n (fun x : α × β × γ => oa x.1 ∧ ob x.2.1 ∧ oc x.2.2) (fun x => .agg ((fa x.1).cells ++ ((fb x.2.1).cells ++ (fc x.2.2).cells))) :=
 Opens.ofD (opensD_struct3 ht o0 o1 o2 hc (fun m hm => (ha m hm).toD) (fun m hm => (hb m hm).toD) (fun m hm => (hg m hm).toD)) fun _ _ h => by obtain ⟨_, _, _, _, h0, h1, h2⟩ := h; exact ⟨h0, h1, h2⟩
variable {W : World} {r : Reach} {b0 : Nat} {v : Value} {d : DataW H} {ps : List MemPlace}
theorem opensD_top_slice {e : TypeId} {α : Type} {ok : DataW H → α → Prop} {f : α → AV} (ht : P.underlying t = some (.slice e)) (ho : ∀ n, OpensD enc P ⟨[], [], W, W.heap.size⟩ t n ok f) (hf : ∀ x, ∃ es, f x = .sl es)
  (hval : Value.okWide P W r b0 t v) (hd : DataW.Trod enc P W 0 (fun _ => true) true t v d ps) : ∃ x, ok d x ∧ Rep ⟨[], [], W, W.heap.size⟩ (f x) v := by
 obtain ⟨a, len, cap, rfl⟩ := okWide_slice ht hval
 obtain ⟨n, h⟩ := hd
 obtain ⟨x, h1, h2⟩ := ho n _ _ h
 obtain ⟨es, he⟩ := hf x
 rw [he] at h2
 unfold AV.cells RepL RepL at h2
 obtain ⟨y, cs, h3, h4, rfl⟩ := h2
 simp [Value.cells] at h3; subst h3
 exact ⟨x, h1, by rw [he]; exact h4⟩
theorem opensD_top_struct {fs : Array Field} {α : Type} {ok : DataW H → α → Prop} {f : α → AV} (ht : P.underlying t = some (.struct fs)) (ho : ∀ n, OpensD enc P ⟨[], [], W, W.heap.size⟩ t n ok f) (hf : ∀ x, ∃ es, f x = .agg es)
  (hval : Value.okWide P W r b0 t v) (hd : DataW.Trod enc P W 0 (fun _ => true) true t v d ps) : ∃ x, ok d x ∧ Rep ⟨[], [], W, W.heap.size⟩ (f x) v := by
 obtain ⟨cs, rfl, _⟩ := okWide_struct ht hval
 obtain ⟨n, h⟩ := hd
 obtain ⟨x, h1, h2⟩ := ho n _ _ h
 obtain ⟨es, he⟩ := hf x
 rw [he] at h2
 refine ⟨x, h1, ?_⟩
 rw [he]
 unfold Rep
 exact ⟨cs, rfl, by simpa [AV.cells, Value.cells] using h2⟩
end
end Go.Vm
