/- At a call's end its own rows and boxes are written no more: what leads to them is seen by its contents. -/
import Derived.Test.YtoobkfjkohadnaaGreatDoorVmC
import Derived.Defers
import Derived.LoopN
import Derived.Orders
set_option linter.unusedVariables false
set_option linter.unusedSimpArgs false
set_option linter.unusedSectionVars false
namespace Go.Vm
open Go.RowKit
mutual
inductive Frz (n0 : Nat) (l : List Ent) : AV → AV → Prop
 | refl (x : AV) : Frz n0 l x x
 | rsl {id ver off n sz ty imm : Nat} {ag : Bool} {cells : List AV} {es es' : List AV} : n0 ≤ id → l[id - n0]? = some (.arr ty cells ver imm) → cells.drop off = es.flatMap AV.cells → off ≤ cells.length → n = es.length → 0 < sz →
   (∀ e ∈ es, isEl sz ag e = true) → FrzL n0 l es es' → Frz n0 l (.rsl id ver off n sz) (.sl es')
 | rslp {id ver off n sz ty imm : Nat} {ag : Bool} {cells tail : List AV} {es es' : List AV} : n0 ≤ id → l[id - n0]? = some (.arr ty cells ver imm) → cells.drop off = es.flatMap AV.cells ++ tail → off ≤ cells.length → n = es.length → 0 < sz →
   (∀ e ∈ es, isEl sz ag e = true) → FrzL n0 l es es' → Frz n0 l (.rsl id ver off n sz) (.sl es')
 | none : Frz n0 l (.v (.slice none 0 0)) (.sl [])
 | ref {id ver off ty imm : Nat} {cells cs' : List AV} : n0 ≤ id → l[id - n0]? = some (.arr ty cells ver imm) → off ≤ cells.length → FrzL n0 l (cells.drop off) cs' → Frz n0 l (.ref id ver off) (.iptr cs')
 | agg {cs cs' : List AV} : FrzL n0 l cs cs' → Frz n0 l (.agg cs) (.agg cs')
 | tup {cs cs' : List AV} : FrzL n0 l cs cs' → Frz n0 l (.tup cs) (.tup cs')
 | ifc {t : TypeId} {x x' : AV} : Frz n0 l x x' → Frz n0 l (.ifc t x) (.ifc t x')
 | fn {f : FuncId} {a a' b b' : List AV} : FrzL n0 l a a' → FrzL n0 l b b' → Frz n0 l (.fn f a b) (.fn f a' b')
inductive FrzL (n0 : Nat) (l : List Ent) : List AV → List AV → Prop
 | nil : FrzL n0 l [] []
 | cons {x x' : AV} {r r' : List AV} : Frz n0 l x x' → FrzL n0 l r r' → FrzL n0 l (x :: r) (x' :: r')
end
theorem FrzL.refl {n0 : Nat} {l : List Ent} : ∀ {es : List AV}, FrzL n0 l es es
 | [] => .nil
 | _ :: _ => .cons (.refl _) FrzL.refl
def Ent.shut : Ent → Ent
 | .arr ty cells ver _ => .arr ty cells ver cells.length
 | e => e
theorem Ent.shut_ver (e : Ent) : e.shut.ver = e.ver := by cases e <;> rfl
theorem Ent.shut_isMap (e : Ent) : e.shut.isMap = e.isMap := by cases e <;> rfl
def S.shut (s : S) (n : Nat) : S := { s with σ := s.σ.take n ++ (s.σ.drop n).map Ent.shut }
theorem shut_get {σ : List Ent} {n i : Nat} {e : Ent} (h : (σ.take n ++ (σ.drop n).map Ent.shut)[i]? = some e) : ∃ e0, σ[i]? = some e0 ∧ ((i < n ∧ e = e0) ∨ (n ≤ i ∧ e = e0.shut)) := by
 rcases Nat.lt_or_ge i (σ.take n).length with h1 | h1
 ·rw [List.getElem?_append_left h1, List.getElem?_take] at h
  split at h
  ·exact ⟨e, h, .inl ⟨by assumption, rfl⟩⟩
  ·cases h
 ·rw [List.getElem?_append_right h1, List.getElem?_map, List.getElem?_drop] at h
  simp only [Option.map_eq_some_iff] at h
  obtain ⟨e0, h2, rfl⟩ := h
  have hlt := lt_of_get h2
  have hl : (σ.take n).length = min n σ.length := List.length_take
  have : n ≤ i := by omega
  have hn : (σ.take n).length = n := by omega
  refine ⟨e0, ?_, .inr ⟨this, rfl⟩⟩
  rw [hn] at h2
  rw [← h2]; congr 1; omega
theorem get_shut {σ : List Ent} {n i : Nat} {e : Ent} (h : σ[i]? = some e) : (σ.take n ++ (σ.drop n).map Ent.shut)[i]? = some (if i < n then e else e.shut) := by
 have hlt := lt_of_get h
 have hl : (σ.take n).length = min n σ.length := List.length_take
 split
 ·rename_i hi
  rw [List.getElem?_append_left (by omega), List.getElem?_take, if_pos hi]; exact h
 ·rename_i hi
  rw [List.getElem?_append_right (by omega), List.getElem?_map, List.getElem?_drop]
  have : n + (i - (σ.take n).length) = i := by omega
  rw [this, h]; rfl
section
variable {s : S} (hI : HInv s) (n : Nat)
include hI
theorem Ext.shut : Ext s (s.shut n) := by
 refine ⟨rfl, Below.refl _ _, fun blk off hi => ⟨⟨hi.1, fun i e b he hb hbb => ?_⟩, rfl⟩, fun i e b he hb => ⟨_, b, get_shut he, hb, ?_, fun _ => rfl, fun h => ?_⟩⟩
 ·obtain ⟨e0, h0, h1⟩ := shut_get he
  have h2 := hi.2 i e0 b h0 hb hbb
  rcases h1 with ⟨_, rfl⟩ | ⟨_, rfl⟩
  ·exact h2
  ·cases e0 with
   | arr ty cells ver imm =>
    have := (hI.ent i _ b h0 hb).2.1
    simp only [Ent.shut, Ent.imm] at *; omega
   | map _ _ => exact h2
   | iter _ _ _ _ => exact h2
 ·split <;> simp [Ent.shut_ver]
 ·split <;> simp [Ent.shut_isMap, h]
theorem HInv.shut : HInv (s.shut n) := by
 have hE := Ext.shut hI n
 refine ⟨?_, hI.B, hI.slot, hI.inj, fun i e b he hb => ?_, fun i e b he hb hm => ?_⟩
 ·show s.β.length = _
  rw [hI.len]; simp [S.shut]; omega
 ·obtain ⟨e0, h0, h1⟩ := shut_get he
  have h2 := (hI.ent i e0 b h0 hb).of_below hE (hI.slot i b hb).2 (Below.refl _ _)
  rcases h1 with ⟨_, rfl⟩ | ⟨_, rfl⟩
  ·exact h2
  ·cases e0 with
   | arr ty cells ver imm =>
    obtain ⟨a1, a2, a3, a4⟩ := h2
    exact ⟨a1, Nat.le_refl _, fun j hj => ⟨(a3 j hj).1, fun h => (a3 j hj).2 (by omega)⟩, a4⟩
   | map _ _ => exact h2
   | iter _ _ _ _ => exact h2
 ·obtain ⟨e0, h0, h1⟩ := shut_get he
  rcases h1 with ⟨_, rfl⟩ | ⟨_, rfl⟩
  ·exact hI.shape i e b h0 hb hm
  ·cases e0 with
   | arr ty cells ver imm => exact (hI.shape i _ b h0 hb rfl).mono (hI.ent i _ b h0 hb).2.1
   | map _ _ => simp [Ent.shut, Ent.isMap] at hm
   | iter _ _ _ _ => simp [Ent.shut, Ent.isMap] at hm
end
theorem Frz.isAgg {n0 : Nat} {l : List Ent} {x x' : AV} (h : Frz n0 l x x') : x'.isAgg = x.isAgg := by
 cases h <;> rfl
theorem imm_shut {s : S} (hI : HInv s) {id ty : Nat} {cells : List AV} {ver : Nat} {b : Slot} (he : s.σ[id]? = some (.arr ty cells ver cells.length)) (hb : s.β[id]? = some b) {j : Nat} (hj : j < cells.length) : Imm s b.blk (b.off + j) := by
 refine ⟨(hI.slot id b hb).2, fun i e b' he' hb' hbb => ?_⟩
 have : i = id := hI.inj i id b' b hb' hb hbb
 subst this
 rw [he] at he'; cases he'
 rw [hb] at hb'; cases hb'
 simp only [Ent.imm]; omega
theorem FrzL.get {n0 : Nat} {l : List Ent} : ∀ {es es' : List AV}, FrzL n0 l es es' → ∀ {i : Nat} {e' : AV}, es'[i]? = some e' → ∃ e, es[i]? = some e ∧ Frz n0 l e e'
 | _, _, .nil, i, e', h => by simp at h
 | _, _, .cons (r := r) h1 h2, i, e', h => by
  cases i with
  | zero => simp at h; subst h; exact ⟨_, rfl, h1⟩
  | succ i => simp at h; obtain ⟨e, h3, h4⟩ := h2.get h; exact ⟨e, by simpa using h3, h4⟩
theorem FrzL.length {n0 : Nat} {l : List Ent} : ∀ {es es' : List AV}, FrzL n0 l es es' → es'.length = es.length
 | _, _, .nil => rfl
 | _, _, .cons h1 h2 => by simp [h2.length]
section
variable {s : S} (hI : HInv s) {n0 : Nat} {l : List Ent} (hl : ∀ (id : Nat) ty cells ver imm, n0 ≤ id → l[id - n0]? = some (.arr ty cells ver imm) → s.σ[id]? = some (.arr ty cells ver cells.length))
include hI hl
omit hl in
theorem rep_row {id ver off n sz ty imm : Nat} {ag : Bool} {cells tail es es' : List AV} (he : s.σ[id]? = some (.arr ty cells ver cells.length)) (h3 : cells.drop off = es.flatMap AV.cells ++ tail) (h5 : n = es.length) (h6 : 0 < sz) (h7 : ∀ e ∈ es, isEl sz ag e = true)
  (hlen : es'.length = es.length) (h8 : ∀ (i : Nat) e', es'[i]? = some e' → ∃ e, es[i]? = some e ∧ e'.isAgg = e.isAgg ∧ ∀ y, Rep s e y → Rep s e' y) {y : Value} (h : Rep s (.rsl id ver off n sz) y) : Rep s (.sl es') y := by
 unfold Rep at h ⊢
 obtain ⟨e, b, he', hb, _, ab, ao, cap, rfl, hh⟩ := h
 rw [he] at he'; cases he'
 obtain ⟨a1, a2, a3⟩ := hh rfl
 obtain ⟨_, _, _, hc⟩ := hI.ent id _ b he hb
 refine ⟨_, _, by rw [hlen, h5], by omega, ?_⟩
 rcases Nat.eq_zero_or_pos n with h0 | h0
 ·left
  cases es' with
  | nil => rfl
  | cons _ _ => simp at hlen; omega
 ·right
  obtain ⟨rfl, rfl⟩ := a1 (by omega)
  refine ⟨_, _, sz, rfl, h6, RepRow.mk fun i e' hi => ?_⟩
  obtain ⟨e, b1, b2, b2r⟩ := h8 i e' hi
  have hel := isEl_spec (h7 e (List.mem_of_getElem? b1))
  have hflat := fun j (hj : j < sz) => flat_get (f := AV.cells) (sz := sz) (fun x hx => (isEl_spec (h7 x hx)).2.1) b1 hj
  have hcell : ∀ j, j < sz → ∀ c, e.cells[j]? = some c → ∃ v, s.w.cell? ⟨b.blk, b.off + off + i * sz + j, none⟩ = some v ∧ Imm s b.blk (b.off + off + i * sz + j) ∧ Rep s c v := by
   intro j hj c hcj
   have b3 := hflat j hj
   rw [hcj] at b3
   have b3' : (es.flatMap AV.cells ++ tail)[i * sz + j]? = some c := by rw [List.getElem?_append_left (lt_of_get b3)]; exact b3
   rw [← h3, List.getElem?_drop] at b3'
   replace b3 := b3'
   obtain ⟨v, b4, b5, _⟩ := hc _ _ b3
   have := lt_of_get b3
   rw [show b.off + (off + (i * sz + j)) = b.off + off + i * sz + j by omega] at b4
   exact ⟨v, b4, by rw [show b.off + off + i * sz + j = b.off + (off + (i * sz + j)) by omega]; exact imm_shut hI he hb this, b5⟩
  cases hag : e.isAgg with
  | true =>
   cases e <;> simp [AV.isAgg] at hag
   rename_i cs
   simp only [AV.cells] at hel hcell
   obtain ⟨vs, c1, c2, c3⟩ := RepL.ofCells (s := s) (w := s.w) (cs := cs) (blk := b.blk) (off := b.off + off + i * sz) fun j c hj => by
    obtain ⟨v, d1, d2, d3⟩ := hcell j (by have := lt_of_get hj; omega) c hj
    exact ⟨v, d1, d3⟩
   have hr := b2r (.agg vs.toArray) (by unfold Rep; exact ⟨_, rfl, by simpa using c1⟩)
   refine ⟨_, ?_, hr⟩
   rw [b2]
   unfold LoadsAt
   simp only [AV.isAgg, if_true]
   refine ⟨_, rfl, by simp [c2]; omega, fun j x hx => ?_⟩
   have hx' : vs[j]? = some x := by simpa using hx
   have hjl := lt_of_get hx'
   obtain ⟨v, d1, d2, d3⟩ := hcell j (by omega) cs[j] (List.getElem?_eq_getElem (by omega))
   exact ⟨c3 j x hx', d2⟩
  | false =>
   have hsz : sz = 1 := by
    have := hel.2.1
    cases e <;> simp [AV.isAgg] at hag <;> simp [AV.cells] at this <;> omega
   subst hsz
   obtain ⟨v, d1, d2, d3⟩ := hcell 0 (by omega) e (by cases e <;> simp [AV.isAgg] at hag <;> rfl)
   refine ⟨v, ?_, b2r v d3⟩
   rw [b2, hag]
   unfold LoadsAt
   simp only [Bool.false_eq_true, if_false]
   exact ⟨by first | rfl | trivial, d1, d2⟩
mutual
theorem Rep.frz : ∀ {x x' : AV}, Frz n0 l x x' → ∀ {y : Value}, Rep s x y → Rep s x' y
 | _, _, .refl x, y, h => h
 | _, _, .rsl (ag := ag) (cells := cells) (es := es) (es' := es') h1 h2 h3 h4 h5 h6 h7 h8, y, h =>
  rep_row (tail := []) (imm := 0) hI (hl _ _ _ _ _ h1 h2) (by rw [h3, List.append_nil]) h5 h6 h7 h8.length (fun i e' hi => RepL.each h8 hi) h
 | _, _, .rslp (ag := ag) (cells := cells) (es := es) (es' := es') h1 h2 h3 h4 h5 h6 h7 h8, y, h =>
  rep_row (imm := 0) hI (hl _ _ _ _ _ h1 h2) h3 h5 h6 h7 h8.length (fun i e' hi => RepL.each h8 hi) h
 | _, _, .none, y, h => by
  unfold Rep at h ⊢
  subst h
  exact ⟨none, 0, rfl, Nat.zero_le _, .inl rfl⟩
 | _, _, .ref (cells := cells) (cs' := cs') h1 h2 h3 h4, y, h => by
  rename_i id ver off ty imm
  have he := hl id ty cells ver imm h1 h2
  unfold Rep at h ⊢
  obtain ⟨e, b, he', hb, _, ad, rfl, hh⟩ := h
  rw [he] at he'; cases he'
  rw [hh rfl]
  obtain ⟨_, _, _, hc⟩ := hI.ent id _ b he hb
  refine ⟨_, _, rfl, RepAt.mk fun j c' hj => ?_⟩
  obtain ⟨c, b1, _, b2⟩ := RepL.each h4 hj
  rw [List.getElem?_drop] at b1
  obtain ⟨v, b4, b5, _⟩ := hc _ _ b1
  have := lt_of_get b1
  refine ⟨v, by rw [Nat.add_assoc]; exact b4, by rw [Nat.add_assoc]; exact imm_shut hI he hb this, b2 v b5⟩
 | _, _, .agg h1, y, h => by
  unfold Rep at h ⊢
  obtain ⟨vs, rfl, h2⟩ := h
  exact ⟨vs, rfl, RepL.frz h1 h2⟩
 | _, _, .tup h1, y, h => by
  unfold Rep at h ⊢
  obtain ⟨vs, rfl, h2⟩ := h
  exact ⟨vs, rfl, RepL.frz h1 h2⟩
 | _, _, .ifc h1, y, h => by
  unfold Rep at h ⊢
  obtain ⟨v, rfl, h2⟩ := h
  exact ⟨v, rfl, Rep.frz h1 h2⟩
 | _, _, .fn h1 h2, y, h => by
  unfold Rep at h ⊢
  obtain ⟨vs, us, rfl, h3, h4⟩ := h
  exact ⟨vs, us, rfl, RepL.frz h1 h3, RepL.frz h2 h4⟩
theorem RepL.frz : ∀ {x x' : List AV}, FrzL n0 l x x' → ∀ {y : List Value}, RepL s x y → RepL s x' y
 | _, _, .nil, y, h => h
 | _, _, .cons h1 h2, y, h => by
  unfold RepL at h ⊢
  obtain ⟨v, vs, rfl, h3, h4⟩ := h
  exact ⟨v, vs, rfl, Rep.frz h1 h3, RepL.frz h2 h4⟩
theorem RepL.each : ∀ {es es' : List AV}, FrzL n0 l es es' → ∀ {i : Nat} {e' : AV}, es'[i]? = some e' → ∃ e, es[i]? = some e ∧ e'.isAgg = e.isAgg ∧ ∀ y, Rep s e y → Rep s e' y
 | _, _, .nil, i, e', h => by simp at h
 | _, _, .cons h1 h2, i, e', h => by
  cases i with
  | zero => simp at h; subst h; exact ⟨_, rfl, h1.isAgg, fun y hy => Rep.frz h1 hy⟩
  | succ i => simp at h; obtain ⟨e, h3, h4⟩ := RepL.each h2 h; exact ⟨e, by simpa using h3, h4⟩
end
end
end Go.Vm
namespace Go.Vm
open Go.RowKit
def argTs : Nat → List AV → Ts
 | _, [] => []
 | i, x :: r => (i, x) :: argTs (i + 1) r
theorem tget_argTs : ∀ (l : List AV) (i j : Nat), tget (argTs i l) j = if i ≤ j then l.getD (j - i) .un else .un
 | [], i, j => by simp [argTs, tget]
 | x :: l, i, j => by
  simp only [argTs, tget]
  by_cases h : i = j
  ·subst h; simp
  ·rw [if_neg h, tget_argTs l (i + 1) j]
   by_cases h2 : i + 1 ≤ j
   ·rw [if_pos h2, if_pos (by omega)]
    have : j - i = (j - (i + 1)) + 1 := by omega
    rw [this]; simp
   ·rw [if_neg h2, if_neg (by omega)]
def aResV (T : Nat → TI) (ts : Ts) (g l : List Ent) : ResultVar → Option (Prop × AV)
 | .tmp t => some (True, tget ts t)
 | .cell ad t =>
  match tget ts ad with
  | .ref id ver off =>
   match sget g l id with
   | some (.arr _ cells ver' _) =>
    if (T t).ok then
     if (T t).isAgg then some (ver = ver' ∧ off + (T t).size ≤ cells.length, .agg ((cells.drop off).take (T t).size))
     else
      match cells[off]? with
      | some c => some (ver = ver', c)
      | none => none
    else none
   | _ => none
  | _ => none
def aRes (T : Nat → TI) (ts : Ts) (g l : List Ent) : List ResultVar → Option (Prop × List AV)
 | [] => some (True, [])
 | r :: rs =>
  match aResV T ts g l r, aRes T ts g l rs with
  | some (p, x), some (q, xs) => some (p ∧ q, x :: xs)
  | _, _ => none
def oneAV : List AV → AV
 | [x] => x
 | xs => .tup xs
inductive Keep where
 | drop | stay | freeze
def endQ (kp : Keep) (g0 g l : List Ent) (x : AV) (R : AV → List Ent → Prop) : Prop :=
 match kp with
 | .stay => R x (g ++ l)
 | .drop => x.low g0.length = true ∧ StoreLow g0.length g0 g ∧ R x g
 | .freeze => ∃ x', Frz g0.length l x x' ∧ x'.low g0.length = true ∧ StoreLow g0.length g0 g ∧ R x' g
def retQ (T : Nat → TI) (kp : Keep) (rs : List ResultVar) (g0 : List Ent) (R : AV → List Ent → Prop) : Exit → Ts → List Ent → List Ent → Prop
 | .normal, ts, g, l | .ret, ts, g, l =>
  match aRes T ts g l rs with
  | some (p, xs) => p ∧ endQ kp g0 g l (oneAV xs) R
  | none => False
 | _, _, _, _ => False
section
variable {E : Env} {T : Nat → TI} (hT : TabOK E.P T)
include hT
theorem aResV_run {ts : Ts} {g l : List Ent} {r : ResultVar} {p : Prop} {x : AV} (h : aResV T ts g l r = some (p, x)) (hp : p) {s : S} {a : Act} (hs : s.σ = g ++ l) (hI : HInv s) (ht : TsRep s ts a) :
  ∃ y, (match r with
   | .tmp t => pure (a.tmps.getD t undef)
   | .cell ad t => do loadVar t (← asAddr (a.tmps.getD ad undef)) : Sem Value).run E.P s.w = .ok y s.w ∧ Rep s x y := by
 cases r with
 | tmp t =>
  simp only [aResV, Option.some.injEq, Prod.mk.injEq] at h
  obtain ⟨rfl, rfl⟩ := h
  exact ⟨_, rfl, ht t⟩
 | cell ad t =>
  -- as the operation 'load' would read it
  have key : ∀ {r' : AV}, StepOK E { (default : Oper) with op := .load t (.tmp ad) } s a g r' g l → (∃ b o', a.tmps.getD ad undef = .pointer (some ⟨b, o', none⟩)) → True := fun _ _ => trivial
  simp only [aResV] at h
  split at h
  ·rename_i id ver off hx
   split at h
   ·rename_i ty cells ver' imm he
    rw [sget_eq, ← hs] at he
    split at h
    ·rename_i h1
     have hev : ev ts (.tmp ad) = .ref id ver off := hx
     have hun := (hT t h1).und
     obtain ⟨inf, z, hinf, hsz, _⟩ := (hT t h1).info
     split at h
     ·rename_i hag
      simp only [Option.some.injEq, Prod.mk.injEq] at h
      obtain ⟨rfl, rfl⟩ := h
      obtain ⟨b, hb, hxa⟩ := ref_at hT hs hI ht hev he hp.1
      obtain ⟨_, _, _, hc⟩ := arr_at hT hs hI ht he hb
      have hag' : aggD (T t).desc = true := by rw [← (hT t h1).agg]; exact hag
      obtain ⟨ys, h3, h4, h5⟩ := RepL.ofCells (s := s) (w := s.w) (cs := (cells.drop off).take (T t).size) (blk := b.blk) (off := b.off + off) fun j c hj => by
       rw [List.getElem?_take] at hj
       split at hj
       ·rw [List.getElem?_drop] at hj
        obtain ⟨y, h2, h3, _⟩ := hc _ _ hj
        exact ⟨y, by rwa [← Nat.add_assoc] at h2, h3⟩
       ·cases hj
      have hl := run_loadCells_at E.P s.w b.blk (b.off + off) ys h5
      have hlen : ys.length = inf.size := by rw [h4, hsz]; simp; omega
      rw [hlen] at hl
      refine ⟨.agg ys.toArray, ?_, by unfold Rep; exact ⟨_, rfl, by simpa using h3⟩⟩
      have hxa' : a.tmps.getD ad undef = .pointer (some ⟨b.blk, b.off + off, none⟩) := hxa
      simp [hxa', asAddr, loadVar, run_isAgg hun, hag', run_sizeOf' hinf, hl]
     ·rename_i hag
      split at h
      ·rename_i c hc'
       simp only [Option.some.injEq, Prod.mk.injEq] at h
       obtain ⟨rfl, rfl⟩ := h
       obtain ⟨b, hb, hxa⟩ := ref_at hT hs hI ht hev he hp
       obtain ⟨_, _, _, hc⟩ := arr_at hT hs hI ht he hb
       obtain ⟨y, h2, h3, _⟩ := hc _ _ hc'
       have hag' : aggD (T t).desc = false := by rw [← (hT t h1).agg]; simpa using hag
       have hxa' : a.tmps.getD ad undef = .pointer (some ⟨b.blk, b.off + off, none⟩) := hxa
       refine ⟨y, ?_, h3⟩
       simp [hxa', asAddr, loadVar, run_isAgg hun, hag', h2]
      ·cases h
    ·cases h
   ·cases h
  ·cases h
theorem aRes_run {ts : Ts} {g l : List Ent} : ∀ {rs : List ResultVar} {p : Prop} {xs : List AV}, aRes T ts g l rs = some (p, xs) → p → ∀ {s : S} {a : Act}, s.σ = g ++ l → HInv s → TsRep s ts a →
  ∃ ys, (rs.mapM fun
   | .tmp t => pure (a.tmps.getD t undef)
   | .cell ad t => do loadVar t (← asAddr (a.tmps.getD ad undef)) : Sem (List Value)).run E.P s.w = .ok ys s.w ∧ RepL s xs ys
 | [], p, xs, h, hp, s, a, hs, hI, ht => by simp only [aRes, Option.some.injEq, Prod.mk.injEq] at h; obtain ⟨rfl, rfl⟩ := h; exact ⟨[], rfl, by unfold RepL; rfl⟩
 | r :: rs, p, xs, h, hp, s, a, hs, hI, ht => by
  simp only [aRes] at h
  split at h
  ·rename_i p1 x q xs' h1 h2
   simp only [Option.some.injEq, Prod.mk.injEq] at h
   obtain ⟨rfl, rfl⟩ := h
   obtain ⟨y, h3, h4⟩ := aResV_run hT h1 hp.1 hs hI ht
   obtain ⟨ys, h5, h6⟩ := aRes_run h2 hp.2 hs hI ht
   refine ⟨y :: ys, ?_, by unfold RepL; exact ⟨y, ys, rfl, h4, h6⟩⟩
   simp only [List.mapM_cons, Sem.run_bind, h3, Result.andThen_ok, h5, Sem.run_pure]
  ·cases h
omit hT in
theorem enter_ts {fn : Func} {args : List AV} (hargs : args.length ≤ fn.ntmps) {s : S} {vs : List Value} (hr : RepL s args vs) :
  TsRep s (argTs 0 args) { tmps := vs.toArray ++ Array.replicate (fn.ntmps - vs.toArray.size) undef, defers := [] } ∧ (vs.toArray ++ Array.replicate (fn.ntmps - vs.toArray.size) undef).size = fn.ntmps := by
 have hlen := hr.length
 have ht : TsRep s (argTs 0 args) { tmps := vs.toArray ++ Array.replicate (fn.ntmps - vs.toArray.size) undef, defers := [] } := by
  intro i
  rw [tget_argTs, if_pos (Nat.zero_le _), Nat.sub_zero]
  rcases Nat.lt_or_ge i args.length with hi | hi
  ·obtain ⟨y, h1, h2⟩ := hr.get (List.getElem?_eq_getElem hi)
   have e1 : args.getD i .un = args[i] := by simp [List.getD, hi]
   rw [e1]
   have hi2 : i < vs.length := by omega
   have e2 : (vs.toArray ++ Array.replicate (fn.ntmps - vs.toArray.size) undef).getD i undef = y := by
    rw [Array.getD_eq_getD_getElem?, Array.getElem?_append_left (by simpa using hi2)]
    simp only [List.getElem?_toArray, h1, Option.getD_some]
   rw [e2]; exact h2
  ·have e1 : args.getD i .un = .un := by simp [List.getD, hi]
   rw [e1]; unfold Rep; trivial
 have hsz : (vs.toArray ++ Array.replicate (fn.ntmps - vs.toArray.size) undef).size = fn.ntmps := by simp; omega
 exact ⟨ht, hsz⟩
theorem ret_fin {fn : Func} {kp : Keep} {σ g' l' : List Ent} {R : AV → List Ent → Prop} {s s' : S} {a' : Act} {ts' : Ts} (hI : HInv s) (hs : s.σ = σ) (a2 : s'.σ = g' ++ l') (a3 : g'.length = σ.length) (a4 : HInv s') (a5 : Ext s s')
  (ht' : TsRep s' ts' a') (hh : match aRes T ts' g' l' fn.results.toList with
   | some (p, xs) => p ∧ endQ kp σ g' l' (oneAV xs) R
   | none => False) : ∃ v, (results fn a'.tmps).run E.P s'.w = .ok v s'.w ∧
    ∃ v' r s'', Ending.returned v = .returned v' ∧ s''.w = s'.w ∧ HInv s'' ∧ Ext s s'' ∧ Rep s'' r v' ∧ R r s''.σ := by
 split at hh
 ·rename_i p xs hres
  obtain ⟨hp, hR⟩ := hh
  obtain ⟨ys, h3, h4⟩ := aRes_run hT hres hp a2 a4 ht'
  have hl := h4.length
  refine ⟨(if hy : ys.toArray.size = 1 then ys.toArray[0] else .tuple ys.toArray), ?_, ?_⟩
  ·unfold results
   rw [Array.mapM_eq_mapM_toList]
   simp only [Sem.run_bind, Sem.run_map, Sem.run_pure]
   exact congrArg (fun r : Result (List Value) => (r.andThen fun a w' => Result.ok a.toArray w').andThen fun a w' => Result.ok (if h : a.size = 1 then a[0] else Value.tuple a) w') h3
  ·have hrep : Rep s' (oneAV xs) (if hy : ys.toArray.size = 1 then ys.toArray[0] else .tuple ys.toArray) := by
    match xs, ys, h4, hl with
    | [], [], h4, _ => simp [oneAV]; unfold Rep; exact ⟨_, rfl, h4⟩
    | [x], [y], h4, _ => simp [oneAV]; unfold RepL at h4; obtain ⟨v, vs', h5, h6, _⟩ := h4; cases h5; exact h6
    | x :: x2 :: xs, y :: y2 :: ys, h4, _ => simp [oneAV]; unfold Rep; exact ⟨_, rfl, h4⟩
    | [], _ :: _, _, hl => simp at hl
    | [x], [], _, hl => simp at hl
    | [x], _ :: _ :: _, _, hl => simp at hl
    | _ :: _ :: _, [], _, hl => simp at hl
    | _ :: _ :: _, [_], _, hl => simp at hl
   cases kp with
   | stay =>
    simp only [endQ] at hR
    exact ⟨_, _, s', rfl, rfl, a4, a5, hrep, by rw [a2]; exact hR⟩
   | drop =>
    simp only [endQ] at hR
    obtain ⟨hlow, hst, hR⟩ := hR
    obtain ⟨c1, c2, c3⟩ := cut_ok hI a4 a5 a2 (by rw [a3, hs]) (by rw [hs]; exact hst)
    exact ⟨_, _, s'.cut s.σ.length, rfl, rfl, c1, c2, hrep.cut (by rw [hs]; exact hlow), by rw [c3]; exact hR⟩
   | freeze =>
    simp only [endQ] at hR
    obtain ⟨x', hfz, hlow, hst, hR⟩ := hR
    have d1 := HInv.shut a4 σ.length
    have d2 := Ext.shut a4 σ.length
    have hσ : (s'.shut σ.length).σ = g' ++ l'.map Ent.shut := by
     show s'.σ.take _ ++ (s'.σ.drop _).map _ = _
     rw [a2, ← a3, List.take_left, List.drop_left]
    have d3 := Rep.frz d1 (n0 := σ.length) (l := l') (fun id ty cells ver imm h5 h6 => by
     rw [hσ, List.getElem?_append_right (by rw [a3]; exact h5), List.getElem?_map, a3, h6]; rfl) hfz (Rep.ext d2 hrep)
    obtain ⟨c1, c2, c3⟩ := cut_ok hI d1 (a5.trans d2) hσ (by rw [a3, hs]) (by rw [hs]; exact hst)
    exact ⟨_, _, (s'.shut σ.length).cut s.σ.length, rfl, rfl, c1, c2, d3.cut (by rw [hs]; exact hlow), by rw [c3]; exact hR⟩
 ·exact hh.elim
theorem acalls_wp {f : FuncId} {fn : Func} {c : Code} {args : List AV} {σ : List Ent} {R : AV → List Ent → Prop} (kp : Keep) (rows : List Nat) (hok : codeOK fn.ntmps c = true) (hargs : args.length ≤ fn.ntmps)
  (h : aCode E fn.ntmps T rows c (retQ T kp fn.results.toList σ R) (argTs 0 args) σ []) (s : S) (vs : List Value) (hs : s.σ = σ) (hI : HInv s) (hΓ : E.Γ s.B s.w) (hr : RepL s args vs) :
  c.wp E.P (bodyPost E.P fn fun e w' => ∃ v r s', e = .returned v ∧ s'.w = w' ∧ HInv s' ∧ Ext s s' ∧ Rep s' r v ∧ R r s'.σ) { tmps := vs.toArray ++ Array.replicate (fn.ntmps - vs.toArray.size) undef, defers := [] } s.w := by
 obtain ⟨ht, hsz⟩ := enter_ts hargs hr
 refine wp_mono (aCode_sound hT hok h s _ _ (by simpa using hs) hI hΓ ht hsz rfl) ?_
 rintro e a' w' ⟨ts', g', l', s', rfl, a2, a3, a4, a5, a6, a7, a8, a9⟩
 cases e <;> simp only [retQ] at a9 <;> first | exact a9.elim | skip
 ·exact ⟨a8, ret_fin hT hI hs a2 a3 a4 a5 a6 a9⟩
 ·exact ⟨a8, ret_fin hT hI hs a2 a3 a4 a5 a6 a9⟩
theorem acalls_body {f : FuncId} {fn : Func} {c : Code} {args : List AV} {σ : List Ent} {R : AV → List Ent → Prop} (kp : Keep) (rows : List Nat) (hf : E.P.funcs[f]? = some fn) (hb : fn.body = some c)
  (hname : (fn.name == "runtime.NumGoroutine") = false) (hok : codeOK fn.ntmps c = true) (hargs : args.length ≤ fn.ntmps)
  (h : aCode E fn.ntmps T rows c (retQ T kp fn.results.toList σ R) (argTs 0 args) σ []) : HasBody E f ∧ ∀ (s : S) (vs : List Value), s.σ = σ → HInv s → E.Γ s.B s.w → RepL s args vs →
  Calls E.P f vs.toArray s.w fun e w' => ∃ v r s', e = .returned v ∧ s'.w = w' ∧ HInv s' ∧ Ext s s' ∧ Rep s' r v ∧ R r s'.σ :=
 ⟨⟨fn, hf, by rw [hb]; rfl, hname⟩, fun s vs hs hI hΓ hr => calls_of_wp hf hb (acalls_wp (f := f) hT kp rows hok hargs h s vs hs hI hΓ hr)⟩
def ADef (E : Env) (f : FuncId) (args : List AV) (σ : List Ent) (R : AV → List Ent → Prop) : Prop :=
 HasBody E f ∧ ∀ (s : S) (vs : List Value) (u : FrameMode), s.σ = σ → HInv s → E.Γ s.B s.w → RepL s args vs →
  CallsD E.P f vs.toArray u s.w fun e u' w' => u' = u ∧ ∃ v r s', e = .returned v ∧ s'.w = w' ∧ HInv s' ∧ Ext s s' ∧ Rep s' r v ∧ R r s'.σ
theorem acalls_intro {f : FuncId} {fn : Func} {c : Code} {args : List AV} {σ : List Ent} {R : AV → List Ent → Prop} (kp : Keep) (rows : List Nat) (hf : E.P.funcs[f]? = some fn) (hb : fn.body = some c)
  (hname : (fn.name == "runtime.NumGoroutine") = false) (hok : codeOK fn.ntmps c = true) (hargs : args.length ≤ fn.ntmps)
  (h : aCode E fn.ntmps T rows c (retQ T kp fn.results.toList σ R) (argTs 0 args) σ []) : ACalls E f args σ R := .inl (acalls_body hT kp rows hf hb hname hok hargs h)
def Sub (ts small : Ts) : Prop := ∀ p ∈ small, tget ts p.1 = p.2
omit hT in
theorem TsRep.sub {s : S} {ts small : Ts} {a : Act} (ht : TsRep s ts a) : Sub ts small → TsRep s small a := by
 induction small with
 | nil => intro _ i; unfold tget Rep; trivial
 | cons p r ih =>
  intro h i
  obtain ⟨j, x⟩ := p
  unfold tget
  by_cases hj : j = i
  ·subst hj
   rw [if_pos rfl]
   have h1 : tget ts j = x := h (j, x) (by simp)
   rw [← h1]; exact ht j
  ·rw [if_neg hj]
   exact ih (fun q hq => h q (by simp [hq])) i
omit hT in
theorem rounds_mono {P : Program} {c : Code} {Q : Exit → Act → World → Prop} : ∀ {n : Nat} {a : Act} {w : World}, Code.rounds P c Q n a w → Code.rounds P c Q (n + 1) a w
 | 0, _, _, h => h.elim
 | n + 1, a, w, h => by
  rw [rounds_succ] at *
  refine wp_mono h fun e a' w' hh => ?_
  cases e <;> simp only [Exit.then] at hh ⊢ <;> first | exact rounds_mono hh | exact hh
omit hT in
theorem rounds_le {P : Program} {c : Code} {Q : Exit → Act → World → Prop} {m n : Nat} (h : m ≤ n) {a : Act} {w : World} (hr : Code.rounds P c Q m a w) : Code.rounds P c Q n a w := by
 induction h with
 | refl => exact hr
 | step _ ih => exact rounds_mono ih
omit hT in
theorem wp_loop_idx {P : Program} {c : Code} {Q : Exit → Act → World → Prop} (I : Nat → Act → World → Prop)
  (round : ∀ m a w, I m a w → c.wp P (Exit.then (fun a' w' => ∃ m', m' < m ∧ I m' a' w') Q) a w) : ∀ (m : Nat) {a : Act} {w : World}, I m a w → Code.rounds P c Q (m + 1) a w := by
 intro m
 induction m using Nat.strongRecOn with
 | _ m ih =>
  intro a w h
  rw [rounds_succ]
  refine wp_mono (round m a w h) fun e a' w' hh => ?_
  cases e <;> simp only [Exit.then] at hh ⊢
  case normal => obtain ⟨m', h1, h2⟩ := hh; exact rounds_le (by omega) (ih m' h1 h2)
  all_goals exact hh
theorem awp_loop {n : Nat} {rows : List Nat} {c : Code} {Q : Exit → Ts → List Ent → List Ent → Prop} {ts : Ts} {g l : List Ent} {α : Type} (τ : α → Ts) (G L : α → List Ent) (I : α → Prop) (μ : α → Nat)
  (hok : codeOK n c = true) (h0 : ∃ x, I x ∧ Sub ts (τ x) ∧ g = G x ∧ l = L x)
  (round : ∀ x, I x → aCode E n T rows c (thenQ (fun ts' g' l' => ∃ y, I y ∧ μ y < μ x ∧ Sub ts' (τ y) ∧ g' = G y ∧ l' = L y) Q) (τ x) (G x) (L x)) : AWp E n (.loop c) Q ts g l := by
 intro s a D hs hI hΓ ht hn hd
 obtain ⟨x0, hx0, hsub0, rfl, rfl⟩ := h0
 let J : Nat → Act → World → Prop := fun m a' w' => ∃ x s', I x ∧ μ x = m ∧ s'.w = w' ∧ s'.σ = G x ++ L x ∧ (G x).length = (G x0).length ∧ HInv s' ∧ Ext s s' ∧ TsRep s' (τ x) a' ∧ a'.tmps.size = n ∧ a'.defers = D
 refine wp_loop_rounds (μ x0 + 1) (wp_loop_idx J ?_ (μ x0) ⟨x0, s, hx0, rfl, rfl, hs, rfl, hI, Ext.refl s, ht.sub hsub0, hn, hd⟩)
 rintro m a1 w1 ⟨x, s1, hx, rfl, rfl, hs1, hg1, hI1, hE1, ht1, hn1, hd1⟩
 refine wp_mono (AWp.from (aCode_sound hT hok (round x hx)) hE1 hg1 hs1 hI1 (hE1.B ▸ E.stable _ _ _ hE1.below hΓ) ht1 hn1 hd1) ?_
 rintro e a2 w2 ⟨ts', g', l', s', rfl, b2, b3, b4, b5, b6, b7, b8, b9⟩
 cases e <;> simp only [Exit.then, thenQ] at b9 ⊢
 case normal =>
  obtain ⟨y, hy, hlt, hsub, rfl, rfl⟩ := b9
  exact ⟨μ y, hlt, y, s', hy, rfl, rfl, b2, b3, b4, b5, b6.sub hsub, b7, b8⟩
 all_goals exact ⟨ts', g', l', s', rfl, b2, b3, b4, b5, b6, b7, b8, b9⟩
end
end Go.Vm
namespace Go.Vm
open Go.RowKit
section
variable {E : Env} {T : Nat → TI} {ts ts' : Ts} {g l : List Ent}
theorem ev_const (x : Operand) (h : ∀ t, x = .tmp t → tget ts t = tget ts' t) : ev ts x = ev ts' x := by
 cases x <;> simp only [ev]
 exact h _ rfl
theorem fill_congr (flds : List (Nat × Nat × Bool)) : ∀ (ps : List (Nat × Operand)) (cells : List AV), (∀ p ∈ ps, ev ts p.2 = ev ts' p.2) → fill T flds ts cells ps = fill T flds ts' cells ps
 | [], _, _ => rfl
 | (i, x) :: ps, cells, h => by
  have h0 : ev ts x = ev ts' x := h (i, x) (by simp)
  simp only [fill, h0]
  split
  ·split
   ·exact fill_congr flds ps _ fun p hp => h p (by simp [hp])
   ·rfl
  ·rfl
theorem lits_congr (sz : Nat) (ag : Bool) : ∀ (ps : List (Nat × Operand)) (i : Nat), (∀ p ∈ ps, ev ts p.2 = ev ts' p.2) → lits ts sz ag i ps = lits ts' sz ag i ps
 | [], _, _ => rfl
 | (j, x) :: ps, i, h => by
  have h0 : ev ts x = ev ts' x := h (j, x) (by simp)
  simp only [lits, h0, lits_congr sz ag ps (i + 1) fun p hp => h p (by simp [hp])]
theorem map_congr' (l : List Operand) (h : ∀ x ∈ l, ev ts x = ev ts' x) : l.map (ev ts) = l.map (ev ts') := List.map_congr_left h
theorem aMap_congr (o : Oper) (h : ∀ x ∈ o.op.operands, ev ts x = ev ts' x) : aMap T o ts g l = aMap T o ts' g l := by
 obtain ⟨dst, op, type, pos, after, guard⟩ := o
 unfold aMap
 cases op <;> simp only [Op.operands] at h <;> try rfl
 case makeMap t r =>
  have h1 : r.map (ev ts) = r.map (ev ts') := by cases r with
   | none => rfl
   | some q => simp [h q (by simp)]
  simp only [h1]
 case lookup t x i ok => simp only [h x (by simp), h i (by simp)]
 case mapUpdate t m k x => simp only [h m (by simp), h k (by simp), h x (by simp)]
 case insert t m k x => simp only [h m (by simp), h k (by simp), h x (by simp)]
 case range t x => simp only [h x (by simp)]
 case entry x => simp only [h x (by simp)]
 case call c =>
  obtain ⟨callee, args, argTypes⟩ := c
  simp only [Call.operands] at h
  have ha : ∀ x ∈ args.toList, ev ts x = ev ts' x := fun x hx => h x (by simp; exact .inr (by simpa using hx))
  simp only [map_congr' args.toList ha]
theorem fillA_congr (sz : Nat) : ∀ (ps : List (Nat × Operand)) (cells : List AV), (∀ p ∈ ps, ev ts p.2 = ev ts' p.2) → fillA sz ts cells ps = fillA sz ts' cells ps
 | [], _, _ => rfl
 | (i, x) :: ps, cells, h => by
  have h1 := h (i, x) (by simp)
  simp only [fillA, h1]
  rw [fillA_congr sz ps _ fun p hp => h p (by simp [hp])]
theorem aDet_congr (rows : List Nat) (o : Oper) (h : ∀ x ∈ o.op.operands, ev ts x = ev ts' x) : aDet T rows o ts g l = aDet T rows o ts' g l := by
 obtain ⟨dst, op, type, pos, after, guard⟩ := o
 have hmap := aMap_congr (T := T) (g := g) (l := l) ⟨dst, op, type, pos, after, guard⟩ h
 unfold aDet
 cases op <;> simp only [Op.operands] at h <;> try (first | rfl | exact hmap)
 case move x => simp only [h x (by simp)]
 case assign x => simp only [h x (by simp)]
 case pick c a b => simp only [h c (by simp), h a (by simp), h b (by simp)]
 case box t x => simp only [h x (by simp)]
 case build t ps =>
  have h' : ∀ p ∈ ps.toList, ev ts p.2 = ev ts' p.2 := fun p hp => h p.2 (by simp; exact ⟨p.1, by simpa using hp⟩)
  simp only [fill_congr _ _ _ h', fillA_congr _ _ _ h']
 case buildSlice t n ps =>
  have h' : ∀ p ∈ ps.toList, ev ts p.2 = ev ts' p.2 := fun p hp => h p.2 (by simp; exact ⟨p.1, by simpa using hp⟩)
  simp only [lits_congr _ _ _ _ h']
 case load t x => simp only [h x (by simp)]
 case store t x y => simp only [h x (by simp), h y (by simp)]
 case nilCheck x => simp only [h x (by simp)]
 case binOp op t x y tu => simp only [h x (by simp), h y (by simp)]
 case unOp op t x => simp only [h x (by simp)]
 case convert s d x => simp only [h x (by simp)]
 case makeInterface t x => simp only [h x (by simp)]
 case makeSlice t x y => simp only [h x (by simp), h y (by simp)]
 case makeFunc fn fs cs =>
  cases fn <;> try rfl
  have h1 := map_congr' (ts := ts) (ts' := ts') fs.toList fun x hx => h x (by simp; exact .inl (by simpa using hx))
  have h2 := map_congr' (ts := ts) (ts' := ts') cs.toList fun x hx => h x (by simp; exact .inr (by simpa using hx))
  simp only [h1, h2]
 case slice t x lo hi mx =>
  cases mx with
  | some m => rfl
  | none =>
   have h0 := h x (by simp)
   have h1 : lo.map (ev ts) = lo.map (ev ts') := by cases lo with
    | none => rfl
    | some q => simp [h q (by simp)]
   have h2 : hi.map (ev ts) = hi.map (ev ts') := by cases hi with
    | none => rfl
    | some q => simp [h q (by simp)]
   simp only [h0, h1, h2]
 case fieldAddr t x f => simp only [h x (by simp)]
 case field t x f => simp only [h x (by simp)]
 case indexAddr t x i => simp only [h x (by simp), h i (by simp)]
 case index t x i => simp only [h x (by simp), h i (by simp)]
 case extract x i => simp only [h x (by simp)]
 case call c =>
  obtain ⟨callee, args, argTypes⟩ := c
  have hm0 := hmap
  clear hmap
  simp only [Call.operands] at h
  have ha : ∀ x ∈ args.toList, ev ts x = ev ts' x := fun x hx => h x (by simp; exact .inr (by simpa using hx))
  have hm := map_congr' args.toList ha
  have hg : ∀ {i : Nat} {x : Operand}, args[i]? = some x → ev ts x = ev ts' x := fun {i x} hx => ha x (by simpa using Array.mem_of_getElem? hx)
  cases callee with
  | value f => rfl
  | invoke r m => rfl
  | builtin b =>
   cases b <;> try (first | rfl | exact hm0)
   case len =>
    simp only
    split
    ·rename_i x t h0 k0; rw [hg h0]
    ·rfl
   case append =>
    simp only
    split
    ·rename_i x y t h0 h1 k0; rw [hg h0, hg h1]
    ·rfl
   case unsafeSliceData => simp only [hm]
   case unsafeString => simp only [hm]
   case copy => simp only [hm]
   case cap => simp only [hm]
   case clear => simp only [hm]
   case max => simp only [hm]
   case min => simp only [hm]
theorem aOne_congr' (rows : List Nat) (o : Oper) (K : AV → List Ent → List Ent → Prop) (h : ∀ x ∈ o.op.operands, ev ts x = ev ts' x) : aOne E T rows o ts g l K = aOne E T rows o ts' g l K := by
 have hd := aDet_congr (T := T) (g := g) (l := l) rows o h
 unfold aOne
 split
 ·rename_i f as tys ho
  rw [ho] at h
  simp only [Op.operands, Call.operands] at h
  have h0 := h f (by simp)
  have hm := map_congr' (ts := ts) (ts' := ts') as.toList fun x hx => h x (by simp; exact .inr (by simpa using hx))
  rw [h0, hm]
 ·rename_i f _ as tys ho
  rw [ho] at h
  simp only [Op.operands, Call.operands] at h
  have h0 := h f (by simp)
  have hm := map_congr' (ts := ts) (ts' := ts') as.toList fun x hx => h x (by simp; exact .inr (by simpa using hx))
  rw [h0, hm]
 ·rename_i i ho
  rw [ho] at h
  rw [h i (by simp [Op.operands])]
 ·rw [hd]
end
end Go.Vm
namespace Go.Vm
open Go.RowKit
def looks (ops : Array Oper) (o : Oper) : List Nat :=
 (o.op.operands.toList.filterMap fun x => match x with | .tmp t => some t | _ => none) ++
 (match o.guard with
  | some (j, _) => ((ops[j]?).bind (·.dst)).toList
  | none => [])
def ancs : List Oper → List (List Nat) → List (List Nat)
 | [], acc => acc
 | o :: os, acc => ancs os (acc ++ [(o.after.toList.filter fun e => Region.binds .any e).flatMap fun e => e.on :: acc.getD e.on []])
def ancOf (ops : Array Oper) : List (List Nat) := ancs ops.toList []
def clash (ops : Array Oper) (x y : Oper) : Bool :=
 match x.dst with
 | some d => (looks ops y).contains d || y.dst == some d
 | none => false
def ordered (ops : Array Oper) : Bool :=
 (List.range ops.size).all fun j => (ops[j]?).any fun oj =>
  (oj.after.toList.all fun e => !Region.binds .any e || decide (e.on < j)) &&
  (List.range j).all fun i => (ops[i]?).any fun oi => !(clash ops oi oj || clash ops oj oi) || ((ancOf ops).getD j []).contains i
def blind (o : Oper) : Bool := match o.op with
 | .move _ | .assign _ => true
 | _ => false
def freeB (ops : Array Oper) (bars : List Nat) (i : Nat) : Bool := !bars.contains i && (ops[i]?).any blind
def barred (ops : Array Oper) (bars : List Nat) : Bool :=
 bars.all fun j => (List.range j).all (fun i => ((ancOf ops).getD j []).contains i || freeB ops bars i) && (List.range ops.size).all fun k => !decide (j < k) || ((ancOf ops).getD k []).contains j || freeB ops bars k
def aFix (E : Env) (T : Nat → TI) (o : Oper) (ts : Ts) (g l : List Ent) (r : AV) (g1 l1 : List Ent) : Prop :=
 aOne E T [] o ts g l fun r' g' l' => r' = r ∧ g' = g1 ∧ l' = l1
def aNext (bars : List Nat) (k : Nat) (E : Env) (T : Nat → TI) (o : Oper) (ts : Ts) (g l : List Ent) (K : AV → List Ent → List Ent → Prop) : Prop :=
 if bars.contains k = true then ∃ r g1 l1, aFix E T o ts g l r g1 l1 ∧ g1.length = g.length ∧ K r g1 l1 else ∃ r, aFix E T o ts g l r g l ∧ K r g l
def aDraw (E : Env) (T : Nat → TI) (all : Array Oper) (bars : List Nat) : Nat → List Oper → Ts → List Ent → List Ent → (Ts → List Ent → List Ent → Prop) → Prop
 | _, [], ts, g, l, K => K ts g l
 | k, o :: rest, ts, g, l, K =>
  match o.guard with
  | none => aNext bars k E T o ts g l fun r g l => aDraw E T all bars (k + 1) rest (tput ts o.dst r) g l K
  | some (j, want) =>
   match gslot all j with
   | none => False
   | some d =>
    match tget ts d with
    | .v (.bool b) =>
     if b = want then aNext bars k E T o ((d, boolV want) :: ts) g l fun r g l => aDraw E T all bars (k + 1) rest (tput ((d, boolV want) :: ts) o.dst r) g l K
     else aDraw E T all bars (k + 1) rest (tput ((d, boolV (!want)) :: ts) o.dst (.v undef)) g l K
    | .v (.tuple _) => aDraw E T all bars (k + 1) rest (tput ts o.dst (.v undef)) g l K
    | _ => False
def TsEq (a b : Ts) : Prop := ∀ i, tget a i = tget b i
theorem TsEq.refl (a : Ts) : TsEq a a := fun _ => rfl
theorem TsEq.put {a b : Ts} (h : TsEq a b) (d : Option Nat) (r : AV) : TsEq (tput a d r) (tput b d r) := by
 cases d with
 | none => exact h
 | some d => intro i; simp only [tput, tget]; split <;> first | rfl | exact h i
theorem TsEq.tell {a : Ts} {d : Nat} {r : AV} (h : tget a d = r) : TsEq ((d, r) :: a) a := by
 intro i; simp only [tget]; split
 ·rename_i hh; subst hh; exact h.symm
 ·rfl
theorem TsEq.ev {a b : Ts} (h : TsEq a b) (x : Operand) : ev a x = ev b x := by
 cases x <;> simp only [Vm.ev]; exact h _
def OpFact (E : Env) (T : Nat → TI) (all : Array Oper) (o : Oper) (ts : Ts) (g l : List Ent) (r : AV) (g1 l1 : List Ent) : Prop :=
 match o.guard with
 | none => aFix E T o ts g l r g1 l1
 | some (j, want) => ∃ d, gslot all j = some d ∧
   ((tget ts d = boolV want ∧ aFix E T o ts g l r g1 l1) ∨ (tget ts d = boolV (!want) ∧ r = .v undef ∧ g1 = g ∧ l1 = l) ∨ (∃ q, tget ts d = .v (.tuple q)) ∧ r = .v undef ∧ g1 = g ∧ l1 = l)
theorem blind_fix {E : Env} {T : Nat → TI} {o : Oper} {ts : Ts} {g l : List Ent} {r : AV} {g1 l1 : List Ent} (hb : blind o = true) (h : aFix E T o ts g l r g1 l1) (g' l' : List Ent) : aFix E T o ts g' l' r g' l' := by
 obtain ⟨dst, op, ty, pos, after, gd⟩ := o
 cases op <;> simp only [blind, Bool.false_eq_true] at hb
 ·have h : True ∧ _ ∧ _ ∧ _ := h
  exact ⟨trivial, h.2.1, rfl, rfl⟩
 ·have h : True ∧ _ ∧ _ ∧ _ := h
  exact ⟨trivial, h.2.1, rfl, rfl⟩
theorem blind_fact {E : Env} {T : Nat → TI} {all : Array Oper} {o : Oper} {ts : Ts} {g l : List Ent} {r : AV} {g1 l1 : List Ent} (hb : blind o = true) (h : OpFact E T all o ts g l r g1 l1) (g' l' : List Ent) : OpFact E T all o ts g' l' r g' l' := by
 unfold OpFact at h ⊢
 cases hg : o.guard with
 | none => simp only [hg] at h ⊢; exact blind_fix hb h g' l'
 | some jw =>
  obtain ⟨j, want⟩ := jw
  simp only [hg] at h ⊢
  obtain ⟨d, h1, h2⟩ := h
  refine ⟨d, h1, ?_⟩
  rcases h2 with ⟨h2, h3⟩ | ⟨h2, h3, _⟩ | ⟨h2, h3, _⟩
  ·exact .inl ⟨h2, blind_fix hb h3 g' l'⟩
  ·exact .inr (.inl ⟨h2, h3, by simp⟩)
  ·exact .inr (.inr ⟨h2, h3, by simp⟩)
structure Tr where
 r : AV
 g : List Ent
 l : List Ent
def tsRun (ts : Ts) : List Oper → List Tr → Ts
 | o :: os, r :: rs => tsRun (tput ts o.dst r.r) os rs
 | _, _ => ts
def Trace (E : Env) (T : Nat → TI) (all : Array Oper) (bars : List Nat) : Nat → Ts → List Ent → List Ent → List Oper → List Tr → Prop
 | _, _, _, _, [], [] => True
 | k, ts, g, l, o :: os, r :: rs => OpFact E T all o ts g l r.r r.g r.l ∧ r.g.length = g.length ∧ (bars.contains k = false → r.g = g ∧ r.l = l) ∧ Trace E T all bars (k + 1) (tput ts o.dst r.r) r.g r.l os rs
 | _, _, _, _, _, _ => False
def endS (g l : List Ent) : List Tr → List Ent × List Ent
 | [] => (g, l)
 | r :: rs => endS r.g r.l rs
theorem aFix_congr {E : Env} {T : Nat → TI} {o : Oper} {ts ts' : Ts} {g l : List Ent} {r : AV} {g1 l1 : List Ent} (h : ∀ x ∈ o.op.operands, ev ts x = ev ts' x) : aFix E T o ts g l r g1 l1 = aFix E T o ts' g l r g1 l1 := by
 unfold aFix; exact aOne_congr' [] o _ h
theorem aDraw_trace {E : Env} {T : Nat → TI} {all : Array Oper} {bars : List Nat} {K : Ts → List Ent → List Ent → Prop} : ∀ (ops : List Oper) (k : Nat) (g l : List Ent) (ts ts1 : Ts), TsEq ts1 ts → aDraw E T all bars k ops ts1 g l K →
  ∃ rs, Trace E T all bars k ts g l ops rs ∧ ∃ tsE, TsEq tsE (tsRun ts ops rs) ∧ K tsE (endS g l rs).1 (endS g l rs).2
 | [], k, g, l, ts, ts1, he, h => ⟨[], trivial, ts1, he, h⟩
 | o :: rest, k, g, l, ts, ts1, he, h => by
  unfold aDraw at h
  have go : ∀ {ts2 : Ts} {r : AV} {g1 l1 : List Ent}, TsEq ts2 ts → OpFact E T all o ts g l r g1 l1 → g1.length = g.length → (bars.contains k = false → g1 = g ∧ l1 = l) → aDraw E T all bars (k + 1) rest (tput ts2 o.dst r) g1 l1 K →
    ∃ rs, Trace E T all bars k ts g l (o :: rest) rs ∧ ∃ tsE, TsEq tsE (tsRun ts (o :: rest) rs) ∧ K tsE (endS g l rs).1 (endS g l rs).2 := by
   intro ts2 r g1 l1 h2 hf hlen hb hd
   obtain ⟨rs, h3, tsE, h4, h5⟩ := aDraw_trace rest (k + 1) g1 l1 (tput ts o.dst r) (tput ts2 o.dst r) (h2.put o.dst r) hd
   exact ⟨⟨r, g1, l1⟩ :: rs, ⟨hf, hlen, hb, h3⟩, tsE, h4, h5⟩
  have go2 : ∀ {ts2 : Ts}, TsEq ts2 ts → (∀ {r : AV} {g1 l1 : List Ent}, aFix E T o ts2 g l r g1 l1 → OpFact E T all o ts g l r g1 l1) → aNext bars k E T o ts2 g l (fun r g l => aDraw E T all bars (k + 1) rest (tput ts2 o.dst r) g l K) →
    ∃ rs, Trace E T all bars k ts g l (o :: rest) rs ∧ ∃ tsE, TsEq tsE (tsRun ts (o :: rest) rs) ∧ K tsE (endS g l rs).1 (endS g l rs).2 := by
   intro ts2 h2 hf hn
   unfold aNext at hn
   split at hn
   ·rename_i hb
    obtain ⟨r, g1, l1, h3, h4, h5⟩ := hn
    exact go h2 (hf h3) h4 (fun hh => by rw [hb] at hh; cases hh) h5
   ·obtain ⟨r, h3, h5⟩ := hn
    exact go h2 (hf h3) rfl (fun _ => ⟨rfl, rfl⟩) h5
  cases hg : o.guard with
  | none =>
   simp only [hg] at h
   refine go2 he (fun {r g1 l1} h1 => ?_) h
   unfold OpFact; simp only [hg]
   rw [← aFix_congr (ts := ts1) fun x _ => he.ev x]; exact h1
  | some jw =>
   obtain ⟨j, want⟩ := jw
   simp only [hg] at h
   cases hs : gslot all j with
   | none => simp [hs] at h
   | some d =>
    simp only [hs] at h
    split at h
    ·rename_i b hb
     have hb2 : tget ts d = .v (.bool b) := by rw [← he d]; exact hb
     split at h
     ·rename_i hw
      subst hw
      have ht : TsEq ((d, boolV b) :: ts1) ts := fun i => (TsEq.tell hb i).trans (he i)
      refine go2 ht (fun {r g1 l1} h1 => ?_) h
      unfold OpFact; simp only [hg]
      refine ⟨d, hs, .inl ⟨hb2, ?_⟩⟩
      rw [← aFix_congr (ts := (d, boolV b) :: ts1) fun x _ => ht.ev x]; exact h1
     ·rename_i hw
      have hbn : b = !want := by cases b <;> cases want <;> simp_all
      subst hbn
      have ht : TsEq ((d, boolV (!want)) :: ts1) ts := fun i => (TsEq.tell hb i).trans (he i)
      refine go ht ?_ rfl (fun _ => ⟨rfl, rfl⟩) h
      unfold OpFact; simp only [hg]
      exact ⟨d, hs, .inr (.inl ⟨hb2, by simp⟩)⟩
    ·rename_i q hb
     refine go he ?_ rfl (fun _ => ⟨rfl, rfl⟩) h
     unfold OpFact; simp only [hg]
     exact ⟨d, hs, .inr (.inr ⟨⟨q, by rw [← he d]; exact hb⟩, by simp⟩)⟩
    ·exact h.elim
def envD (ops : Array Oper) (rs : List AV) (D : Nat → Bool) (ts : Ts) : Nat → Nat → AV
 | 0, t => tget ts t
 | k + 1, t => if D k = true ∧ (ops[k]?).bind (·.dst) = some t then rs.getD k .un else envD ops rs D ts k t
theorem envD_skip {ops : Array Oper} {rs : List AV} {D : Nat → Bool} {ts : Ts} {t : Nat} : ∀ {n k : Nat}, k ≤ n → (∀ i, k ≤ i → i < n → D i = true → (ops[i]?).bind (·.dst) ≠ some t) → envD ops rs D ts n t = envD ops rs D ts k t
 | 0, k, h, _ => by have : k = 0 := (by omega); subst this; rfl
 | n + 1, k, h, hh => by
  rcases Nat.lt_or_ge n k with h1 | h1
  ·have : k = n + 1 := by omega
   subst this; rfl
  ·rw [envD, if_neg (fun hc => hh n h1 (by omega) hc.1 hc.2)]
   exact envD_skip h1 fun i h2 h3 => hh i h2 (by omega)
theorem envD_same {ops : Array Oper} {rs : List AV} {D D' : Nat → Bool} {ts : Ts} {t : Nat} : ∀ {n : Nat}, (∀ i, i < n → (ops[i]?).bind (·.dst) = some t → D i = D' i) → envD ops rs D ts n t = envD ops rs D' ts n t
 | 0, _ => rfl
 | n + 1, hh => by
  rw [envD, envD, envD_same fun i h => hh i (by omega)]
  by_cases hd : (ops[n]?).bind (·.dst) = some t
  ·rw [hh n (by omega) hd]
  ·rw [if_neg (fun hc => hd hc.2), if_neg (fun hc => hd hc.2)]
end Go.Vm
namespace Go.Vm
open Go.RowKit
theorem ancs_prefix : ∀ (os : List Oper) (acc : List (List Nat)), ∃ r, ancs os acc = acc ++ r ∧ r.length = os.length
 | [], acc => ⟨[], by simp [ancs], rfl⟩
 | o :: os, acc => by
  obtain ⟨r, h1, h2⟩ := ancs_prefix os (acc ++ [(o.after.toList.filter fun e => Region.binds .any e).flatMap fun e => e.on :: acc.getD e.on []])
  exact ⟨_ :: r, by rw [ancs, h1, List.append_assoc]; rfl, by simp [h2]⟩
theorem ancs_at : ∀ (os : List Oper) (acc : List (List Nat)) (i : Nat) (o : Oper), os[i]? = some o → ∀ k, k ∈ (ancs os acc).getD (acc.length + i) [] →
  ∃ e ∈ o.after.toList, Region.binds .any e = true ∧ (k = e.on ∨ (e.on < acc.length + i ∧ k ∈ (ancs os acc).getD e.on []))
 | [], _, i, o, h, _, _ => by simp at h
 | q :: os, acc, i, o, h, k, hk => by
  obtain ⟨r, h1, h2⟩ := ancs_prefix os (acc ++ [(q.after.toList.filter fun e => Region.binds .any e).flatMap fun e => e.on :: acc.getD e.on []])
  cases i with
  | zero =>
   simp only [List.getElem?_cons_zero, Option.some.injEq] at h
   subst h
   have he : (ancs (q :: os) acc).getD (acc.length + 0) [] = (q.after.toList.filter fun e => Region.binds .any e).flatMap fun e => e.on :: acc.getD e.on [] := by
    rw [ancs, h1]; simp [List.getD]
   rw [he] at hk
   obtain ⟨e, h3, h4⟩ := List.mem_flatMap.1 hk
   obtain ⟨h5, h6⟩ := List.mem_filter.1 h3
   refine ⟨e, h5, h6, ?_⟩
   rcases List.mem_cons.1 h4 with h7 | h7
   ·exact .inl h7
   ·right
    have hlt : e.on < acc.length := by
     rcases Nat.lt_or_ge e.on acc.length with h8 | h8
     ·exact h8
     ·simp [List.getD, List.getElem?_eq_none h8] at h7
    refine ⟨by omega, ?_⟩
    rw [ancs, h1]
    simp only [List.getD, List.append_assoc] at h7 ⊢
    rw [List.getElem?_append_left hlt]
    exact h7
  | succ i =>
   simp only [List.getElem?_cons_succ] at h
   have hl : (acc ++ [(q.after.toList.filter fun e => Region.binds .any e).flatMap fun e => e.on :: acc.getD e.on []]).length = acc.length + 1 := by simp
   have := ancs_at os (acc ++ [(q.after.toList.filter fun e => Region.binds .any e).flatMap fun e => e.on :: acc.getD e.on []]) i o h k
   rw [hl] at this
   rw [ancs] at hk ⊢
   rw [show acc.length + (i + 1) = acc.length + 1 + i by omega] at hk ⊢
   exact this hk
theorem anc_through {ops : Array Oper} {D : Nat → Bool} (hD : ∀ (j : Nat) o, ops[j]? = some o → D j = true → ∀ e ∈ o.after.toList, Region.binds .any e = true → D e.on = true) :
  ∀ (j : Nat) o, ops[j]? = some o → (∀ e ∈ o.after.toList, Region.binds .any e = true → D e.on = true) → ∀ k, k ∈ (ancOf ops).getD j [] → D k = true := by
 intro j
 induction j using Nat.strongRecOn with
 | _ j ih =>
  intro o ho hp k hk
  unfold ancOf at hk
  have := ancs_at ops.toList [] j o (by simpa using ho) k
  simp only [List.length_nil, Nat.zero_add] at this
  obtain ⟨e, h1, h2, h3⟩ := this hk
  rcases h3 with rfl | ⟨h3, h4⟩
  ·exact hp e h1 h2
  ·have hlt : e.on < ops.size := by have := (Array.getElem?_eq_some_iff.1 ho).1; omega
   have he : ops[e.on]? = some ops[e.on] := Array.getElem?_eq_getElem hlt
   exact ih e.on h3 _ he (hD e.on _ he (hp e h1 h2)) k h4
def stAt (g l : List Ent) (rs : List Tr) : Nat → List Ent × List Ent
 | 0 => (g, l)
 | k + 1 => match rs[k]? with
  | some t => (t.g, t.l)
  | none => (g, l)
theorem tsRun_env {ops : Array Oper} {rs : List Tr} {ts : Ts} {E : Env} {T : Nat → TI} {bars : List Nat} {g l : List Ent} : ∀ (os : List Oper) (qs : List Tr) (k : Nat) (tk : Ts), ops.toList.drop k = os → rs.drop k = qs → k ≤ ops.size →
  (∀ t, tget tk t = envD ops (rs.map Tr.r) (fun _ => true) ts k t) → (stAt g l rs k).1.length = g.length → Trace E T ops bars k tk (stAt g l rs k).1 (stAt g l rs k).2 os qs →
  (∀ t, tget (tsRun tk os qs) t = envD ops (rs.map Tr.r) (fun _ => true) ts ops.size t) ∧ endS (stAt g l rs k).1 (stAt g l rs k).2 qs = stAt g l rs ops.size ∧
  (∀ (j : Nat) o, k ≤ j → ops[j]? = some o → ∃ tj, (∀ t, tget tj t = envD ops (rs.map Tr.r) (fun _ => true) ts j t) ∧
   OpFact E T ops o tj (stAt g l rs j).1 (stAt g l rs j).2 ((rs.map Tr.r).getD j .un) (stAt g l rs (j + 1)).1 (stAt g l rs (j + 1)).2 ∧
   (stAt g l rs j).1.length = g.length ∧ (stAt g l rs (j + 1)).1.length = g.length ∧ (bars.contains j = false → stAt g l rs (j + 1) = stAt g l rs j))
 | [], [], k, tk, h1, h2, hk, h3, _, _ => by
  have : k = ops.size := by have := congrArg List.length h1; simp at this; omega
  subst this
  exact ⟨h3, rfl, fun j o hj ho => by have := (Array.getElem?_eq_some_iff.1 ho).1; omega⟩
 | o :: os, r :: qs, k, tk, h1, h2, hk, h3, hg, h4 => by
  have hlt : k < ops.size := by have := congrArg List.length h1; simp at this; omega
  have ho : ops[k]? = some o := by
   have : ops.toList[k]? = some o := by rw [← List.head?_drop, h1]; rfl
   simpa using this
  have hrk : rs[k]? = some r := by rw [← List.head?_drop, h2]; rfl
  have hr : (rs.map Tr.r).getD k .un = r.r := by simp [List.getD, hrk]
  have hst : stAt g l rs (k + 1) = (r.g, r.l) := by simp [stAt, hrk]
  have h1' : ops.toList.drop (k + 1) = os := by rw [← List.tail_drop, h1]; rfl
  have h2' : rs.drop (k + 1) = qs := by rw [← List.tail_drop, h2]; rfl
  have h3' : ∀ t, tget (tput tk o.dst r.r) t = envD ops (rs.map Tr.r) (fun _ => true) ts (k + 1) t := by
   intro t
   rw [envD, ho]
   simp only [Option.bind_some, true_and]
   cases hd : o.dst with
   | none => simp [tput, h3 t]
   | some d =>
    simp only [tput, tget, Option.some.injEq]
    split
    ·exact hr.symm
    ·exact h3 t
  obtain ⟨h5, h6, h7, h8⟩ := h4
  obtain ⟨a1, a2, a3⟩ := tsRun_env (bars := bars) (g := g) (l := l) os qs (k + 1) (tput tk o.dst r.r) h1' h2' hlt h3' (by rw [hst]; exact h6.trans hg) (by rw [hst]; exact h8)
  refine ⟨a1, by rw [hst] at a2; exact a2, fun j o' hj ho' => ?_⟩
  rcases Nat.lt_or_ge k j with h9 | h9
  ·exact a3 j o' h9 ho'
  ·have : j = k := by omega
   subst this
   rw [ho] at ho'; cases ho'
   refine ⟨tk, h3, by rw [hr, hst]; exact h5, hg, by rw [hst]; exact h6.trans hg, fun hb => ?_⟩
   obtain ⟨b1, b2⟩ := h7 hb
   rw [hst, b1, b2]
 | [], _ :: _, _, _, _, _, _, _, _, h => h.elim
 | _ :: _, [], _, _, _, _, _, _, _, h => h.elim
theorem stAt_same {g l : List Ent} {rs : List Tr} {bars : List Nat} {n : Nat} (h : ∀ j, j < n → bars.contains j = false → stAt g l rs (j + 1) = stAt g l rs j) : ∀ {i k : Nat}, i ≤ k → k ≤ n → (∀ j, i ≤ j → j < k → bars.contains j = false) → stAt g l rs k = stAt g l rs i
 | i, 0, hik, _, _ => by have : i = 0 := (by omega); subst this; rfl
 | i, k + 1, hik, hk, hb => by
  rcases Nat.lt_or_ge k i with h1 | h1
  ·have : i = k + 1 := by omega
   subst this; rfl
  ·rw [h k (by omega) (hb k h1 (by omega))]
   exact stAt_same h h1 (by omega) fun j h2 h3 => hb j h2 (by omega)
theorem count_set : ∀ {l : List Bool} {i : Nat}, l[i]? = some false → (l.set i true).countP (fun b => !b) + 1 = l.countP (fun b => !b)
 | [], i, h => by simp at h
 | b :: l, i, h => by
  cases i with
  | zero => simp at h; subst h; simp
  | succ i =>
   simp at h
   have := count_set (l := l) (i := i) (by simpa using h)
   simp only [List.set_cons_succ, List.countP_cons]
   omega
theorem count_zero : ∀ {l : List Bool}, l.countP (fun b => !b) = 0 → ∀ {i : Nat} {b : Bool}, l[i]? = some b → b = true
 | [], _, i, b, h => by simp at h
 | c :: l, hc, i, b, h => by
  simp only [List.countP_cons] at hc
  cases i with
  | zero => simp at h; subst h; cases c <;> simp_all
  | succ i => exact count_zero (l := l) (by omega) (by simpa using h)
theorem tget_map {f : Nat → AV} : ∀ {l : List Nat} {t : Nat}, tget (l.map fun t => (t, f t)) t = if t ∈ l then f t else .un
 | [], t => rfl
 | a :: l, t => by
  simp only [List.map_cons, tget]
  by_cases h : a = t
  ·subst h; simp
  ·rw [if_neg h, tget_map]
   have : (t ∈ a :: l) ↔ t ∈ l := by simp [Ne.symm h]
   simp only [this]
section
variable {E : Env} {T : Nat → TI} (hT : TabOK E.P T)
include hT
theorem awp_draw {n id : Nat} {ops : Array Oper} {Q : Exit → Ts → List Ent → List Ent → Prop} {ts : Ts} {g l : List Ent} (bars : List Nat) (hm : E.P.follows .mixedOrders = true) (hord : ordered ops = true) (hbar : barred ops bars = true) (hok : opsOK n ops.toList = true)
  (h : aDraw E T ops bars 0 ops.toList ts g l fun ts' g' l' => Q .normal ts' g' l') : AWp E n (.region id ops true) Q ts g l := by
 obtain ⟨trs, htr, tsE, heq, hQ⟩ := aDraw_trace ops.toList 0 g l ts ts (TsEq.refl ts) h
 obtain ⟨hend, hends, hfact⟩ := tsRun_env (ops := ops) (rs := trs) (ts := ts) (bars := bars) (g := g) (l := l) ops.toList trs 0 ts (by simp) (by simp) (Nat.zero_le _) (fun t => rfl) rfl htr
 generalize hrs : trs.map Tr.r = rs at hend hfact
 rw [show endS g l trs = stAt g l trs ops.size from hends] at hQ
 have hsame := fun {i k : Nat} => stAt_same (g := g) (l := l) (rs := trs) (bars := bars) (n := ops.size) (fun j hj hb => by
  obtain ⟨_, _, _, _, _, h1⟩ := hfact j ops[j] (Nat.zero_le _) (Array.getElem?_eq_getElem hj)
  exact h1 hb) (i := i) (k := k)
 unfold barred at hbar
 rw [List.all_eq_true] at hbar
 have hbar1 : ∀ j ∈ bars, ∀ i, i < j → i ∈ (ancOf ops).getD j [] ∨ freeB ops bars i = true := by
  intro j hj i hi
  have := hbar j hj
  simp only [Bool.and_eq_true, List.all_eq_true] at this
  simpa using this.1 i (by simpa using hi)
 have hbar2 : ∀ j ∈ bars, ∀ k, j < k → k < ops.size → j ∈ (ancOf ops).getD k [] ∨ freeB ops bars k = true := by
  intro j hj k hk hk2
  have := hbar j hj
  simp only [Bool.and_eq_true, List.all_eq_true] at this
  have := this.2 k (by simpa using hk2)
  simp only [Bool.or_eq_true, Bool.not_eq_true', decide_eq_false_iff_not] at this
  rcases this with (h1 | h1) | h1
  ·exact absurd hk h1
  ·left; simpa using h1
  ·exact .inr h1
 have hbarf : ∀ j ∈ bars, freeB ops bars j = false := by
  intro j hj
  unfold freeB
  have : bars.contains j = true := by simpa using hj
  rw [this]; rfl
 let InSt : Array Bool → S → Prop := fun listed s => ∃ k, k ≤ ops.size ∧ s.σ = (stAt g l trs k).1 ++ (stAt g l trs k).2 ∧ (stAt g l trs k).1.length = g.length ∧ (∀ j ∈ bars, j < k → listed.getD j false = true) ∧ (∀ j ∈ bars, k ≤ j → listed.getD j false = false)
 unfold ordered at hord
 rw [List.all_eq_true] at hord
 have hpred : ∀ (j : Nat) o, ops[j]? = some o → ∀ e ∈ o.after.toList, Region.binds .any e = true → e.on < j := by
  intro j o ho e he hb
  have hj := hord j (by simpa using (Array.getElem?_eq_some_iff.1 ho).1)
  simp only [ho, Option.any_some, Bool.and_eq_true, List.all_eq_true, Bool.or_eq_true, Bool.not_eq_true', decide_eq_true_eq] at hj
  rcases hj.1 e he with h1 | h1
  ·rw [hb] at h1; cases h1
  ·exact h1
 have hclash : ∀ (i j : Nat) oi oj, i < j → ops[i]? = some oi → ops[j]? = some oj → (clash ops oi oj = true ∨ clash ops oj oi = true) → i ∈ (ancOf ops).getD j [] := by
  intro i j oi oj hij hi hj hc
  have h1 := hord j (by simpa using (Array.getElem?_eq_some_iff.1 hj).1)
  simp only [hj, Option.any_some, Bool.and_eq_true, List.all_eq_true] at h1
  have h2 := h1.2 i (by simpa using hij)
  simp only [hi, Option.any_some, Bool.or_eq_true, Bool.not_eq_true'] at h2
  rcases h2 with h2 | h2
  ·rcases hc with hc | hc <;> simp [hc] at h2
  ·simpa using h2
 intro s0 a0 D hs0 hI0 hΓ0 ht0 hn0 hd0
 refine wp_region_any hm ?_
 -- the state behind the draw of the order
 have hbd : Below s0.w.heap.size s0.w { s0.w with drawn := s0.w.drawn + 1 } := (Below.refl _ _).drew
 have key : ∀ (fuel : Nat) (listed : Array Bool) (s : S) (a : Act), listed.size = ops.size → listed.toList.countP (fun b => !b) ≤ fuel →
   (∀ (j : Nat) o, ops[j]? = some o → listed.getD j false = true → ∀ e ∈ o.after.toList, Region.binds .any e = true → listed.getD e.on false = true) →
   InSt listed s → HInv s → Ext s0 s → (∀ t, Rep s (envD ops rs (fun i => listed.getD i false) ts ops.size t) (a.tmps.getD t undef)) → a.tmps.size = n → a.defers = D →
   wpAny E.P .any ops (fun e a' w' => ∃ ts' g' l' s', s'.w = w' ∧ s'.σ = g' ++ l' ∧ g'.length = g.length ∧ HInv s' ∧ Ext s0 s' ∧ TsRep s' ts' a' ∧ a'.tmps.size = n ∧ a'.defers = D ∧ Q e ts' g' l') fuel listed a s.w := by
  intro fuel
  induction fuel with
  | zero =>
   intro listed s a hls hcnt hdown hs hI hE ht hn hd
   have hall : ∀ i, i < ops.size → listed.getD i false = true := by
    intro i hi
    have hi' : i < listed.size := by omega
    have := count_zero (l := listed.toList) (by omega) (i := i) (b := listed[i]) (by simp [hi'])
    simp [hi', this]
   have hs' : s.σ = (stAt g l trs ops.size).1 ++ (stAt g l trs ops.size).2 ∧ (stAt g l trs ops.size).1.length = g.length := by
    obtain ⟨k, hk, h1, h2, h3, h4⟩ := hs
    have : stAt g l trs ops.size = stAt g l trs k := hsame hk (Nat.le_refl _) fun j h5 h6 => by
     cases hb : bars.contains j with
     | false => rfl
     | true =>
      have := h4 j (by simpa using hb) h5
      rw [hall j h6] at this; cases this
    rw [this]; exact ⟨h1, h2⟩
   refine ⟨?_, tsE, _, _, s, rfl, hs'.1, hs'.2, hI, hE, ?_, hn, hd, hQ⟩
   ·cases hr : Region.ready .any ops listed with
    | nil => rfl
    | cons j r =>
     have hj : j ∈ Region.ready .any ops listed := by rw [hr]; simp
     obtain ⟨h1, o, h2, _⟩ := mem_ready.1 hj
     have hlt := (Array.getElem?_eq_some_iff.1 h2).1
     have := hall j hlt
     have hj2 : j < listed.size := by omega
     simp [hj2] at h1 this
     rw [h1] at this; cases this
   ·intro t
    rw [heq t, hend t]
    have := ht t
    rwa [envD_same (D' := fun _ => true) fun i hi _ => hall i hi] at this
  | succ fuel ih =>
   intro listed s a hls hcnt hdown hs hI hE ht hn hd
   refine ⟨fun hr => ?_, fun j hj => ?_⟩
   ·-- nothing is ready: all are through
    have hall : ∀ i, i < ops.size → listed.getD i false = true := by
     intro i
     induction i using Nat.strongRecOn with
     | _ i ihi =>
      intro hi
      have hi' : i < listed.size := by omega
      cases hb : listed[i] with
      | true => simp [hi', hb]
      | false =>
       have hget : ops[i]? = some ops[i] := Array.getElem?_eq_getElem hi
       have : i ∈ Region.ready .any ops listed := mem_ready.2 ⟨by simp [hi', hb], _, hget, fun e he hbind => by
        have := hpred i _ hget e (by simpa using he) hbind
        exact ihi e.on this (by omega)⟩
       rw [hr] at this; cases this
    have hs' : s.σ = (stAt g l trs ops.size).1 ++ (stAt g l trs ops.size).2 ∧ (stAt g l trs ops.size).1.length = g.length := by
     obtain ⟨k, hk, h1, h2, h3, h4⟩ := hs
     have : stAt g l trs ops.size = stAt g l trs k := hsame hk (Nat.le_refl _) fun j h5 h6 => by
      cases hb : bars.contains j with
      | false => rfl
      | true =>
       have := h4 j (by simpa using hb) h5
       rw [hall j h6] at this; cases this
     rw [this]; exact ⟨h1, h2⟩
    refine ⟨tsE, _, _, s, rfl, hs'.1, hs'.2, hI, hE, ?_, hn, hd, hQ⟩
    intro t
    rw [heq t, hend t]
    have := ht t
    rwa [envD_same (D' := fun _ => true) fun i hi _ => hall i hi] at this
   ·obtain ⟨hun, o, ho, hpr⟩ := mem_ready.1 hj
    have hjlt := (Array.getElem?_eq_some_iff.1 ho).1
    have hjl : j < listed.size := by omega
    have hjf : listed[j] = false := by simpa [hjl] using hun
    have hpr' : ∀ e ∈ o.after.toList, Region.binds .any e = true → listed.getD e.on false = true := fun e he => hpr e (by simpa using he)
    have hthr := anc_through (D := fun i => listed.getD i false) hdown j o ho hpr'
    -- later operations that clash with this one are not through
    have hlate : ∀ i oi, j < i → ops[i]? = some oi → (clash ops o oi = true ∨ clash ops oi o = true) → listed.getD i false = false := by
     intro i oi hij hi hc
     cases hb : listed.getD i false with
     | false => rfl
     | true =>
      have h1 := hclash j i o oi hij ho hi hc
      have h2 := anc_through (D := fun i => listed.getD i false) hdown i oi hi (hdown i oi hi hb) j h1
      simp [hjl, hjf] at h2
    obtain ⟨tj, htj, hf, hgj, hgj1, hnob⟩ := hfact j o (Nat.zero_le _) ho
    -- the store here is as in the order of the text; what it is behind this operation
    have hsj : freeB ops bars j = false → s.σ = (stAt g l trs j).1 ++ (stAt g l trs j).2 := by
     intro hnf
     obtain ⟨k, hk, h1, h2, h3, h4⟩ := hs
     have : stAt g l trs j = stAt g l trs k := by
      rcases Nat.lt_or_ge j k with hjk | hjk
      ·refine (hsame (Nat.le_of_lt hjk) hk fun i h5 h6 => ?_).symm
       cases hb : bars.contains i with
       | false => rfl
       | true =>
        have hbm : i ∈ bars := by simpa using hb
        have hli := h3 i hbm h6
        have hni : i ≠ j := by intro hh; subst hh; simp [hjl, hjf] at hli
        have hlt : i < ops.size := by omega
        have := anc_through (D := fun i => listed.getD i false) hdown i ops[i] (Array.getElem?_eq_getElem hlt) (hdown i _ (Array.getElem?_eq_getElem hlt) hli) j ((hbar1 i hbm j (by omega)).resolve_right (by rw [hnf]; simp))
        simp [hjl, hjf] at this
      ·refine hsame hjk (Nat.le_of_lt hjlt) fun i h5 h6 => ?_
       cases hb : bars.contains i with
       | false => rfl
       | true =>
        have hbm : i ∈ bars := by simpa using hb
        have hli := h4 i hbm h5
        have := hthr i ((hbar2 i hbm j h6 hjlt).resolve_right (by rw [hnf]; simp))
        rw [hli] at this; cases this
     rw [this]; exact h1
    have hInNext : freeB ops bars j = false → ∀ s' : S, s'.σ = (stAt g l trs (j + 1)).1 ++ (stAt g l trs (j + 1)).2 → InSt (listed.setIfInBounds j true) s' := by
     intro hnf s' hs'
     have hset : ∀ i, (listed.setIfInBounds j true).getD i false = if i = j then true else listed.getD i false := by
      intro i
      by_cases hij : i = j
      ·subst hij; simp [hjl]
      ·rw [if_neg hij, getD_set_ne false (fun h => hij h.symm)]
     obtain ⟨k, hk, h1, h2, h3, h4⟩ := hs
     cases hb : bars.contains j with
     | true =>
      have hbm : j ∈ bars := by simpa using hb
      have hkj : k ≤ j := by
       rcases Nat.lt_or_ge j k with h5 | h5
       ·have := h3 j hbm h5; simp [hjl, hjf] at this
       ·exact h5
      refine ⟨j + 1, hjlt, hs', hgj1, fun i hi hij => ?_, fun i hi hij => ?_⟩
      ·rw [hset]
       split
       ·rfl
       ·exact hthr i ((hbar1 j hbm i (by omega)).resolve_right (by rw [hbarf i hi]; simp))
      ·rw [hset, if_neg (by omega)]
       exact h4 i hi (by omega)
     | false =>
      refine ⟨k, hk, ?_, h2, fun i hi hij => ?_, fun i hi hij => ?_⟩
      ·rw [hs', hnob hb, ← hsj hnf, h1]
      ·rw [hset]; split
       ·rfl
       ·exact h3 i hi hij
      ·rw [hset, if_neg (by intro hh; subst hh; have : bars.contains i = true := (by simpa using hi); rw [this] at hb; cases hb)]
       exact h4 i hi hij
    -- the store before and behind, as this operation sees it
    obtain ⟨P0, P1, hsP, hfP, hInP⟩ : ∃ P0 P1 : List Ent × List Ent, s.σ = P0.1 ++ P0.2 ∧ OpFact E T ops o tj P0.1 P0.2 (rs.getD j .un) P1.1 P1.2 ∧
      ∀ s' : S, s'.σ = P1.1 ++ P1.2 → InSt (listed.setIfInBounds j true) s' := by
     cases hfr : freeB ops bars j with
     | false => exact ⟨_, _, hsj hfr, hf, hInNext hfr⟩
     | true =>
      unfold freeB at hfr
      simp only [ho, Option.any_some, Bool.and_eq_true, Bool.not_eq_true'] at hfr
      obtain ⟨k, hk, h1, h2, h3, h4⟩ := hs
      refine ⟨_, _, h1, blind_fact hfr.2 hf _ _, fun s' hs' => ⟨k, hk, hs', h2, fun i hi hij => ?_, fun i hi hij => ?_⟩⟩
      ·by_cases hij2 : i = j
       ·subst hij2; simp [hjl]
       ·rw [getD_set_ne false (fun h => hij2 h.symm)]; exact h3 i hi hij
      ·have hij2 : i ≠ j := by
        intro hh; subst hh
        have : bars.contains i = true := by simpa using hi
        rw [this] at hfr; simp at hfr
       rw [getD_set_ne false (fun h => hij2 h.symm)]; exact h4 i hi hij
    clear hInNext hf
    have hf := hfP
    -- what it looks at is as in the order of the text
    have hlook : ∀ t ∈ looks ops o, Rep s (tget tj t) (a.tmps.getD t undef) := by
     intro t htl
     rw [htj t]
     have := ht t
     have e1 : envD ops rs (fun i => listed.getD i false) ts ops.size t = envD ops rs (fun i => listed.getD i false) ts j t := by
      refine envD_skip (by omega) fun i h1 h2 h3 h4 => ?_
      have hi : ops[i]? = some ops[i] := Array.getElem?_eq_getElem h2
      rw [hi] at h4
      simp only [Option.bind_some] at h4
      rcases Nat.lt_or_ge j i with h5 | h5
      ·have := hlate i _ h5 hi (.inr (by unfold clash; rw [h4]; simp [htl]))
       rw [this] at h3; cases h3
      ·have : i = j := by omega
       subst this; simp [hjl, hjf] at h3
     have e2 : envD ops rs (fun i => listed.getD i false) ts j t = envD ops rs (fun _ => true) ts j t := by
      refine envD_same fun i hi h4 => ?_
      have hi2 : ops[i]? = some ops[i] := Array.getElem?_eq_getElem (by omega)
      rw [hi2] at h4
      simp only [Option.bind_some] at h4
      exact hthr i (hclash i j _ o hi hi2 ho (.inl (by unfold clash; rw [h4]; simp [htl])))
     rw [e1, e2] at this
     exact this
    have hdst := opsOK_dst hok (i := j) (o := o) (by simpa using ho)
    -- the step, and what holds behind it
    have hnext : ∀ (v : Value) (s' : S), s'.σ = P1.1 ++ P1.2 → HInv s' → Ext s s' → Rep s' (rs.getD j .un) v →
      wpAny E.P .any ops (fun e a' w' => ∃ ts' g' l' s', s'.w = w' ∧ s'.σ = g' ++ l' ∧ g'.length = g.length ∧ HInv s' ∧ Ext s0 s' ∧ TsRep s' ts' a' ∧ a'.tmps.size = n ∧ a'.defers = D ∧ Q e ts' g' l') fuel (listed.setIfInBounds j true) (a.put o.dst v) s'.w := by
     intro v s' hs' hI' hE' hr'
     have hset : ∀ i, (listed.setIfInBounds j true).getD i false = if i = j then true else listed.getD i false := by
      intro i
      by_cases hij : i = j
      ·subst hij; simp [hjl]
      ·rw [if_neg hij, getD_set_ne false (fun h => hij h.symm)]
     refine ih _ s' _ (by simp [hls]) ?_ ?_ (hInP s' hs') hI' (hE.trans hE') ?_ (by rw [put_size]; exact hn) (by rw [put_defers]; exact hd)
     ·have := count_set (l := listed.toList) (i := j) (by simp [hjl, hjf])
      simp only [Array.toList_setIfInBounds]
      omega
     ·intro i oi hi hli e he hb
      rw [hset] at hli ⊢
      by_cases hij : i = j
      ·subst hij
       rw [ho] at hi; cases hi
       split
       ·rfl
       ·exact hpr' e he hb
      ·rw [if_neg hij] at hli
       split
       ·rfl
       ·exact hdown i oi hi hli e he hb
     ·intro t
      have hold := Rep.ext hE' (ht t)
      by_cases hdt : o.dst = some t
      ·have hval : envD ops rs (fun i => (listed.setIfInBounds j true).getD i false) ts ops.size t = rs.getD j .un := by
        rw [envD_skip (k := j + 1) (by omega) fun i h1 h2 h3 h4 => ?_]
        ·rw [envD, ho, if_pos ⟨by simp [hset], by simpa using hdt⟩]
        ·have hi : ops[i]? = some ops[i] := Array.getElem?_eq_getElem h2
         rw [hi] at h4
         simp only [Option.bind_some] at h4
         have hne : i ≠ j := by omega
         simp only [hset, if_neg hne] at h3
         have := hlate i _ (by omega) hi (.inl (by unfold clash; rw [hdt]; simp [h4]))
         rw [this] at h3; cases h3
       rw [hval, hdt]
       show Rep s' _ ((a.tmps.setIfInBounds t v).getD t undef)
       rw [getD_set, if_pos ⟨rfl, by rw [hn]; exact hdst t hdt⟩]
       exact hr'
      ·have hval : envD ops rs (fun i => (listed.setIfInBounds j true).getD i false) ts ops.size t = envD ops rs (fun i => listed.getD i false) ts ops.size t := by
        refine envD_same fun i hi h4 => ?_
        rw [hset]
        by_cases hij : i = j
        ·subst hij; rw [ho] at h4; exact absurd h4 hdt
        ·rw [if_neg hij]
       rw [hval]
       have hput : (a.put o.dst v).tmps.getD t undef = a.tmps.getD t undef := by
        cases hd2 : o.dst with
        | none => rfl
        | some d =>
         show (a.tmps.setIfInBounds d v).getD t undef = _
         rw [getD_set, if_neg (fun hh => hdt (by rw [hd2, hh.1]))]
       rw [hput]; exact hold
    have hΓ : E.Γ s.B s.w := hE.B ▸ E.stable _ _ _ hE.below hΓ0
    have hrun : aFix E T o tj P0.1 P0.2 (rs.getD j .un) P1.1 P1.2 → o.wp E.P a s.w (wpAny E.P .any ops (fun e a' w' => ∃ ts' g' l' s', s'.w = w' ∧ s'.σ = g' ++ l' ∧ g'.length = g.length ∧ HInv s' ∧ Ext s0 s' ∧ TsRep s' ts' a' ∧ a'.tmps.size = n ∧ a'.defers = D ∧ Q e ts' g' l') fuel (listed.setIfInBounds j true))
      (fun e a' w' => ∃ ts' g' l' s', s'.w = w' ∧ s'.σ = g' ++ l' ∧ g'.length = g.length ∧ HInv s' ∧ Ext s0 s' ∧ TsRep s' ts' a' ∧ a'.tmps.size = n ∧ a'.defers = D ∧ Q e ts' g' l') := by
     intro hfix
     have hR : TsRep s ((looks ops o).map fun t => (t, tget tj t)) a := by
      intro t
      rw [tget_map]
      split
      ·rename_i hm; exact hlook t hm
      ·unfold Rep; trivial
     have hcong : aFix E T o ((looks ops o).map fun t => (t, tget tj t)) P0.1 P0.2 (rs.getD j .un) P1.1 P1.2 := by
      rw [aFix_congr (ts' := tj) fun x hx => ?_]
      ·exact hfix
      ·refine ev_const x fun t htx => ?_
       rw [tget_map, if_pos]
       unfold looks
       refine List.mem_append_left _ (List.mem_filterMap.2 ⟨x, by simpa using hx, by rw [htx]⟩)
     refine aOne_sound hT hcong hsP hI hΓ hR fun v r g' l' s' h1 h2 h3 h4 h5 h6 => ?_
     obtain ⟨rfl, rfl, rfl⟩ := h6
     exact hnext v s' h1 h3 h4 h5
    unfold wpOp
    simp only [ho]
    unfold OpFact at hf
    cases hg : o.guard with
    | none =>
     simp only [hg] at hf
     have hw : Region.wanted o (yielded ops a.tmps) = true := by simp [Region.wanted, hg]
     rw [if_pos hw]
     exact .inl (hrun hf)
    | some jw =>
     obtain ⟨k, want⟩ := jw
     simp only [hg] at hf
     obtain ⟨d, hsl, hcase⟩ := hf
     unfold gslot at hsl
     have hmem : d ∈ looks ops o := by unfold looks; simp [hg, hsl]
     have hrep := hlook d hmem
     rcases hcase with ⟨hb, hfix⟩ | ⟨hb, hr, hg1, hl1⟩ | ⟨⟨q, hb⟩, hr, hg1, hl1⟩
     ·rw [hb] at hrep
      simp only [boolV] at hrep
      unfold Rep at hrep
      have hy : yielded ops a.tmps k = some want := by unfold yielded; rw [hsl]; simp [getD_bool hT hrep]
      have hw : Region.wanted o (yielded ops a.tmps) = true := by simp [Region.wanted, hg, hy]
      rw [if_pos hw]
      exact .inl (hrun hfix)
     ·rw [hb] at hrep
      simp only [boolV] at hrep
      unfold Rep at hrep
      have hy : yielded ops a.tmps k = some (!want) := by unfold yielded; rw [hsl]; simp [getD_bool hT hrep]
      have hw : ¬ Region.wanted o (yielded ops a.tmps) = true := by simp [Region.wanted, hg, hy]
      rw [if_neg hw]
      exact hnext undef s (by rw [hg1, hl1]; exact hsP) hI (Ext.refl s) (by rw [hr]; unfold Rep; rfl)
     ·rw [hb] at hrep
      unfold Rep at hrep
      have hy : yielded ops a.tmps k = none := by
       unfold yielded; rw [hsl]
       simp only [Option.bind_some]
       rw [Array.getD_eq_getD_getElem?] at hrep
       cases hh : a.tmps[d]? with
       | none => rfl
       | some x => rw [hh] at hrep; simp at hrep; rw [hrep]
      have hw : ¬ Region.wanted o (yielded ops a.tmps) = true := by simp [Region.wanted, hg, hy]
      rw [if_neg hw]
      exact hnext undef s (by rw [hg1, hl1]; exact hsP) hI (Ext.refl s) (by rw [hr]; unfold Rep; rfl)
 have hE1 : Ext s0 { s0 with w := { s0.w with drawn := s0.w.drawn + 1 } } := Ext.of_below hI0 hbd
 have hfalse : ∀ i, (Array.replicate ops.size false).getD i false = false := by
  intro i
  rw [Array.getD_eq_getD_getElem?]
  by_cases hi : i < ops.size <;> simp [hi]
 refine key ops.size (Array.replicate ops.size false) { s0 with w := { s0.w with drawn := s0.w.drawn + 1 } } a0 (by simp) (by simp [Array.toList_replicate, List.countP_replicate]) (fun j o ho hj => by rw [hfalse] at hj; cases hj) ⟨0, Nat.zero_le _, hs0, rfl, fun j _ hj => by omega, fun j _ _ => hfalse j⟩ (hI0.of_below hbd) hE1 ?_ hn0 hd0
 intro t
 rw [envD_skip (k := 0) (Nat.zero_le _) fun i _ _ h3 => by rw [hfalse] at h3; cases h3]
 exact Rep.ext hE1 (ht0 t)
end
end Go.Vm
