/- Cuts further behind. -/
import Derived.Test.YtikjefmoclienaaGreatDoorVmG
import Derived.Test.YtikjefmoclienaaGreatDoorVmF
set_option linter.unusedVariables false
namespace Go.Vm
open Go.RowKit
section
variable {E : Env} {n : Nat} {T : Nat → TI} {rows : List Nat}
theorem Kle.trans {a b c : Kont} (h : Kle E n T rows a b) (k : Kle E n T rows b c) : Kle E n T rows a c := fun e ts g l hh => k e ts g l (h e ts g l hh)
theorem Kle.assoc (a b : Code) (k : Kont) : Kle E n T rows (.seq a (.seq b k)) (.seq (.seq a b) k) := by
  intro e ts g l
  cases e <;> exact id
/-- What comes behind the next code, where that stands first of several. -/
theorem Kle.cut2 {a b : Code} {k : Kont} (M : Ts → List Ent → List Ent → Prop) (h : ∀ ts g l, M ts g l → xCode E n T rows b k ts g l) : Kle E n T rows (.seq a (.next M k)) (.seq (.seq a b) k) :=
  Kle.trans (.seq (.cut M h)) (.assoc a b k)
end
end Go.Vm

/- The arguments of a law, seen by their contents. -/
set_option linter.unusedVariables false
set_option linter.unusedSimpArgs false
namespace Go.Vm
open Go.RowKit Go.ChangeShapes Go.WideShapes

/-- What is read of a type, so deep, is f of something that is right. -/
def Opens {H : Type} (enc : TypeId × Value → H) (P : Program) (s : S) (t : TypeId) (n : Nat) {α : Type} (ok : α → Prop) (f : α → AV) : Prop :=
  ∀ (cs : List Value) (d : DataW H × List MemPlace), DataW.trod enc P s.w 0 (fun _ => true) true n t cs = some d → ∃ x : α, ok x ∧ RepL s (f x).cells cs

section
variable {H : Type} {enc : TypeId × Value → H} {P : Program} {s : S} {t : TypeId} {n : Nat}

theorem opens_string (ht : P.underlying t = some .string) : Opens enc P s t n (fun l : List UInt8 => l.length ≤ maxLen) AV.str := by
  intro cs d h
  obtain ⟨x, rfl, _, hl⟩ := DataW.trod_string ht h
  refine ⟨x.data.toList, by show x.data.toList.length ≤ maxLen; rw [Array.length_toList]; exact hl, ?_⟩
  unfold AV.cells RepL RepL Rep
  exact ⟨_, _, rfl, rfl, rfl⟩
theorem opens_int {k : IntKind} (ht : P.underlying t = some (.int k)) : Opens enc P s t n (fun x : Int => (Lit.int k x).wf = true) (fun x => .v (.int k x)) := by
  intro cs d h
  obtain ⟨x, rfl, _, hl⟩ := DataW.trod_int ht h
  refine ⟨x, hl, ?_⟩
  unfold AV.cells RepL RepL Rep
  exact ⟨_, _, rfl, rfl, rfl⟩
theorem opens_bool (ht : P.underlying t = some .bool) : Opens enc P s t n (fun _ : Bool => True) boolV := by
  intro cs d h
  cases n with
  | zero => simp [DataW.trod] at h
  | succ n =>
    unfold DataW.trod at h
    rw [ht] at h
    split at h <;> simp_all
    rename_i b
    have key : RepL s (boolV b).cells [.bool b] := by
      unfold boolV AV.cells RepL RepL Rep
      exact ⟨_, _, rfl, rfl, rfl⟩
    cases b
    · exact .inl key
    · exact .inr key

theorem list_of {α : Type} {Q : Nat → α → Prop} : ∀ (n : Nat), (∀ i, i < n → ∃ x, Q i x) → ∃ l : List α, l.length = n ∧ ∀ (i : Nat) x, l[i]? = some x → Q i x
  | 0, _ => ⟨[], rfl, fun i x h => by simp at h⟩
  | n + 1, h => by
    obtain ⟨l, hl, hq⟩ := list_of n fun i hi => h i (by omega)
    obtain ⟨x, hx⟩ := h n (by omega)
    refine ⟨l ++ [x], by simp [hl], fun i y hy => ?_⟩
    rcases Nat.lt_or_ge i n with hi | hi
    · rw [List.getElem?_append_left (by omega)] at hy; exact hq i y hy
    · rw [List.getElem?_append_right (by omega)] at hy
      have : i = n := by
        have := lt_of_get hy
        simp at this; omega
      subst this
      rw [hl] at hy; simp at hy; subst hy; exact hx

theorem opens_slice {e : TypeId} {α : Type} {ok : α → Prop} {f : α → AV} {k : Nat} {ag : Bool} (ht : P.underlying t = some (.slice e)) (hk : P.cellsOf e = k) (hk0 : 0 < k) (hσ : s.σ = []) (he : ∀ m, m < n → Opens enc P s e m ok f)
    (hf : ∀ x, ok x → isEl k ag (f x) = true) : Opens enc P s t n (fun xs : List α => xs.length ≤ maxLen ∧ ∀ x ∈ xs, ok x) (fun xs => .sl (xs.map f)) := by
  intro cs d h
  rcases DataW.trod_slice ht h with ⟨rfl, _⟩ | ⟨a, len, cap, elems, rest, m, rfl, rfl, _, _, hl, hm, hlen, hel, _⟩
  · refine ⟨[], ⟨Nat.zero_le _, fun x hx => by cases hx⟩, ?_⟩
    unfold List.map AV.cells RepL RepL Rep
    exact ⟨_, _, rfl, ⟨_, _, rfl, Nat.zero_le _, .inl rfl⟩, rfl⟩
  · rw [hk] at hel
    obtain ⟨blk, off, spot⟩ := a
    have hsp : 0 < len → spot = none := by
      intro h0
      have h1 := hel 0 h0
      rw [List.getElem?_eq_getElem (by omega)] at h1
      obtain ⟨cs', h2, h3⟩ := Option.bind_eq_some_iff.1 h1
      obtain ⟨_, h4, h5⟩ := World.cells?_some h2
      have g0 := h5 0 hk0
      obtain ⟨c0, hc0⟩ : ∃ c0, cs'[0]? = some c0 := by
        cases cs' with
        | nil => simp at h4; omega
        | cons c _ => exact ⟨c, rfl⟩
      rw [hc0] at g0
      simpa [Addr.add] using World.cell?_spot g0
    have each : ∀ i, i < len → ∃ x : α, ok x ∧ spot = none ∧ ∃ cs' : List Value, RepL s (f x).cells cs' ∧ ∀ j y, cs'[j]? = some y → s.w.cell? ⟨blk, off + i * k + j, none⟩ = some y ∧ Imm s blk (off + i * k + j) := by
      intro i hi
      have h1 := hel i hi
      rw [List.getElem?_eq_getElem (by omega)] at h1
      obtain ⟨cs', h2, h3⟩ := Option.bind_eq_some_iff.1 h1
      obtain ⟨_, h4, h5⟩ := World.cells?_some h2
      obtain ⟨x, hx, hr⟩ := he m (by omega) cs' _ h3
      have hspot := hsp (by omega)
      subst hspot
      refine ⟨x, hx, rfl, cs', hr, fun j y hj => ?_⟩
      have hjk := lt_of_get hj
      have g := h5 j (by omega)
      rw [hj] at g
      have g' : s.w.cell? ⟨blk, off + i * k + j, none⟩ = some y := by
        rw [add_plain, add_plain] at g; exact g
      refine ⟨g', block_lt g', fun id e' b he' _ _ => ?_⟩
      rw [hσ] at he'; simp at he'
    obtain ⟨xs, hxl, hxs⟩ := list_of len each
    refine ⟨xs, ⟨by rw [hxl]; omega, fun x hx => ?_⟩, ?_⟩
    · obtain ⟨i, hi⟩ := List.getElem?_of_mem hx
      exact (hxs i x hi).1
    · unfold AV.cells RepL RepL
      refine ⟨_, _, rfl, ?_, rfl⟩
      unfold Rep
      refine ⟨_, cap, by rw [List.length_map, hxl], by rw [List.length_map, hxl]; exact hl, ?_⟩
      rcases Nat.eq_zero_or_pos len with h0 | h0
      · left; rw [List.map_eq_nil_iff, ← List.length_eq_zero_iff]; omega
      · right
        have hspot : spot = none := by
          have : 0 < xs.length := by omega
          exact (hxs 0 xs[0] (List.getElem?_eq_getElem this)).2.1
        subst hspot
        refine ⟨blk, off, k, rfl, hk0, RepRow.mk fun i e' hi => ?_⟩
        rw [List.getElem?_map, Option.map_eq_some_iff] at hi
        obtain ⟨x, hx, rfl⟩ := hi
        obtain ⟨hok, _, cs', hr, hc⟩ := hxs i x hx
        have hel' := hf x hok
        simp only [isEl, Bool.and_eq_true, beq_iff_eq] at hel'
        obtain ⟨⟨q1, q2⟩, q3⟩ := hel'
        have hcl := hr.length
        generalize f x = fx at *
        cases fx with
        | agg cells =>
          refine ⟨.agg cs'.toArray, ?_, ?_⟩
          · unfold LoadsAt
            simp only [AV.isAgg, if_true]
            refine ⟨_, rfl, by simpa [AV.cells] using hcl.trans q2, fun j y hj => hc j y (by simpa using hj)⟩
          · unfold Rep; exact ⟨_, rfl, by simpa [AV.cells] using hr⟩
        | _ =>
          unfold AV.cells RepL RepL at hr
          obtain ⟨y, cs2, rfl, hy, rfl⟩ := hr
          refine ⟨y, ?_, hy⟩
          unfold LoadsAt
          simp only [AV.isAgg, Bool.false_eq_true, if_false]
          have hk1 : k = 1 := by simpa [AV.cells] using q2.symm
          exact ⟨hk1, hc 0 y rfl⟩

/-- Cells one behind the other. -/
theorem RepL.piece {a b : List AV} {cs : List Value} {o k m : Nat} (hm : m = o + k) (h : RepL s a ((cs.drop o).take k)) (h2 : RepL s b (cs.drop m)) : RepL s (a ++ b) (cs.drop o) := by
  subst hm
  have := RepL.append h h2
  rwa [← List.drop_drop, List.take_append_drop] at this

theorem opens_struct2 {f0 f1 : Field} {α β : Type} {oa : α → Prop} {ob : β → Prop} {fa : α → AV} {fb : β → AV} (ht : P.underlying t = some (.struct #[f0, f1]))
    (o0 : f0.offset = 0) (o1 : f1.offset = P.cellsOf f0.type) (hc : P.cellsOf t = f1.offset + P.cellsOf f1.type) (ha : ∀ m, m < n → Opens enc P s f0.type m oa fa) (hb : ∀ m, m < n → Opens enc P s f1.type m ob fb) :
    Opens enc P s t n (fun x : α × β => oa x.1 ∧ ob x.2) (fun x => .agg ((fa x.1).cells ++ (fb x.2).cells)) := by
  intro cs d h
  obtain ⟨xs, m, rfl, _, hl, _, hf⟩ := DataW.trod_struct ht h
  have g0 := hf 0 f0 rfl
  have g1 := hf 1 f1 rfl
  rename_i hxl
  have hx2 : xs.length = 2 := hxl
  rw [List.getElem?_eq_getElem (by omega)] at g0 g1
  obtain ⟨x0, p0, r0⟩ := ha m (by omega) _ _ g0
  obtain ⟨x1, p1, r1⟩ := hb m (by omega) _ _ g1
  refine ⟨(x0, x1), ⟨p0, p1⟩, ?_⟩
  have e1 := RepL.piece (b := []) rfl r1 (by rw [List.drop_of_length_le (by omega)]; unfold RepL; rfl)
  rw [o0] at r0
  have e0 := RepL.piece (by omega) r0 e1
  simpa [AV.cells] using e0
theorem opens_struct3 {f0 f1 f2 : Field} {α β γ : Type} {oa : α → Prop} {ob : β → Prop} {oc : γ → Prop} {fa : α → AV} {fb : β → AV} {fc : γ → AV} (ht : P.underlying t = some (.struct #[f0, f1, f2]))
    (o0 : f0.offset = 0) (o1 : f1.offset = P.cellsOf f0.type) (o2 : f2.offset = f1.offset + P.cellsOf f1.type) (hc : P.cellsOf t = f2.offset + P.cellsOf f2.type)
    (ha : ∀ m, m < n → Opens enc P s f0.type m oa fa) (hb : ∀ m, m < n → Opens enc P s f1.type m ob fb) (hg : ∀ m, m < n → Opens enc P s f2.type m oc fc) :
    Opens enc P s t n (fun x : α × β × γ => oa x.1 ∧ ob x.2.1 ∧ oc x.2.2) (fun x => .agg ((fa x.1).cells ++ ((fb x.2.1).cells ++ (fc x.2.2).cells))) := by
  intro cs d h
  obtain ⟨xs, m, rfl, _, hl, hxl, hf⟩ := DataW.trod_struct ht h
  have g0 := hf 0 f0 rfl
  have g1 := hf 1 f1 rfl
  have g2 := hf 2 f2 rfl
  have hx2 : xs.length = 3 := hxl
  rw [List.getElem?_eq_getElem (by omega)] at g0 g1 g2
  obtain ⟨x0, p0, r0⟩ := ha m (by omega) _ _ g0
  obtain ⟨x1, p1, r1⟩ := hb m (by omega) _ _ g1
  obtain ⟨x2, p2, r2⟩ := hg m (by omega) _ _ g2
  refine ⟨(x0, x1, x2), ⟨p0, p1, p2⟩, ?_⟩
  have e2 := RepL.piece (b := []) rfl r2 (by rw [List.drop_of_length_le (by omega)]; unfold RepL; rfl)
  have e1 := RepL.piece (by omega) r1 e2
  rw [o0] at r0
  have e0 := RepL.piece (by omega) r0 e1
  simpa [AV.cells] using e0

/-! At the top: an argument's value. -/
variable {W : World} {r : Reach} {b0 : Nat} {v : Value} {d : DataW H} {ps : List MemPlace}
theorem opens_top_string (ht : P.underlying t = some .string) (hval : Value.okWide P W r b0 t v) (hd : DataW.Trod enc P W 0 (fun _ => true) true t v d ps) :
    ∃ l : List UInt8, l.length ≤ maxLen ∧ Rep ⟨[], [], W, W.heap.size⟩ (.str l) v := by
  obtain ⟨x, rfl⟩ := okWide_string ht hval
  obtain ⟨n, h⟩ := hd
  obtain ⟨l, h1, h2⟩ := opens_string (s := ⟨[], [], W, W.heap.size⟩) ht _ _ h
  unfold AV.cells RepL RepL at h2
  obtain ⟨y, cs, h3, h4, rfl⟩ := h2
  simp [Value.cells] at h3; subst h3
  exact ⟨l, h1, h4⟩
theorem opens_top_int {k : IntKind} (ht : P.underlying t = some (.int k)) (hval : Value.okWide P W r b0 t v) (hd : DataW.Trod enc P W 0 (fun _ => true) true t v d ps) :
    ∃ x : Int, (Lit.int k x).wf = true ∧ Rep ⟨[], [], W, W.heap.size⟩ (.v (.int k x)) v := by
  obtain ⟨x, rfl⟩ := okWide_int ht hval
  obtain ⟨n, h⟩ := hd
  obtain ⟨l, h1, h2⟩ := opens_int (s := ⟨[], [], W, W.heap.size⟩) ht _ _ h
  unfold AV.cells RepL RepL at h2
  obtain ⟨y, cs, h3, h4, rfl⟩ := h2
  simp [Value.cells] at h3; subst h3
  exact ⟨l, h1, h4⟩
theorem opens_top_slice {e : TypeId} {α : Type} {ok : α → Prop} {f : α → AV} (ht : P.underlying t = some (.slice e)) (ho : ∀ n, Opens enc P ⟨[], [], W, W.heap.size⟩ t n ok f) (hf : ∀ x, ∃ es, f x = .sl es)
    (hval : Value.okWide P W r b0 t v) (hd : DataW.Trod enc P W 0 (fun _ => true) true t v d ps) : ∃ x, ok x ∧ Rep ⟨[], [], W, W.heap.size⟩ (f x) v := by
  obtain ⟨a, len, cap, rfl⟩ := okWide_slice ht hval
  obtain ⟨n, h⟩ := hd
  obtain ⟨x, h1, h2⟩ := ho n _ _ h
  obtain ⟨es, he⟩ := hf x
  rw [he] at h2
  unfold AV.cells RepL RepL at h2
  obtain ⟨y, cs, h3, h4, rfl⟩ := h2
  simp [Value.cells] at h3; subst h3
  exact ⟨x, h1, by rw [he]; exact h4⟩
theorem opens_top_struct {fs : Array Field} {α : Type} {ok : α → Prop} {f : α → AV} (ht : P.underlying t = some (.struct fs)) (ho : ∀ n, Opens enc P ⟨[], [], W, W.heap.size⟩ t n ok f) (hf : ∀ x, ∃ es, f x = .agg es)
    (hval : Value.okWide P W r b0 t v) (hd : DataW.Trod enc P W 0 (fun _ => true) true t v d ps) : ∃ x, ok x ∧ Rep ⟨[], [], W, W.heap.size⟩ (f x) v := by
  obtain ⟨cs, rfl, _⟩ := okWide_struct ht hval
  obtain ⟨n, h⟩ := hd
  obtain ⟨x, h1, h2⟩ := ho n _ _ h
  obtain ⟨es, he⟩ := hf x
  rw [he] at h2
  refine ⟨x, h1, ?_⟩
  rw [he]
  unfold Rep
  exact ⟨cs, rfl, by simpa [AV.cells, Value.cells] using h2⟩
end
end Go.Vm
