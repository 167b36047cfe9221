/- A value-level picture of the machine's memory: what a machine's value means, and which steps of the world keep that. -/
import Derived.Calls
import Derived.Below
import Derived.Deep.Draws
import Derived.Deep.AppendSrc
import Derived.Laws.Strings2
import Derived.Laws.Slices
import Derived.Laws.Small
import Derived.Laws.Cover1
import Derived.Laws.Unary
namespace Go.Vm
open Go.RowKit
inductive AV where
 | v (x : Value)
 | str (l : List UInt8)
 | agg (cs : List AV)
 | tup (cs : List AV)
 | sl (es : List AV)
 | iptr (cs : List AV)
 | ref (id ver off : Nat)
 | rsl (id ver off n sz : Nat)
 | mp (id : Nat)
 | fn (f : FuncId) (first captured : List AV)
 | ifc (t : TypeId) (x : AV)
 | un
inductive Ent where
 | arr (ty : Nat) (cells : List AV) (ver imm : Nat)
 | map (es : List (AV × AV × Nat)) (clock : Nat)
 | iter (m : Option Nat) (since : Nat) (seen : List Nat) (last : Nat)
def Ent.ver : Ent → Nat
 | .arr _ _ v _ => v
 | _ => 0
def Ent.ty : Ent → Nat
 | .arr t _ _ _ => t
 | _ => 0
def Ent.isMap : Ent → Bool
 | .arr _ _ _ _ => false
 | _ => true
def Ent.imm : Ent → Nat
 | .arr _ _ _ i => i
 | _ => 0
structure Slot where
 blk : Nat
 off : Nat
 ext : Nat
structure S where
 σ : List Ent
 β : List Slot
 w : World
 B : Nat
def Imm (s : S) (blk off : Nat) : Prop :=
 blk < s.w.heap.size ∧ ∀ (id : Nat) (e : Ent) (b : Slot), s.σ[id]? = some e → s.β[id]? = some b → b.blk = blk → off < b.off + e.imm
def AV.isAgg : AV → Bool
 | .agg _ => true
 | _ => false
def AV.cells : AV → List AV
 | .agg cs => cs
 | x => [x]
def AV.isCell : AV → Bool
 | .v (.agg _) => false
 | .v (.tuple _) => false
 | .agg _ => false
 | .tup _ => false
 | .un => false
 | _ => true
def LoadsAt (s : S) (isAgg : Bool) (k blk off : Nat) (y : Value) : Prop :=
 if isAgg then ∃ vs : Array Value, y = .agg vs ∧ vs.size = k ∧ ∀ i x, vs[i]? = some x → s.w.cell? ⟨blk, off + i, none⟩ = some x ∧ Imm s blk (off + i)
 else k = 1 ∧ s.w.cell? ⟨blk, off, none⟩ = some y ∧ Imm s blk off
mutual
def Rep (s : S) : AV → Value → Prop
 | .v x, y => y = x
 | .str l, y => y = .string ⟨⟨l⟩⟩
 | .un, _ => True
 | .agg cs, y => ∃ vs : Array Value, y = .agg vs ∧ RepL s cs vs.toList
 | .tup cs, y => ∃ vs : Array Value, y = .tuple vs ∧ RepL s cs vs.toList
 | .sl es, y => ∃ a cap, y = .slice a es.length cap ∧ es.length ≤ cap ∧ (es = [] ∨ ∃ blk off k, a = some ⟨blk, off, none⟩ ∧ 0 < k ∧ RepRow s k blk off es)
 | .iptr cs, y => ∃ blk off, y = .pointer (some ⟨blk, off, none⟩) ∧ RepAt s blk off cs
 | .ref id ver off, y => ∃ (e : Ent) (b : Slot), s.σ[id]? = some e ∧ s.β[id]? = some b ∧ ver ≤ e.ver ∧ ∃ a, y = .pointer (some a) ∧ (ver = e.ver → a = ⟨b.blk, b.off + off, none⟩)
 | .rsl id ver off n sz, y => ∃ (e : Ent) (b : Slot), s.σ[id]? = some e ∧ s.β[id]? = some b ∧ ver ≤ e.ver ∧
   ∃ ab ao cap, y = .slice (some ⟨ab, ao, none⟩) n cap ∧ (ver = e.ver → (0 < cap → ab = b.blk ∧ ao = b.off + off) ∧ n ≤ cap ∧ off + cap * sz = b.ext)
 | .mp id, y => ∃ (e : Ent) (b : Slot), s.σ[id]? = some e ∧ s.β[id]? = some b ∧ e.isMap = true ∧ y = .map (some b.blk)
 | .fn f fs cs, y => ∃ vs us : Array Value, y = .func (.func f) vs us ∧ RepL s fs vs.toList ∧ RepL s cs us.toList
 | .ifc t x, y => ∃ v, y = .iface t v ∧ Rep s x v
def RepL (s : S) : List AV → List Value → Prop
 | [], vs => vs = []
 | c :: cs, vs => ∃ v vs', vs = v :: vs' ∧ Rep s c v ∧ RepL s cs vs'
def RepRow (s : S) (k blk : Nat) (off : Nat) : List AV → Prop
 | [] => True
 | e :: es => (∃ y, LoadsAt s e.isAgg k blk off y ∧ Rep s e y) ∧ RepRow s k blk (off + k) es
def RepAt (s : S) (blk : Nat) (off : Nat) : List AV → Prop
 | [] => True
 | c :: cs => (∃ y, s.w.cell? ⟨blk, off, none⟩ = some y ∧ Imm s blk off ∧ Rep s c y) ∧ RepAt s blk (off + 1) cs
end
structure Ext (s s' : S) : Prop where
 B : s'.B = s.B
 below : Below s.B s.w s'.w
 imm : ∀ blk off, Imm s blk off → Imm s' blk off ∧ s'.w.cell? ⟨blk, off, none⟩ = s.w.cell? ⟨blk, off, none⟩
 ent : ∀ (id : Nat) (e : Ent) (b : Slot), s.σ[id]? = some e → s.β[id]? = some b →
  ∃ (e' : Ent) (b' : Slot), s'.σ[id]? = some e' ∧ s'.β[id]? = some b' ∧ e.ver ≤ e'.ver ∧ (e.ver = e'.ver → b' = b) ∧ (e.isMap = true → e'.isMap = true)
theorem Ext.refl (s : S) : Ext s s :=
 ⟨rfl, Below.refl _ _, fun _ _ h => ⟨h, rfl⟩, fun _ e b he hb => ⟨e, b, he, hb, Nat.le_refl _, fun _ => rfl, id⟩⟩
theorem Ext.trans {a b c : S} (h : Ext a b) (k : Ext b c) : Ext a c := by
 refine ⟨k.B.trans h.B, h.below.trans (h.B ▸ k.below), fun blk off hi => ?_, fun id e s he hs => ?_⟩
 ·obtain ⟨h1, h2⟩ := h.imm blk off hi
  obtain ⟨h3, h4⟩ := k.imm blk off h1
  exact ⟨h3, h4.trans h2⟩
 ·obtain ⟨e1, s1, he1, hs1, hv1, hb1, hm1⟩ := h.ent id e s he hs
  obtain ⟨e2, s2, he2, hs2, hv2, hb2, hm2⟩ := k.ent id e1 s1 he1 hs1
  refine ⟨e2, s2, he2, hs2, Nat.le_trans hv1 hv2, fun hh => ?_, fun hm => hm2 (hm1 hm)⟩
  have h1 : e.ver = e1.ver := by omega
  have h2 : e1.ver = e2.ver := by omega
  rw [hb2 h2, hb1 h1]
theorem LoadsAt.ext {s s' : S} (h : Ext s s') {isAgg : Bool} {k blk off : Nat} {y : Value} (hl : LoadsAt s isAgg k blk off y) : LoadsAt s' isAgg k blk off y := by
 unfold LoadsAt at *
 cases isAgg with
 | true =>
  simp only [if_true] at *
  obtain ⟨vs, rfl, hk, hh⟩ := hl
  refine ⟨vs, rfl, hk, fun i x hx => ?_⟩
  obtain ⟨h1, h2⟩ := hh i x hx
  obtain ⟨h3, h4⟩ := h.imm _ _ h2
  exact ⟨h4.trans h1, h3⟩
 | false =>
  simp only [Bool.false_eq_true, if_false] at *
  obtain ⟨hk, h1, h2⟩ := hl
  obtain ⟨h3, h4⟩ := h.imm _ _ h2
  exact ⟨hk, h4.trans h1, h3⟩
mutual
theorem Rep.ext {s s' : S} (h : Ext s s') : ∀ {c : AV} {y : Value}, Rep s c y → Rep s' c y
 | .v _, _, hr => by unfold Rep at *; exact hr
 | .str _, _, hr => by unfold Rep at *; exact hr
 | .un, _, _ => by unfold Rep; trivial
 | .agg _, _, hr => by
  unfold Rep at *
  obtain ⟨vs, rfl, hh⟩ := hr
  exact ⟨vs, rfl, RepL.ext h hh⟩
 | .tup _, _, hr => by
  unfold Rep at *
  obtain ⟨vs, rfl, hh⟩ := hr
  exact ⟨vs, rfl, RepL.ext h hh⟩
 | .sl _, _, hr => by
  unfold Rep at *
  obtain ⟨a, cap, rfl, hc, hh⟩ := hr
  refine ⟨a, cap, rfl, hc, ?_⟩
  rcases hh with hh | ⟨blk, off, k, ha, hk, hrow⟩
  ·exact .inl hh
  ·exact .inr ⟨blk, off, k, ha, hk, RepRow.ext h hrow⟩
 | .iptr _, _, hr => by
  unfold Rep at *
  obtain ⟨blk, off, rfl, hh⟩ := hr
  exact ⟨blk, off, rfl, RepAt.ext h hh⟩
 | .ref _ _ _, _, hr => by
  unfold Rep at *
  obtain ⟨e, b, he, hb, hv, a, rfl, hh⟩ := hr
  obtain ⟨e', b', he', hb', hv', hbb, _⟩ := h.ent _ _ _ he hb
  refine ⟨e', b', he', hb', by omega, a, rfl, fun hver => ?_⟩
  rw [hbb (by omega)]
  exact hh (by omega)
 | .rsl _ _ _ _ _, _, hr => by
  unfold Rep at *
  obtain ⟨e, b, he, hb, hv, a, a2, cap, rfl, hh⟩ := hr
  obtain ⟨e', b', he', hb', hv', hbb, _⟩ := h.ent _ _ _ he hb
  refine ⟨e', b', he', hb', by omega, a, a2, cap, rfl, fun hver => ?_⟩
  rw [hbb (by omega)]
  exact hh (by omega)
 | .mp _, _, hr => by
  unfold Rep at *
  obtain ⟨e, b, he, hb, hm, rfl⟩ := hr
  obtain ⟨e', b', he', hb', hv', hbb, hmm⟩ := h.ent _ _ _ he hb
  have hm' := hmm hm
  have h0 : e.ver = 0 := by cases e <;> simp_all [Ent.isMap, Ent.ver]
  have h0' : e'.ver = 0 := by cases e' <;> simp_all [Ent.isMap, Ent.ver]
  rw [hbb (by omega)] at hb'
  exact ⟨e', b, he', hb', hm', rfl⟩
 | .fn _ _ _, _, hr => by
  unfold Rep at *
  obtain ⟨vs, us, rfl, h1, h2⟩ := hr
  exact ⟨vs, us, rfl, RepL.ext h h1, RepL.ext h h2⟩
 | .ifc _ _, _, hr => by
  unfold Rep at *
  obtain ⟨v, rfl, h1⟩ := hr
  exact ⟨v, rfl, Rep.ext h h1⟩
theorem RepL.ext {s s' : S} (h : Ext s s') : ∀ {cs : List AV} {vs : List Value}, RepL s cs vs → RepL s' cs vs
 | [], _, hr => by unfold RepL at *; exact hr
 | _ :: _, _, hr => by
  unfold RepL at *
  obtain ⟨v, vs', rfl, h1, h2⟩ := hr
  exact ⟨v, vs', rfl, Rep.ext h h1, RepL.ext h h2⟩
theorem RepRow.ext {s s' : S} (h : Ext s s') {k blk : Nat} : ∀ {off : Nat} {es : List AV}, RepRow s k blk off es → RepRow s' k blk off es
 | _, [], _ => by unfold RepRow; trivial
 | _, _ :: _, hr => by
  unfold RepRow at *
  obtain ⟨⟨y, h1, h2⟩, h3⟩ := hr
  exact ⟨⟨y, h1.ext h, Rep.ext h h2⟩, RepRow.ext h h3⟩
theorem RepAt.ext {s s' : S} (h : Ext s s') {blk : Nat} : ∀ {off : Nat} {cs : List AV}, RepAt s blk off cs → RepAt s' blk off cs
 | _, [], _ => by unfold RepAt; trivial
 | _, _ :: _, hr => by
  unfold RepAt at *
  obtain ⟨⟨y, h1, h2, h3⟩, h4⟩ := hr
  obtain ⟨h5, h6⟩ := h.imm _ _ h2
  exact ⟨⟨y, h6.trans h1, h5, Rep.ext h h3⟩, RepAt.ext h h4⟩
end
end Go.Vm
set_option linter.unusedVariables false
set_option linter.unusedSectionVars false
namespace Go.Vm
open Go.RowKit
def cellV (y : Value) : Prop := (∀ a, y ≠ .agg a) ∧ ∀ a, y ≠ .tuple a
theorem cellV.cells {y : Value} (h : cellV y) : y.cells = #[y] := by
 cases y <;> simp_all [Value.cells, cellV]
theorem Rep.cellV {s : S} {c : AV} {y : Value} (hc : c.isCell = true) (h : Rep s c y) : cellV y := by
 cases c <;> unfold Rep at h
 case v x => subst h; cases y <;> simp_all [AV.isCell, Go.Vm.cellV]
 case str => subst h; simp [Go.Vm.cellV]
 case agg => simp [AV.isCell] at hc
 case tup => simp [AV.isCell] at hc
 case sl => obtain ⟨a, cap, rfl, _⟩ := h; simp [Go.Vm.cellV]
 case iptr => obtain ⟨blk, off, rfl, _⟩ := h; simp [Go.Vm.cellV]
 case ref => obtain ⟨e, b, _, _, _, a, rfl, _⟩ := h; simp [Go.Vm.cellV]
 case rsl => obtain ⟨e, b, _, _, _, a, a2, cap, rfl, _⟩ := h; simp [Go.Vm.cellV]
 case mp => obtain ⟨e, b, _, _, _, rfl⟩ := h; simp [Go.Vm.cellV]
 case fn => obtain ⟨vs, us, rfl, _⟩ := h; simp [Go.Vm.cellV]
 case ifc => obtain ⟨v, rfl, _⟩ := h; simp [Go.Vm.cellV]
 case un => simp [AV.isCell] at hc
def CellsOK (s : S) (cells : List AV) (b : Slot) : Prop :=
 ∀ (j : Nat) (c : AV), cells[j]? = some c → ∃ y, s.w.cell? ⟨b.blk, b.off + j, none⟩ = some y ∧ Rep s c y ∧ cellV y
def RoomOK (w : World) (imm : Nat) (b : Slot) : Prop :=
 ∀ j, j < b.ext → (∃ y, w.cell? ⟨b.blk, b.off + j, none⟩ = some y) ∧ (imm ≤ j → w.frozen? ⟨b.blk, b.off + j, none⟩ = false)
def MRep (s : S) : List (AV × AV × Nat) → List MapEntry → Prop
 | [], ms => ms = []
 | e :: es, ms => ∃ z y ms', ms = { key := z, val := y, born := e.2.2 } :: ms' ∧ Rep s e.1 z ∧ Rep s e.2.1 y ∧ MRep s es ms'
theorem MRep.of {s s' : S} : ∀ {es : List (AV × AV × Nat)} {ms : List MapEntry}, MRep s es ms → (∀ e ∈ es, (∀ z, Rep s e.1 z → Rep s' e.1 z) ∧ ∀ y, Rep s e.2.1 y → Rep s' e.2.1 y) → MRep s' es ms
 | [], _, h, _ => by unfold MRep at *; exact h
 | _ :: _, _, h, hh => by
  unfold MRep at *
  obtain ⟨z, y, ms', rfl, h1, h2, h3⟩ := h
  exact ⟨z, y, ms', rfl, (hh _ (by simp)).1 _ h1, (hh _ (by simp)).2 _ h2, MRep.of h3 fun e he => hh e (by simp [he])⟩
theorem MRep.ext {s s' : S} (h : Ext s s') {es : List (AV × AV × Nat)} {ms : List MapEntry} (hm : MRep s es ms) : MRep s' es ms :=
 hm.of fun _ _ => ⟨fun _ => Rep.ext h, fun _ => Rep.ext h⟩
theorem MRep.all {s : S} : ∀ {es : List (AV × AV × Nat)} {ms : List MapEntry}, MRep s es ms → ∀ e ∈ es, (∃ z, Rep s e.1 z) ∧ ∃ y, Rep s e.2.1 y
 | _ :: _, _, h, e, he => by
  unfold MRep at h
  obtain ⟨z, y, ms', rfl, h1, h2, h3⟩ := h
  rcases List.mem_cons.1 he with rfl | he
  ·exact ⟨⟨z, h1⟩, ⟨y, h2⟩⟩
  ·exact MRep.all h3 e he
def EntOK (s : S) (e : Ent) (b : Slot) : Prop :=
 match e with
 | .arr _ cells _ imm => cells.length ≤ b.ext ∧ imm ≤ cells.length ∧ RoomOK s.w imm b ∧ CellsOK s cells b
 | .map es clock => b.off = 0 ∧ ∃ mes : List MapEntry, s.w.heap[b.blk]? = some (.map mes.toArray clock) ∧ MRep s es mes
 | .iter m since seen last => b.off = 0 ∧ ∃ mo : Option Nat, s.w.heap[b.blk]? = some (.mapIter mo since seen.toArray last) ∧
   match m with
   | none => mo = none
   | some i => ∃ (em : Ent) (bm : Slot), s.σ[i]? = some em ∧ em.isMap = true ∧ s.β[i]? = some bm ∧ mo = some bm.blk
def ShapeOK (w : World) (ty imm : Nat) (b : Slot) : Prop := b.off = 0 ∧ ∃ cs fr, w.heap[b.blk]? = some (.cells cs ty fr) ∧ cs.size = b.ext ∧ fr.2 ≤ imm
theorem ShapeOK.shape {w : World} {ty imm : Nat} {b : Slot} (h : ShapeOK w ty imm b) : w.shape? b.blk = some (ty, b.off + b.ext) := by
 obtain ⟨h0, cs, fr, h1, h2, h3⟩ := h
 simp [World.shape?, h1, h0, h2]
theorem ShapeOK.below {n : Nat} {w w' : World} (h : Below n w w') {ty imm : Nat} {b : Slot} (hb : b.blk < n) (hs : ShapeOK w ty imm b) : ShapeOK w' ty imm b := by
 obtain ⟨h0, cs, fr, h1, h2, h3⟩ := hs
 exact ⟨h0, cs, fr, (h.block _ hb).trans h1, h2, h3⟩
theorem ShapeOK.mono {w : World} {ty imm imm' : Nat} {b : Slot} (h : imm ≤ imm') (hs : ShapeOK w ty imm b) : ShapeOK w ty imm' b := by
 obtain ⟨h0, cs, fr, h1, h2, h3⟩ := hs
 exact ⟨h0, cs, fr, h1, h2, by omega⟩
theorem ShapeOK.setCell {w : World} {ty imm : Nat} {b : Slot} (hs : ShapeOK w ty imm b) (a : Addr) (y : Value) : ShapeOK (w.setCell a y) ty imm b := by
 obtain ⟨h0, cs, fr, h1, h2, h3⟩ := hs
 unfold ShapeOK World.setCell
 simp only [Array.getElem?_modify]
 by_cases h : a.block = b.blk
 ·rw [if_pos h, h1]
  exact ⟨h0, _, fr, rfl, by split <;> simp [h2], h3⟩
 ·rw [if_neg h, h1]
  exact ⟨h0, cs, fr, rfl, h2, h3⟩
theorem ShapeOK.new (w : World) (ys : Array Value) (t : TypeId) : ShapeOK (w.alloc (.cells ys t)) t 0 ⟨w.heap.size, 0, ys.size⟩ := by
 refine ⟨rfl, ys, (0, 0), ?_, rfl, Nat.le_refl _⟩
 rw [show (w.alloc (Obj.cells ys t)).heap = w.heap.push (Obj.cells ys t) from rfl]
 simp
theorem ShapeOK.freeze {w : World} {ty imm : Nat} {b : Slot} (hs : ShapeOK w ty imm b) (n : Nat) : ShapeOK (w.freeze ⟨b.blk, 0, none⟩ n) ty (max imm n) b := by
 obtain ⟨h0, cs, fr, h1, h2, h3⟩ := hs
 unfold World.freeze
 split
 ·exact ⟨h0, cs, fr, h1, h2, by omega⟩
 ·unfold ShapeOK
  simp only [Array.getElem?_modify, if_true, h1, Option.map_some]
  refine ⟨h0, cs, _, rfl, h2, ?_⟩
  split <;> simp <;> omega
structure HInv (s : S) : Prop where
 len : s.β.length = s.σ.length
 B : s.B ≤ s.w.heap.size
 slot : ∀ (id : Nat) (b : Slot), s.β[id]? = some b → s.B ≤ b.blk ∧ b.blk < s.w.heap.size
 inj : ∀ (i j : Nat) (b c : Slot), s.β[i]? = some b → s.β[j]? = some c → b.blk = c.blk → i = j
 ent : ∀ (id : Nat) (e : Ent) (b : Slot), s.σ[id]? = some e → s.β[id]? = some b → EntOK s e b
 shape : ∀ (id : Nat) (e : Ent) (b : Slot), s.σ[id]? = some e → s.β[id]? = some b → e.isMap = false → ShapeOK s.w e.ty e.imm b
theorem CellsOK.of {s s' : S} (h : Ext s s') {cells : List AV} {b : Slot} (hc : CellsOK s cells b)
  (hw : ∀ j, j < cells.length → s'.w.cell? ⟨b.blk, b.off + j, none⟩ = s.w.cell? ⟨b.blk, b.off + j, none⟩) : CellsOK s' cells b := by
 intro j c hj
 obtain ⟨y, h1, h2, h3⟩ := hc j c hj
 have hlt : j < cells.length := by
  rcases Nat.lt_or_ge j cells.length with h' | h'
  ·exact h'
  ·simp [List.getElem?_eq_none h'] at hj
 exact ⟨y, (hw j hlt).trans h1, Rep.ext h h2, h3⟩
theorem World.cell?_below {w w' : World} (h : Below w.heap.size w w') {blk off : Nat} (hb : blk < w.heap.size) : w'.cell? ⟨blk, off, none⟩ = w.cell? ⟨blk, off, none⟩ :=
 h.cell (p := ⟨blk, off, none⟩) hb
theorem World.frozen?_below {w w' : World} (h : Below w.heap.size w w') {blk off : Nat} (hb : blk < w.heap.size) : w'.frozen? ⟨blk, off, none⟩ = w.frozen? ⟨blk, off, none⟩ :=
 h.frozen (p := ⟨blk, off, none⟩) hb
theorem lt_of_get {α : Type} {l : List α} {i : Nat} {x : α} (h : l[i]? = some x) : i < l.length := by
 rcases Nat.lt_or_ge i l.length with h' | h'
 ·exact h'
 ·simp [List.getElem?_eq_none h'] at h
theorem EntOK.obj {s s' : S} (h : Ext s s') {e : Ent} {b : Slot} (hm : e.isMap = true) (hw : s'.w.heap[b.blk]? = s.w.heap[b.blk]?) (he : EntOK s e b) : EntOK s' e b := by
 cases e with
 | arr ty cells ver imm => simp [Ent.isMap] at hm
 | map es clock =>
  obtain ⟨h0, mes, h1, h2⟩ := he
  exact ⟨h0, mes, hw.trans h1, h2.ext h⟩
 | iter m since seen last =>
  obtain ⟨h0, mo, h1, h2⟩ := he
  refine ⟨h0, mo, hw.trans h1, ?_⟩
  cases m with
  | none => exact h2
  | some i =>
   obtain ⟨em, bm, h3, h4, h5, h6⟩ := h2
   obtain ⟨em', bm', h7, h8, h9, h10, h11⟩ := h.ent _ _ _ h3 h5
   have h12 := h11 h4
   have v0 : em.ver = 0 := by cases em <;> simp_all [Ent.isMap, Ent.ver]
   have v1 : em'.ver = 0 := by cases em' <;> simp_all [Ent.isMap, Ent.ver]
   rw [h10 (by omega)] at h8
   exact ⟨em', bm, h7, h12, h8, h6⟩
theorem EntOK.of_below {s s' : S} (h : Ext s s') {e : Ent} {b : Slot} (hb : b.blk < s.w.heap.size) (hw : Below s.w.heap.size s.w s'.w) (he : EntOK s e b) : EntOK s' e b := by
 cases e with
 | arr ty cells ver imm =>
  obtain ⟨h1, h2, h3, h4⟩ := he
  refine ⟨h1, h2, fun j hj => ?_, h4.of h fun j _ => World.cell?_below hw hb⟩
  rw [World.cell?_below hw hb, World.frozen?_below hw hb]
  exact h3 j hj
 | map es clock => exact he.obj h rfl (hw.block _ hb)
 | iter m since seen last => exact he.obj h rfl (hw.block _ hb)
theorem Ext.of_below {s : S} (hI : HInv s) {w' : World} (hw : Below s.w.heap.size s.w w') : Ext s { s with w := w' } :=
 ⟨rfl, hw.mono hI.B, fun blk off hi => ⟨⟨Nat.lt_of_lt_of_le hi.1 hw.size, hi.2⟩, World.cell?_below hw hi.1⟩,
  fun _ e b he hb => ⟨e, b, he, hb, Nat.le_refl _, fun _ => rfl, id⟩⟩
theorem HInv.of_below {s : S} (hI : HInv s) {w' : World} (hw : Below s.w.heap.size s.w w') : HInv { s with w := w' } :=
 ⟨hI.len, Nat.le_trans hI.B hw.size, fun id b hb => ⟨(hI.slot id b hb).1, Nat.lt_of_lt_of_le (hI.slot id b hb).2 hw.size⟩, hI.inj,
  fun id e b he hb => (hI.ent id e b he hb).of_below (Ext.of_below hI hw) (hI.slot id b hb).2 hw,
  fun id e b he hb hm => by
   exact (hI.shape id e b he hb hm).below hw (hI.slot id b hb).2⟩
def S.push (s : S) (e : Ent) (b : Slot) (w : World) : S := { s with σ := s.σ ++ [e], β := s.β ++ [b], w := w }
theorem get_push {α : Type} {l : List α} {x y : α} {i : Nat} (h : (l ++ [x])[i]? = some y) : l[i]? = some y ∨ (i = l.length ∧ y = x) := by
 rcases Nat.lt_trichotomy i l.length with hi | hi | hi
 ·rw [List.getElem?_append_left hi] at h; exact .inl h
 ·subst hi; simp at h; exact .inr ⟨rfl, h.symm⟩
 ·rw [List.getElem?_append_right (by omega)] at h
  have : i - l.length ≠ 0 := by omega
  cases hh : i - l.length with
  | zero => omega
  | succ k => rw [hh] at h; simp at h
theorem get_old {α : Type} {l : List α} {x y : α} {i : Nat} (h : l[i]? = some y) : (l ++ [x])[i]? = some y := by
 rw [List.getElem?_append_left (lt_of_get h)]; exact h
theorem below_alloc (w : World) (o : Obj) : Below w.heap.size w (w.alloc o) := (Below.refl _ _).alloc (Nat.le_refl _) _
theorem Ext.push {s : S} (hI : HInv s) (e : Ent) (o : Obj) (ext : Nat) : Ext s (s.push e ⟨s.w.heap.size, 0, ext⟩ (s.w.alloc o)) := by
 have hw := below_alloc s.w o
 refine ⟨rfl, hw.mono hI.B, fun blk off hi => ⟨⟨Nat.lt_of_lt_of_le hi.1 hw.size, fun id e' b' he hb hbb => ?_⟩, World.cell?_below hw hi.1⟩,
  fun id e' b' he hb => ⟨e', b', get_old he, get_old hb, Nat.le_refl _, fun _ => rfl, fun h => h⟩⟩
 rcases get_push hb with hb | ⟨_, rfl⟩
 ·rcases get_push he with he | ⟨hi', _⟩
  ·exact hi.2 id e' b' he hb hbb
  ·have := lt_of_get hb; rw [hI.len] at this; omega
 ·have := hi.1; simp only at hbb; omega
theorem HInv.push {s : S} (hI : HInv s) (cells : List AV) (ys : Array Value) (t : TypeId) (hl : cells.length ≤ ys.size)
  (hc : ∀ (j : Nat) (c : AV), cells[j]? = some c → ∃ y, ys[j]? = some y ∧ Rep s c y ∧ cellV y) :
  HInv (s.push (.arr t cells 0 0) ⟨s.w.heap.size, 0, ys.size⟩ (s.w.alloc (.cells ys t))) := by
 have hE := Ext.push hI (.arr t cells 0 0) (.cells ys t) ys.size
 have hw := below_alloc s.w (.cells ys t)
 refine ⟨by simp [S.push, hI.len], Nat.le_trans hI.B hw.size, fun id b hb => ?_, fun i j b c hb hc' hbc => ?_, fun id e b he hb => ?_, fun id e b he hb hm => ?_⟩
 ·rcases get_push hb with hb | ⟨_, rfl⟩
  ·exact ⟨(hI.slot id b hb).1, Nat.lt_of_lt_of_le (hI.slot id b hb).2 hw.size⟩
  ·exact ⟨hI.B, by simp [S.push]⟩
 ·rcases get_push hb with hb | ⟨hi, rfl⟩ <;> rcases get_push hc' with hc' | ⟨hj, rfl⟩
  ·exact hI.inj i j b c hb hc' hbc
  ·have := (hI.slot i b hb).2; simp only at hbc; omega
  ·have := (hI.slot j c hc').2; simp only at hbc; omega
  ·omega
 ·rcases get_push hb with hb | ⟨hi, rfl⟩
  ·rcases get_push he with he | ⟨hi', _⟩
   ·exact (hI.ent id e b he hb).of_below hE (hI.slot id b hb).2 hw
   ·have := lt_of_get hb; rw [hI.len] at this; omega
  ·rcases get_push he with he | ⟨_, rfl⟩
   ·have := lt_of_get he; rw [← hI.len] at this; omega
   ·refine ⟨hl, Nat.zero_le _, fun j hj => ⟨⟨ys[j], ?_⟩, fun _ => ?_⟩, fun j c hj => ?_⟩
    ·show (s.w.alloc _).cell? ⟨s.w.heap.size, 0 + j, none⟩ = _
     rw [Nat.zero_add, World.cell?_alloc_new]
     exact Array.getElem?_eq_getElem hj
    ·show (s.w.alloc _).frozen? ⟨s.w.heap.size, 0 + j, none⟩ = _
     rw [Nat.zero_add, World.frozen?_alloc_new]
    ·obtain ⟨y, h1, h2, h3⟩ := hc j c hj
     refine ⟨y, ?_, Rep.ext hE h2, h3⟩
     show (s.w.alloc _).cell? ⟨s.w.heap.size, 0 + j, none⟩ = _
     rw [Nat.zero_add, World.cell?_alloc_new]
     exact h1
 ·rcases get_push hb with hb | ⟨hi, rfl⟩
  ·rcases get_push he with he | ⟨hi', _⟩
   ·exact (hI.shape id e b he hb hm).below hw (hI.slot id b hb).2
   ·have := lt_of_get hb; rw [hI.len] at this; omega
  ·rcases get_push he with he | ⟨_, rfl⟩
   ·have := lt_of_get he; rw [← hI.len] at this; omega
   ·exact ShapeOK.new s.w ys t
end Go.Vm
namespace Go.Vm
open Go.RowKit
theorem get_set {α : Type} {l : List α} {i j : Nat} {x y : α} (h : (l.set i x)[j]? = some y) : (i = j ∧ y = x ∧ i < l.length) ∨ (i ≠ j ∧ l[j]? = some y) := by
 rw [List.getElem?_set] at h
 by_cases hij : i = j
 ·subst hij
  simp only [if_true] at h
  split at h
  ·rename_i hlt; exact .inl ⟨rfl, (Option.some.inj h).symm, hlt⟩
  ·cases h
 ·rw [if_neg hij] at h; exact .inr ⟨hij, h⟩
theorem get_set_self {α : Type} {l : List α} {i : Nat} {x y : α} (h : l[i]? = some y) : (l.set i x)[i]? = some x := by
 have := lt_of_get h
 simp [this]
theorem get_set_ne {α : Type} {l : List α} {i j : Nat} {x : α} (h : i ≠ j) : (l.set i x)[j]? = l[j]? := by
 rw [List.getElem?_set, if_neg h]
theorem World.cell?_setCell_ne (w : World) (b o : Nat) (y : Value) (b' o' : Nat) (h : b ≠ b' ∨ o ≠ o') : (w.setCell ⟨b, o, none⟩ y).cell? ⟨b', o', none⟩ = w.cell? ⟨b', o', none⟩ := by
 apply World.cell?_setCell_other
 intro e
 injection e with e1 e2
 rcases h with h | h
 ·exact h e1
 ·exact h e2
def S.put (s : S) (id : Nat) (ty : Nat) (cells : List AV) (ver imm : Nat) (b : Slot) (j : Nat) (c : AV) (y : Value) : S :=
 { s with σ := s.σ.set id (.arr ty (cells.set j c) ver imm), w := s.w.setCell ⟨b.blk, b.off + j, none⟩ y }
section
variable {s : S} (hI : HInv s) {id ty : Nat} {cells : List AV} {ver imm : Nat} {b : Slot} (he : s.σ[id]? = some (.arr ty cells ver imm)) (hb : s.β[id]? = some b)
 {j : Nat} (hj : j < b.ext) (hi : imm ≤ j) {c : AV} {y : Value}
include hI he hb hj hi
theorem Ext.put : Ext s (s.put id ty cells ver imm b j c y) := by
 refine ⟨rfl, (Below.refl _ _).setCell (hI.slot id b hb).1 _, fun blk off him => ?_, fun i e b' he' hb' => ?_⟩
 ·have hne : b.blk ≠ blk ∨ b.off + j ≠ off := by
   by_cases h : b.blk = blk
   ·have := him.2 id _ b he hb h
    simp only [Ent.imm] at this
    right; omega
   ·exact .inl h
  refine ⟨⟨by simpa [S.put] using him.1, fun i e b' he' hb' hbb => ?_⟩, World.cell?_setCell_ne _ _ _ _ _ _ hne⟩
  rcases get_set he' with ⟨rfl, rfl, _⟩ | ⟨_, he'⟩
  ·have hb2 : s.β[id]? = some b' := hb'
   rw [hb] at hb2; cases hb2
   have := him.2 id _ b he hb hbb
   simpa [Ent.imm] using this
  ·exact him.2 i e b' he' hb' hbb
 ·by_cases h : id = i
  ·subst h
   rw [he] at he'; cases he'
   exact ⟨_, b', get_set_self he, hb', Nat.le_refl _, fun _ => rfl, fun h => by simp [Ent.isMap] at h⟩
  ·exact ⟨e, b', by simp only [S.put]; rw [get_set_ne h]; exact he', hb', Nat.le_refl _, fun _ => rfl, fun h => h⟩
theorem HInv.put (hc : Rep s c y) (hv : cellV y) : HInv (s.put id ty cells ver imm b j c y) := by
 have hE := Ext.put hI he hb hj hi (c := c) (y := y)
 refine ⟨by simp [S.put, hI.len], by simpa [S.put] using hI.B, fun i b' hb' => by simpa [S.put] using hI.slot i b' hb', hI.inj, fun i e b' he' hb' => ?_, fun i e b' he' hb' hm => ?_⟩
 rotate_left
 ·show ShapeOK (s.w.setCell _ _) _ _ _
  refine ShapeOK.setCell ?_ _ _
  rcases get_set he' with ⟨rfl, rfl, _⟩ | ⟨_, he'⟩
  ·have hh := hI.shape id _ b' he hb' rfl
   exact hh
  ·exact hI.shape i e b' he' hb' hm
 have hbs := (hI.slot id b hb).2
 by_cases h : id = i
 ·subst h
  rw [show (s.put id ty cells ver imm b j c y).β = s.β from rfl, hb] at hb'
  cases hb'
  rcases get_set he' with ⟨_, rfl, _⟩ | ⟨h, _⟩
  ·obtain ⟨h1, h2, h3, h4⟩ := hI.ent id _ b he hb
   refine ⟨by simpa using h1, by simpa using h2, fun j' hj' => ?_, fun j' c' hj' => ?_⟩
   ·obtain ⟨⟨y', h5⟩, h6⟩ := h3 j' hj'
    refine ⟨?_, fun h7 => ?_⟩
    ·by_cases hjj : j = j'
     ·subst hjj; exact ⟨y, World.cell?_setCell_same _ _ _ h5⟩
     ·exact ⟨y', (World.cell?_setCell_ne _ _ _ _ _ _ (.inr (by omega))).trans h5⟩
    ·show (s.w.setCell _ _).frozen? _ = _
     rw [World.frozen?_setCell]; exact h6 h7
   ·rcases get_set hj' with ⟨rfl, rfl, hlt⟩ | ⟨hne, hj'⟩
    ·obtain ⟨⟨y', h5⟩, _⟩ := h3 j hj
     exact ⟨y, World.cell?_setCell_same _ _ _ h5, Rep.ext hE hc, hv⟩
    ·obtain ⟨y', h5, h6, h7⟩ := h4 j' c' hj'
     exact ⟨y', (World.cell?_setCell_ne _ _ _ _ _ _ (.inr (by omega))).trans h5, Rep.ext hE h6, h7⟩
  ·exact absurd rfl h
 ·have hne : b.blk ≠ b'.blk := fun hh => h (hI.inj id i b b' hb hb' hh)
  have he'' : s.σ[i]? = some e := by
   have : (s.σ.set id (.arr ty (cells.set j c) ver imm))[i]? = some e := he'
   rwa [get_set_ne h] at this
  have hold := hI.ent i e b' he'' hb'
  cases e with
  | arr ty' cells' ver' imm' =>
   obtain ⟨h1, h2, h3, h4⟩ := hold
   refine ⟨h1, h2, fun j' hj' => ?_, h4.of hE fun j' _ => World.cell?_setCell_ne _ _ _ _ _ _ (.inl hne)⟩
   obtain ⟨h5, h6⟩ := h3 j' hj'
   refine ⟨?_, fun h7 => ?_⟩
   ·obtain ⟨y', h5⟩ := h5
    exact ⟨y', (World.cell?_setCell_ne _ _ _ _ _ _ (.inl hne)).trans h5⟩
   ·show (s.w.setCell _ _).frozen? _ = _
    rw [World.frozen?_setCell]; exact h6 h7
  | map es clock => exact hold.obj hE rfl (Below.heap_setCell _ _ _ _ (Ne.symm hne))
  | iter m since seen last => exact hold.obj hE rfl (Below.heap_setCell _ _ _ _ (Ne.symm hne))
end
def S.fix (s : S) (id ty : Nat) (cells : List AV) (ver imm : Nat) : S := { s with σ := s.σ.set id (.arr ty cells ver imm) }
theorem Ext.retell {s : S} (hI : HInv s) {id ty : Nat} {cells : List AV} {ver imm : Nat} {b : Slot} (he : s.σ[id]? = some (.arr ty cells ver imm)) (hb : s.β[id]? = some b)
  {cells' : List AV} {ver' imm' : Nat} (hv : ver ≤ ver') (hi : imm ≤ imm') : Ext s (s.fix id ty cells' ver' imm') := by
 refine ⟨rfl, Below.refl _ _, fun blk off him => ⟨⟨him.1, fun i e b' he' hb' hbb => ?_⟩, rfl⟩, fun i e b' he' hb' => ?_⟩
 ·rcases get_set he' with ⟨rfl, rfl, _⟩ | ⟨_, he'⟩
  ·rw [show (s.fix id ty cells' ver' imm').β = s.β from rfl, hb] at hb'; cases hb'
   have := him.2 id _ b he hb hbb
   simp only [Ent.imm] at *; omega
  ·exact him.2 i e b' he' hb' hbb
 ·by_cases h : id = i
  ·subst h
   rw [he] at he'; cases he'
   exact ⟨_, b', get_set_self he, hb', hv, fun _ => rfl, fun h => by simp [Ent.isMap] at h⟩
  ·exact ⟨e, b', by simp only [S.fix]; rw [get_set_ne h]; exact he', hb', Nat.le_refl _, fun _ => rfl, fun h => h⟩
theorem HInv.retell {s : S} (hI : HInv s) {id ty : Nat} {cells : List AV} {ver imm : Nat} {b : Slot} (he : s.σ[id]? = some (.arr ty cells ver imm)) (hb : s.β[id]? = some b)
  {cells' : List AV} {ver' imm' : Nat} (hv : ver ≤ ver') (hi : imm ≤ imm') (hl : cells'.length ≤ b.ext) (hil : imm' ≤ cells'.length) (hc : CellsOK s cells' b) :
  HInv (s.fix id ty cells' ver' imm') := by
 have hE := Ext.retell hI he hb hv hi (cells' := cells')
 refine ⟨by simp [S.fix, hI.len], hI.B, hI.slot, hI.inj, fun i e b' he' hb' => ?_, fun i e b' he' hb' hm => ?_⟩
 rotate_left
 ·rcases get_set he' with ⟨rfl, rfl, _⟩ | ⟨_, he'⟩
  ·exact (hI.shape id _ b' he hb' rfl).mono hi
  ·exact hI.shape i e b' he' hb' hm
 by_cases h : id = i
 ·subst h
  rw [show (s.fix id ty cells' ver' imm').β = s.β from rfl, hb] at hb'; cases hb'
  rcases get_set he' with ⟨_, rfl, _⟩ | ⟨h, _⟩
  ·obtain ⟨h1, h2, h3, h4⟩ := hI.ent id _ b he hb
   exact ⟨hl, hil, fun j hj => ⟨(h3 j hj).1, fun h5 => (h3 j hj).2 (Nat.le_trans hi h5)⟩, hc.of hE fun _ _ => rfl⟩
  ·exact absurd rfl h
 ·have he'' : s.σ[i]? = some e := by
   have : (s.σ.set id (.arr ty cells' ver' imm'))[i]? = some e := he'
   rwa [get_set_ne h] at this
  exact (hI.ent i e b' he'' hb').of_below hE (hI.slot i b' hb').2 (Below.refl _ _)
def S.move (s : S) (id ty : Nat) (cells : List AV) (ver imm ext : Nat) (o : Obj) : S :=
 { s with σ := s.σ.set id (.arr ty cells ver imm), β := s.β.set id ⟨s.w.heap.size, 0, ext⟩, w := s.w.alloc o }
theorem Ext.move {s : S} (hI : HInv s) {id ty : Nat} {cells : List AV} {ver imm : Nat} {b : Slot} (he : s.σ[id]? = some (.arr ty cells ver imm)) (hb : s.β[id]? = some b)
  {cells' : List AV} {ver' imm' ext ty' : Nat} {o : Obj} (hv : ver < ver') : Ext s (s.move id ty' cells' ver' imm' ext o) := by
 have hw := below_alloc s.w o
 refine ⟨rfl, hw.mono hI.B, fun blk off him => ⟨⟨Nat.lt_of_lt_of_le him.1 hw.size, fun i e b' he' hb' hbb => ?_⟩, World.cell?_below hw him.1⟩, fun i e b' he' hb' => ?_⟩
 ·rcases get_set hb' with ⟨rfl, rfl, _⟩ | ⟨hne, hb'⟩
  ·have := him.1; simp only at hbb; omega
  ·rcases get_set he' with ⟨h, _⟩ | ⟨_, he'⟩
   ·exact absurd h hne
   ·exact him.2 i e b' he' hb' hbb
 ·by_cases h : id = i
  ·subst h
   rw [he] at he'; cases he'
   exact ⟨_, _, get_set_self he, get_set_self hb, Nat.le_of_lt hv, fun h => by simp only [Ent.ver] at h; omega, fun h => by simp [Ent.isMap] at h⟩
  ·exact ⟨e, b', by simp only [S.move]; rw [get_set_ne h]; exact he', by simp only [S.move]; rw [get_set_ne h]; exact hb', Nat.le_refl _, fun _ => rfl, fun h => h⟩
theorem HInv.move {s : S} (hI : HInv s) {id ty : Nat} {cells : List AV} {ver imm : Nat} {b : Slot} (he : s.σ[id]? = some (.arr ty cells ver imm)) (hb : s.β[id]? = some b)
  {cells' : List AV} {ver' imm' : Nat} {ys : Array Value} {t : TypeId} (hv : ver < ver') (hl : cells'.length ≤ ys.size) (hil : imm' ≤ cells'.length)
  (hc : ∀ (j : Nat) (c : AV), cells'[j]? = some c → ∃ y, ys[j]? = some y ∧ Rep s c y ∧ cellV y) : HInv (s.move id t cells' ver' imm' ys.size (.cells ys t)) := by
 have hw := below_alloc s.w (.cells ys t)
 have hE := Ext.move hI he hb (ty' := t) (cells' := cells') (ver' := ver') (imm' := imm') (ext := ys.size) (o := .cells ys t) hv
 refine ⟨by simp [S.move, hI.len], Nat.le_trans hI.B hw.size, fun i b' hb' => ?_, fun i j b' c' hb' hc' hbc => ?_, fun i e b' he' hb' => ?_, fun i e b' he' hb' hm => ?_⟩
 rotate_right
 ·rcases get_set hb' with ⟨rfl, rfl, _⟩ | ⟨hne, hb'⟩
  ·rcases get_set he' with ⟨_, rfl, _⟩ | ⟨h, _⟩
   ·exact (ShapeOK.new s.w ys t).mono (Nat.zero_le _)
   ·exact absurd rfl h
  ·have he'' : s.σ[i]? = some e := by
    have : (s.σ.set id (.arr t cells' ver' imm'))[i]? = some e := he'
    rwa [get_set_ne hne] at this
   exact (hI.shape i e b' he'' hb' hm).below hw (hI.slot i b' hb').2
 ·rcases get_set hb' with ⟨rfl, rfl, _⟩ | ⟨hne, hb'⟩
  ·exact ⟨hI.B, by simp [S.move]⟩
  ·exact ⟨(hI.slot i b' hb').1, Nat.lt_of_lt_of_le (hI.slot i b' hb').2 hw.size⟩
 ·rcases get_set hb' with ⟨rfl, rfl, _⟩ | ⟨hne, hb'⟩ <;> rcases get_set hc' with ⟨h, rfl, _⟩ | ⟨hne', hc'⟩
  ·exact h
  ·have := (hI.slot j c' hc').2; simp only at hbc; omega
  ·have := (hI.slot i b' hb').2; simp only at hbc; omega
  ·exact hI.inj i j b' c' hb' hc' hbc
 ·rcases get_set hb' with ⟨rfl, rfl, _⟩ | ⟨hne, hb'⟩
  ·rcases get_set he' with ⟨_, rfl, _⟩ | ⟨h, _⟩
   ·refine ⟨hl, hil, fun j hj => ⟨⟨ys[j], ?_⟩, fun _ => ?_⟩, fun j c hj => ?_⟩
    ·show (s.w.alloc _).cell? ⟨s.w.heap.size, 0 + j, none⟩ = _
     rw [Nat.zero_add, World.cell?_alloc_new]
     exact Array.getElem?_eq_getElem hj
    ·show (s.w.alloc _).frozen? ⟨s.w.heap.size, 0 + j, none⟩ = _
     rw [Nat.zero_add, World.frozen?_alloc_new]
    ·obtain ⟨y, h1, h2, h3⟩ := hc j c hj
     refine ⟨y, ?_, Rep.ext hE h2, h3⟩
     show (s.w.alloc _).cell? ⟨s.w.heap.size, 0 + j, none⟩ = _
     rw [Nat.zero_add, World.cell?_alloc_new]
     exact h1
   ·exact absurd rfl h
  ·have he'' : s.σ[i]? = some e := by
    have : (s.σ.set id (.arr t cells' ver' imm'))[i]? = some e := he'
    rwa [get_set_ne hne] at this
   exact (hI.ent i e b' he'' hb').of_below hE (hI.slot i b' hb').2 hw
def AV.low (n : Nat) : AV → Bool
 | .agg cs => lows n cs
 | .tup cs => lows n cs
 | .sl es => lows n es
 | .iptr cs => lows n cs
 | .ref id _ _ => decide (id < n)
 | .rsl id _ _ _ _ => decide (id < n)
 | .mp id => decide (id < n)
 | .fn _ a b => lows n a && lows n b
 | .ifc _ x => x.low n
 | _ => true
where
 lows (n : Nat) : List AV → Bool
  | [] => true
  | c :: cs => c.low n && lows n cs
end Go.Vm
namespace Go.Vm
abbrev Ts := List (Nat × AV)
def tget : Ts → Nat → AV
 | [], _ => .un
 | (i, x) :: r, j => if i = j then x else tget r j
def tput (ts : Ts) (d : Option Nat) (x : AV) : Ts :=
 match d with
 | some i => (i, x) :: ts
 | none => ts
def ofC1 : Value → AV
 | .string s => .str s.data.toList
 | x => .v x
def ofC : Value → AV
 | .agg cs => .agg (cs.toList.map ofC1)
 | .string s => .str s.data.toList
 | x => .v x
def ev (ts : Ts) : Operand → AV
 | .tmp t => tget ts t
 | .const v => ofC v
 | .global _ => .un
 | .func f => .fn f [] []
def isSliceD : TypeDesc → Bool
 | .slice _ => true
 | _ => false
def isStringD : TypeDesc → Bool
 | .string => true
 | _ => false
def isIfaceD : TypeDesc → Bool
 | .interface _ => true
 | _ => false
def isBoolD : TypeDesc → Bool
 | .bool => true
 | _ => false
structure TI where
 ok : Bool := false
 desc : TypeDesc := .invalid
 size : Nat := 0
 bytes : Nat := 0
 isAgg : Bool := false
 zero : AV := .un
 flds : List (Nat × Nat × Bool) := []
 elem : Nat := 0
def sget (g l : List Ent) (id : Nat) : Option Ent := if id < g.length then g[id]? else l[id - g.length]?
def ssetG (g : List Ent) (id : Nat) (e : Ent) : List Ent := if id < g.length then g.set id e else g
def ssetL (g l : List Ent) (id : Nat) (e : Ent) : List Ent := if id < g.length then l else l.set (id - g.length) e
def setRange (cells : List AV) (off : Nat) : List AV → List AV
 | [] => cells
 | c :: cs => setRange (cells.set off c) (off + 1) cs
abbrev Out := Option (Prop × AV × List Ent × List Ent)
def pureR (g l : List Ent) (x : AV) : Out := some (True, x, g, l)
def condR (g l : List Ent) (p : Prop) (x : AV) : Out := some (p, x, g, l)
def boolV (b : Bool) : AV := .v (.bool b)
def intV (k : IntKind) (n : Int) : AV := .v (.int k n)
def abin (isBool : Bool) (op : BinOp) (x y : AV) : Option (Prop × AV) :=
 match x, y with
 | .v (.int k a), .v (.int k' b) =>
  match op with
  | .add => some (k = k', intV k (k.wrap (a + b)))
  | .sub => some (k = k', intV k (k.wrap (a - b)))
  | .mul => some (k = k', intV k (k.wrap (a * b)))
  | .quo => some (k = k' ∧ b ≠ 0, intV k (k.wrap (a.tdiv b)))
  | .rem => some (k = k' ∧ b ≠ 0, intV k (a.tmod b))
  | .eql => some (k = k', boolV (decide (a = b)))
  | .neq => some (k = k', boolV (!decide (a = b)))
  | .lss => some (k = k', boolV (decide (a < b)))
  | .leq => some (k = k', boolV (decide (a ≤ b)))
  | .gtr => some (k = k', boolV (decide (b < a)))
  | .geq => some (k = k', boolV (decide (b ≤ a)))
  | _ => none
 | .str a, .str b =>
  match op with
  | .add => some (((a.length + b.length : Nat) : Int) ≤ 9223372036854775807, .str (a ++ b))
  | .eql => some (True, boolV (decide (a = b)))
  | .neq => some (True, boolV (!decide (a = b)))
  | .lss => some (True, boolV (Op.bytesLess a b))
  | .geq => some (True, boolV (!Op.bytesLess a b))
  | .leq => some (True, boolV (!Op.bytesLess b a))
  | .gtr => some (True, boolV (Op.bytesLess b a))
  | _ => none
 | .v (.bool a), .v (.bool b) =>
  match op with
  | .eql => some (isBool = true, boolV (decide (a = b)))
  | .neq => some (isBool = true, boolV (!decide (a = b)))
  | _ => none
 | _, _ => none
def aun (op : UnOp) (x : AV) : Option AV :=
 match op, x with
 | .not, .v (.bool b) => some (boolV (!b))
 | .neg, .v (.int k n) => some (intV k (k.wrap (0 - n)))
 | _, _ => none
def bnd (d : Int) : Option AV → Option Int
 | none => some d
 | some (.v (.int _ n)) => some n
 | _ => none
def fill (T : Nat → TI) (flds : List (Nat × Nat × Bool)) (ts : Ts) (cells : List AV) : List (Nat × Operand) → Option (List AV)
 | [] => some cells
 | (i, x) :: rest =>
  match flds[i]? with
  | some (off, sz, _) =>
   if (ev ts x).cells.length = sz ∧ off + sz ≤ cells.length ∧ (ev ts x).cells.all (·.isCell) = true then fill T flds ts (setRange cells off (ev ts x).cells) rest else none
  | none => none
def fillA (sz : Nat) (ts : Ts) (cells : List AV) : List (Nat × Operand) → Option (List AV)
 | [] => some cells
 | (i, x) :: rest =>
  if (ev ts x).cells.length = sz ∧ i * sz + sz ≤ cells.length ∧ (ev ts x).cells.all (·.isCell) = true then fillA sz ts (setRange cells (i * sz) (ev ts x).cells) rest else none
def isArrD : TypeDesc → Bool
 | .array _ _ => true
 | _ => false
def arrE : TypeDesc → Nat
 | .array _ e => e
 | _ => 0
def isEl (sz : Nat) (isAgg : Bool) (e : AV) : Bool := e.isAgg == isAgg && e.cells.length == sz && e.cells.all (·.isCell)
def lits (ts : Ts) (sz : Nat) (isAgg : Bool) : Nat → List (Nat × Operand) → Option (List AV)
 | _, [] => some []
 | i, (j, x) :: rest => if i = j && isEl sz isAgg (ev ts x) then (lits ts sz isAgg (i + 1) rest).map (ev ts x :: ·) else none
def maxRoom : Nat := 2 ^ 44
def newCells (g l : List Ent) (sz : Nat) (isAgg : Bool) : AV → Option (Prop × Nat × List AV)
 | .sl es => some (∀ e ∈ es, isEl sz isAgg e = true, es.length, es.flatMap AV.cells)
 | .v (.slice none 0 0) => some (True, 0, [])
 | .str s => if sz = 1 then some (True, s.length, s.map fun b => intV .u8 b.toNat) else none
 | .rsl id ver off n sz' =>
  match sget g l id with
  | some (.arr _ cells ver' _) => some (ver = ver' ∧ sz = sz' ∧ off + n * sz ≤ cells.length ∧ 0 < n, n, (cells.drop off).take (n * sz))
  | _ => none
 | _ => none
def aappend (T : Nat → TI) (t : Nat) (g l : List Ent) (s x : AV) : Out :=
 let e := T (T t).elem
 match newCells g l e.size e.isAgg x with
 | none => none
 | some (p, m, new) =>
  match s with
  | .v (.slice none 0 0) =>
   match m with
   | 0 => condR g l p s
   | _ => some (p ∧ m ≤ maxRoom ∧ m * e.bytes ≤ maxRoom, .rsl (g.length + l.length) 0 0 m e.size, g, l ++ [.arr (T t).elem new 0 0])
  | .rsl id ver off n sz =>
   match sget g l id with
   | some (.arr ty cells ver' imm) =>
    some (p ∧ ver = ver' ∧ ty = (T t).elem ∧ sz = e.size ∧ off = 0 ∧ n * sz = cells.length ∧ imm ≤ cells.length ∧ n + m ≤ maxRoom ∧ (n + m) * e.bytes ≤ maxRoom,
     .rsl id (ver + 1) 0 (n + m) sz, ssetG g id (.arr ty (cells ++ new) (ver' + 1) imm), ssetL g l id (.arr ty (cells ++ new) (ver' + 1) imm))
   | _ => none
  | _ => none
def alen : TypeDesc → AV → Option Int
 | .string, .str s => some s.length
 | .slice _, .sl es => some es.length
 | .slice _, .rsl _ _ _ n _ => some n
 | .slice _, .v (.slice none 0 0) => some 0
 | _, _ => none
def asliceS (g l : List Ent) (x : AV) (lo hi : Option AV) : Out :=
 match x with
 | .str s =>
  match bnd 0 lo, bnd s.length hi with
  | some a, some b => condR g l (0 ≤ a ∧ a ≤ b ∧ b ≤ s.length) (.str ((s.drop a.toNat).take (b.toNat - a.toNat)))
  | _, _ => none
 | _ => none
def asliceL (e : TI) (g l : List Ent) (x : AV) (lo hi : Option AV) : Out :=
 match x with
 | .sl es =>
  match bnd 0 lo, bnd es.length hi with
  | some a, some b => condR g l (0 ≤ a ∧ a ≤ b ∧ b ≤ es.length ∧ ∀ x ∈ es, isEl e.size e.isAgg x = true) (.sl ((es.drop a.toNat).take (b.toNat - a.toNat)))
  | _, _ => none
 | .v (.slice none 0 0) =>
  match bnd 0 lo, bnd 0 hi with
  | some a, some b => condR g l (a = 0 ∧ b = 0) x
  | _, _ => none
 | .rsl id ver off n sz =>
  match bnd 0 lo, bnd n hi, sget g l id with
  | some a, some b, some en => condR g l (0 ≤ a ∧ a ≤ b ∧ b ≤ n ∧ sz = e.size ∧ ver = en.ver) (.rsl id ver (off + a.toNat * sz) (b.toNat - a.toNat) sz)
  | _, _, _ => none
 | _ => none
def byteAV (b : UInt8) : AV := intV .u8 b.toNat
def avByte : AV → Option UInt8
 | .v (.int .u8 n) => if 0 ≤ n ∧ n < 256 then some (UInt8.ofNat n.toNat) else none
 | _ => none
def avBytes : List AV → Option (List UInt8)
 | [] => some []
 | c :: cs => (avByte c).bind fun b => (avBytes cs).map (b :: ·)
def isByteD : TypeDesc → Bool
 | .int .u8 => true
 | _ => false
theorem avByte_of (b : UInt8) : avByte (.v (.int .u8 b.toNat)) = some b := by
 have : (b.toNat : Int) < 256 := by have := b.toNat_lt; omega
 simp [avByte, this]
theorem avBytes_map (l : List UInt8) : avBytes (l.map byteAV) = some l := by
 induction l with
 | nil => rfl
 | cons b l ih => simp [avBytes, ih, byteAV, intV, avByte_of]
def abytes (g l : List Ent) : AV → Option (Prop × List UInt8)
 | .v (.slice none 0 0) => some (True, [])
 | .sl es => (avBytes es).map fun b => (True, b)
 | .rsl id ver off n sz =>
  match sget g l id with
  | some (.arr _ cells ver' _) => (avBytes ((cells.drop off).take n)).map fun b => (ver = ver' ∧ sz = 1 ∧ off + n ≤ cells.length ∧ 0 < n, b)
  | _ => none
 | _ => none
def aconv (T : Nat → TI) (g l : List Ent) (sd dd : TypeDesc) (x : AV) : Out :=
 match sd, dd, x with
 | _, .int k, .v (.int _ n) => pureR g l (intV k (k.wrap n))
 | .string, .string, .str s => pureR g l (.str s)
 | .slice e, .string, x => if (T e).ok && isByteD (T e).desc then (abytes g l x).bind fun (p, b) => condR g l p (.str b) else none
 | .pointer t, .unsafePointer, .ref id ver off =>
  match sget g l id with
  | some (.arr _ cells ver' _) => if (T t).ok && decide (0 < (T t).size) then condR g l (ver = ver' ∧ off < cells.length) (.ref id ver off) else none
  | _ => none
 | .unsafePointer, .pointer t, .ref id ver off =>
  match sget g l id with
  | some (.arr ty cells ver' _) => if (T t).ok && decide (0 < (T t).size) then condR g l (ver = ver' ∧ ty = t ∧ off = 0 ∧ (T t).size ≤ cells.length) (.ref id ver off) else none
  | _ => none
 | _, _, _ => none
def plainRef (g l : List Ent) (id ver : Nat) : Prop :=
 match sget g l id with
 | some (.arr _ _ v imm) => ver = v ∧ imm = 0
 | _ => False
def aeq (T : Nat → TI) (g l : List Ent) (d : TypeDesc) (x y : AV) : Option (Prop × Bool) :=
 match d, x, y with
 | .pointer _, .v (.pointer none), .v (.pointer none) => some (True, true)
 | .pointer _, .ref _ _ _, .v (.pointer none) => some (True, false)
 | .pointer _, .v (.pointer none), .ref _ _ _ => some (True, false)
 | .pointer _, .iptr _, .v (.pointer none) => some (True, false)
 | .pointer _, .v (.pointer none), .iptr _ => some (True, false)
 | .pointer e, .ref id ver off, .ref id' ver' off' =>
  if (T e).ok && decide (0 < (T e).size) then
   if id = id' then
    match sget g l id with
    | some en => some (ver = en.ver ∧ ver' = en.ver, decide (off = off'))
    | _ => none
   else some (plainRef g l id ver ∧ plainRef g l id' ver', false)
  else none
 | .slice _, .v (.slice none 0 0), .v (.slice none 0 0) => some (True, true)
 | .slice _, .rsl _ _ _ _ _, .v (.slice none 0 0) => some (True, false)
 | .slice _, .v (.slice none 0 0), .rsl _ _ _ _ _ => some (True, false)
 | .slice _, .sl es, .v (.slice none 0 0) => some (es ≠ [], false)
 | .interface _, .v .nilIface, .v .nilIface => some (True, true)
 | .interface _, .ifc _ _, .v .nilIface => some (True, false)
 | .interface _, .v .nilIface, .ifc _ _ => some (True, false)
 | .map _ _, .mp _, .v (.map none) => some (True, false)
 | .map _ _, .v (.map none), .v (.map none) => some (True, true)
 | _, _, _ => none
def isPtrD (T : Nat → TI) : TypeDesc → Bool
 | .pointer e => (T e).ok && decide (0 < (T e).size)
 | _ => false
def kOK (T : Nat → TI) (g l : List Ent) (d : TypeDesc) : AV → Prop
 | .v (.int k _) => d = .int k
 | .str _ => d = .string
 | .v (.bool _) => d = .bool
 | .ref id ver _ => isPtrD T d = true ∧ plainRef g l id ver
 | _ => False
def keq : AV → AV → Bool
 | .v (.int _ a), .v (.int _ b) => decide (a = b)
 | .str a, .str b => decide (a = b)
 | .v (.bool a), .v (.bool b) => decide (a = b)
 | .ref i _ o, .ref j _ p => decide (i = j) && decide (o = p)
 | _, _ => false
abbrev MEnt := AV × AV × Nat
def mget (k : AV) : List MEnt → Option AV
 | [] => none
 | e :: r => if keq k e.1 then some e.2.1 else mget k r
def mput (k x : AV) (clock : Nat) : List MEnt → List MEnt
 | [] => [(k, x, clock)]
 | e :: r => if keq k e.1 then (k, x, e.2.2) :: r else e :: mput k x clock r
def mdel (k : AV) : List MEnt → List MEnt
 | [] => []
 | e :: r => if keq k e.1 then r else e :: mdel k r
def mclock (k : AV) (es : List MEnt) (clock : Nat) : Nat := if (mget k es).isSome then clock else clock + 1
def ksOK (T : Nat → TI) (g l : List Ent) (d : TypeDesc) (k : AV) (es : List MEnt) : Prop := kOK T g l d k ∧ ∀ e ∈ es, kOK T g l d e.1
def mres (ok : Bool) (z : AV) : Option AV → AV
 | some x => if ok then .tup [x, boolV true] else x
 | none => if ok then .tup [z, boolV false] else z
def aMap (T : Nat → TI) (o : Oper) (ts : Ts) (g l : List Ent) : Out :=
 match o.op with
 | .makeMap t r =>
  match (T t).desc, r.map (ev ts) with
  | .map _ _, none => if (T t).ok then some (True, .mp (g.length + l.length), g, l ++ [.map [] 0]) else none
  | .map _ _, some (.v (.int _ _)) => if (T t).ok then some (True, .mp (g.length + l.length), g, l ++ [.map [] 0]) else none
  | _, _ => none
 | .lookup t x i ok =>
  match (T t).desc with
  | .map kt et =>
   if (T t).ok && (T kt).ok && (T et).ok then
    match ev ts x with
    | .v (.map none) => condR g l (kOK T g l (T kt).desc (ev ts i)) (mres ok (T et).zero none)
    | .mp id =>
     match sget g l id with
     | some (.map es _) => condR g l (ksOK T g l (T kt).desc (ev ts i) es) (mres ok (T et).zero (mget (ev ts i) es))
     | _ => none
    | _ => none
   else none
  | _ => none
 | .mapUpdate t m k x | .insert t m k x =>
  match (T t).desc, ev ts m with
  | .map kt et, .mp id =>
   match sget g l id with
   | some (.map es clock) =>
    if (T t).ok && (T kt).ok then
     some (ksOK T g l (T kt).desc (ev ts k) es, .v undef,
      ssetG g id (.map (mput (ev ts k) (ev ts x) clock es) (mclock (ev ts k) es clock)), ssetL g l id (.map (mput (ev ts k) (ev ts x) clock es) (mclock (ev ts k) es clock)))
    else none
   | _ => none
  | _, _ => none
 | .call c =>
  match c.callee, c.args.toList.map (ev ts), c.argTypes.toList with
  | .builtin .delete, [.mp id, k], t :: _ =>
   match (T t).desc, sget g l id with
   | .map kt et, some (.map es clock) =>
    if (T t).ok && (T kt).ok then some (ksOK T g l (T kt).desc k es, .tup [], ssetG g id (.map (mdel k es) clock), ssetL g l id (.map (mdel k es) clock)) else none
   | _, _ => none
  | _, _, _ => none
 | .range t x =>
  match (T t).desc, ev ts x with
  | .map _ _, .mp id =>
   match sget g l id with
   | some (.map _ clock) => if (T t).ok then some (True, .ref (g.length + l.length) 0 0, g, l ++ [.iter (some id) clock [] clock]) else none
   | _ => none
  | _, _ => none
 | .entry i =>
  match ev ts i with
  | .ref id 0 0 =>
   match sget g l id with
   | some (.iter (some m) since seen last) =>
    match sget g l m, seen.getLast? with
    | some (.map es clock), some b =>
     match es.find? (fun e => e.2.2 == b) with
     | some e => condR g l (clock = last) (.tup [e.1, e.2.1])
     | none => none
    | _, _ => none
   | _ => none
  | _ => none
 | _ => none
def isConst : Operand → Bool
 | .const _ => true
 | _ => false
def aDet (T : Nat → TI) (rows : List Nat) (o : Oper) (ts : Ts) (g l : List Ent) : Out :=
 match o.op with
 | .move x | .assign x => pureR g l (ev ts x)
 | .pick c a b =>
  match ev ts c with
  | .v (.bool true) => pureR g l (ev ts a)
  | .v (.bool false) => pureR g l (ev ts b)
  | _ => none
 | .alloc t => if (T t).ok && (T t).zero.cells.all (·.isCell) then some (True, .ref (g.length + l.length) 0 0, g, l ++ [.arr t (T t).zero.cells 0 0]) else none
 | .box t x => if (ev ts x).cells.all (·.isCell) then some (True, .ref (g.length + l.length) 0 0, g, l ++ [.arr t (ev ts x).cells 0 0]) else none
 | .build t parts =>
  if (T t).ok && (T t).zero.isAgg && !(T t).flds.isEmpty then
   match fill T (T t).flds ts (T t).zero.cells parts.toList with
   | some cells => pureR g l (.agg cells)
   | none => none
  else if (T t).ok && (T t).zero.isAgg && isArrD (T t).desc && (T (arrE (T t).desc)).ok then
   match fillA (T (arrE (T t).desc)).size ts (T t).zero.cells parts.toList with
   | some cells => pureR g l (.agg cells)
   | none => none
  else none
 | .buildSlice t n parts =>
  let e := T (T t).elem
  if (T t).ok && isSliceD (T t).desc && e.ok && decide (0 < e.size) && decide (n ≤ 4096) && decide (e.size ≤ 4096) && decide (parts.size = n) then
   match lits ts e.size e.isAgg 0 parts.toList with
   | some es =>
    if rows.contains (o.dst.getD 0) then some (True, .rsl (g.length + l.length) 0 0 n e.size, g, l ++ [.arr (T t).elem (es.flatMap AV.cells) 0 0])
    else pureR g l (.sl es)
   | none => none
  else none
 | .load t a =>
  match ev ts a with
  | .ref id ver off =>
   match sget g l id with
   | some (.arr _ cells ver' _) =>
    if (T t).ok then
     if (T t).isAgg then condR g l (ver = ver' ∧ off + (T t).size ≤ cells.length) (.agg ((cells.drop off).take (T t).size))
     else
      match cells[off]? with
      | some c => condR g l (ver = ver') c
      | none => none
    else none
   | _ => none
  | .iptr cells =>
   if (T t).ok then
    if (T t).isAgg then condR g l ((T t).size ≤ cells.length) (.agg (cells.take (T t).size))
    else
     match cells with
     | c :: _ => pureR g l c
     | [] => none
   else none
  | _ => none
 | .store t a x =>
  match ev ts a with
  | .ref id ver off =>
   match sget g l id with
   | some (.arr ty cells ver' imm) =>
    if (T t).ok && (ev ts x).cells.all (·.isCell) then
     some (ver = ver' ∧ imm ≤ off ∧ (ev ts x).cells.length = (T t).size ∧ off + (T t).size ≤ cells.length, .v undef,
      ssetG g id (.arr ty (setRange cells off (ev ts x).cells) ver' imm), ssetL g l id (.arr ty (setRange cells off (ev ts x).cells) ver' imm))
    else none
   | _ => none
  | _ => none
 | .binOp op t x y _ =>
  match abin ((T t).ok && isBoolD (T t).desc) op (ev ts x) (ev ts y) with
  | some (p, r) => condR g l p r
  | none =>
   if (T t).ok && (isConst x || isConst y || !isIfaceD (T t).desc) then
    match aeq T g l (T t).desc (ev ts x) (ev ts y), op with
    | some (p, b), .eql => condR g l p (boolV b)
    | some (p, b), .neq => condR g l p (boolV (!b))
    | _, _ => none
   else none
 | .unOp op _ x =>
  match aun op (ev ts x) with
  | some r => pureR g l r
  | none => none
 | .convert src dst x =>
  if (T src).ok && (T dst).ok then
   match (T src).desc, (T dst).desc, ev ts x with
   | .string, .slice e, .str s => if (T e).ok && isByteD (T e).desc then pureR g l (.sl (s.map byteAV)) else none
   | sd, dd, y => aconv T g l sd dd y
  else none
 | .makeInterface t x => if (T t).ok && !isIfaceD (T t).desc then pureR g l (.ifc t (ev ts x)) else none
 | .makeSlice t x y =>
  if (T t).ok && isSliceD (T t).desc && (T (T t).elem).ok && !(T (T t).elem).isAgg && (T (T t).elem).zero.isCell then
   match ev ts x, ev ts y with
   | .v (.int _ n), .v (.int _ c) => some (0 ≤ n ∧ n ≤ c ∧ c ≤ maxRoom ∧ ((T (T t).elem).bytes : Int) * c ≤ maxRoom, .rsl (g.length + l.length) 0 0 n.toNat 1, g, l ++ [.arr (T t).elem (List.replicate n.toNat (T (T t).elem).zero) 0 0])
   | _, _ => none
  else none
 | .slice t x lo hi none =>
  if (T t).ok && isStringD (T t).desc then asliceS g l (ev ts x) (lo.map (ev ts)) (hi.map (ev ts))
  else if (T t).ok && isSliceD (T t).desc && (T (T t).elem).ok then asliceL (T (T t).elem) g l (ev ts x) (lo.map (ev ts)) (hi.map (ev ts))
  else none
 | .fieldAddr t x f =>
  if (T t).ok then
   match (T t).flds[f]?, ev ts x with
   | some (off, _, _), .ref id ver o => pureR g l (.ref id ver (o + off))
   | some (off, _, _), .iptr cells => pureR g l (.iptr (cells.drop off))
   | _, _ => none
  else none
 | .field t x f =>
  if (T t).ok then
   match (T t).flds[f]?, ev ts x with
   | some (off, sz, true), .agg cs => condR g l (off + sz ≤ cs.length) (.agg ((cs.drop off).take sz))
   | some (off, _, false), .agg cs =>
    match cs[off]? with
    | some c => pureR g l c
    | none => none
   | _, _ => none
  else none
 | .indexAddr t x i =>
  if (T t).ok && (T (T t).elem).ok && isSliceD (T t).desc then
   match ev ts x, ev ts i with
   | .sl es, .v (.int _ n) => condR g l (0 ≤ n ∧ n < es.length ∧ isEl (T (T t).elem).size (T (T t).elem).isAgg (es.getD n.toNat .un) = true) (.iptr (es.getD n.toNat .un).cells)
   | .rsl id ver off m sz, .v (.int _ n) => condR g l (0 ≤ n ∧ n < m ∧ sz = (T (T t).elem).size) (.ref id ver (off + n.toNat * sz))
   | _, _ => none
  else
   match (T t).desc with
   | .array m e =>
    if (T t).ok && (T e).ok then
     match ev ts x, ev ts i with
     | .ref id ver off, .v (.int _ n) => condR g l (0 ≤ n ∧ n < m) (.ref id ver (off + n.toNat * (T e).size))
     | _, _ => none
    else none
   | _ => none
 | .index t x i =>
  if (T t).ok && isStringD (T t).desc then
   match ev ts x, ev ts i with
   | .str s, .v (.int _ n) => condR g l (0 ≤ n ∧ n < s.length) (intV .u8 (s.getD n.toNat 0).toNat)
   | _, _ => none
  else none
 | .extract x i =>
  match ev ts x with
  | .tup cs =>
   match cs[i]? with
   | some c => pureR g l c
   | none => none
  | _ => none
 | .makeFunc (.func f) first captured => pureR g l (.fn f (first.toList.map (ev ts)) (captured.toList.map (ev ts)))
 | .nilCheck x =>
  match ev ts x with
  | .ref a b c => pureR g l (.ref a b c)
  | .iptr cs => pureR g l (.iptr cs)
  | .fn f a b => pureR g l (.fn f a b)
  | _ => none
 | .call c =>
  match c.callee with
  | .builtin .len =>
   match c.args[0]?, c.argTypes[0]? with
   | some x, some t => if (T t).ok then (alen (T t).desc (ev ts x)).bind fun n => pureR g l (intV .i64 n) else none
   | _, _ => none
  | .builtin .append =>
   match c.args[0]?, c.args[1]?, c.argTypes[0]? with
   | some s, some x, some t => if (T t).ok && (T (T t).elem).ok && decide (0 < (T (T t).elem).size) && ((c.argTypes[1]?).any fun u => (T u).ok && (isSliceD (T u).desc || isStringD (T u).desc)) && decide (c.args.size = 2) && decide (c.argTypes.size = 2) && isSliceD (T t).desc then aappend T t g l (ev ts s) (ev ts x) else none
   | _, _, _ => none
  | .builtin .unsafeSliceData =>
   match c.args.toList.map (ev ts) with
   | [.v (.slice none 0 0)] => pureR g l (.v (.pointer none))
   | [.rsl id ver off n _] =>
    match sget g l id with
    | some en => condR g l (ver = en.ver ∧ 0 < n) (.ref id ver off)
    | _ => none
   | _ => none
  | .builtin .unsafeString =>
   match c.args.toList.map (ev ts), c.argTypes.toList with
   | [.v (.pointer none), .v (.int .i64 0)], [_, _] => pureR g l (.str [])
   | [.ref id ver off, .v (.int .i64 n)], [pt, _] =>
    match sget g l id, (T pt).desc with
    | some (.arr ty cells ver' imm), .pointer e =>
     if (T pt).ok && (T e).ok && decide ((T e).size = 1) then
      match avBytes (cells.take n.toNat) with
      | some b => some (ver = ver' ∧ ty = e ∧ off = 0 ∧ 0 < n ∧ n ≤ cells.length ∧ n ≤ maxRoom, .str b,
        ssetG g id (.arr ty cells ver' (max imm n.toNat)), ssetL g l id (.arr ty cells ver' (max imm n.toNat)))
      | none => none
     else none
    | _, _ => none
   | _, _ => none
  | .builtin .copy =>
   match c.args.toList.map (ev ts), c.argTypes.toList with
   | [.rsl id ver off n sz, .sl es], [dT, _] =>
    match sget g l id with
    | some (.arr ty cells ver' imm) =>
     if (T dT).ok && isSliceD (T dT).desc && (T (T dT).elem).ok && decide ((T (T dT).elem).size = 1) then
      some (ver = ver' ∧ sz = 1 ∧ imm ≤ off ∧ off + n ≤ cells.length ∧ 0 < min n es.length ∧ (∀ x ∈ es, isEl 1 false x = true), intV .i64 ((min n es.length : Nat) : Int),
       ssetG g id (.arr ty (setRange cells off (es.take (min n es.length))) ver' imm), ssetL g l id (.arr ty (setRange cells off (es.take (min n es.length))) ver' imm))
     else none
    | _ => none
   | [.rsl _ _ _ _ _, .v (.slice none 0 0)], [dT, _] => if (T dT).ok && isSliceD (T dT).desc && (T (T dT).elem).ok then pureR g l (intV .i64 0) else none
   | _, _ => none
  | .builtin .cap =>
   match c.args.toList.map (ev ts), c.argTypes.toList with
   | [.v (.slice none 0 0)], [t] => if (T t).ok && isSliceD (T t).desc then pureR g l (intV .i64 0) else none
   | _, _ => none
  | .builtin .clear =>
   match c.args.toList.map (ev ts), c.argTypes.toList with
   | [.rsl id ver off n sz], [t] =>
    match sget g l id with
    | some (.arr ty cells ver' imm) =>
     if (T t).ok && isSliceD (T t).desc && (T (T t).elem).ok && !(T (T t).elem).isAgg && (T (T t).elem).zero.isCell then
      some (ver = ver' ∧ sz = 1 ∧ imm ≤ off ∧ off + n ≤ cells.length, .v undef,
       ssetG g id (.arr ty (setRange cells off (List.replicate n (T (T t).elem).zero)) ver' imm), ssetL g l id (.arr ty (setRange cells off (List.replicate n (T (T t).elem).zero)) ver' imm))
     else none
    | _ => none
   | _, _ => none
  | .builtin .max =>
   match c.args.toList.map (ev ts) with
   | [.v (.int k a), .v (.int _ b)] => pureR g l (intV k (max a b))
   | _ => none
  | .builtin .min =>
   match c.args.toList.map (ev ts) with
   | [.v (.int k a), .v (.int _ b)] => pureR g l (intV k (min a b))
   | _ => none
  | _ => aMap T o ts g l
 | _ => aMap T o ts g l
end Go.Vm
namespace Go.Vm
open Go.RowKit
structure Env where
 P : Program
 Γ : Nat → World → Prop
 stable : ∀ B w w', Below B w w' → Γ B w → Γ B w'
def HasBody (E : Env) (f : FuncId) : Prop := ∃ fn, E.P.funcs[f]? = some fn ∧ fn.body.isSome = true ∧ (fn.name == "runtime.NumGoroutine") = false
def ACalls (E : Env) (f : FuncId) (args : List AV) (σ : List Ent) (R : AV → List Ent → Prop) : Prop :=
 (HasBody E f ∧ ∀ (s : S) (vs : List Value), s.σ = σ → HInv s → E.Γ s.B s.w → RepL s args vs →
  Calls E.P f vs.toArray s.w fun e w' => ∃ v r s', e = .returned v ∧ s'.w = w' ∧ HInv s' ∧ Ext s s' ∧ Rep s' r v ∧ R r s'.σ) ∨
 (∀ (s : S) (vs : List Value), s.σ = σ → HInv s → E.Γ s.B s.w → RepL s args vs →
  ∃ v r s', (callFunc f vs.toArray).run E.P s.w = .ok (.value v) s'.w ∧ HInv s' ∧ Ext s s' ∧ Rep s' r v ∧ R r s'.σ)
theorem ACalls.mono {E : Env} {f : FuncId} {args : List AV} {σ : List Ent} {R R' : AV → List Ent → Prop} (h : ACalls E f args σ R) (hr : ∀ r τ, R r τ → R' r τ) : ACalls E f args σ R' := by
 rcases h with h | h
 ·exact .inl ⟨h.1, fun s vs h1 h2 h3 h4 => (h.2 s vs h1 h2 h3 h4).mono fun _ _ ⟨v, r, s', a, b, c, d, e, g⟩ => ⟨v, r, s', a, b, c, d, e, hr _ _ g⟩⟩
 ·exact .inr fun s vs h1 h2 h3 h4 => let ⟨v, r, s', a, b, c, d, e⟩ := h s vs h1 h2 h3 h4; ⟨v, r, s', a, b, c, d, hr _ _ e⟩
theorem ACalls.go {E : Env} {f : FuncId} {args : List AV} {σ : List Ent} {r : AV} {τ : List Ent} {R : AV → List Ent → Prop} (h : ACalls E f args σ fun r' τ' => r' = r ∧ τ' = τ) (hr : R r τ) : ACalls E f args σ R :=
 h.mono fun r' τ' ⟨h1, h2⟩ => by rw [h1, h2]; exact hr
def TsRep (s : S) (ts : Ts) (a : Act) : Prop := ∀ i, Rep s (tget ts i) (a.tmps.getD i undef)
def AWp (E : Env) (n : Nat) (c : Code) (Q : Exit → Ts → List Ent → List Ent → Prop) (ts : Ts) (g l : List Ent) : Prop :=
 ∀ (s : S) (a : Act) (D : List Deferred), s.σ = g ++ l → HInv s → E.Γ s.B s.w → TsRep s ts a → a.tmps.size = n → a.defers = D →
  c.wp E.P (fun e a' w' => ∃ ts' g' l' s', s'.w = w' ∧ s'.σ = g' ++ l' ∧ g'.length = g.length ∧ HInv s' ∧ Ext s s' ∧ TsRep s' ts' a' ∧ a'.tmps.size = n ∧ a'.defers = D ∧ Q e ts' g' l') a s.w
def gslot (all : Array Oper) (j : Nat) : Option Nat := (all[j]?).bind (·.dst)
def Meth (P : Program) (t : TypeId) (m : String) (f : FuncId) : Prop := ∀ (v : Value) (w : World), (method (P.types.size + Made.depth) t v m).run P w = .ok (f, v) w
def aNxt (i : AV) (g l : List Ent) (K : AV → List Ent → List Ent → Prop) : Prop :=
 match i with
 | .ref id 0 0 =>
  match sget g l id with
  | some (.iter (some m) since seen last) =>
   match sget g l m with
   | some (.map es clock) =>
    (∀ e ∈ es, e.2.2 < since) ∧ since ≤ last ∧ ((∀ e ∈ es, e.2.2 ∈ seen) → K (.tup [boolV false]) g l) ∧
     ∀ e ∈ es, e.2.2 ∉ seen → K (.tup [boolV true, e.1, e.2.1]) (ssetG g id (.iter (some m) since (seen ++ [e.2.2]) clock)) (ssetL g l id (.iter (some m) since (seen ++ [e.2.2]) clock))
   | _ => False
  | _ => False
 | _ => False
def aOne (E : Env) (T : Nat → TI) (rows : List Nat) (o : Oper) (ts : Ts) (g l : List Ent) (K : AV → List Ent → List Ent → Prop) : Prop :=
 match o.op with
 | .call { callee := .value f, args := as, argTypes := _ } =>
  match ev ts f with
  | .fn fid first cap => ACalls E fid (first ++ as.toList.map (ev ts) ++ cap) (g ++ l) (fun r τ => K r (τ.take g.length) (τ.drop g.length))
  | _ => False
 | .call { callee := .invoke r m, args := as, argTypes := _ } =>
  match ev ts r with
  | .ifc t x => ∃ f, Meth E.P t m f ∧ ACalls E f (x :: as.toList.map (ev ts)) (g ++ l) (fun r τ => K r (τ.take g.length) (τ.drop g.length))
  | _ => False
 | .next i false => aNxt (ev ts i) g l K
 | _ =>
  match aDet T rows o ts g l with
  | some (p, r, g', l') => p ∧ K r g' l'
  | none => False
def aOps (E : Env) (T : Nat → TI) (rows : List Nat) (all : Array Oper) : List Oper → Ts → List Ent → List Ent → (Ts → List Ent → List Ent → Prop) → Prop
 | [], ts, g, l, K => K ts g l
 | o :: rest, ts, g, l, K =>
  match o.guard with
  | none => aOne E T rows o ts g l fun r g l => aOps E T rows all rest (tput ts o.dst r) g l K
  | some (j, want) =>
   match gslot all j with
   | none => False
   | some d =>
    match tget ts d with
    | .v (.bool b) =>
     if b = want then aOne E T rows o ((d, boolV want) :: ts) g l fun r g l => aOps E T rows all rest (tput ((d, boolV want) :: ts) o.dst r) g l K
     else aOps E T rows all rest (tput ((d, boolV (!want)) :: ts) o.dst (.v undef)) g l K
    | .v (.tuple _) => aOps E T rows all rest (tput ts o.dst (.v undef)) g l K
    | _ => False
def thenQ (K : Ts → List Ent → List Ent → Prop) (Q : Exit → Ts → List Ent → List Ent → Prop) : Exit → Ts → List Ent → List Ent → Prop
 | .normal, ts, g, l => K ts g l
 | e, ts, g, l => Q e ts g l
def blockQ (id : Nat) (Q : Exit → Ts → List Ent → List Ent → Prop) : Exit → Ts → List Ent → List Ent → Prop
 | .exit id', ts, g, l => if id' = id then Q .normal ts g l else Q (.exit id') ts g l
 | e, ts, g, l => Q e ts g l
def aCode (E : Env) (n : Nat) (T : Nat → TI) (rows : List Nat) : Code → (Exit → Ts → List Ent → List Ent → Prop) → Ts → List Ent → List Ent → Prop
 | .skip, Q, ts, g, l => Q .normal ts g l
 | .region id ops true, Q, ts, g, l => AWp E n (.region id ops true) Q ts g l
 | .region _ ops false, Q, ts, g, l => aOps E T rows ops ops.toList ts g l (Q .normal)
 | .seq a b, Q, ts, g, l => aCode E n T rows a (thenQ (aCode E n T rows b Q) Q) ts g l
 | .cond c x y, Q, ts, g, l =>
  match ev ts c with
  | .v (.bool b) => if b = true then aCode E n T rows x Q ts g l else aCode E n T rows y Q ts g l
  | _ => False
 | .block id b, Q, ts, g, l => aCode E n T rows b (blockQ id Q) ts g l
 | .loop b, Q, ts, g, l => AWp E n (.loop b) Q ts g l
 | .exit id, Q, ts, g, l => Q (.exit id) ts g l
 | .ret, Q, ts, g, l => Q .ret ts g l
 | _, _, _, _, _ => False
@[congr] theorem ACalls_congr {E : Env} {f : FuncId} {args args' : List AV} {σ σ' : List Ent} {R : AV → List Ent → Prop} (h : args = args') (h2 : σ = σ') : ACalls E f args σ R = ACalls E f args' σ' R := by rw [h, h2]
@[congr] theorem AWp_congr {E : Env} {n : Nat} {c : Code} {Q : Exit → Ts → List Ent → List Ent → Prop} {ts ts' : Ts} {g g' l l' : List Ent} (h : ts = ts') (h2 : g = g') (h3 : l = l') : AWp E n c Q ts g l = AWp E n c Q ts' g' l' := by rw [h, h2, h3]
@[congr] theorem aOne_congr {E : Env} {T : Nat → TI} {rows : List Nat} {o : Oper} {ts ts' : Ts} {g g' l l' : List Ent} {K : AV → List Ent → List Ent → Prop} (h : ts = ts') (h2 : g = g') (h3 : l = l') :
  aOne E T rows o ts g l K = aOne E T rows o ts' g' l' K := by rw [h, h2, h3]
@[congr] theorem aOps_congr {E : Env} {T : Nat → TI} {rows : List Nat} {all : Array Oper} {ops : List Oper} {ts ts' : Ts} {g g' l l' : List Ent} {K : Ts → List Ent → List Ent → Prop} (h : ts = ts') (h2 : g = g') (h3 : l = l') :
  aOps E T rows all ops ts g l K = aOps E T rows all ops ts' g' l' K := by rw [h, h2, h3]
@[congr] theorem aCode_congr {E : Env} {n : Nat} {T : Nat → TI} {rows : List Nat} {c : Code} {Q : Exit → Ts → List Ent → List Ent → Prop} {ts ts' : Ts} {g g' l l' : List Ent} (h : ts = ts') (h2 : g = g') (h3 : l = l') :
  aCode E n T rows c Q ts g l = aCode E n T rows c Q ts' g' l' := by rw [h, h2, h3]
end Go.Vm
set_option linter.unusedSimpArgs false
namespace Go.Vm
open Go.RowKit
def zcell : AV → Value → Bool
 | .v (.bool a), .bool b => a == b
 | .v (.int k n), .int k' m => decide (k = k') && decide (n = m)
 | .str l, .string s => decide (l = s.data.toList)
 | .v (.pointer none), .pointer none => true
 | .v (.slice none 0 0), .slice none 0 0 => true
 | .v (.map none), .map none => true
 | .v .nilFunc, .nilFunc => true
 | .v .nilIface, .nilIface => true
 | _, _ => false
def zcells : List AV → List Value → Bool
 | [], [] => true
 | a :: r, x :: q => zcell a x && zcells r q
 | _, _ => false
def zval : AV → Value → Bool
 | .agg cs, .agg vs => zcells cs vs.toList
 | a, x => zcell a x
theorem zcell_rep (s : S) {a : AV} {x : Value} (h : zcell a x = true) : Rep s a x := by
 unfold zcell at h
 split at h <;> first
  | (simp at h; done)
  | (unfold Rep; simp_all; done)
  | (unfold Rep; simp only [decide_eq_true_eq] at h; rw [h])
theorem zcells_rep (s : S) : ∀ {l : List AV} {m : List Value}, zcells l m = true → RepL s l m
 | [], [], _ => by unfold RepL; rfl
 | a :: r, x :: q, h => by
  simp only [zcells, Bool.and_eq_true] at h
  unfold RepL
  exact ⟨x, q, rfl, zcell_rep s h.1, zcells_rep s h.2⟩
 | [], _ :: _, h => by simp [zcells] at h
 | _ :: _, [], h => by simp [zcells] at h
theorem zval_rep (s : S) {a : AV} {x : Value} (h : zval a x = true) : Rep s a x := by
 unfold zval at h
 split at h
 ·unfold Rep; exact ⟨_, rfl, zcells_rep s h⟩
 ·exact zcell_rep s h
def aggD : TypeDesc → Bool
 | .struct _ => true
 | .array _ _ => true
 | _ => false
structure TyOK (P : Program) (t : Nat) (i : TI) : Prop where
 und : P.underlying t = some i.desc
 info : ∃ inf z, P.info? t = some inf ∧ inf.size = i.size ∧ inf.bytes = i.bytes ∧ inf.zero = some z ∧ zval i.zero z = true
 agg : i.isAgg = aggD i.desc
 flds : ∀ fs, i.desc = .struct fs → ∃ l : List (Nat × Nat × Bool), i.flds = l ∧ l.length = fs.size ∧ ∀ (j : Nat) off sz ag, l[j]? = some (off, sz, ag) →
  ∃ f inf d, fs[j]? = some f ∧ f.offset = off ∧ P.info? f.type = some inf ∧ inf.size = sz ∧ P.underlying f.type = some d ∧ ag = aggD d ∧ 0 < sz ∧ (ag = false → sz = 1)
 noflds : (∀ fs, i.desc ≠ .struct fs) → i.flds = []
 elem : ∀ e, i.desc = .slice e → i.elem = e
 one : i.isAgg = false → i.size = 1
 zsize : i.zero.cells.length = i.size
 zcell : i.zero.cells.all (·.isCell) = true
def TabOK (P : Program) (T : Nat → TI) : Prop := ∀ t, (T t).ok = true → TyOK P t (T t)
theorem ofC1_rep (s : S) (x : Value) : Rep s (ofC1 x) x := by
 unfold ofC1
 split <;> (unfold Rep; rfl)
theorem map_ofC1_rep (s : S) : ∀ l : List Value, RepL s (l.map ofC1) l
 | [] => by simp only [List.map_nil]; unfold RepL; rfl
 | x :: r => by simp only [List.map_cons]; unfold RepL; exact ⟨x, r, rfl, ofC1_rep s x, map_ofC1_rep s r⟩
theorem ofC_rep (s : S) (x : Value) : Rep s (ofC x) x := by
 unfold ofC
 split
 ·unfold Rep; exact ⟨_, rfl, map_ofC1_rep s _⟩
 ·unfold Rep; rfl
 ·unfold Rep; rfl
theorem ev_rep {s : S} {ts : Ts} {a : Act} (h : TsRep s ts a) (x : Operand) : Rep s (ev ts x) (a.eval x) := by
 cases x with
 | tmp t => exact h t
 | const v => exact ofC_rep s v
 | global g => simp only [ev]; unfold Rep; trivial
 | func f =>
  simp only [ev, Act.eval]
  unfold Rep
  exact ⟨#[], #[], rfl, by unfold RepL; rfl, by unfold RepL; rfl⟩
theorem evs_rep {s : S} {ts : Ts} {a : Act} (h : TsRep s ts a) : ∀ l : List Operand, RepL s (l.map (ev ts)) (l.map a.eval)
 | [] => by simp only [List.map_nil]; unfold RepL; rfl
 | x :: r => by simp only [List.map_cons]; unfold RepL; exact ⟨_, _, rfl, ev_rep h x, evs_rep h r⟩
theorem RepL.length {s : S} : ∀ {l : List AV} {m : List Value}, RepL s l m → m.length = l.length
 | [], m, h => by unfold RepL at h; subst h; rfl
 | _ :: _, m, h => by unfold RepL at h; obtain ⟨v, vs, rfl, _, h2⟩ := h; simp [RepL.length h2]
theorem RepL.get {s : S} : ∀ {l : List AV} {m : List Value}, RepL s l m → ∀ {i : Nat} {c : AV}, l[i]? = some c → ∃ y, m[i]? = some y ∧ Rep s c y
 | [], _, _, i, c, hi => by simp at hi
 | x :: l, m, h, i, c, hi => by
  unfold RepL at h
  obtain ⟨v, vs, rfl, h1, h2⟩ := h
  cases i with
  | zero => simp at hi; subst hi; exact ⟨v, rfl, h1⟩
  | succ i => simp at hi; simpa using RepL.get h2 hi
theorem RepL.mk {s : S} : ∀ {l : List AV} {m : List Value}, m.length = l.length → (∀ (i : Nat) c y, l[i]? = some c → m[i]? = some y → Rep s c y) → RepL s l m
 | [], m, h, _ => by unfold RepL; simpa using h
 | x :: l, [], h, _ => by simp at h
 | x :: l, y :: m, h, hh => by
  unfold RepL
  exact ⟨y, m, rfl, hh 0 x y rfl rfl, RepL.mk (by simpa using h) fun i c z h1 h2 => hh (i + 1) c z (by simpa using h1) (by simpa using h2)⟩
theorem RepL.append {s : S} : ∀ {l : List AV} {m : List Value} {l' : List AV} {m' : List Value}, RepL s l m → RepL s l' m' → RepL s (l ++ l') (m ++ m')
 | [], m, l', m', h, h' => by unfold RepL at h; subst h; exact h'
 | x :: l, m, l', m', h, h' => by
  unfold RepL at h
  obtain ⟨v, vs, rfl, h1, h2⟩ := h
  simp only [List.cons_append]
  unfold RepL
  exact ⟨v, vs ++ m', rfl, h1, RepL.append h2 h'⟩
def StepOK (E : Env) (o : Oper) (s : S) (a : Act) (g : List Ent) (r : AV) (g' l' : List Ent) : Prop :=
 ∃ nx v s', (execOp a.eval o).run E.P s.w = .ok nx s'.w ∧ (nx = .value v ∨ (nx = .skip ∧ v = undef)) ∧ s'.σ = g' ++ l' ∧ g'.length = g.length ∧
  s'.B = s.B ∧ HInv s' ∧ Ext s s' ∧ Rep s' r v
theorem StepOK.pure {E : Env} {o : Oper} {s : S} {a : Act} {g l : List Ent} {r : AV} {v : Value} (hs : s.σ = g ++ l) (hI : HInv s)
  (hrun : (execOp a.eval o).run E.P s.w = .ok (.value v) s.w) (hr : Rep s r v) : StepOK E o s a g r g l :=
 ⟨_, v, s, hrun, .inl rfl, hs, rfl, rfl, hI, Ext.refl s, hr⟩
theorem run_v {E : Env} {x : Sem Value} {w w' : World} {v : Value} (h : x.run E.P w = .ok v w') : (do pure (Next.value (← x)) : Sem Next).run E.P w = .ok (.value v) w' := by
 simp [h]
theorem bnd_some {s : S} {ts : Ts} {a : Act} (h : TsRep s ts a) {x : Operand} {d n : Int} (hb : bnd d (some (ev ts x)) = some n) : ∃ k, a.eval x = .int k n := by
 have := ev_rep h x
 unfold bnd at hb
 split at hb
 ·rename_i hh; cases hh
 ·rename_i k m hh
  cases hb
  injection hh with hh
  rw [hh] at this
  unfold Rep at this
  exact ⟨_, this⟩
 ·cases hb
theorem bytesLess_asymm_total : ∀ a b : List UInt8, Op.bytesLess b a = !(Op.bytesLess a b || a == b)
 | [], [] => rfl
 | [], _ :: _ => by simp [Op.bytesLess]
 | _ :: _, [] => by simp [Op.bytesLess]
 | x :: r, y :: q => by
  have ih := bytesLess_asymm_total r q
  simp only [Op.bytesLess, ih]
  rcases Nat.lt_trichotomy x.toNat y.toNat with h | h | h
  ·have h1 : x < y := h
   have h2 : ¬ y < x := by simp only [UInt8.lt_iff_toNat_lt]; omega
   have h3 : (y == x) = false := by simp; intro e; subst e; omega
   simp [h1, h2, h3]
  ·have h0 : x = y := UInt8.toNat_inj.1 h
   subst h0
   have h2 : ¬ x < x := by simp only [UInt8.lt_iff_toNat_lt]; omega
   simp [h2]
  ·have h1 : y < x := h
   have h2 : ¬ x < y := by simp only [UInt8.lt_iff_toNat_lt]; omega
   have h3 : (x == y) = false := by simp; intro e; subst e; omega
   simp [h1, h2, h3]
theorem str_eq (a b : List UInt8) : ((ByteArray.mk ⟨a⟩).toList == (ByteArray.mk ⟨b⟩).toList) = decide (a = b) := by
 have h : ∀ l : List UInt8, (ByteArray.mk ⟨l⟩).toList = l := fun l => by simp
 rw [h, h]
 by_cases hab : a = b <;> simp [hab]
theorem bin_sound {E : Env} {w : World} {isBool : Bool} {op : BinOp} {t : TypeId} {x y : AV} {u v : Value} (px py : Operand) {s : S} {p : Prop} {r : AV} (hB : isBool = true → E.P.underlying t = some .bool) (h : abin isBool op x y = some (p, r)) (hp : p)
  (hx : Rep s x u) (hy : Rep s y v) : ∃ z, (do eqGuard op t px py u v; binOp op t u v : Sem Value).run E.P w = .ok z w ∧ Rep s r z := by
 unfold abin at h
 split at h
 ·rename_i k a k' b
  unfold Rep at hx hy
  subst hx hy
  cases op <;> simp only [Option.some.injEq, Prod.mk.injEq, reduceCtorEq] at h <;> obtain ⟨rfl, rfl⟩ := h
  case quo => obtain ⟨rfl, hb⟩ := hp; exact ⟨.int k (k.wrap (a.tdiv b)), by simp [eqGuard, binOp, Op.intDiv, hb], by simp only [intV]; unfold Rep; rfl⟩
  case rem => obtain ⟨rfl, hb⟩ := hp; exact ⟨.int k (a.tmod b), by simp [eqGuard, binOp, Op.intDiv, hb], by simp only [intV]; unfold Rep; rfl⟩
  all_goals subst hp
  case add => exact ⟨.int k (k.wrap (a + b)), by simp [eqGuard, binOp, Op.intArith], by simp only [intV]; unfold Rep; rfl⟩
  case sub => exact ⟨.int k (k.wrap (a - b)), by simp [eqGuard, binOp, Op.intArith], by simp only [intV]; unfold Rep; rfl⟩
  case mul => exact ⟨.int k (k.wrap (a * b)), by simp [eqGuard, binOp, Op.intArith], by simp only [intV]; unfold Rep; rfl⟩
  case eql => exact ⟨.bool (decide (a = b)), by simp [eqGuard, binOp, Op.intCmp, BEq.beq], by simp only [boolV]; unfold Rep; rfl⟩
  case neq => exact ⟨.bool (!decide (a = b)), by simp [eqGuard, binOp, Op.intCmp, bne, BEq.beq], by simp only [boolV]; unfold Rep; rfl⟩
  case lss => exact ⟨.bool (decide (a < b)), by simp [eqGuard, binOp, Op.intCmp], by simp only [boolV]; unfold Rep; rfl⟩
  case leq => exact ⟨.bool (decide (a ≤ b)), by simp [eqGuard, binOp, Op.intCmp], by simp only [boolV]; unfold Rep; rfl⟩
  case gtr => exact ⟨.bool (decide (b < a)), by simp [eqGuard, binOp, Op.intCmp], by simp only [boolV]; unfold Rep; rfl⟩
  case geq => exact ⟨.bool (decide (b ≤ a)), by simp [eqGuard, binOp, Op.intCmp], by simp only [boolV]; unfold Rep; rfl⟩
 ·rename_i a b
  unfold Rep at hx hy
  subst hx hy
  cases op <;> simp only [Option.some.injEq, Prod.mk.injEq, reduceCtorEq] at h <;> obtain ⟨rfl, rfl⟩ := h
  case add =>
   have hp' : ¬ (9223372036854775807 < ((a.length : Int) + (b.length : Int))) := by omega
   refine ⟨.string ⟨⟨a ++ b⟩⟩, ?_, by unfold Rep; rfl⟩
   simp [eqGuard, binOp, Op.stringOp, ByteArray.size, hp']
   apply ByteArray.ext
   simp
  case eql => exact ⟨.bool (decide (a = b)), by simp only [eqGuard, binOp, Op.stringOp, str_eq]; simp, by simp only [boolV]; unfold Rep; rfl⟩
  case neq => exact ⟨.bool (!decide (a = b)), by simp only [eqGuard, binOp, Op.stringOp, str_eq]; simp, by simp only [boolV]; unfold Rep; rfl⟩
  case lss => exact ⟨.bool (Op.bytesLess a b), by simp [eqGuard, binOp, Op.stringOp], by simp only [boolV]; unfold Rep; rfl⟩
  case geq => exact ⟨.bool (!Op.bytesLess a b), by simp [eqGuard, binOp, Op.stringOp], by simp only [boolV]; unfold Rep; rfl⟩
  case leq => exact ⟨.bool (!Op.bytesLess b a), by simp [eqGuard, binOp, Op.stringOp, bytesLess_asymm_total a b], by simp only [boolV]; unfold Rep; rfl⟩
  case gtr => exact ⟨.bool (Op.bytesLess b a), by simp [eqGuard, binOp, Op.stringOp, bytesLess_asymm_total a b], by simp only [boolV]; unfold Rep; rfl⟩
 ·rename_i a b
  unfold Rep at hx hy
  subst hx hy
  cases op <;> simp only [Option.some.injEq, Prod.mk.injEq, reduceCtorEq] at h <;> obtain ⟨rfl, rfl⟩ := h
  case eql => exact ⟨.bool (a == b), by simp [eqGuard, run_eql_bool _ t a b (hB hp)], by simp only [boolV]; unfold Rep; rfl⟩
  case neq => exact ⟨.bool (!(a == b)), by simp [eqGuard, run_neq_bool _ t a b (hB hp)], by simp only [boolV]; unfold Rep; rfl⟩
 ·cases h
theorem un_sound {E : Env} {w : World} {op : UnOp} {x : AV} {u : Value} {s : S} {r : AV} (h : aun op x = some r) (hx : Rep s x u) : ∃ z, (Op.unary op u).run E.P w = .ok z w ∧ Rep s r z := by
 unfold aun at h
 split at h
 ·cases h; unfold Rep at hx; subst hx; exact ⟨_, by simp [Op.unary]; rfl, by simp only [boolV]; unfold Rep; rfl⟩
 ·rename_i k n
  cases h; unfold Rep at hx; subst hx; exact ⟨.int k (k.wrap (0 - n)), by simp [Op.unary, Op.intArith], by simp only [intV]; unfold Rep; rfl⟩
 ·cases h
theorem extract_mk (l : List UInt8) (a b : Nat) : (ByteArray.mk ⟨l⟩).extract a b = ⟨⟨(l.drop a).take (b - a)⟩⟩ := by
 apply ByteArray.ext
 apply Array.ext'
 simp [List.extract_eq_take_drop]
theorem LoadsAt.cell {s : S} {k blk off : Nat} {y : Value} (h : LoadsAt s false k blk off y) : k = 1 ∧ s.w.cell? ⟨blk, off, none⟩ = some y ∧ Imm s blk off := by
 unfold LoadsAt at h; simpa using h
theorem LoadsAt.agg {s : S} {k blk off : Nat} {y : Value} (h : LoadsAt s true k blk off y) : ∃ vs : Array Value, y = .agg vs ∧ vs.size = k ∧ ∀ (i : Nat) x, vs[i]? = some x → s.w.cell? ⟨blk, off + i, none⟩ = some x ∧ Imm s blk (off + i) := by
 unfold LoadsAt at h; simpa using h
theorem RepAt.mk {s : S} {blk : Nat} : ∀ {off : Nat} {cs : List AV}, (∀ (j : Nat) c, cs[j]? = some c → ∃ y, s.w.cell? ⟨blk, off + j, none⟩ = some y ∧ Imm s blk (off + j) ∧ Rep s c y) → RepAt s blk off cs
 | _, [], _ => by unfold RepAt; trivial
 | off, c :: cs, h => by
  unfold RepAt
  exact ⟨h 0 c rfl, RepAt.mk fun j d hj => by have := h (j + 1) d (by simpa using hj); rwa [show off + (j + 1) = off + 1 + j by omega] at this⟩
theorem RepAt.get {s : S} {blk : Nat} : ∀ {off : Nat} {cs : List AV}, RepAt s blk off cs → ∀ {j : Nat} {c : AV}, cs[j]? = some c → ∃ y, s.w.cell? ⟨blk, off + j, none⟩ = some y ∧ Imm s blk (off + j) ∧ Rep s c y
 | _, [], _, j, c, hj => by simp at hj
 | off, d :: cs, h, j, c, hj => by
  unfold RepAt at h
  cases j with
  | zero => simp at hj; subst hj; exact h.1
  | succ j => simp at hj; have := RepAt.get h.2 hj; rwa [show off + 1 + j = off + (j + 1) by omega] at this
theorem RepAt.drop {s : S} {blk : Nat} {off n : Nat} {cs : List AV} (h : RepAt s blk off cs) : RepAt s blk (off + n) (cs.drop n) := by
 refine RepAt.mk fun j c hj => ?_
 rw [List.getElem?_drop] at hj
 have := h.get hj
 rwa [show off + (n + j) = off + n + j by omega] at this
theorem RepRow.get {s : S} {k blk : Nat} : ∀ {off : Nat} {es : List AV}, RepRow s k blk off es → ∀ {i : Nat} {e : AV}, es[i]? = some e → ∃ y, LoadsAt s e.isAgg k blk (off + i * k) y ∧ Rep s e y
 | _, [], _, i, e, hi => by simp at hi
 | off, d :: es, h, i, e, hi => by
  unfold RepRow at h
  cases i with
  | zero => simp at hi; subst hi; simpa using h.1
  | succ i =>
   simp at hi
   have := RepRow.get h.2 hi
   rwa [show off + k + i * k = off + (i + 1) * k by rw [Nat.succ_mul]; omega] at this
theorem RepRow.mk {s : S} {k blk : Nat} : ∀ {off : Nat} {es : List AV}, (∀ (i : Nat) e, es[i]? = some e → ∃ y, LoadsAt s e.isAgg k blk (off + i * k) y ∧ Rep s e y) → RepRow s k blk off es
 | _, [], _ => by unfold RepRow; trivial
 | off, d :: es, h => by
  unfold RepRow
  refine ⟨by simpa using h 0 d rfl, RepRow.mk fun i e hi => ?_⟩
  have := h (i + 1) e (by simpa using hi)
  rwa [show off + (i + 1) * k = off + k + i * k by rw [Nat.succ_mul]; omega] at this
theorem LoadsAt.repAt {s : S} {k blk off : Nat} {y : Value} {e : AV} (h : LoadsAt s e.isAgg k blk off y) (hr : Rep s e y) : e.cells.length = k ∧ RepAt s blk off e.cells := by
 cases e with
 | agg cs =>
  obtain ⟨vs, rfl, hk, hh⟩ := LoadsAt.agg h
  unfold Rep at hr
  obtain ⟨vs', h1, h2⟩ := hr
  cases h1
  refine ⟨by have := h2.length; simp only [AV.cells]; rw [← this]; simpa using hk, RepAt.mk fun j c hj => ?_⟩
  obtain ⟨x, h3, h4⟩ := h2.get hj
  have h5 := hh j x (by simpa using h3)
  exact ⟨x, h5.1, h5.2, h4⟩
 | _ =>
  all_goals
   obtain ⟨rfl, h1, h2⟩ := LoadsAt.cell h
   refine ⟨rfl, ?_⟩
   simp only [AV.cells]
   unfold RepAt
   exact ⟨⟨_, h1, h2, hr⟩, by unfold RepAt; trivial⟩
end Go.Vm
namespace Go.Vm
open Go.RowKit
theorem Rep.ptr {s : S} {id ver off : Nat} {y : Value} (h : Rep s (.ref id ver off) y) : ∃ a, y = .pointer (some a) := by
 unfold Rep at h; obtain ⟨_, _, _, _, _, a, rfl, _⟩ := h; exact ⟨a, rfl⟩
section
variable {E : Env} {T : Nat → TI} (hT : TabOK E.P T) {s : S} {a : Act} {ts : Ts} {g l : List Ent} (hs : s.σ = g ++ l) (hI : HInv s) (ht : TsRep s ts a)
include hs hI ht
theorem st_move {o : Oper} {x : Operand} (ho : o.op = .move x) : StepOK E o s a g (ev ts x) g l :=
 .pure hs hI (v := a.eval x) (by simp [execOp, ho]) (ev_rep ht x)
theorem st_assign {o : Oper} {x : Operand} (ho : o.op = .assign x) : StepOK E o s a g (ev ts x) g l :=
 .pure hs hI (v := a.eval x) (by simp [execOp, ho]) (ev_rep ht x)
theorem rep_v {x : Operand} {z : Value} (h : ev ts x = .v z) : a.eval x = z := by
 have := ev_rep ht x
 rw [h] at this
 unfold Rep at this
 exact this
theorem st_pick {o : Oper} {c x y : Operand} (ho : o.op = .pick c x y) {b : Bool} (hc : ev ts c = .v (.bool b)) : StepOK E o s a g (ev ts (if b then x else y)) g l := by
 have h := rep_v hs hI ht hc
 cases b
 ·exact .pure hs hI (v := a.eval y) (by simp [execOp, ho, h, asBool]) (ev_rep ht y)
 ·exact .pure hs hI (v := a.eval x) (by simp [execOp, ho, h, asBool]) (ev_rep ht x)
theorem st_binOp {o : Oper} {op : BinOp} {t tu : TypeId} {x y : Operand} (ho : o.op = .binOp op t x y tu) {p : Prop} {r : AV}
  (hB : ((T t).ok && isBoolD (T t).desc) = true → E.P.underlying t = some .bool)
  (h : abin ((T t).ok && isBoolD (T t).desc) op (ev ts x) (ev ts y) = some (p, r)) (hp : p) : StepOK E o s a g r g l := by
 obtain ⟨z, h1, h2⟩ := bin_sound (E := E) (w := s.w) (t := t) x y hB h hp (ev_rep ht x) (ev_rep ht y)
 exact .pure hs hI (v := z) (by simp only [execOp, ho]; exact run_v (E := E) h1) h2
theorem st_unOp {o : Oper} {op : UnOp} {t : TypeId} {x : Operand} (ho : o.op = .unOp op t x) {r : AV} (h : aun op (ev ts x) = some r) : StepOK E o s a g r g l := by
 obtain ⟨z, h1, h2⟩ := un_sound (E := E) (w := s.w) h (ev_rep ht x)
 exact .pure hs hI (v := z) (by simp only [execOp, ho]; exact run_v (E := E) h1) h2
theorem st_extract {o : Oper} {x : Operand} {i : Nat} (ho : o.op = .extract x i) {cs : List AV} {c : AV} (hx : ev ts x = .tup cs) (hc : cs[i]? = some c) : StepOK E o s a g c g l := by
 have h := ev_rep ht x
 rw [hx] at h
 unfold Rep at h
 obtain ⟨vs, hv, h1⟩ := h
 obtain ⟨y, h2, h3⟩ := h1.get hc
 exact .pure hs hI (v := y) (by have h2' : vs[i]? = some y := (by simpa using h2); simp [execOp, ho, Instr.extract, hv, h2']) h3
theorem st_makeFunc {o : Oper} {f : FuncId} {fs cs : Array Operand} (ho : o.op = .makeFunc (.func f) fs cs) :
  StepOK E o s a g (.fn f (fs.toList.map (ev ts)) (cs.toList.map (ev ts))) g l := by
 refine .pure hs hI (v := .func (.func f) (fs.map a.eval) (cs.map a.eval)) (by simp [execOp, ho, Instr.makeFunc]) ?_
 unfold Rep
 exact ⟨_, _, rfl, by simpa using evs_rep ht fs.toList, by simpa using evs_rep ht cs.toList⟩
theorem st_nilCheck {o : Oper} {x : Operand} (ho : o.op = .nilCheck x) (h : (∃ i j k, ev ts x = .ref i j k) ∨ (∃ cs, ev ts x = .iptr cs) ∨ (∃ f p q, ev ts x = .fn f p q)) : StepOK E o s a g (ev ts x) g l := by
 have hr := ev_rep ht x
 refine .pure hs hI (v := a.eval x) ?_ hr
 rcases h with ⟨i, j, k, h⟩ | ⟨cs, h⟩ | ⟨f, p, q, h⟩ <;> rw [h] at hr
 ·obtain ⟨ad, hh⟩ := hr.ptr; simp [execOp, ho, hh]
 ·unfold Rep at hr; obtain ⟨b, o', hh, _⟩ := hr; simp [execOp, ho, hh]
 ·unfold Rep at hr; obtain ⟨vs, us, hh, _⟩ := hr; simp [execOp, ho, hh]
include hT
theorem st_convert_int {o : Oper} {src dst : TypeId} {x : Operand} (ho : o.op = .convert src dst x) (h1 : (T src).ok = true) (h2 : (T dst).ok = true) {k j : IntKind} {n : Int}
  (hd : (T dst).desc = .int k) (hx : ev ts x = .v (.int j n)) : StepOK E o s a g (intV k (k.wrap n)) g l := by
 have hu := (hT src h1).und
 have hv := (hT dst h2).und
 rw [hd] at hv
 have h := rep_v hs hI ht hx
 exact .pure hs hI (v := .int k (k.wrap n)) (by simp [execOp, ho, convert, h, run_underlying hu, run_underlying hv, Conv.intToInt]) (by simp only [intV]; unfold Rep; rfl)
theorem st_convert_str {o : Oper} {src dst : TypeId} {x : Operand} (ho : o.op = .convert src dst x) (h1 : (T src).ok = true) (h2 : (T dst).ok = true)
  (hsd : (T src).desc = .string) (hd : (T dst).desc = .string) {m : List UInt8} (hx : ev ts x = .str m) : StepOK E o s a g (.str m) g l := by
 have hu := (hT src h1).und
 have hv := (hT dst h2).und
 rw [hsd] at hu
 rw [hd] at hv
 have h := ev_rep ht x
 rw [hx] at h
 refine .pure hs hI (v := a.eval x) ?_ h
 unfold Rep at h
 simp [execOp, ho, convert, h, run_underlying hu, run_underlying hv]
theorem fieldPlace_run {t : TypeId} {i : TI} (hi : TyOK E.P t i) {f : Nat} {off sz : Nat} {ag : Bool} (hf : i.flds[f]? = some (off, sz, ag)) :
  ∃ fs fl, i.desc = .struct fs ∧ fs[f]? = some fl ∧ fl.offset = off ∧ (∃ inf d, E.P.info? fl.type = some inf ∧ inf.size = sz ∧ E.P.underlying fl.type = some d ∧ ag = aggD d ∧ 0 < sz ∧ (ag = false → sz = 1)) := by
 cases hd : i.desc with
 | struct fs =>
  obtain ⟨l, hl, _, h⟩ := hi.flds fs hd
  obtain ⟨fl, inf, d, h1, h2, h3, h4, h5, h6⟩ := h f off sz ag (by rw [← hl]; exact hf)
  exact ⟨fs, fl, rfl, h1, h2, inf, d, h3, h4, h5, h6⟩
 | _ => all_goals (have := hi.noflds (by rw [hd]; simp); rw [this] at hf; simp at hf)
end
end Go.Vm
namespace Go.Vm
open Go.RowKit
theorem run_isAgg {P : Program} {t : TypeId} {d : TypeDesc} (h : P.underlying t = some d) (w : World) : (isAgg t).run P w = .ok (aggD d) w := by
 unfold isAgg
 simp only [Sem.run_bind, run_underlying h, Result.andThen_ok]
 cases d <;> rfl
theorem run_sizeOf' {P : Program} {t : TypeId} {i : TypeInfo} (h : P.info? t = some i) (w : World) : (sizeOf t).run P w = .ok i.size w := by
 simp [sizeOf, typeInfo, h]
theorem RepL.drop {s : S} : ∀ {n : Nat} {l : List AV} {m : List Value}, RepL s l m → RepL s (l.drop n) (m.drop n)
 | 0, _, _, h => h
 | n + 1, [], m, h => by unfold RepL at h; subst h; simp; unfold RepL; rfl
 | n + 1, x :: l, m, h => by unfold RepL at h; obtain ⟨v, vs, rfl, _, h2⟩ := h; simpa using RepL.drop (n := n) h2
theorem RepL.take {s : S} : ∀ {n : Nat} {l : List AV} {m : List Value}, RepL s l m → RepL s (l.take n) (m.take n)
 | 0, _, _, h => by simp; unfold RepL; rfl
 | n + 1, [], m, h => by unfold RepL at h; subst h; simp; unfold RepL; rfl
 | n + 1, x :: l, m, h => by
  unfold RepL at h
  obtain ⟨v, vs, rfl, h1, h2⟩ := h
  simp only [List.take_succ_cons]
  unfold RepL
  exact ⟨v, vs.take n, rfl, h1, RepL.take (n := n) h2⟩
section
variable {E : Env} {T : Nat → TI} (hT : TabOK E.P T) {s : S} {a : Act} {ts : Ts} {g l : List Ent} (hs : s.σ = g ++ l) (hI : HInv s) (ht : TsRep s ts a)
include hT hs hI ht
theorem st_fieldAddr_ref {o : Oper} {t : TypeId} {x : Operand} {f : Nat} (ho : o.op = .fieldAddr t x f) (h1 : (T t).ok = true) {off sz : Nat} {ag : Bool} (hf : (T t).flds[f]? = some (off, sz, ag))
  {id ver o' : Nat} (hx : ev ts x = .ref id ver o') : StepOK E o s a g (.ref id ver (o' + off)) g l := by
 obtain ⟨fs, fl, hd, hfl, rfl, inf, d, hi, rfl, hu, rfl, hpos, _⟩ := fieldPlace_run hT hs hI ht (hT t h1) hf
 have hun := (hT t h1).und
 rw [hd] at hun
 have h := ev_rep ht x
 rw [hx] at h
 unfold Rep at h
 obtain ⟨e, b, he, hb, hv, ad, hh, hadd⟩ := h
 refine .pure hs hI (v := .pointer (some (ad.add fl.offset))) ?_ ?_
 ·have hne : inf.size ≠ 0 := by omega
  simp [execOp, ho, Instr.fieldAt, run_underlying hun, hfl, hh, Instr.sureAddr, fieldPlace, run_sizeOf' hi, hne]
 ·unfold Rep
  refine ⟨e, b, he, hb, hv, _, rfl, fun hver => ?_⟩
  rw [hadd hver, Addr.add_lit, Nat.add_assoc]
theorem st_fieldAddr_iptr {o : Oper} {t : TypeId} {x : Operand} {f : Nat} (ho : o.op = .fieldAddr t x f) (h1 : (T t).ok = true) {off sz : Nat} {ag : Bool} (hf : (T t).flds[f]? = some (off, sz, ag))
  {cs : List AV} (hx : ev ts x = .iptr cs) : StepOK E o s a g (.iptr (cs.drop off)) g l := by
 obtain ⟨fs, fl, hd, hfl, rfl, inf, d, hi, rfl, hu, rfl, hpos, _⟩ := fieldPlace_run hT hs hI ht (hT t h1) hf
 have hun := (hT t h1).und
 rw [hd] at hun
 have h := ev_rep ht x
 rw [hx] at h
 unfold Rep at h
 obtain ⟨blk, off, hh, hc⟩ := h
 refine .pure hs hI (v := .pointer (some ⟨blk, off + fl.offset, none⟩)) ?_ ?_
 ·have hne : inf.size ≠ 0 := by omega
  simp [execOp, ho, Instr.fieldAt, run_underlying hun, hfl, hh, Instr.sureAddr, fieldPlace, run_sizeOf' hi, hne, Addr.add_lit]
 ·unfold Rep
  exact ⟨blk, _, rfl, hc.drop⟩
theorem st_field_agg {o : Oper} {t : TypeId} {x : Operand} {f : Nat} (ho : o.op = .field t x f) (h1 : (T t).ok = true) {off sz : Nat} (hf : (T t).flds[f]? = some (off, sz, true))
  {cs : List AV} (hx : ev ts x = .agg cs) (hl : off + sz ≤ cs.length) : StepOK E o s a g (.agg ((cs.drop off).take sz)) g l := by
 obtain ⟨fs, fl, hd, hfl, rfl, inf, d, hi, rfl, hu, hag, hpos, _⟩ := fieldPlace_run hT hs hI ht (hT t h1) hf
 have hun := (hT t h1).und
 rw [hd] at hun
 have h := ev_rep ht x
 rw [hx] at h
 unfold Rep at h
 obtain ⟨vs, hh, hc⟩ := h
 refine .pure hs hI (v := .agg (vs.extract fl.offset (fl.offset + inf.size))) ?_ ?_
 ·simp [execOp, ho, Instr.field, run_underlying hun, hfl, hh, asAgg, part, run_isAgg hu, ← hag, run_sizeOf' hi]
 ·unfold Rep
  refine ⟨_, rfl, ?_⟩
  rw [Array.toList_extract, List.extract_eq_take_drop, Nat.add_sub_cancel_left]
  exact hc.drop.take
theorem st_field_one {o : Oper} {t : TypeId} {x : Operand} {f : Nat} (ho : o.op = .field t x f) (h1 : (T t).ok = true) {off sz : Nat} (hf : (T t).flds[f]? = some (off, sz, false))
  {cs : List AV} (hx : ev ts x = .agg cs) {c : AV} (hc : cs[off]? = some c) : StepOK E o s a g c g l := by
 obtain ⟨fs, fl, hd, hfl, rfl, inf, d, hi, rfl, hu, hag, hpos, _⟩ := fieldPlace_run hT hs hI ht (hT t h1) hf
 have hun := (hT t h1).und
 rw [hd] at hun
 have h := ev_rep ht x
 rw [hx] at h
 unfold Rep at h
 obtain ⟨vs, hh, hcs⟩ := h
 obtain ⟨y, h2, h3⟩ := hcs.get hc
 have h2' : vs[fl.offset]? = some y := by simpa using h2
 exact .pure hs hI (v := y) (by simp [execOp, ho, Instr.field, run_underlying hun, hfl, hh, asAgg, part, run_isAgg hu, ← hag, h2']) h3
theorem st_index {o : Oper} {t : TypeId} {x i : Operand} (ho : o.op = .index t x i) (h1 : (T t).ok = true) (hd : (T t).desc = .string) {m : List UInt8} (hx : ev ts x = .str m) {k : IntKind} {n : Int}
  (hi : ev ts i = .v (.int k n)) (h0 : 0 ≤ n) (hn : n < m.length) : StepOK E o s a g (intV .u8 (m.getD n.toNat 0).toNat) g l := by
 have hun := (hT t h1).und
 rw [hd] at hun
 have h := ev_rep ht x
 rw [hx] at h
 unfold Rep at h
 have hk := rep_v hs hI ht hi
 have hlt : n.toNat < m.length := by omega
 refine .pure hs hI (v := .int .u8 (m.getD n.toNat 0).toNat) ?_ (by simp only [intV]; unfold Rep; rfl)
 have hget : (ByteArray.mk ⟨m⟩)[n.toNat]? = some (m.getD n.toNat 0) := by
  have : n.toNat < (ByteArray.mk ⟨m⟩).size := by simpa [ByteArray.size] using hlt
  rw [getElem?_pos (ByteArray.mk ⟨m⟩) n.toNat this]
  simp [List.getD, hlt]
  rfl
 simp [execOp, ho, Instr.index, h, hk, asIntOf, run_underlying hun, h0, hget]
theorem st_indexAddr_sl {o : Oper} {t : TypeId} {x i : Operand} (ho : o.op = .indexAddr t x i) (h1 : (T t).ok = true) {e : TypeId} (hd : (T t).desc = .slice e) (h2 : (T e).ok = true)
  {es : List AV} (hx : ev ts x = .sl es) {k : IntKind} {n : Int} (hi : ev ts i = .v (.int k n)) (h0 : 0 ≤ n) (hn : n < es.length) (hel : isEl (T e).size (T e).isAgg (es.getD n.toNat .un) = true) :
  StepOK E o s a g (.iptr (es.getD n.toNat .un).cells) g l := by
 have hun := (hT t h1).und
 rw [hd] at hun
 obtain ⟨inf, z, hinf, hsz, _⟩ := (hT e h2).info
 have h := ev_rep ht x
 rw [hx] at h
 unfold Rep at h
 obtain ⟨ao, cap, hv, _, hrow⟩ := h
 have hk := rep_v hs hI ht hi
 have hlt : n.toNat < es.length := by omega
 rcases hrow with rfl | ⟨blk, off, kk, rfl, hpos, hrow⟩
 ·simp at hlt
 have hg : es[n.toNat]? = some (es.getD n.toNat .un) := by simp [List.getD, hlt]
 obtain ⟨y, h3, h4⟩ := hrow.get hg
 obtain ⟨h5, h6⟩ := h3.repAt h4
 have hkk : kk = (T e).size := by
  unfold isEl at hel
  simp only [Bool.and_eq_true, beq_iff_eq] at hel
  rw [← h5]; exact hel.1.2
 refine .pure hs hI (v := .pointer (some ⟨blk, off + n.toNat * kk, none⟩)) ?_ ?_
 ·simp [execOp, ho, Instr.indexAt, hv, hk, asIntOf, run_underlying hun, h0, hn, run_sizeOf' hinf, hsz, Addr.add_lit, hkk]
 ·unfold Rep; exact ⟨_, _, rfl, h6⟩
theorem st_indexAddr_rsl {o : Oper} {t : TypeId} {x i : Operand} (ho : o.op = .indexAddr t x i) (h1 : (T t).ok = true) {e : TypeId} (hd : (T t).desc = .slice e) (h2 : (T e).ok = true)
  {id ver off m sz : Nat} (hx : ev ts x = .rsl id ver off m sz) {k : IntKind} {n : Int} (hi : ev ts i = .v (.int k n)) (h0 : 0 ≤ n) (hn : n < m) (hsz' : sz = (T e).size) :
  StepOK E o s a g (.ref id ver (off + n.toNat * sz)) g l := by
 have hun := (hT t h1).und
 rw [hd] at hun
 obtain ⟨inf, z, hinf, hsz, _⟩ := (hT e h2).info
 have h := ev_rep ht x
 rw [hx] at h
 unfold Rep at h
 obtain ⟨en, b, he, hb, hv, ab, ao, cap, hh, hadd⟩ := h
 have hk := rep_v hs hI ht hi
 refine .pure hs hI (v := .pointer (some ⟨ab, ao + n.toNat * sz, none⟩)) ?_ ?_
 ·simp [execOp, ho, Instr.indexAt, hh, hk, asIntOf, run_underlying hun, h0, hn, run_sizeOf' hinf, hsz, hsz', Addr.add_lit]
 ·unfold Rep
  refine ⟨en, b, he, hb, hv, _, rfl, fun hver => ?_⟩
  have h3 := hadd hver
  obtain ⟨rfl, rfl⟩ := h3.1 (by omega)
  rw [Nat.add_assoc]
end
end Go.Vm
