/- Cuts, lengths, loads. -/
import Derived.Test.YtoobkfjkohadnaaGreatDoorVmA
import Derived.Great.BuildSlice
import Derived.Room.Entries
import Derived.Lib.Builder
import Derived.Lib.UnsafeStr
import Derived.Laws.BytesString
set_option linter.unusedVariables false
set_option linter.unusedSimpArgs false
set_option linter.unusedSectionVars false
namespace Go.Vm
open Go.RowKit
section
variable {E : Env} {T : Nat → TI} (hT : TabOK E.P T) {s : S} {a : Act} {ts : Ts} {g l : List Ent} (hs : s.σ = g ++ l) (hI : HInv s) (ht : TsRep s ts a)
include hs hI ht
theorem run_bounds {isSlice : Bool} {len cap : Nat} {lo hi : Option Operand} {x y : Int} (hx : bnd 0 (lo.map (ev ts)) = some x) (hy : bnd len (hi.map (ev ts)) = some y)
  (h0 : 0 ≤ x) (hxy : x ≤ y) (hyc : y ≤ cap) (w : World) :
  (Instr.sliceBounds isSlice len cap (lo.map a.eval) (hi.map a.eval) none).run E.P w = .ok (x.toNat, y.toNat, cap) w := by
 have b1 : ∀ (o : Operand) (d z : Int) (m : Nat) (c : BoundsCode), bnd d (some (ev ts o)) = some z → 0 ≤ z → z ≤ m → (Instr.sliceBound (a.eval o) m c).run E.P w = .ok z.toNat w := by
  intro o d z m c hb h0 hm
  obtain ⟨k, hk⟩ := bnd_some ht hb
  have : bnd d (some (ev ts o)) = some z := hb
  unfold bnd at hb
  split at hb
  ·rename_i hh; cases hh
  ·rename_i k' n hh
   cases hb
   injection hh with hh
   have := rep_v hs hI ht hh
   simp [Instr.sliceBound, this, asIntOf, h0, hm]
  ·cases hb
 cases lo with
 | none =>
  have hx' : x = 0 := by simp [bnd] at hx; exact hx.symm
  subst hx'
  cases hi with
  | none =>
   have hy' : y = len := by simp [bnd] at hy; exact hy.symm
   subst hy'
   simp [Instr.sliceBounds]
  | some o =>
   have := b1 o len y cap (if isSlice then .sliceAcap else .sliceAlen) hy (by omega) hyc
   simp [Instr.sliceBounds, this]
 | some q =>
  cases hi with
  | none =>
   have hy' : y = len := by simp [bnd] at hy; exact hy.symm
   subst hy'
   have := b1 q 0 x len .sliceB hx h0 (by omega)
   simp [Instr.sliceBounds, this]
  | some o =>
   have h2 := b1 o len y cap (if isSlice then .sliceAcap else .sliceAlen) hy (by omega) hyc
   have h3 := b1 q 0 x y.toNat .sliceB hx h0 (by omega)
   simp [Instr.sliceBounds, h2, h3]
include hT
theorem st_slice_str {o : Oper} {t : TypeId} {x : Operand} {lo hi : Option Operand} (ho : o.op = .slice t x lo hi none) (h1 : (T t).ok = true) (hd : (T t).desc = .string) {m : List UInt8} (hx : ev ts x = .str m)
  {p q : Int} (hp : bnd 0 (lo.map (ev ts)) = some p) (hq : bnd m.length (hi.map (ev ts)) = some q) (h0 : 0 ≤ p) (hpq : p ≤ q) (hql : q ≤ m.length) :
  StepOK E o s a g (.str ((m.drop p.toNat).take (q.toNat - p.toNat))) g l := by
 have hun := (hT t h1).und
 rw [hd] at hun
 have h := ev_rep ht x
 rw [hx] at h
 unfold Rep at h
 have hsz : (ByteArray.mk ⟨m⟩).size = m.length := by simp [ByteArray.size]
 have hb := run_bounds hs hI ht (E := E) (isSlice := false) (len := m.length) (cap := m.length) hp hq h0 hpq hql s.w
 refine .pure hs hI (v := .string ⟨⟨(m.drop p.toNat).take (q.toNat - p.toNat)⟩⟩) ?_ (by unfold Rep; rfl)
 simp [execOp, ho, Instr.sliceAt, Instr.slice, h, run_underlying hun, hsz, hb, extract_mk]
theorem st_slice_nil {o : Oper} {t : TypeId} {x : Operand} {lo hi : Option Operand} (ho : o.op = .slice t x lo hi none) (h1 : (T t).ok = true) {e : TypeId} (hd : (T t).desc = .slice e) (h2 : (T e).ok = true)
  (hx : ev ts x = .v (.slice none 0 0)) {p q : Int} (hp : bnd 0 (lo.map (ev ts)) = some p) (hq : bnd 0 (hi.map (ev ts)) = some q) (h0 : p = 0) (hq0 : q = 0) :
  StepOK E o s a g (.v (.slice none 0 0)) g l := by
 have hun := (hT t h1).und
 rw [hd] at hun
 obtain ⟨inf, z, hinf, hsz, _⟩ := (hT e h2).info
 have h := rep_v hs hI ht hx
 subst h0 hq0
 have hb := run_bounds hs hI ht (E := E) (isSlice := true) (len := 0) (cap := 0) hp hq (by omega) (by omega) (by omega) s.w
 refine .pure hs hI (v := .slice none 0 0) ?_ (by unfold Rep; rfl)
 simp [execOp, ho, Instr.sliceAt, Instr.slice, h, run_underlying hun, hb, run_sizeOf' hinf]
theorem st_slice_sl {o : Oper} {t : TypeId} {x : Operand} {lo hi : Option Operand} (ho : o.op = .slice t x lo hi none) (h1 : (T t).ok = true) {e : TypeId} (hd : (T t).desc = .slice e) (h2 : (T e).ok = true)
  {es : List AV} (hx : ev ts x = .sl es) {p q : Int} (hp : bnd 0 (lo.map (ev ts)) = some p) (hq : bnd es.length (hi.map (ev ts)) = some q) (h0 : 0 ≤ p) (hpq : p ≤ q) (hql : q ≤ es.length)
  (hel : ∀ e' ∈ es, isEl (T e).size (T e).isAgg e' = true) : StepOK E o s a g (.sl ((es.drop p.toNat).take (q.toNat - p.toNat))) g l := by
 have hun := (hT t h1).und
 rw [hd] at hun
 obtain ⟨inf, z, hinf, hsz, _⟩ := (hT e h2).info
 have h := ev_rep ht x
 rw [hx] at h
 unfold Rep at h
 obtain ⟨ao, cap, hv, hc, hrow⟩ := h
 have hb := run_bounds hs hI ht (E := E) (isSlice := true) (len := es.length) (cap := cap) hp hq h0 hpq (by omega) s.w
 have hlen : ((es.drop p.toNat).take (q.toNat - p.toNat)).length = q.toNat - p.toNat := by simp; omega
 refine .pure hs hI (v := .slice (if cap = p.toNat then ao else ao.map (·.add (p.toNat * (T e).size))) (q.toNat - p.toNat) (cap - p.toNat)) ?_ ?_
 ·simp [execOp, ho, Instr.sliceAt, Instr.slice, hv, run_underlying hun, hb, run_sizeOf' hinf, hsz]
 ·unfold Rep
  refine ⟨_, _, by rw [hlen], by rw [hlen]; omega, ?_⟩
  by_cases hz : q.toNat - p.toNat = 0
  ·left; rw [hz]; simp
  ·right
   rcases hrow with rfl | ⟨blk, off, k, rfl, hpos, hrow⟩
   ·simp at hql; omega
   have hne : cap ≠ p.toNat := by omega
   have hk : k = (T e).size := by
    have hlt : 0 < es.length := by omega
    have hg : es[0]? = some es[0] := List.getElem?_eq_getElem hlt
    obtain ⟨y, h3, h4⟩ := hrow.get hg
    obtain ⟨h5, _⟩ := h3.repAt h4
    have := hel _ (List.getElem_mem hlt)
    unfold isEl at this
    simp only [Bool.and_eq_true, beq_iff_eq] at this
    rw [← h5]; exact this.1.2
   refine ⟨blk, off + p.toNat * k, k, by simp [hne, Addr.add_lit, hk], hpos, RepRow.mk fun i e' hi => ?_⟩
   have hi2 : es[p.toNat + i]? = some e' := by
    rw [List.getElem?_take] at hi
    split at hi
    ·rwa [List.getElem?_drop] at hi
    ·cases hi
   obtain ⟨y, h3, h4⟩ := hrow.get hi2
   exact ⟨y, by rwa [Nat.add_mul, ← Nat.add_assoc] at h3, h4⟩
theorem st_slice_rsl {o : Oper} {t : TypeId} {x : Operand} {lo hi : Option Operand} (ho : o.op = .slice t x lo hi none) (h1 : (T t).ok = true) {e : TypeId} (hd : (T t).desc = .slice e) (h2 : (T e).ok = true)
  {id ver off n sz : Nat} (hx : ev ts x = .rsl id ver off n sz) {p q : Int} (hp : bnd 0 (lo.map (ev ts)) = some p) (hq : bnd n (hi.map (ev ts)) = some q) (h0 : 0 ≤ p) (hpq : p ≤ q) (hql : q ≤ n)
  (hsz' : sz = (T e).size) {en : Ent} (hent : s.σ[id]? = some en) (hver : ver = en.ver) : StepOK E o s a g (.rsl id ver (off + p.toNat * sz) (q.toNat - p.toNat) sz) g l := by
 have hun := (hT t h1).und
 rw [hd] at hun
 obtain ⟨inf, z, hinf, hsz, _⟩ := (hT e h2).info
 have h := ev_rep ht x
 rw [hx] at h
 unfold Rep at h
 obtain ⟨en', b, he, hb', hv, ab, ao, cap, hh, hadd⟩ := h
 rw [hent] at he; cases he
 obtain ⟨hada, hnc, hext⟩ := hadd hver
 have hb := run_bounds hs hI ht (E := E) (isSlice := true) (len := n) (cap := cap) hp hq h0 hpq (by omega) s.w
 refine .pure hs hI (v := .slice (some ⟨ab, if cap = p.toNat then ao else ao + p.toNat * sz, none⟩) (q.toNat - p.toNat) (cap - p.toNat)) ?_ ?_
 ·simp [execOp, ho, Instr.sliceAt, Instr.slice, hh, run_underlying hun, hb, run_sizeOf' hinf, hsz, hsz']
  split <;> simp [Addr.add_lit]
 ·unfold Rep
  have hcs : off + p.toNat * sz + (cap - p.toNat) * sz = b.ext := by
   rw [← hext, Nat.sub_mul]
   have : p.toNat * sz ≤ cap * sz := Nat.mul_le_mul_right _ (by omega)
   omega
  by_cases hne : cap = p.toNat
  ·refine ⟨en, b, hent, hb', by omega, ab, _, _, by rw [if_pos hne], fun _ => ⟨fun hpos => by omega, by omega, hcs⟩⟩
  ·refine ⟨en, b, hent, hb', by omega, ab, _, _, by rw [if_neg hne], fun _ => ⟨fun hpos => ?_, by omega, hcs⟩⟩
   obtain ⟨rfl, rfl⟩ := hada (by omega)
   exact ⟨rfl, by rw [Nat.add_assoc]⟩
theorem st_len {o : Oper} {x : Operand} {c : Call} {t : TypeId} (ho : o.op = .call c) (hc : c.callee = .builtin .len) (hargs : c.args[0]? = some x) (htys : c.argTypes[0]? = some t) (h1 : (T t).ok = true)
  {n : Int} (hn : alen (T t).desc (ev ts x) = some n) : StepOK E o s a g (intV .i64 n) g l := by
 have hun := (hT t h1).und
 have h := ev_rep ht x
 have ha : (c.args.map a.eval)[0]? = some (a.eval x) := by simp [hargs]
 have key : (Builtin.len_ c.argTypes o.type (c.args.map a.eval)).run E.P s.w = .ok (.int .i64 n) s.w := by
  unfold alen at hn
  split at hn
  ·rename_i m hd hm
   cases hn
   rw [hm] at h; rw [hd] at hun
   unfold Rep at h
   have hsz : (ByteArray.mk ⟨m⟩).size = m.length := by simp [ByteArray.size]
   simp [Builtin.len_, htys, ha, h, run_underlying hun, goInt, hsz]
  ·rename_i e es hd hm
   cases hn
   rw [hm] at h; rw [hd] at hun
   unfold Rep at h
   obtain ⟨_, _, hh, _⟩ := h
   simp [Builtin.len_, htys, ha, hh, run_underlying hun, goInt]
  ·rename_i e _ _ _ _ _ hd hm
   cases hn
   rw [hm] at h; rw [hd] at hun
   unfold Rep at h
   obtain ⟨_, _, _, _, _, _, _, _, hh, _⟩ := h
   simp [Builtin.len_, htys, ha, hh, run_underlying hun, goInt]
  ·rename_i e hd hm
   cases hn
   have h := rep_v hs hI ht hm
   rw [hd] at hun
   simp [Builtin.len_, htys, ha, h, run_underlying hun, goInt]
  ·cases hn
 exact .pure hs hI (v := .int .i64 n) (by simp [execOp, ho, resolve, hc, invoke, builtin, key]) (by simp only [intV]; unfold Rep; rfl)
omit hT
theorem st_max {o : Oper} {c : Call} (ho : o.op = .call c) (hc : c.callee = .builtin .max) {k j : IntKind} {m n : Int} (hargs : c.args.toList.map (ev ts) = [.v (.int k m), .v (.int j n)]) :
  StepOK E o s a g (intV k (max m n)) g l := by
 have h := evs_rep ht c.args.toList
 rw [hargs] at h
 unfold RepL RepL RepL Rep at h
 obtain ⟨v, vs, h1, rfl, v2, vs2, rfl, rfl, rfl⟩ := h
 refine .pure hs hI (v := .int k (max m n)) ?_ (by simp only [intV]; unfold Rep; rfl)
 have : (Builtin.max_ c.argTypes o.type (c.args.map a.eval)).run E.P s.w = .ok (.int k (max m n)) s.w := by
  simp only [Builtin.max_, Array.toList_map, h1]
  simp [Builtin.max2]
  rw [Int.max_def]; split <;> split <;> first | rfl | omega
 simp [execOp, ho, resolve, hc, invoke, builtin, this]
theorem st_min {o : Oper} {c : Call} (ho : o.op = .call c) (hc : c.callee = .builtin .min) {k j : IntKind} {m n : Int} (hargs : c.args.toList.map (ev ts) = [.v (.int k m), .v (.int j n)]) :
  StepOK E o s a g (intV k (min m n)) g l := by
 have h := evs_rep ht c.args.toList
 rw [hargs] at h
 unfold RepL RepL RepL Rep at h
 obtain ⟨v, vs, h1, rfl, v2, vs2, rfl, rfl, rfl⟩ := h
 refine .pure hs hI (v := .int k (min m n)) ?_ (by simp only [intV]; unfold Rep; rfl)
 have : (Builtin.min_ c.argTypes o.type (c.args.map a.eval)).run E.P s.w = .ok (.int k (min m n)) s.w := by
  simp only [Builtin.min_, Array.toList_map, h1]
  simp [Builtin.min2]
  rw [Int.min_def]; split <;> split <;> first | rfl | omega
 simp [execOp, ho, resolve, hc, invoke, builtin, this]
end
end Go.Vm
namespace Go.Vm
open Go.RowKit
theorem oneCell_of {y : Value} (h : cellV y) : y.oneCell' = true := by
 cases y <;> simp_all [Value.oneCell', cellV]
theorem sget_eq (g l : List Ent) (id : Nat) : sget g l id = (g ++ l)[id]? := by
 unfold sget
 split
 ·rename_i h; rw [List.getElem?_append_left h]
 ·rename_i h; rw [List.getElem?_append_right (by omega)]
theorem sset_eq (g l : List Ent) (id : Nat) (e : Ent) : ssetG g id e ++ ssetL g l id e = (g ++ l).set id e := by
 unfold ssetG ssetL
 split
 ·rename_i h; rw [List.set_append_left _ _ h]
 ·rename_i h; rw [List.set_append_right _ _ (by omega)]
theorem ssetG_len (g : List Ent) (id : Nat) (e : Ent) : (ssetG g id e).length = g.length := by
 unfold ssetG; split <;> simp
theorem run_loadCells_at (P : Program) (w : World) (blk off : Nat) (cs : List Value) (h : ∀ (j : Nat) v, cs[j]? = some v → w.cell? ⟨blk, off + j, none⟩ = some v) :
  (loadCells ⟨blk, off, none⟩ cs.length).run P w = .ok cs.toArray w :=
 run_loadCells_list (P := P) w ⟨blk, off, none⟩ cs fun j v hj => by rw [Addr.add_lit]; exact h j v hj
theorem RepL.ofCells {s : S} {w : World} : ∀ {cs : List AV} {blk off : Nat}, (∀ (j : Nat) c, cs[j]? = some c → ∃ y, w.cell? ⟨blk, off + j, none⟩ = some y ∧ Rep s c y) →
  ∃ ys : List Value, RepL s cs ys ∧ ys.length = cs.length ∧ ∀ (j : Nat) v, ys[j]? = some v → w.cell? ⟨blk, off + j, none⟩ = some v
 | [], _, _, _ => ⟨[], by unfold RepL; rfl, rfl, fun j v h => by simp at h⟩
 | c :: cs, blk, off, h => by
  obtain ⟨y, h1, h2⟩ := h 0 c rfl
  obtain ⟨ys, h3, h4, h5⟩ := RepL.ofCells (s := s) (w := w) (cs := cs) (blk := blk) (off := off + 1) fun j d hj => by
   have := h (j + 1) d (by simpa using hj); rwa [show off + (j + 1) = off + 1 + j by omega] at this
  refine ⟨y :: ys, by unfold RepL; exact ⟨y, ys, rfl, h2, h3⟩, by simp [h4], fun j v hj => ?_⟩
  cases j with
  | zero => simp at hj; subst hj; exact h1
  | succ j => simp at hj; have := h5 j v hj; rwa [show off + 1 + j = off + (j + 1) by omega] at this
section
variable {E : Env} {T : Nat → TI} (hT : TabOK E.P T) {s : S} {a : Act} {ts : Ts} {g l : List Ent} (hs : s.σ = g ++ l) (hI : HInv s) (ht : TsRep s ts a)
include hT hs hI ht
theorem load_agg {o : Oper} {t : TypeId} {x : Operand} (ho : o.op = .load t x) (h1 : (T t).ok = true) (hag : (T t).isAgg = true) {blk off : Nat} (hx : a.eval x = .pointer (some ⟨blk, off, none⟩)) {cs : List AV}
  (hlen : cs.length = (T t).size) (hc : ∀ (j : Nat) c, cs[j]? = some c → ∃ y, s.w.cell? ⟨blk, off + j, none⟩ = some y ∧ Rep s c y) : StepOK E o s a g (.agg cs) g l := by
 have hun := (hT t h1).und
 obtain ⟨inf, z, hinf, hsz, _⟩ := (hT t h1).info
 obtain ⟨ys, h3, h4, h5⟩ := RepL.ofCells hc
 have hag' : aggD (T t).desc = true := by rw [← (hT t h1).agg]; exact hag
 have hl := run_loadCells_at E.P s.w blk off ys h5
 refine .pure hs hI (v := .agg ys.toArray) ?_ (by unfold Rep; exact ⟨_, rfl, by simpa using h3⟩)
 rw [h4, hlen] at hl
 simp [execOp, ho, Instr.loadAt, hx, Instr.sureAddr, loadVar, run_isAgg hun, hag', run_sizeOf' hinf, hsz, hl]
theorem load_one {o : Oper} {t : TypeId} {x : Operand} (ho : o.op = .load t x) (h1 : (T t).ok = true) (hag : (T t).isAgg = false) {blk off : Nat} (hx : a.eval x = .pointer (some ⟨blk, off, none⟩)) {c : AV} {y : Value}
  (hc : s.w.cell? ⟨blk, off, none⟩ = some y) (hr : Rep s c y) : StepOK E o s a g c g l := by
 have hun := (hT t h1).und
 have hag' : aggD (T t).desc = false := by rw [← (hT t h1).agg]; exact hag
 refine .pure hs hI (v := y) ?_ hr
 simp [execOp, ho, Instr.loadAt, hx, Instr.sureAddr, loadVar, run_isAgg hun, hag', hc]
theorem ref_at {x : Operand} {id ver off : Nat} (hx : ev ts x = .ref id ver off) {e : Ent} (he : s.σ[id]? = some e) (hver : ver = e.ver) :
  ∃ b, s.β[id]? = some b ∧ a.eval x = .pointer (some ⟨b.blk, b.off + off, none⟩) := by
 have h := ev_rep ht x
 rw [hx] at h
 unfold Rep at h
 obtain ⟨e', b, he', hb, _, ad, hh, hadd⟩ := h
 rw [he] at he'; cases he'
 rw [hadd hver] at hh
 exact ⟨b, hb, hh⟩
theorem arr_at {id ty : Nat} {cells : List AV} {ver imm : Nat} {b : Slot} (he : s.σ[id]? = some (.arr ty cells ver imm)) (hb : s.β[id]? = some b) :
  cells.length ≤ b.ext ∧ imm ≤ cells.length ∧ RoomOK s.w imm b ∧ CellsOK s cells b := hI.ent id _ b he hb
theorem st_load_ref_agg {o : Oper} {t : TypeId} {x : Operand} (ho : o.op = .load t x) (h1 : (T t).ok = true) (hag : (T t).isAgg = true) {id ver off : Nat} (hx : ev ts x = .ref id ver off)
  {ty : Nat} {cells : List AV} {ver' imm : Nat} (he : s.σ[id]? = some (.arr ty cells ver' imm)) (hver : ver = ver') (hl : off + (T t).size ≤ cells.length) : StepOK E o s a g (.agg ((cells.drop off).take (T t).size)) g l := by
 obtain ⟨b, hb, hxa⟩ := ref_at hT hs hI ht hx he hver
 obtain ⟨_, _, _, hc⟩ := arr_at hT hs hI ht he hb
 refine load_agg hT hs hI ht ho h1 hag hxa (by simp; omega) fun j c hj => ?_
 rw [List.getElem?_take] at hj
 split at hj
 ·rw [List.getElem?_drop] at hj
  obtain ⟨y, h2, h3, _⟩ := hc _ _ hj
  exact ⟨y, by rwa [← Nat.add_assoc] at h2, h3⟩
 ·cases hj
theorem st_load_ref_one {o : Oper} {t : TypeId} {x : Operand} (ho : o.op = .load t x) (h1 : (T t).ok = true) (hag : (T t).isAgg = false) {id ver off : Nat} (hx : ev ts x = .ref id ver off)
  {ty : Nat} {cells : List AV} {ver' imm : Nat} (he : s.σ[id]? = some (.arr ty cells ver' imm)) (hver : ver = ver') {c : AV} (hc' : cells[off]? = some c) : StepOK E o s a g c g l := by
 obtain ⟨b, hb, hxa⟩ := ref_at hT hs hI ht hx he hver
 obtain ⟨_, _, _, hc⟩ := arr_at hT hs hI ht he hb
 obtain ⟨y, h2, h3, _⟩ := hc _ _ hc'
 exact load_one hT hs hI ht ho h1 hag hxa h2 h3
theorem st_load_iptr_agg {o : Oper} {t : TypeId} {x : Operand} (ho : o.op = .load t x) (h1 : (T t).ok = true) (hag : (T t).isAgg = true) {cs : List AV} (hx : ev ts x = .iptr cs) (hl : (T t).size ≤ cs.length) :
  StepOK E o s a g (.agg (cs.take (T t).size)) g l := by
 have h := ev_rep ht x
 rw [hx] at h
 unfold Rep at h
 obtain ⟨blk, off, hh, hc⟩ := h
 refine load_agg hT hs hI ht ho h1 hag hh (by simp; omega) fun j c hj => ?_
 rw [List.getElem?_take] at hj
 split at hj
 ·obtain ⟨y, h2, _, h3⟩ := hc.get hj; exact ⟨y, h2, h3⟩
 ·cases hj
theorem st_load_iptr_one {o : Oper} {t : TypeId} {x : Operand} (ho : o.op = .load t x) (h1 : (T t).ok = true) (hag : (T t).isAgg = false) {c : AV} {cs : List AV} (hx : ev ts x = .iptr (c :: cs)) : StepOK E o s a g c g l := by
 have h := ev_rep ht x
 rw [hx] at h
 unfold Rep at h
 obtain ⟨blk, off, hh, hc⟩ := h
 obtain ⟨y, h2, _, h3⟩ := hc.get (j := 0) rfl
 exact load_one hT hs hI ht ho h1 hag hh h2 h3
omit hT
theorem st_new {o : Oper} {cs : List AV} {ys : Array Value} {et : TypeId} (hrun : (execOp a.eval o).run E.P s.w = .ok (.value (.pointer (some ⟨s.w.heap.size, 0, none⟩))) (s.w.alloc (.cells ys et)))
  (hr : RepL s cs ys.toList) (hc : cs.all (·.isCell) = true) : StepOK E o s a g (.ref (g.length + l.length) 0 0) g (l ++ [.arr et cs 0 0]) := by
 have hsz : cs.length = ys.size := by have := hr.length; simp at this; omega
 have hlen : s.σ.length = g.length + l.length := by rw [hs]; simp
 refine ⟨_, _, s.push (.arr et cs 0 0) ⟨s.w.heap.size, 0, ys.size⟩ (s.w.alloc (.cells ys et)), hrun, .inl rfl, by simp [S.push, hs], rfl, rfl, hI.push cs ys et (by omega) fun j c hj => ?_, Ext.push hI _ _ _, ?_⟩
 ·obtain ⟨y, h1, h2⟩ := hr.get hj
  exact ⟨y, by simpa using h1, h2, h2.cellV (List.all_eq_true.1 hc c (List.mem_of_getElem? hj))⟩
 ·unfold Rep
  refine ⟨.arr et cs 0 0, ⟨s.w.heap.size, 0, ys.size⟩, ?_, ?_, Nat.le_refl _, _, rfl, fun _ => rfl⟩
  ·simp [S.push, ← hlen]
  ·simp [S.push, ← hlen, ← hI.len]
theorem st_box {o : Oper} {t : TypeId} {x : Operand} (ho : o.op = .box t x) (hc : (ev ts x).cells.all (·.isCell) = true) : StepOK E o s a g (.ref (g.length + l.length) 0 0) g (l ++ [.arr t (ev ts x).cells 0 0]) := by
 have h := ev_rep ht x
 have key : RepL s (ev ts x).cells (a.eval x).cells.toList := by
  generalize hx : ev ts x = e at *
  cases e with
  | agg cs => unfold Rep at h; obtain ⟨vs, hh, h2⟩ := h; rw [hh]; exact h2
  | _ =>
   all_goals
    simp only [AV.cells, List.all_cons, List.all_nil, Bool.and_true] at hc
    rw [(h.cellV hc).cells]
    simp only [AV.cells]
    unfold RepL
    exact ⟨_, [], rfl, h, by unfold RepL; rfl⟩
 exact st_new hs hI ht (ys := (a.eval x).cells) (et := t) (by simp [execOp, ho, Instr.box, newVar, newRow]) key hc
include hT
theorem st_alloc {o : Oper} {t : TypeId} (ho : o.op = .alloc t) (h1 : (T t).ok = true) (hc : (T t).zero.cells.all (·.isCell) = true) : StepOK E o s a g (.ref (g.length + l.length) 0 0) g (l ++ [.arr t (T t).zero.cells 0 0]) := by
 obtain ⟨inf, z, hinf, hsz, _, hz, hzv⟩ := (hT t h1).info
 have h := zval_rep s hzv
 have key : RepL s (T t).zero.cells z.cells.toList := by
  generalize hx : (T t).zero = e at *
  cases e with
  | agg cs => unfold Rep at h; obtain ⟨vs, hh, h2⟩ := h; rw [hh]; exact h2
  | _ =>
   all_goals
    simp only [AV.cells, List.all_cons, List.all_nil, Bool.and_true] at hc
    rw [(h.cellV hc).cells]
    simp only [AV.cells]
    unfold RepL
    exact ⟨_, [], rfl, h, by unfold RepL; rfl⟩
 exact st_new hs hI ht (ys := z.cells) (et := t) (by simp [execOp, ho, Instr.alloc, zeroValue, typeInfo, hinf, hz, newVar, newRow]) key hc
end
end Go.Vm
namespace Go.Vm
open Go.RowKit
theorem list_set_same {α : Type} {l : List α} {i : Nat} {x : α} (h : l[i]? = some x) : l.set i x = l := by
 apply List.ext_getElem?
 intro j
 by_cases hij : i = j
 ·subst hij; rw [get_set_self h, h]
 ·rw [get_set_ne hij]
def setRangeV (vs : List Value) (off : Nat) : List Value → List Value
 | [] => vs
 | y :: ys => setRangeV (vs.set off y) (off + 1) ys
theorem RepL.set {s : S} {l : List AV} {m : List Value} (h : RepL s l m) {i : Nat} {c : AV} {y : Value} (hr : Rep s c y) : RepL s (l.set i c) (m.set i y) := by
 refine RepL.mk (by simp [h.length]) fun j d z h1 h2 => ?_
 rcases get_set h1 with ⟨rfl, rfl, _⟩ | ⟨hne, h1⟩
 ·rcases get_set h2 with ⟨_, rfl, _⟩ | ⟨hh, _⟩
  ·exact hr
  ·exact absurd rfl hh
 ·rw [get_set_ne hne] at h2
  obtain ⟨z', h3, h4⟩ := h.get h1
  rw [h2] at h3; cases h3; exact h4
theorem RepL.setRange {s : S} : ∀ {cs : List AV} {ys : List Value} {l : List AV} {m : List Value} {off : Nat}, RepL s cs ys → RepL s l m → RepL s (setRange l off cs) (setRangeV m off ys)
 | [], ys, l, m, off, h, h' => by unfold RepL at h; subst h; exact h'
 | c :: cs, ys, l, m, off, h, h' => by
  unfold RepL at h
  obtain ⟨y, ys', rfl, h1, h2⟩ := h
  show RepL s (Vm.setRange (l.set off c) (off + 1) cs) (setRangeV (m.set off y) (off + 1) ys')
  exact RepL.setRange h2 (h'.set h1)
theorem mapM_some {α β : Type} {f : α → Option β} : ∀ {l : List α} {m : List β}, l.length = m.length → (∀ (i : Nat) x y, l[i]? = some x → m[i]? = some y → f x = some y) → l.mapM f = some m
 | [], [], _, _ => rfl
 | [], _ :: _, h, _ => by simp at h
 | _ :: _, [], h, _ => by simp at h
 | x :: l, y :: m, h, hh => by
  have h0 := hh 0 x y rfl rfl
  have ih := mapM_some (f := f) (l := l) (m := m) (by simpa using h) fun i a b h1 h2 => hh (i + 1) a b (by simpa using h1) (by simpa using h2)
  simp [List.mapM_cons, h0, ih]
theorem fold_set : ∀ (ys : List Value) (k off : Nat) (A : Array Value), ((ys.zipIdx k).foldl (fun cs (p : Value × Nat) => cs.setIfInBounds (off + p.2) p.1) A).toList = setRangeV A.toList (off + k) ys
 | [], _, _, _ => rfl
 | y :: ys, k, off, A => by
  simp only [List.zipIdx_cons, List.foldl_cons, setRangeV]
  rw [fold_set ys (k + 1) off]
  simp [Nat.add_assoc]
theorem RepL.cellV {s : S} : ∀ {l : List AV} {m : List Value}, RepL s l m → l.all (·.isCell) = true → ∀ v ∈ m, Vm.cellV v
 | [], m, h, _, v, hv => by unfold RepL at h; subst h; cases hv
 | c :: l, m, h, hc, v, hv => by
  unfold RepL at h
  obtain ⟨y, ys, rfl, h1, h2⟩ := h
  simp only [List.all_cons, Bool.and_eq_true] at hc
  rcases List.mem_cons.1 hv with rfl | hv
  ·exact h1.cellV hc.1
  ·exact RepL.cellV h2 hc.2 v hv
theorem storeRange' (P : Program) : ∀ (cs : List AV) (ys : List Value) (s : S) (id ty : Nat) (cells : List AV) (ver imm : Nat) (b : Slot) (off i base : Nat), HInv s → s.σ[id]? = some (.arr ty cells ver imm) → s.β[id]? = some b →
  imm ≤ off → off + cs.length ≤ b.ext → RepL s cs ys → (∀ v ∈ ys, cellV v) → base + i = b.off + off →
  ∃ s', (storeCells ⟨b.blk, base, none⟩ ys i).run P s.w = .ok () s'.w ∧ HInv s' ∧ Ext s s' ∧ s'.σ = s.σ.set id (.arr ty (setRange cells off cs) ver imm) ∧ s'.β = s.β ∧ s'.B = s.B ∧
   (∀ o', o' < b.off + off → s'.w.cell? ⟨b.blk, o', none⟩ = s.w.cell? ⟨b.blk, o', none⟩) ∧ (∀ (j : Nat) (c : AV), cs[j]? = some c → ∃ y, s'.w.cell? ⟨b.blk, b.off + off + j, none⟩ = some y ∧ Rep s' c y ∧ cellV y)
 | [], ys, s, id, ty, cells, ver, imm, b, off, i, base, hI, he, hb, him, hext, hr, hc, hbase => by
  unfold RepL at hr; subst hr
  exact ⟨s, by simp [storeCells], hI, Ext.refl s, by simp only [setRange]; exact (list_set_same he).symm, rfl, rfl, fun _ _ => rfl, fun j c hj => by simp at hj⟩
 | c :: cs, ys, s, id, ty, cells, ver, imm, b, off, i, base, hI, he, hb, him, hext, hr, hc, hbase => by
  unfold RepL at hr
  obtain ⟨y, ys', rfl, h1, h2⟩ := hr
  have hj : off < b.ext := by simp only [List.length_cons] at hext; omega
  have hcv := hc y (by simp)
  have hE := Ext.put hI he hb hj him (c := c) (y := y)
  have hH := HInv.put hI he hb hj him h1 hcv
  obtain ⟨⟨y0, h3⟩, h4⟩ := (hI.ent id _ b he hb).2.2.1 off hj
  obtain ⟨s', h5, h6, h7, h8, h9, h10, h11, h12⟩ := storeRange' P cs ys' (s.put id ty cells ver imm b off c y) id ty (cells.set off c) ver imm b (off + 1) (i + 1) base hH (get_set_self he) hb (by omega)
   (by simp only [List.length_cons] at hext; omega) (RepL.ext hE h2) (fun v hv => hc v (by simp [hv])) (by omega)
  refine ⟨s', ?_, h6, hE.trans h7, ?_, h9, h10, fun o' ho' => ?_, fun j d hj' => ?_⟩
  ·have hst : (store ⟨b.blk, b.off + off, none⟩ y).run P s.w = .ok () (s.w.setCell ⟨b.blk, b.off + off, none⟩ y) := by
    rw [run_store P s.w _ y .plain (oneCell_of hcv)]
    simp only [h3, h4 him]
    rfl
   simp only [storeCells, Sem.run_bind, Addr.add_lit, hbase, hst, Result.andThen_ok]
   exact h5
  ·rw [h8]; simp only [S.put, setRange, List.set_set]
  ·rw [h11 o' (by omega)]
   exact World.cell?_setCell_ne _ _ _ _ _ _ (.inr (by omega))
  ·cases j with
   | zero =>
    simp at hj'; subst hj'
    refine ⟨y, ?_, Rep.ext h7 (Rep.ext hE h1), hcv⟩
    rw [Nat.add_zero, h11 _ (by omega)]
    exact World.cell?_setCell_same _ _ _ h3
   | succ j =>
    simp at hj'
    have := h12 j d hj'
    rwa [show b.off + (off + 1) + j = b.off + off + (j + 1) by omega] at this
section
variable {E : Env} {T : Nat → TI} (hT : TabOK E.P T) {s : S} {a : Act} {ts : Ts} {g l : List Ent} (hs : s.σ = g ++ l) (hI : HInv s) (ht : TsRep s ts a)
include hT hs hI ht
theorem cells_rep {x : Operand} (hc : (ev ts x).cells.all (·.isCell) = true) : RepL s (ev ts x).cells (a.eval x).cells.toList := by
 have h := ev_rep ht x
 generalize hx : ev ts x = e at *
 cases e with
 | agg cs => unfold Rep at h; obtain ⟨vs, hh, h2⟩ := h; rw [hh]; exact h2
 | _ =>
  all_goals
   simp only [AV.cells, List.all_cons, List.all_nil, Bool.and_true] at hc
   rw [(h.cellV hc).cells]
   simp only [AV.cells]
   unfold RepL
   exact ⟨_, [], rfl, h, by unfold RepL; rfl⟩
theorem st_store {o : Oper} {t : TypeId} {x y : Operand} (ho : o.op = .store t x y) (h1 : (T t).ok = true) {id ver off : Nat} (hx : ev ts x = .ref id ver off) {ty : Nat} {cells : List AV} {ver' imm : Nat}
  (he : s.σ[id]? = some (.arr ty cells ver' imm)) (hver : ver = ver') (him : imm ≤ off) (hlen : (ev ts y).cells.length = (T t).size) (hl : off + (T t).size ≤ cells.length) (hc : (ev ts y).cells.all (·.isCell) = true) :
  StepOK E o s a g (.v undef) (ssetG g id (.arr ty (setRange cells off (ev ts y).cells) ver' imm)) (ssetL g l id (.arr ty (setRange cells off (ev ts y).cells) ver' imm)) := by
 obtain ⟨b, hb, hxa⟩ := ref_at hT hs hI ht hx he hver
 obtain ⟨hcl, _, _, _⟩ := arr_at hT hs hI ht he hb
 obtain ⟨inf, z, hinf, hsz, _⟩ := (hT t h1).info
 have hr := cells_rep hT hs hI ht hc
 obtain ⟨s', h5, h6, h7, h8, h9, h10, _, _⟩ := storeRange' E.P _ _ s id ty cells ver' imm b off 0 (b.off + off) hI he hb him (by omega) hr (RepL.cellV hr hc) (by omega)
 have hsize : (a.eval y).cells.size = inf.size := by have := hr.length; simp at this; omega
 refine ⟨.skip, undef, s', ?_, .inr ⟨rfl, rfl⟩, ?_, ssetG_len _ _ _, h10, h6, h7, by unfold Rep; rfl⟩
 ·simp [execOp, ho, Instr.storeAt, hxa, Instr.sureAddr, storeVar, run_sizeOf' hinf, hsize, h5]
 ·rw [h8, hs, sset_eq]
omit hT in
theorem cells_rep' {x : Operand} (hc : (ev ts x).cells.all (·.isCell) = true) : RepL s (ev ts x).cells (a.eval x).cells.toList := by
 have h := ev_rep ht x
 generalize hx : ev ts x = e at *
 cases e with
 | agg cs => unfold Rep at h; obtain ⟨vs, hh, h2⟩ := h; rw [hh]; exact h2
 | _ =>
  all_goals
   simp only [AV.cells, List.all_cons, List.all_nil, Bool.and_true] at hc
   rw [(h.cellV hc).cells]
   simp only [AV.cells]
   unfold RepL
   exact ⟨_, [], rfl, h, by unfold RepL; rfl⟩
theorem fill_ok (flds : List (Nat × Nat × Bool)) (place : Nat → Option (Nat × Nat)) (hp : ∀ (i : Nat) off sz ag, flds[i]? = some (off, sz, ag) → place i = some (off, sz)) :
  ∀ (ps : List (Nat × Operand)) (cells cells' : List AV) (vs : Array Value), fill T flds ts cells ps = some cells' → RepL s cells vs.toList →
   ∃ vs' : Array Value, Instr.fill place vs (ps.map fun p => (p.1, a.eval p.2)) = some vs' ∧ RepL s cells' vs'.toList
 | [], cells, cells', vs, h, hr => by simp only [fill, Option.some.injEq] at h; subst h; exact ⟨vs, rfl, hr⟩
 | (i, x) :: ps, cells, cells', vs, h, hr => by
  simp only [fill] at h
  split at h
  ·rename_i off sz ag hf
   split at h
   ·rename_i hh
    obtain ⟨h1, h2, h3⟩ := hh
    have hcr := cells_rep' hs hI ht h3
    have hl1 := hcr.length
    have hl2 := hr.length
    simp only [Array.length_toList] at hl1 hl2
    have hr' : RepL s (setRange cells off (ev ts x).cells) ((a.eval x).cells.zipIdx.foldl (fun cs (p : Value × Nat) => cs.setIfInBounds (off + p.2) p.1) vs).toList := by
     rw [← Array.foldl_toList, Array.toList_zipIdx, fold_set]
     exact RepL.setRange hcr hr
    obtain ⟨vs', h4, h5⟩ := fill_ok flds place hp ps _ cells' _ h hr'
    refine ⟨vs', ?_, h5⟩
    simp only [List.map_cons, Instr.fill, hp i off sz ag hf]
    have c1 : ((decide ((a.eval x).cells.size ≠ sz)) || decide (off + (a.eval x).cells.size > vs.size)) = false := by
     simp; omega
    rw [if_neg (by simpa using c1)]
    exact h4
   ·cases h
  ·cases h
theorem st_build {o : Oper} {t : TypeId} {parts : Array (Nat × Operand)} (ho : o.op = .build t parts) (h1 : (T t).ok = true) (hag : (T t).zero.isAgg = true) (hne : (T t).flds ≠ []) {cells : List AV}
  (hf : fill T (T t).flds ts (T t).zero.cells parts.toList = some cells) : StepOK E o s a g (.agg cells) g l := by
 have hty := hT t h1
 obtain ⟨inf, z, hinf, hsz, _, hz, hzv⟩ := hty.info
 have hzr := zval_rep s hzv
 cases hd : (T t).desc with
 | struct fs =>
  have hun := hty.und
  rw [hd] at hun
  obtain ⟨fl, hfl, hlen, hfl2⟩ := hty.flds fs hd
  have hzz : ∃ zs, (T t).zero = .agg zs := by cases hzero : (T t).zero <;> simp_all [AV.isAgg]
  obtain ⟨zs, hzs⟩ := hzz
  rw [hzs] at hzr hf
  unfold Rep at hzr
  obtain ⟨zv, rfl, hzr⟩ := hzr
  obtain ⟨vs', h4, h5⟩ := fill_ok hT hs hI ht (T t).flds (fun i => ((T t).flds[i]?).map fun p => (p.1, p.2.1)) (fun i off sz ag h => by simp [h]) parts.toList zs cells zv hf hzr
  refine .pure hs hI (v := .agg vs') ?_ (by unfold Rep; exact ⟨_, rfl, h5⟩)
  have hb : E.P.built t ((parts.map fun p => (p.1, a.eval p.2))).toList = some vs' := by
   unfold Program.built
   have hpl : fs.toList.mapM (fun f => (E.P.info? f.type).map fun i => (f.offset, i.size)) = some ((T t).flds.map fun p => (p.1, p.2.1)) := by
    refine mapM_some (by simp [hfl, hlen]) fun i f y h6 h7 => ?_
    rw [List.getElem?_map] at h7
    cases h8 : (T t).flds[i]? with
    | none => simp [h8] at h7
    | some q =>
     obtain ⟨off, sz, ag⟩ := q
     simp only [h8, Option.map_some, Option.some.injEq] at h7
     subst h7
     obtain ⟨f', inf', d', h9, h10, h11, h12, _⟩ := hfl2 i off sz ag (by rw [← hfl]; exact h8)
     have h6' : fs[i]? = some f := by simpa using h6
     rw [h6'] at h9; cases h9
     simp [h11, h12, h10]
   simp only [hinf, hun, hz, hpl, Value.cells]
   rw [Array.toList_map]
   refine Eq.trans ?_ h4
   congr 1
   funext i
   simp
  have hrun := run_build (P := E.P) s.w t _ vs' hb
  simp only [execOp, ho]
  exact run_v (E := E) hrun
 | _ => all_goals (exact absurd (hty.noflds (by rw [hd]; simp)) hne)
theorem fillA_ok (sz : Nat) :
  ∀ (ps : List (Nat × Operand)) (cells cells' : List AV) (vs : Array Value), fillA sz ts cells ps = some cells' → RepL s cells vs.toList →
   ∃ vs' : Array Value, Instr.fill (fun i => some (i * sz, sz)) vs (ps.map fun p => (p.1, a.eval p.2)) = some vs' ∧ RepL s cells' vs'.toList
 | [], cells, cells', vs, h, hr => by simp only [fillA, Option.some.injEq] at h; subst h; exact ⟨vs, rfl, hr⟩
 | (i, x) :: ps, cells, cells', vs, h, hr => by
  simp only [fillA] at h
  split at h
  ·rename_i hh
   obtain ⟨h1, h2, h3⟩ := hh
   have hcr := cells_rep' hs hI ht h3
   have hl1 := hcr.length
   have hl2 := hr.length
   simp only [Array.length_toList] at hl1 hl2
   have hr' : RepL s (setRange cells (i * sz) (ev ts x).cells) ((a.eval x).cells.zipIdx.foldl (fun cs (p : Value × Nat) => cs.setIfInBounds (i * sz + p.2) p.1) vs).toList := by
    rw [← Array.foldl_toList, Array.toList_zipIdx, fold_set]
    exact RepL.setRange hcr hr
   obtain ⟨vs', h4, h5⟩ := fillA_ok sz ps _ cells' _ h hr'
   refine ⟨vs', ?_, h5⟩
   simp only [List.map_cons, Instr.fill]
   have c1 : ((decide ((a.eval x).cells.size ≠ sz)) || decide (i * sz + (a.eval x).cells.size > vs.size)) = false := by
    simp; omega
   rw [if_neg (by simpa using c1)]
   exact h4
  ·cases h
theorem st_buildA {o : Oper} {t : TypeId} {parts : Array (Nat × Operand)} (ho : o.op = .build t parts) (h1 : (T t).ok = true) (hag : (T t).zero.isAgg = true) (hd : isArrD (T t).desc = true) (h2 : (T (arrE (T t).desc)).ok = true) {cells : List AV}
  (hf : fillA (T (arrE (T t).desc)).size ts (T t).zero.cells parts.toList = some cells) : StepOK E o s a g (.agg cells) g l := by
 have hty := hT t h1
 obtain ⟨inf, z, hinf, hsz, _, hz, hzv⟩ := hty.info
 have hzr := zval_rep s hzv
 cases hdd : (T t).desc with
 | array n e =>
  have hun := hty.und
  rw [hdd] at hun
  simp only [hdd, arrE] at h2 hf
  obtain ⟨infe, ze, hinfe, hsze, _⟩ := (hT e h2).info
  have hzz : ∃ zs, (T t).zero = .agg zs := by cases hzero : (T t).zero <;> simp_all [AV.isAgg]
  obtain ⟨zs, hzs⟩ := hzz
  rw [hzs] at hzr hf
  unfold Rep at hzr
  obtain ⟨zv, rfl, hzr⟩ := hzr
  obtain ⟨vs', h4, h5⟩ := fillA_ok hT hs hI ht (T e).size parts.toList zs cells zv hf hzr
  refine .pure hs hI (v := .agg vs') ?_ (by unfold Rep; exact ⟨_, rfl, h5⟩)
  have hb : E.P.built t ((parts.map fun p => (p.1, a.eval p.2))).toList = some vs' := by
   unfold Program.built
   simp only [hinf, hun, hz, hinfe, hsze, Value.cells]
   rw [Array.toList_map]
   exact h4
  have hrun := run_build (P := E.P) s.w t _ vs' hb
  simp only [execOp, ho]
  exact run_v (E := E) hrun
 | _ => all_goals (rw [hdd] at hd; cases hd)
end
end Go.Vm
namespace Go.Vm
open Go.RowKit
theorem setRangeV_eq : ∀ (ys m : List Value) (off : Nat), off + ys.length ≤ m.length → setRangeV m off ys = m.take off ++ ys ++ m.drop (off + ys.length)
 | [], m, off, h => by simp [setRangeV]
 | y :: ys, m, off, h => by
  simp only [List.length_cons] at h
  rw [setRangeV, setRangeV_eq ys (m.set off y) (off + 1) (by simp; omega)]
  have h1 : (m.set off y).take (off + 1) = m.take off ++ [y] := by
   have hlt : off < m.length := by omega
   rw [List.take_succ_eq_append_getElem (by simpa using hlt), List.take_set_of_le (by omega)]
   simp
  have h2 : (m.set off y).drop (off + 1 + ys.length) = m.drop (off + (y :: ys).length) := by
   rw [List.drop_set_of_lt (by omega)]
   congr 1
   simp; omega
  rw [h1, h2]
  simp
theorem flat_get {α β : Type} {f : α → List β} {sz : Nat} : ∀ {l : List α}, (∀ x ∈ l, (f x).length = sz) → ∀ {i : Nat} {x : α}, l[i]? = some x → ∀ {j : Nat}, j < sz → (l.flatMap f)[i * sz + j]? = (f x)[j]?
 | [], _, i, x, hi, _, _ => by simp at hi
 | y :: l, h, i, x, hi, j, hj => by
  have hy := h y (by simp)
  cases i with
  | zero =>
   simp at hi; subst hi
   simp only [List.flatMap_cons, Nat.zero_mul, Nat.zero_add]
   rw [List.getElem?_append_left (by omega)]
  | succ i =>
   simp at hi
   simp only [List.flatMap_cons]
   rw [List.getElem?_append_right (by rw [hy, Nat.succ_mul]; omega), hy, show (i + 1) * sz + j - sz = i * sz + j by rw [Nat.succ_mul]; omega]
   exact flat_get (fun z hz => h z (by simp [hz])) hi hj
theorem flat_len {α β : Type} {f : α → List β} {sz : Nat} : ∀ {l : List α}, (∀ x ∈ l, (f x).length = sz) → (l.flatMap f).length = l.length * sz
 | [], _ => by simp
 | y :: l, h => by
  simp only [List.flatMap_cons, List.length_append, List.length_cons, h y (by simp), flat_len (l := l) fun z hz => h z (by simp [hz])]
  rw [Nat.succ_mul]; omega
theorem fillV (sz : Nat) : ∀ (ys : List Value) (k : Nat) (vs : Array Value), (∀ y ∈ ys, y.cells.size = sz) → (k + ys.length) * sz ≤ vs.size →
  ∃ vs' : Array Value, Instr.fill (fun i => some (i * sz, sz)) vs ((ys.zipIdx k).map fun p => (p.2, p.1)) = some vs' ∧ vs'.size = vs.size ∧
   vs'.toList = vs.toList.take (k * sz) ++ ys.flatMap (fun y => y.cells.toList) ++ vs.toList.drop ((k + ys.length) * sz)
 | [], k, vs, _, h => ⟨vs, rfl, rfl, by simp⟩
 | y :: ys, k, vs, hy, h => by
  have h0 := hy y (by simp)
  simp only [List.length_cons] at h
  have hk : (k + (ys.length + 1)) * sz = k * sz + sz + ys.length * sz := by rw [Nat.add_mul, Nat.succ_mul]; omega
  have e1 : (y.cells.zipIdx.foldl (fun cs (p : Value × Nat) => cs.setIfInBounds (k * sz + p.2) p.1) vs).toList = vs.toList.take (k * sz) ++ y.cells.toList ++ vs.toList.drop (k * sz + sz) := by
   rw [← Array.foldl_toList, Array.toList_zipIdx, fold_set, setRangeV_eq]
   ·simp [h0]
   ·simp [h0]; omega
  generalize hvs1 : (y.cells.zipIdx.foldl (fun cs (p : Value × Nat) => cs.setIfInBounds (k * sz + p.2) p.1) vs) = vs1 at e1
  have hlen1 : vs1.size = vs.size := by
   have := congrArg List.length e1
   simp [h0] at this
   omega
  obtain ⟨vs', h1, h2, h3⟩ := fillV sz ys (k + 1) vs1 (fun z hz => hy z (by simp [hz])) (by rw [hlen1, Nat.add_mul, Nat.succ_mul]; omega)
  refine ⟨vs', ?_, by omega, ?_⟩
  ·simp only [List.zipIdx_cons, List.map_cons, Instr.fill]
   rw [if_neg (by simp [h0]; omega), hvs1]
   exact h1
  ·rw [h3, e1]
   have ht : k * sz + sz = (vs.toList.take (k * sz) ++ y.cells.toList).length := by simp [h0]; omega
   have t1 : (vs.toList.take (k * sz) ++ y.cells.toList ++ vs.toList.drop (k * sz + sz)).take ((k + 1) * sz) = vs.toList.take (k * sz) ++ y.cells.toList := by
    rw [Nat.succ_mul, ht, List.take_left]
   have t2 : (vs.toList.take (k * sz) ++ y.cells.toList ++ vs.toList.drop (k * sz + sz)).drop ((k + 1 + ys.length) * sz) = vs.toList.drop ((k + (ys.length + 1)) * sz) := by
    rw [show (k + 1 + ys.length) * sz = (vs.toList.take (k * sz) ++ y.cells.toList).length + ys.length * sz by rw [← ht, Nat.add_mul, Nat.succ_mul], List.drop_append, hk]
    rw [List.drop_eq_nil_of_le (by omega)]
    simp
   rw [t1, t2]
   simp
theorem RepL.flatMap {s : S} : ∀ {es : List AV} {ys : List Value}, RepL s es ys → (∀ e ∈ es, e.cells.all (·.isCell) = true) → RepL s (es.flatMap AV.cells) (ys.flatMap fun y => y.cells.toList)
 | [], ys, h, _ => by unfold RepL at h; subst h; simp; unfold RepL; rfl
 | e :: es, ys, h, hc => by
  unfold RepL at h
  obtain ⟨y, ys', rfl, h1, h2⟩ := h
  simp only [List.flatMap_cons]
  refine RepL.append ?_ (RepL.flatMap h2 fun e' he' => hc e' (by simp [he']))
  have hce := hc e (by simp)
  cases e with
  | agg cs => unfold Rep at h1; obtain ⟨vs, rfl, h3⟩ := h1; exact h3
  | _ =>
   all_goals
    simp only [AV.cells, List.all_cons, List.all_nil, Bool.and_true] at hce
    rw [(h1.cellV hce).cells]
    simp only [AV.cells]
    unfold RepL
    exact ⟨_, [], rfl, h1, by unfold RepL; rfl⟩
theorem isEl_spec {sz : Nat} {ag : Bool} {e : AV} (h : isEl sz ag e = true) : e.isAgg = ag ∧ e.cells.length = sz ∧ e.cells.all (·.isCell) = true := by
 unfold isEl at h
 simp only [Bool.and_eq_true, beq_iff_eq] at h
 exact ⟨h.1.1, h.1.2, h.2⟩
theorem cells_size {s : S} {e : AV} {y : Value} (hr : Rep s e y) (hc : e.cells.all (·.isCell) = true) : y.cells.size = e.cells.length := by
 cases e with
 | agg cs => unfold Rep at hr; obtain ⟨vs, rfl, h3⟩ := hr; have := h3.length; simpa [AV.cells, Value.cells] using this
 | _ =>
  all_goals
   simp only [AV.cells, List.all_cons, List.all_nil, Bool.and_true] at hc
   rw [(hr.cellV hc).cells]
   simp [AV.cells]
theorem repRow_of {s : S} {sz blk : Nat} {ag : Bool} {es : List AV} {ys : List Value} {C : List Value} (hr : RepL s es ys) (hel : ∀ e ∈ es, isEl sz ag e = true)
  (hC : ∀ (j : Nat) v, C[j]? = some v → s.w.cell? ⟨blk, j, none⟩ = some v) (hflat : ∀ (j : Nat), j < es.length * sz → C[j]? = (ys.flatMap fun y => y.cells.toList)[j]?)
  (hpos : 0 < sz) (himm : ∀ j, Imm s blk j) : RepRow s sz blk 0 es := by
 refine RepRow.mk fun i e hi => ?_
 obtain ⟨y, hy, hrep⟩ := hr.get hi
 have hee := isEl_spec (hel e (List.mem_of_getElem? hi))
 have hys : ∀ z ∈ ys, z.cells.toList.length = sz := by
  intro z hz
  obtain ⟨q, hq⟩ := List.mem_iff_getElem?.1 hz
  have hql : q < es.length := by have := lt_of_get hq; rw [hr.length] at this; exact this
  obtain ⟨z', h1, h2⟩ := hr.get (List.getElem?_eq_getElem hql)
  rw [hq] at h1; cases h1
  have h3 := isEl_spec (hel _ (List.getElem_mem hql))
  rw [Array.length_toList, cells_size h2 h3.2.2, h3.2.1]
 have hilt := lt_of_get hi
 have key : ∀ j v, j < sz → y.cells[j]? = some v → s.w.cell? ⟨blk, 0 + i * sz + j, none⟩ = some v := by
  intro j v hj hv
  rw [Nat.zero_add]
  apply hC
  rw [hflat _ (by have : (i + 1) * sz ≤ es.length * sz := Nat.mul_le_mul_right _ hilt; rw [Nat.succ_mul] at this; omega), flat_get hys hy hj]
  simpa using hv
 refine ⟨y, ?_, hrep⟩
 unfold LoadsAt
 have hsz := cells_size hrep hee.2.2
 rw [hee.2.1] at hsz
 cases e with
 | agg cs =>
  unfold Rep at hrep
  obtain ⟨vs, rfl, h3⟩ := hrep
  simp only [AV.isAgg, if_true]
  refine ⟨vs, rfl, hsz, fun j x hx => ⟨key j x ?_ hx, himm _⟩⟩
  have : j < vs.size := (Array.getElem?_eq_some_iff.1 hx).1
  simp only [Value.cells] at hsz; omega
 | _ =>
  all_goals
   have hc := hee.2.2
   simp only [AV.cells, List.all_cons, List.all_nil, Bool.and_true] at hc
   have hyc := (hrep.cellV hc).cells
   have h1 : sz = 1 := by have := hee.2.1; simp only [AV.cells, List.length_cons, List.length_nil] at this; omega
   subst h1
   simp only [AV.isAgg, Bool.false_eq_true, if_false]
   refine ⟨trivial, ?_, himm _⟩
   have := key 0 y (by omega) (by rw [hyc]; rfl)
   simpa using this
theorem lits_ok {ts : Ts} {sz : Nat} {ag : Bool} {a : Act} : ∀ {ps : List (Nat × Operand)} {i : Nat} {es : List AV}, lits ts sz ag i ps = some es →
  es = ps.map (fun p => ev ts p.2) ∧ (∀ e ∈ es, isEl sz ag e = true) ∧ ps.map (fun p => (p.1, a.eval p.2)) = ((ps.map fun p => a.eval p.2).zipIdx i).map fun p => (p.2, p.1)
 | [], i, es, h => by simp only [lits, Option.some.injEq] at h; subst h; simp
 | (j, x) :: ps, i, es, h => by
  simp only [lits] at h
  split at h
  ·rename_i hh
   simp only [Bool.and_eq_true, beq_iff_eq] at hh
   cases hl : lits ts sz ag (i + 1) ps with
   | none => simp [hl] at h
   | some es' =>
    simp only [hl, Option.map_some, Option.some.injEq] at h
    subst h
    obtain ⟨h1, h2, h3⟩ := lits_ok (a := a) hl
    refine ⟨by simp [h1], ?_, by simp [h3, of_decide_eq_true hh.1]⟩
    intro e he
    rcases List.mem_cons.1 he with rfl | he
    ·exact hh.2
    ·exact h2 e he
  ·cases h
section
variable {E : Env} {T : Nat → TI} (hT : TabOK E.P T) {s : S} {a : Act} {ts : Ts} {g l : List Ent} (hs : s.σ = g ++ l) (hI : HInv s) (ht : TsRep s ts a)
include hT hs hI ht
theorem buildSlice_run {o : Oper} {t : TypeId} {n : Nat} {parts : Array (Nat × Operand)} (ho : o.op = .buildSlice t n parts) (h1 : (T t).ok = true) {e : TypeId} (hd : (T t).desc = .slice e) (h2 : (T e).ok = true)
  (hpos : 0 < (T e).size) (hn : n ≤ 4096) (hsz : (T e).size ≤ 4096) (hps : parts.size = n) {es : List AV} (hl : lits ts (T e).size (T e).isAgg 0 parts.toList = some es) :
  ∃ (ys : List Value) (C : Array Value), RepL s es ys ∧ (∀ e' ∈ es, isEl (T e).size (T e).isAgg e' = true) ∧ es.length = n ∧ C.toList = ys.flatMap (fun y => y.cells.toList) ∧
   (execOp a.eval o).run E.P s.w = .ok (.value (.slice (some ⟨s.w.heap.size, 0, none⟩) n n)) (s.w.alloc (.cells C e)) := by
 have hun := (hT t h1).und
 rw [hd] at hun
 obtain ⟨inf, z, hinf, hisz, _, hz, hzv⟩ := (hT e h2).info
 obtain ⟨h3, h4, h5⟩ := lits_ok (a := a) hl
 have hlen : es.length = n := by rw [h3]; simp [hps]
 have hr : RepL s es (parts.toList.map fun p => a.eval p.2) := by
  rw [h3]
  have := evs_rep ht (parts.toList.map (·.2))
  simpa [List.map_map, Function.comp_def] using this
 have hysz : ∀ y ∈ (parts.toList.map fun p => a.eval p.2), y.cells.size = (T e).size := by
  intro y hy
  obtain ⟨q, hq⟩ := List.mem_iff_getElem?.1 hy
  have hql : q < es.length := by have := lt_of_get hq; rw [hr.length] at this; exact this
  obtain ⟨z', h6, h7⟩ := hr.get (List.getElem?_eq_getElem hql)
  rw [hq] at h6; cases h6
  have h8 := isEl_spec (h4 _ (List.getElem_mem hql))
  rw [cells_size h7 h8.2.2, h8.2.1]
 refine ⟨parts.toList.map fun p => a.eval p.2, ?_⟩
 by_cases hn0 : n = 0
 ·subst hn0
  have hp0 : parts = #[] := by simpa using hps
  subst hp0
  refine ⟨#[], hr, h4, hlen, by simp, ?_⟩
  simp [execOp, ho, Instr.buildSlice, run_underlying hun, run_sizeOf' hinf, Instr.fill, newRow, Array.range_zero']
 ·obtain ⟨vs', h6, h7, h8⟩ := fillV (T e).size (parts.toList.map fun p => a.eval p.2) 0 ((Array.range (n * (T e).size)).map (z.cells[· % z.cells.size]!)) hysz (by simp [hps])
  refine ⟨vs', hr, h4, hlen, by rw [h8]; simp [hps], ?_⟩
  have hpos2 : ¬ n * inf.size = 0 := by rw [hisz]; exact Nat.ne_of_gt (Nat.mul_pos (by omega) hpos)
  have hsm : ¬ n * inf.size > 2 ^ 24 := by
   rw [hisz]
   have : n * (T e).size ≤ 4096 * 4096 := Nat.mul_le_mul hn hsz
   omega
  have hf : Instr.fill (fun i => some (i * inf.size, inf.size)) ((Array.range (n * inf.size)).map (z.cells[· % z.cells.size]!)) (parts.map fun (i, x) => (i, a.eval x)).toList = some vs' := by
   rw [hisz, Array.toList_map]
   refine Eq.trans ?_ h6
   congr 1
  have hrun := run_buildSlice (P := E.P) s.w t e n (parts.map fun (i, x) => (i, a.eval x)) vs' inf z hun hinf hz hsm hpos2 hf
  simp only [execOp, ho]
  exact run_v (E := E) hrun
theorem st_buildSlice {o : Oper} {t : TypeId} {n : Nat} {parts : Array (Nat × Operand)} (ho : o.op = .buildSlice t n parts) (h1 : (T t).ok = true) {e : TypeId} (hd : (T t).desc = .slice e) (h2 : (T e).ok = true)
  (hpos : 0 < (T e).size) (hn : n ≤ 4096) (hsz : (T e).size ≤ 4096) (hps : parts.size = n) {es : List AV} (hl : lits ts (T e).size (T e).isAgg 0 parts.toList = some es) : StepOK E o s a g (.sl es) g l := by
 obtain ⟨ys, C, hr, hel, hlen, hC, hrun⟩ := buildSlice_run hT hs hI ht ho h1 hd h2 hpos hn hsz hps hl
 have hw := below_alloc s.w (.cells C e)
 refine ⟨_, _, { s with w := s.w.alloc (.cells C e) }, hrun, .inl rfl, hs, rfl, rfl, hI.of_below hw, Ext.of_below hI hw, ?_⟩
 have hE : Ext s { s with w := s.w.alloc (.cells C e) } := Ext.of_below hI hw
 unfold Rep
 refine ⟨_, _, by rw [hlen], by omega, ?_⟩
 right
 refine ⟨s.w.heap.size, 0, (T e).size, rfl, hpos, repRow_of (C := C.toList) (RepL.ext hE hr) hel (fun j v hj => ?_) (fun j _ => by rw [hC]) hpos fun j => ⟨by simp, fun id en b he hb hbb => ?_⟩⟩
 ·show (s.w.alloc _).cell? _ = _
  rw [World.cell?_alloc_new]; simpa using hj
 ·have := (hI.slot id b hb).2; omega
theorem st_buildSlice_row {o : Oper} {t : TypeId} {n : Nat} {parts : Array (Nat × Operand)} (ho : o.op = .buildSlice t n parts) (h1 : (T t).ok = true) {e : TypeId} (hd : (T t).desc = .slice e) (h2 : (T e).ok = true)
  (hpos : 0 < (T e).size) (hn : n ≤ 4096) (hsz : (T e).size ≤ 4096) (hps : parts.size = n) {es : List AV} (hl : lits ts (T e).size (T e).isAgg 0 parts.toList = some es) :
  StepOK E o s a g (.rsl (g.length + l.length) 0 0 n (T e).size) g (l ++ [.arr e (es.flatMap AV.cells) 0 0]) := by
 obtain ⟨ys, C, hr, hel, hlen, hC, hrun⟩ := buildSlice_run hT hs hI ht ho h1 hd h2 hpos hn hsz hps hl
 have hrf := RepL.flatMap hr fun e' he' => (isEl_spec (hel e' he')).2.2
 rw [← hC] at hrf
 have hfl : (es.flatMap AV.cells).length = n * (T e).size := by rw [flat_len fun e' he' => (isEl_spec (hel e' he')).2.1, hlen]
 have hszC : (es.flatMap AV.cells).length = C.size := by have := hrf.length; simp only [Array.length_toList] at this; omega
 have hlen2 : s.σ.length = g.length + l.length := by rw [hs]; simp
 refine ⟨_, _, s.push (.arr e (es.flatMap AV.cells) 0 0) ⟨s.w.heap.size, 0, C.size⟩ (s.w.alloc (.cells C e)), hrun, .inl rfl, by simp [S.push, hs], rfl, rfl, hI.push _ C e (by rw [hszC]; exact Nat.le_refl _) fun j c hj => ?_, Ext.push hI _ _ _, ?_⟩
 ·obtain ⟨y, h3, h4⟩ := hrf.get hj
  refine ⟨y, by simpa using h3, h4, h4.cellV ?_⟩
  obtain ⟨e', he', hc'⟩ := List.mem_flatMap.1 (List.mem_of_getElem? hj)
  exact List.all_eq_true.1 (isEl_spec (hel e' he')).2.2 c hc'
 ·unfold Rep
  refine ⟨.arr e (es.flatMap AV.cells) 0 0, ⟨s.w.heap.size, 0, C.size⟩, ?_, ?_, Nat.le_refl _, _, _, _, rfl, fun _ => ⟨fun _ => ⟨rfl, rfl⟩, Nat.le_refl _, ?_⟩⟩
  ·simp [S.push, ← hlen2]
  ·simp [S.push, ← hlen2, ← hI.len]
  ·show 0 + n * (T e).size = C.size
   rw [← hszC, hfl]; omega
end
end Go.Vm
namespace Go.Vm
open Go.RowKit
theorem row_cells {s : S} {sz blk : Nat} {ag : Bool} : ∀ {es : List AV} {off : Nat}, RepRow s sz blk off es → (∀ e ∈ es, isEl sz ag e = true) →
  ∃ news : List Value, RepL s (es.flatMap AV.cells) news ∧ news.length = es.length * sz ∧ (∀ (j : Nat) u, news[j]? = some u → s.w.cell? ⟨blk, off + j, none⟩ = some u) ∧ ∀ u ∈ news, cellV u
 | [], off, _, _ => ⟨[], by simp; unfold RepL; rfl, by simp, fun j u h => by simp at h, fun u h => by cases h⟩
 | e :: es, off, h, hel => by
  unfold RepRow at h
  obtain ⟨⟨y, h1, h2⟩, h3⟩ := h
  obtain ⟨news, h4, h5, h6, h7⟩ := row_cells h3 fun e' he' => hel e' (by simp [he'])
  obtain ⟨h8, h9⟩ := h1.repAt h2
  have hee := isEl_spec (hel e (by simp))
  obtain ⟨ys, h10, h11, h12⟩ := RepL.ofCells (s := s) (w := s.w) (cs := e.cells) (blk := blk) (off := off) fun j c hj => by
   obtain ⟨y', a1, _, a3⟩ := h9.get hj; exact ⟨y', a1, a3⟩
  refine ⟨ys ++ news, by simp only [List.flatMap_cons]; exact RepL.append h10 h4, by simp [h11, h5, h8, Nat.succ_mul]; omega, fun j u hj => ?_, fun u hu => ?_⟩
  ·rcases Nat.lt_or_ge j ys.length with hlt | hge
   ·rw [List.getElem?_append_left hlt] at hj; exact h12 j u hj
   ·rw [List.getElem?_append_right hge] at hj
    have := h6 _ u hj
    rw [h11, h8] at this hge
    rwa [show off + sz + (j - sz) = off + j by omega] at this
  ·rcases List.mem_append.1 hu with hu | hu
   ·obtain ⟨q, hq⟩ := List.mem_iff_getElem?.1 hu
    have hql : q < e.cells.length := by have := lt_of_get hq; omega
    obtain ⟨u', a1, a2⟩ := h10.get (List.getElem?_eq_getElem hql)
    rw [hq] at a1; cases a1
    exact a2.cellV (List.all_eq_true.1 hee.2.2 _ (List.getElem_mem hql))
   ·exact h7 u hu
section
variable {E : Env} {T : Nat → TI} (hT : TabOK E.P T) {s : S} {a : Act} {ts : Ts} {g l : List Ent} (hs : s.σ = g ++ l) (hI : HInv s) (ht : TsRep s ts a)
include hs hI ht
theorem newCells_src {sz : Nat} {ag : Bool} {x : Operand} {p : Prop} {m : Nat} {new : List AV} (h : newCells g l sz ag (ev ts x) = some (p, m, new)) (hp : p) {tx : TypeId}
  (hk : (∃ e', E.P.underlying tx = some (.slice e')) ∨ E.P.underlying tx = some .string) :
  ∃ news, Src E.P sz tx (a.eval x) m news s.w ∧ RepL s new news ∧ ∀ u ∈ news, cellV u := by
 have hr := ev_rep ht x
 unfold newCells at h
 split at h
 ·rename_i es hx
  rw [hx] at hr
  simp only [Option.some.injEq, Prod.mk.injEq] at h
  obtain ⟨rfl, rfl, rfl⟩ := h
  unfold Rep at hr
  obtain ⟨ao, cap, hv, hc, hrow⟩ := hr
  have hlen := flat_len (f := AV.cells) fun e he => (isEl_spec (hp e he)).2.1
  by_cases hes : es = []
  ·subst hes
   refine ⟨[], ?_, by simp; unfold RepL; rfl, fun u h => by cases h⟩
   rw [hv]
   have hfc : ∀ w' : World, (Builtin.firstCells sz 0 (.slice ao 0 cap)).run E.P w' = .ok #[] w' := by
    intro w'
    cases ao with
    | none => exact run_firstCells_none w' sz 0 0 cap
    | some ad => have := run_firstCells_some (P := E.P) w' sz 0 ad 0 cap [] (by simp) (fun j v h => by simp at h); simpa using this
   exact ⟨hk, fun _ => rfl, by simpa using hfc s.w, by simpa using hfc s.w.drew, by simp, fun _ h => by cases h⟩
  ·rcases hrow with h0 | ⟨blk, off, k, rfl, hpos, hrow⟩
   ·exact absurd h0 hes
   have hk2 : k = sz := by
    obtain ⟨e, es', rfl⟩ := List.exists_cons_of_ne_nil hes
    obtain ⟨y, h3, h4⟩ := hrow.get (i := 0) rfl
    rw [← (h3.repAt h4).1]; exact (isEl_spec (hp e (by simp))).2.1
   subst hk2
   obtain ⟨news, h4, h5, h6, h7⟩ := row_cells hrow hp
   refine ⟨news, ?_, h4, h7⟩
   rw [hv]
   have hone : ∀ u ∈ news, u.oneCell' = true := fun u hu => oneCell_of (h7 u hu)
   have hcell : ∀ (j : Nat) u, news[j]? = some u → s.w.cell? (Addr.add ⟨blk, off, none⟩ j) = some u := fun j u hj => by rw [Addr.add_lit]; exact h6 j u hj
   exact ⟨hk, fun _ => rfl, run_firstCells_some s.w k _ _ _ _ news h5 hcell, run_firstCells_some s.w.drew k _ _ _ _ news h5 hcell, h5, hone⟩
 ·rename_i hx
  have hv := rep_v hs hI ht hx
  simp only [Option.some.injEq, Prod.mk.injEq] at h
  obtain ⟨rfl, rfl, rfl⟩ := h
  refine ⟨[], ?_, by unfold RepL; rfl, fun u h => by cases h⟩
  rw [hv]
  exact ⟨hk, fun _ => rfl, run_firstCells_none s.w sz 0 0 0, run_firstCells_none s.w.drew sz 0 0 0, by simp, fun _ h => by cases h⟩
 ·rename_i str hx
  rw [hx] at hr
  unfold Rep at hr
  split at h
  ·rename_i hsz
   subst hsz
   simp only [Option.some.injEq, Prod.mk.injEq] at h
   obtain ⟨rfl, rfl, rfl⟩ := h
   have hsize : (ByteArray.mk ⟨str⟩).size = str.length := by simp [ByteArray.size]
   have hbl : byteCells ⟨⟨str⟩⟩ = str.map fun b => Value.int .u8 b.toNat := by simp [byteCells]
   have f1 := firstCells_string (P := E.P) ⟨⟨str⟩⟩ s.w
   have f2 := firstCells_string (P := E.P) ⟨⟨str⟩⟩ s.w.drew
   rw [hsize, hbl] at f1 f2
   refine ⟨str.map fun b => Value.int .u8 b.toNat, ?_, RepL.mk (by simp) fun i c y h1 h2 => ?_, fun u hu => ?_⟩
   ·rw [hr]
    refine ⟨hk, fun _ => by simp [Builtin.lenOf, hsize], f1, f2, by simp, fun u hu => ?_⟩
    obtain ⟨_, _, rfl⟩ := List.mem_map.1 hu; rfl
   ·rw [List.getElem?_map] at h1 h2
    cases h3 : str[i]? with
    | none => simp [h3] at h1
    | some b =>
     simp only [h3, Option.map_some, Option.some.injEq] at h1 h2
     subst h1 h2
     simp only [intV]; unfold Rep; rfl
   ·obtain ⟨_, _, rfl⟩ := List.mem_map.1 hu; simp [cellV]
  ·cases h
 ·rename_i id ver off n sz' hx
  rw [hx] at hr
  split at h
  ·rename_i ty cells ver' imm he
   rw [sget_eq, ← hs] at he
   simp only [Option.some.injEq, Prod.mk.injEq] at h
   obtain ⟨rfl, rfl, rfl⟩ := h
   obtain ⟨hver, rfl, hle, hpos⟩ := hp
   unfold Rep at hr
   obtain ⟨e', b, he', hb, hv, ab, ao, cap, hh, hadd⟩ := hr
   rw [he] at he'; cases he'
   obtain ⟨h1, h2, h3⟩ := hadd hver
   obtain ⟨rfl, rfl⟩ := h1 (by omega)
   obtain ⟨_, _, _, hc⟩ := hI.ent id _ b he hb
   obtain ⟨ys, h10, h11, h12⟩ := RepL.ofCells (s := s) (w := s.w) (cs := (cells.drop off).take (n * sz)) (blk := b.blk) (off := b.off + off) fun j c hj => by
    rw [List.getElem?_take] at hj
    split at hj
    ·rw [List.getElem?_drop] at hj
     obtain ⟨y, a1, a2, _⟩ := hc _ _ hj
     exact ⟨y, by rwa [← Nat.add_assoc] at a1, a2⟩
    ·cases hj
   have hyl : ys.length = n * sz := by rw [h11]; simp; omega
   have hcv : ∀ u ∈ ys, cellV u := by
    intro u hu
    obtain ⟨q, hq⟩ := List.mem_iff_getElem?.1 hu
    have hql : q < n * sz := by have := lt_of_get hq; omega
    have h13 := h12 q u hq
    obtain ⟨y, a1, a2, a3⟩ := hc (off + q) cells[off + q] (List.getElem?_eq_getElem (by omega))
    rw [← Nat.add_assoc, h13] at a1; cases a1; exact a3
   refine ⟨ys, ?_, h10, hcv⟩
   rw [hh]
   have hcell : ∀ (j : Nat) u, ys[j]? = some u → s.w.cell? (Addr.add ⟨b.blk, b.off + off, none⟩ j) = some u := fun j u hj => by rw [Addr.add_lit]; exact h12 j u hj
   exact ⟨hk, fun _ => rfl, run_firstCells_some s.w sz _ _ _ _ ys hyl hcell, run_firstCells_some s.w.drew sz _ _ _ _ ys hyl hcell, hyl, fun u hu => oneCell_of (hcv u hu)⟩
  ·cases h
 ·cases h
end
end Go.Vm
namespace Go.Vm
open Go.RowKit
theorem nextcap_le {need old : Nat} (h : old < need) : Builtin.nextslicecap need old ≤ 2 * need := by
 unfold Builtin.nextslicecap
 split
 ·omega
 ·split
  ·omega
  ·have h4 : ∀ n c : Nat, Builtin.growBy n 4 c = (if c ≥ n then c else
    if c + (c + 768) / 4 ≥ n then c + (c + 768) / 4 else
    if c + (c + 768) / 4 + (c + (c + 768) / 4 + 768) / 4 ≥ n then c + (c + 768) / 4 + (c + (c + 768) / 4 + 768) / 4 else
    if c + (c + 768) / 4 + (c + (c + 768) / 4 + 768) / 4 + (c + (c + 768) / 4 + (c + (c + 768) / 4 + 768) / 4 + 768) / 4 ≥ n
    then c + (c + 768) / 4 + (c + (c + 768) / 4 + 768) / 4 + (c + (c + 768) / 4 + (c + (c + 768) / 4 + 768) / 4 + 768) / 4 else
    c + (c + 768) / 4 + (c + (c + 768) / 4 + 768) / 4 + (c + (c + 768) / 4 + (c + (c + 768) / 4 + 768) / 4 + 768) / 4 +
     (c + (c + 768) / 4 + (c + (c + 768) / 4 + 768) / 4 + (c + (c + 768) / 4 + (c + (c + 768) / 4 + 768) / 4 + 768) / 4 + 768) / 4) := fun _ _ => rfl
   rw [h4]
   repeat' split
   all_goals omega
theorem fit {need old b : Nat} (h : old < need) (hr : need * b ≤ maxRoom) : Builtin.nextslicecap need old * b ≤ 281474976710656 := by
 have h6 := nextcap_le h
 have h7 : Builtin.nextslicecap need old * b ≤ 2 * need * b := Nat.mul_le_mul_right _ h6
 rw [Nat.mul_assoc] at h7
 unfold maxRoom at hr
 omega
theorem setRange_out : ∀ (cs cells : List AV) (off : Nat), cells.length ≤ off → setRange cells off cs = cells
 | [], _, _, _ => rfl
 | c :: cs, cells, off, h => by
  rw [setRange, List.set_eq_of_length_le h]
  exact setRange_out cs cells (off + 1) (by omega)
theorem below_drew (w : World) : Below w.heap.size w w.drew := (Below.refl _ _).drew
section
variable {E : Env} {T : Nat → TI} (hT : TabOK E.P T) {s : S} {a : Act} {ts : Ts} {g l : List Ent} (hs : s.σ = g ++ l) (hI : HInv s) (ht : TsRep s ts a)
include hT hs hI ht
theorem append_none {e : TypeId} {t tx ty : TypeId} (ht' : E.P.underlying t = some (.slice e)) {inf : TypeInfo} (hi : E.P.info? e = some inf) {x : Value} (hsrc : Src E.P inf.size tx x 0 [] s.w) :
  (Builtin.append_ #[t, tx] ty #[.slice none 0 0, x]).run E.P s.w = .ok (.slice none 0 0) s.w := by
 have hl := hsrc.len s.w
 have hc := hsrc.cells
 rcases hsrc.kind with ⟨e', hk⟩ | hk <;> simp [Builtin.append_, run_underlying ht', run_underlying hk, sizeOf, typeInfo, hi, hl, hc]
theorem two_args {c : Call} {x y : Operand} {t u : TypeId} (h0 : c.args[0]? = some x) (h1 : c.args[1]? = some y) (h2 : c.args.size = 2) (k0 : c.argTypes[0]? = some t) (k1 : c.argTypes[1]? = some u) (k2 : c.argTypes.size = 2) :
  c.args.map a.eval = #[a.eval x, a.eval y] ∧ c.argTypes = #[t, u] := by
 constructor
 ·apply Array.ext'
  apply List.ext_getElem?
  intro i
  rcases i with _ | _ | i
  ·simp [h0]
  ·simp [h1]
  ·simp [h2]
 ·apply Array.ext'
  apply List.ext_getElem?
  intro i
  rcases i with _ | _ | i
  ·simp [k0]
  ·simp [k1]
  ·simp [k2]
theorem st_append {o : Oper} {c : Call} {x y : Operand} {t u : TypeId} (ho : o.op = .call c) (hc : c.callee = .builtin .append) (h0 : c.args[0]? = some x) (h1 : c.args[1]? = some y) (h2 : c.args.size = 2)
  (k0 : c.argTypes[0]? = some t) (k1 : c.argTypes[1]? = some u) (k2 : c.argTypes.size = 2) (ok1 : (T t).ok = true) {e : TypeId} (hd : (T t).desc = .slice e) (ok2 : (T e).ok = true) (hpos : 0 < (T e).size)
  (ok3 : (T u).ok = true) (hu : (∃ e', (T u).desc = .slice e') ∨ (T u).desc = .string) {p : Prop} {r : AV} {g' l' : List Ent} (h : aappend T t g l (ev ts x) (ev ts y) = some (p, r, g', l')) (hp : p) :
  StepOK E o s a g r g' l' := by
 have hun := (hT t ok1).und
 rw [hd] at hun
 have helem := (hT t ok1).elem e hd
 obtain ⟨inf, z, hinf, hsz, hby, hz, hzv⟩ := (hT e ok2).info
 have hzsz : z.cells.size = (T e).size := by
  have := cells_size (zval_rep s hzv) (hT e ok2).zcell
  rw [this, (hT e ok2).zsize]
 obtain ⟨ha, hty⟩ := two_args hT hs hI ht h0 h1 h2 k0 k1 k2
 have hku : (∃ e', E.P.underlying u = some (.slice e')) ∨ E.P.underlying u = some .string := by
  have := (hT u ok3).und
  rcases hu with ⟨e', he'⟩ | he'
  ·rw [he'] at this; exact .inl ⟨e', this⟩
  ·rw [he'] at this; exact .inr this
 have hop : ∀ {v : Value} {w' : World}, (Builtin.append_ #[t, u] o.type #[a.eval x, a.eval y]).run E.P s.w = .ok v w' → (execOp a.eval o).run E.P s.w = .ok (.value v) w' := by
  intro v w' hh
  simp [execOp, ho, resolve, hc, invoke, builtin, ha, hty, hh]
 unfold aappend at h
 simp only [helem] at h
 cases hnc : newCells g l (T e).size (T e).isAgg (ev ts y) with
 | none => simp [hnc] at h
 | some q =>
  obtain ⟨p0, m, new⟩ := q
  simp only [hnc] at h
  have grow : p0 → ∃ news, Src E.P inf.size u (a.eval y) m news s.w ∧ RepL s new news ∧ ∀ v ∈ news, cellV v := fun hp0 => by
   rw [hsz]; exact newCells_src hs hI ht hnc hp0 hku
  split at h
  ·rename_i hx
   have hv := rep_v hs hI ht hx
   split at h
   ·simp only [condR, Option.some.injEq, Prod.mk.injEq] at h
    obtain ⟨rfl, rfl, rfl, rfl⟩ := h
    obtain ⟨news, h3, h4, h5⟩ := grow hp
    have hn0 : news = [] := by have := h3.newsLen; simpa using this
    subst hn0
    have hrun := append_none hT hs hI ht (ty := o.type) hun hinf h3
    rw [← hv] at hrun
    refine .pure hs hI (v := a.eval x) (hop hrun) ?_
    rw [hx, hv]; unfold Rep; rfl
   ·rename_i m' hm'
    simp only [Option.some.injEq, Prod.mk.injEq] at h
    obtain ⟨rfl, rfl, rfl, rfl⟩ := h
    obtain ⟨hp0, hroom0, hroom⟩ := hp
    obtain ⟨news, h3, h4, h5⟩ := grow hp0
    have hmpos : 0 < m := Nat.pos_of_ne_zero (fun hh => hm' hh)
    have hrun := run_append_grow_src (P := E.P) s.w t u o.type e inf z hun hinf hz none 0 0 [] (run_firstCells_none s.w.drew inf.size 0 0 0) (a.eval y) m news h3 (by omega)
     (by unfold maxRoom at hroom0; omega) (fit (by omega) (by rw [Nat.zero_add, hby]; exact hroom))
    rw [← hv] at hrun
    generalize hC : (([] ++ news).toArray ++ Builtin.zeroCells z.cells (grownCap s.w (0 + m) 0 e - (0 + m))) = C at hrun
    have hge : 0 + m ≤ grownCap s.w (0 + m) 0 e := grownCap_ge _ _ _ _
    have hnl : news.length = m * (T e).size := by rw [h3.newsLen, hsz]
    have hnewl : new.length = m * (T e).size := by have := h4.length; omega
    have hCs : C.size = grownCap s.w (0 + m) 0 e * (T e).size := by
     rw [← hC]
     simp only [List.nil_append, Array.size_append, List.size_toArray, size_zeroCells, hzsz, hnl]
     rw [← Nat.add_mul]; congr 1; omega
    have hI1 : HInv { s with w := s.w.drew } := hI.of_below (below_drew _)
    have hE1 : Ext s { s with w := s.w.drew } := Ext.of_below hI (below_drew _)
    have hlen2 : s.σ.length = g.length + l.length := by rw [hs]; simp
    have hnC : ∀ (j : Nat), j < news.length → C[j]? = news[j]? := by
     intro j hj
     rw [← hC]
     simp only [List.nil_append]
     rw [Array.getElem?_append_left (by simpa using hj)]
     simp
    have hle : m * (T e).size ≤ C.size := by rw [hCs]; exact Nat.mul_le_mul_right _ (by omega)
    refine ⟨_, _, S.push { s with w := s.w.drew } (.arr e new 0 0) ⟨s.w.heap.size, 0, C.size⟩ (s.w.drew.alloc (.cells C e)), hop hrun, .inl rfl, by simp [S.push, hs], rfl, rfl,
     hI1.push new C e (by omega) fun j c hj => ?_, hE1.trans (Ext.push hI1 _ _ _), ?_⟩
    ·obtain ⟨v, h6, h7⟩ := h4.get hj
     exact ⟨v, by rw [hnC j (by have := lt_of_get h6; omega)]; exact h6, Rep.ext hE1 h7, h5 v (List.mem_of_getElem? h6)⟩
    ·unfold Rep
     refine ⟨.arr e new 0 0, ⟨s.w.heap.size, 0, C.size⟩, ?_, ?_, Nat.le_refl _, _, _, _, by rw [Nat.zero_add], fun _ => ⟨fun _ => ⟨rfl, rfl⟩, ?_, ?_⟩⟩
     ·simp [S.push, ← hlen2]
     ·simp [S.push, ← hlen2, ← hI.len]
     ·rw [Nat.zero_add] at hge; exact hge
     ·show 0 + _ = C.size
      rw [hCs, Nat.zero_add, Nat.zero_add]
  ·rename_i id ver off n sz hx
   have hr := ev_rep ht x
   rw [hx] at hr
   split at h
   ·rename_i ty cells ver' imm he
    rw [sget_eq, ← hs] at he
    simp only [Option.some.injEq, Prod.mk.injEq] at h
    obtain ⟨rfl, rfl, rfl, rfl⟩ := h
    obtain ⟨hp0, hver, hty2, rfl, rfl, hncl, him, hroom0, hroom⟩ := hp
    obtain ⟨news, h3, h4, h5⟩ := grow hp0
    have hnl : news.length = m * (T e).size := by rw [h3.newsLen, hsz]
    have hnewl : new.length = m * (T e).size := by have := h4.length; omega
    unfold Rep at hr
    obtain ⟨e', b, he', hb, hv, ab, ao, cap, hh, hadd⟩ := hr
    rw [he] at he'; cases he'
    obtain ⟨hadd1, hncap, hext⟩ := hadd hver
    obtain ⟨hcl, him2, hroomok, hcok⟩ := hI.ent id _ b he hb
    rw [Nat.zero_add] at hext
    by_cases hfits : n + m ≤ cap
    ·-- in its place
     have key : ∃ s1 : S, (Builtin.append_ #[t, u] o.type #[a.eval x, a.eval y]).run E.P s.w = .ok (.slice (some ⟨ab, ao, none⟩) (n + m) cap) s1.w ∧ HInv s1 ∧ Ext s s1 ∧ s1.σ = s.σ ∧ s1.β = s.β ∧ s1.B = s.B ∧
       ∀ (j : Nat) (c : AV), new[j]? = some c → ∃ v, s1.w.cell? ⟨b.blk, b.off + cells.length + j, none⟩ = some v ∧ Rep s1 c v ∧ cellV v := by
      by_cases hm0 : m = 0
      ·subst hm0
       have hn0 : news = [] := by simpa using hnl
       have hw0 : new = [] := by simpa using hnewl
       subst hn0 hw0
       have hrun := run_append_room_src (P := E.P) s.w t u o.type e inf hun hinf ab ao n cap (a.eval y) 0 [] h3 hfits (fun j hj => by simp at hj) (fun j hj => by simp at hj)
       exact ⟨s, by rw [hh, hrun]; rfl, hI, Ext.refl s, rfl, rfl, rfl, fun j c hj => by simp at hj⟩
      ·obtain ⟨rfl, rfl⟩ := hadd1 (by omega)
       have hmul : n * (T e).size + m * (T e).size ≤ b.ext := by rw [← hext, ← Nat.add_mul]; exact Nat.mul_le_mul_right _ hfits
       have hrun := run_append_room_src (P := E.P) s.w t u o.type e inf hun hinf b.blk (b.off + 0) n cap (a.eval y) m news h3 hfits
        (fun j hj => by
         obtain ⟨⟨v, hh⟩, _⟩ := hroomok (n * (T e).size + j) (by omega)
         rw [hsz, Nat.add_zero, Nat.add_assoc, hh]; rfl)
        (fun j hj => by
         obtain ⟨_, hh⟩ := hroomok (n * (T e).size + j) (by omega)
         rw [hsz, Nat.add_zero, Nat.add_assoc]; exact hh (by omega))
       have hcc : new.all (·.isCell) = true ∨ True := .inr trivial
       obtain ⟨s1, h5', h6, h7, h8, h9, h10, h11, h12⟩ := storeRange' E.P new news s id ty cells ver imm b cells.length 0 (b.off + cells.length) hI (by rw [hver]; exact he) hb him (by omega) h4 h5 (by omega)
       have hst := run_storeCells_cells (P := E.P) b.blk (b.off + cells.length) news 0 s.w
        (fun j hj => by obtain ⟨⟨v, hh⟩, _⟩ := hroomok (cells.length + j) (by omega); rw [Nat.add_zero, Nat.add_assoc, hh]; rfl)
        (fun j hj => by obtain ⟨_, hh⟩ := hroomok (cells.length + j) (by omega); rw [Nat.add_zero, Nat.add_assoc]; exact hh (by omega))
        (fun v hv => oneCell_of (h5 v hv))
       rw [h5'] at hst
       injection hst with _ hw1
       refine ⟨s1, ?_, h6, h7, ?_, h9, h10, h12⟩
       ·rw [hh, hrun, hw1, hsz, hncl]
        rfl
       ·rw [h8, setRange_out _ _ _ (Nat.le_refl _)]
        exact list_set_same (by rw [hver]; exact he)
     obtain ⟨s1, hrun, hI1, hE1, hσ, hβ, hB, hnewc⟩ := key
     have he1 : s1.σ[id]? = some (.arr ty cells ver' imm) := by rw [hσ]; exact he
     have hb1 : s1.β[id]? = some b := by rw [hβ]; exact hb
     have hmul : n * (T e).size + m * (T e).size ≤ b.ext := by rw [← hext, ← Nat.add_mul]; exact Nat.mul_le_mul_right _ hfits
     have hE2 := Ext.retell hI1 he1 hb1 (cells' := cells ++ new) (ver' := ver' + 1) (imm' := imm) (by omega) (Nat.le_refl _)
     have hI2 := HInv.retell hI1 he1 hb1 (cells' := cells ++ new) (ver' := ver' + 1) (imm' := imm) (by omega) (Nat.le_refl _) (by simp; omega) (by simp; omega) (fun j c hj => by
      rcases Nat.lt_or_ge j cells.length with hlt | hge
      ·rw [List.getElem?_append_left hlt] at hj
       exact (hI1.ent id _ b he1 hb1).2.2.2 j c hj
      ·rw [List.getElem?_append_right hge] at hj
       have := hnewc _ c hj
       rwa [show b.off + cells.length + (j - cells.length) = b.off + j by omega] at this)
     refine ⟨_, _, s1.fix id ty (cells ++ new) (ver' + 1) imm, hop hrun, .inl rfl, ?_, ssetG_len _ _ _, hB, hI2, hE1.trans hE2, ?_⟩
     ·show s1.σ.set id _ = _
      rw [hσ, hs, sset_eq]
     ·unfold Rep
      refine ⟨_, b, get_set_self he1, hb1, by simp only [Ent.ver]; omega, ab, ao, cap, rfl, fun _ => ⟨hadd1, hfits, by rw [Nat.zero_add]; exact hext⟩⟩
    ·-- in a new one
     have holds : ∃ olds : List Value, RepL s cells olds ∧ olds.length = n * inf.size ∧ (∀ v ∈ olds, cellV v) ∧ (Builtin.firstCells inf.size n (.slice (some ⟨ab, ao, none⟩) n cap)).run E.P s.w.drew = .ok olds.toArray s.w.drew := by
      by_cases hn0 : n = 0
      ·subst hn0
       have hc0 : cells = [] := by simpa using hncl.symm
       subst hc0
       refine ⟨[], by unfold RepL; rfl, by simp, (fun v h => by cases h), ?_⟩
       exact run_firstCells_some (P := E.P) s.w.drew inf.size 0 _ 0 cap [] (by simp) (fun j v h => by simp at h)
      ·obtain ⟨rfl, rfl⟩ := hadd1 (by omega)
       obtain ⟨ys, h10, h11, h12⟩ := RepL.ofCells (s := s) (w := s.w) (cs := cells) (blk := b.blk) (off := b.off + 0) fun j c hj => by
        obtain ⟨v, a1, a2, _⟩ := hcok j c hj; exact ⟨v, a1, a2⟩
       refine ⟨ys, h10, by rw [h11, ← hncl, hsz], fun v hv => ?_, ?_⟩
       ·obtain ⟨q, hq⟩ := List.mem_iff_getElem?.1 hv
        have hql : q < cells.length := by have := lt_of_get hq; omega
        obtain ⟨v', a1, a2, a3⟩ := hcok q cells[q] (List.getElem?_eq_getElem hql)
        have := h12 q v hq
        rw [Nat.add_zero] at this
        rw [this] at a1; cases a1; exact a3
       ·exact run_firstCells_some (P := E.P) s.w.drew inf.size n _ n cap ys (by rw [h11, ← hncl, hsz]) (fun j v hj => by rw [Addr.add_lit]; exact h12 j v hj)
     obtain ⟨olds, ho1, ho2, ho3, ho4⟩ := holds
     have hrun := run_append_grow_src (P := E.P) s.w t u o.type e inf z hun hinf hz (some ⟨ab, ao, none⟩) n cap olds ho4 (a.eval y) m news h3 (by omega)
      (by unfold maxRoom at hroom0; omega) (fit (by omega) (by rw [hby]; exact hroom))
     rw [← hh] at hrun
     generalize hC : ((olds ++ news).toArray ++ Builtin.zeroCells z.cells (grownCap s.w (n + m) cap e - (n + m))) = C at hrun
     have hge : n + m ≤ grownCap s.w (n + m) cap e := grownCap_ge _ _ _ _
     have hCs : C.size = grownCap s.w (n + m) cap e * (T e).size := by
      rw [← hC]
      simp only [Array.size_append, List.size_toArray, size_zeroCells, hzsz, List.length_append, hnl, ho2, hsz]
      rw [← Nat.add_mul, ← Nat.add_mul]; congr 1; omega
     have hI1 : HInv { s with w := s.w.drew } := hI.of_below (below_drew _)
     have hE1 : Ext s { s with w := s.w.drew } := Ext.of_below hI (below_drew _)
     have hall := RepL.append ho1 h4
     have hnC : ∀ (j : Nat), j < (olds ++ news).length → C[j]? = (olds ++ news)[j]? := by
      intro j hj
      rw [← hC, Array.getElem?_append_left (by simpa using hj)]
      simp
     have hlen : (cells ++ new).length = (n + m) * (T e).size := by simp [hnewl, Nat.add_mul]; omega
     have hle : (n + m) * (T e).size ≤ C.size := by rw [hCs]; exact Nat.mul_le_mul_right _ hge
     have hI2 := HInv.move hI1 (s := { s with w := s.w.drew }) he hb (cells' := cells ++ new) (ver' := ver' + 1) (imm' := imm) (ys := C) (t := e) (by omega) (by omega) (by simp; omega) (fun j c hj => by
      obtain ⟨v, h6, h7⟩ := hall.get hj
      exact ⟨v, by rw [hnC j (lt_of_get h6)]; exact h6, Rep.ext hE1 h7, by
       rcases List.mem_append.1 (List.mem_of_getElem? h6) with hh | hh
       ·exact ho3 v hh
       ·exact h5 v hh⟩)
     have hE2 := Ext.move hI1 (s := { s with w := s.w.drew }) he hb (ty' := e) (cells' := cells ++ new) (ver' := ver' + 1) (imm' := imm) (ext := C.size) (o := .cells C e) (by omega)
     subst hty2
     refine ⟨_, _, S.move { s with w := s.w.drew } id ty (cells ++ new) (ver' + 1) imm C.size (.cells C ty), hop hrun, .inl rfl, ?_, ssetG_len _ _ _, rfl, hI2, hE1.trans hE2, ?_⟩
     ·show s.σ.set id _ = _
      rw [hs, sset_eq]
     ·unfold Rep
      refine ⟨_, ⟨s.w.heap.size, 0, C.size⟩, get_set_self he, get_set_self hb, by simp only [Ent.ver]; omega, _, _, _, rfl, fun _ => ⟨fun _ => ⟨rfl, rfl⟩, hge, ?_⟩⟩
      show 0 + _ = C.size
      rw [hCs, Nat.zero_add]
   ·cases h
  ·cases h
end
end Go.Vm
namespace Go.Vm
open Go.RowKit
theorem avBytes_spec : ∀ {cs : List AV} {b : List UInt8}, avBytes cs = some b → cs = (b.map fun x => (x.toNat : Int)).map fun n => .v (.int .u8 n)
 | [], b, h => by simp only [avBytes, Option.some.injEq] at h; subst h; rfl
 | c :: cs, b, h => by
  simp only [avBytes, Option.bind_eq_some_iff, Option.map_eq_some_iff] at h
  obtain ⟨x, hx, bs, hb, rfl⟩ := h
  have ih := avBytes_spec hb
  unfold avByte at hx
  split at hx
  ·rename_i n
   split at hx
   ·rename_i hn
    cases hx
    have : ((UInt8.ofNat n.toNat).toNat : Int) = n := by simp; omega
    simp only [List.map_cons, this, ← ih]
   ·cases hx
  ·cases hx
theorem avBytes_len {cs : List AV} {b : List UInt8} (h : avBytes cs = some b) : b.length = cs.length := by
 rw [avBytes_spec h]; simp
theorem fold_push : ∀ (ns : List Int) (A : ByteArray), ns.foldl (fun r n => r.push (UInt8.ofNat n.toNat)) A = ⟨A.data ++ (ns.map fun n => UInt8.ofNat n.toNat).toArray⟩
 | [], A => by simp
 | n :: ns, A => by
  rw [List.foldl_cons, fold_push ns]
  apply ByteArray.ext
  simp [ByteArray.push]
theorem isByteD_spec {d : TypeDesc} (h : isByteD d = true) : d = .int .u8 := by
 unfold isByteD at h; split at h <;> first | rfl | cases h
section
variable {E : Env} {T : Nat → TI} (hT : TabOK E.P T) {s : S} {a : Act} {ts : Ts} {g l : List Ent} (hs : s.σ = g ++ l) (hI : HInv s) (ht : TsRep s ts a)
include hT hs hI ht
theorem rsl_at {x : Operand} {id ver off n sz : Nat} (hx : ev ts x = .rsl id ver off n sz) {e : Ent} (he : s.σ[id]? = some e) (hver : ver = e.ver) (hn : 0 < n) :
  ∃ b cap, s.β[id]? = some b ∧ a.eval x = .slice (some ⟨b.blk, b.off + off, none⟩) n cap ∧ n ≤ cap ∧ off + cap * sz = b.ext := by
 have h := ev_rep ht x
 rw [hx] at h
 unfold Rep at h
 obtain ⟨e', b, he', hb, _, ab, ao, cap, hh, hadd⟩ := h
 rw [he] at he'; cases he'
 obtain ⟨h1, h2, h3⟩ := hadd hver
 obtain ⟨rfl, rfl⟩ := h1 (by omega)
 exact ⟨b, cap, hb, hh, h2, h3⟩
theorem abytes_run {x : Operand} {p : Prop} {b : List UInt8} (h : abytes g l (ev ts x) = some (p, b)) (hp : p) :
  (∃ ad n c, a.eval x = .slice ad n c) ∧ (Conv.bytesToString (a.eval x)).run E.P s.w = .ok (.string ⟨⟨b⟩⟩) s.w := by
 unfold abytes at h
 split at h
 ·rename_i hx
  simp only [Option.some.injEq, Prod.mk.injEq] at h
  obtain ⟨rfl, rfl⟩ := h
  have := rep_v hs hI ht hx
  rw [this]
  exact ⟨⟨_, _, _, rfl⟩, rfl⟩
 ·rename_i es hx
  simp only [Option.map_eq_some_iff, Prod.mk.injEq] at h
  obtain ⟨b', hb, rfl, rfl⟩ := h
  have hns := avBytes_spec hb
  generalize hnsd : (b'.map fun x => (x.toNat : Int)) = ns at hns
  subst hns
  have hr := ev_rep ht x
  rw [hx] at hr
  unfold Rep at hr
  obtain ⟨ad, cap, hv, hcap, hh⟩ := hr
  rw [hv]
  refine ⟨⟨_, _, _, rfl⟩, ?_⟩
  rcases hh with hh | ⟨blk, off, k, rfl, hk, hrow⟩
  ·have : ns = [] := by simpa using hh
   subst this
   have hb0 : b' = [] := by simpa using hnsd
   subst hb0
   cases ad with
   | none => rfl
   | some ad =>
    have := run_bytesToString (P := E.P) s.w ad 0 cap [] (by simp [loadCells, loadCellsFrom])
    exact this
  ·have hk1 : ns ≠ [] → k = 1 := by
    intro hne
    cases ns with
    | nil => exact absurd rfl hne
    | cons n ns =>
     obtain ⟨y, h1, _⟩ := hrow.get (i := 0) rfl
     exact h1.cell.1
   have hl := run_loadCells_at E.P s.w blk off (ns.map (Value.int .u8)) fun j v hj => by
    have hj' : (ns.map fun n => AV.v (.int .u8 n))[j]? = some (.v v) := by
     simp only [List.getElem?_map, Option.map_eq_some_iff] at hj ⊢
     obtain ⟨n, hn, rfl⟩ := hj
     exact ⟨n, hn, rfl⟩
    obtain ⟨y, h1, h2⟩ := hrow.get hj'
    have h3 := h1.cell
    unfold Rep at h2
    subst h2
    obtain ⟨rfl, h4, _⟩ := h3
    simpa using h4
   have := run_bytesToString (P := E.P) s.w ⟨blk, off, none⟩ (ns.map fun n => AV.v (.int .u8 n)).length cap ns (by simpa using hl)
   rw [this, fold_push]
   subst hnsd
   simp [Function.comp_def]
 ·rename_i id ver off n sz hx
  split at h
  ·rename_i ty cells ver' imm he
   rw [sget_eq, ← hs] at he
   simp only [Option.map_eq_some_iff, Prod.mk.injEq] at h
   obtain ⟨b', hb, rfl, rfl⟩ := h
   obtain ⟨hver, rfl, hle, hn⟩ := hp
   obtain ⟨sb, cap, hsb, hv, _, _⟩ := rsl_at hT hs hI ht hx he hver hn
   obtain ⟨_, _, _, hc⟩ := arr_at hT hs hI ht he hsb
   have hns := avBytes_spec hb
   generalize hnsd : (b'.map fun x => (x.toNat : Int)) = ns at hns
   rw [hv]
   refine ⟨⟨_, _, _, rfl⟩, ?_⟩
   have hlen : ns.length = n := by have := congrArg List.length hns; simp at this; omega
   have hl := run_loadCells_at E.P s.w sb.blk (sb.off + off) (ns.map (Value.int .u8)) fun j v hj => by
    have hj' : ((cells.drop off).take n)[j]? = some (.v v) := by
     rw [hns]
     simp only [List.getElem?_map, Option.map_eq_some_iff] at hj ⊢
     obtain ⟨n, hn, rfl⟩ := hj
     exact ⟨n, hn, rfl⟩
    rw [List.getElem?_take] at hj'
    split at hj'
    ·rw [List.getElem?_drop] at hj'
     obtain ⟨y, h2, h3, _⟩ := hc _ _ hj'
     unfold Rep at h3
     subst h3
     rwa [← Nat.add_assoc] at h2
    ·cases hj'
   have := run_bytesToString (P := E.P) s.w ⟨sb.blk, sb.off + off, none⟩ n cap ns (by simpa [hlen] using hl)
   rw [this, fold_push]
   subst hnsd
   simp [Function.comp_def]
  ·cases h
 ·cases h
theorem st_convert {o : Oper} {src dst : TypeId} {x : Operand} (ho : o.op = .convert src dst x) (h1 : (T src).ok = true) (h2 : (T dst).ok = true) {p : Prop} {r : AV} {g' l' : List Ent}
  (h : aconv T g l (T src).desc (T dst).desc (ev ts x) = some (p, r, g', l')) (hp : p) : StepOK E o s a g r g' l' := by
 unfold aconv at h
 have hu := (hT src h1).und
 have hv := (hT dst h2).und
 split at h
 ·rename_i k j n hd hx
  simp only [pureR, Option.some.injEq, Prod.mk.injEq] at h; obtain ⟨rfl, rfl, rfl, rfl⟩ := h
  exact st_convert_int hT hs hI ht ho h1 h2 hd hx
 ·rename_i m hsd hd hx
  simp only [pureR, Option.some.injEq, Prod.mk.injEq] at h; obtain ⟨rfl, rfl, rfl, rfl⟩ := h
  exact st_convert_str hT hs hI ht ho h1 h2 hsd hd hx
 ·rename_i e hsd hd
  split at h
  ·rename_i hc
   simp only [Bool.and_eq_true] at hc
   have he := (hT e hc.1).und
   rw [isByteD_spec hc.2] at he
   simp only [Option.bind_eq_some_iff] at h
   obtain ⟨⟨q, b⟩, hb, hh⟩ := h
   simp only [condR, Option.some.injEq, Prod.mk.injEq] at hh; obtain ⟨rfl, rfl, rfl, rfl⟩ := hh
   obtain ⟨⟨ad, n, c, hsl⟩, hrun⟩ := abytes_run hT hs hI ht hb hp
   rw [hsd] at hu; rw [hd] at hv
   refine .pure hs hI (v := .string ⟨⟨b⟩⟩) ?_ (by unfold Rep; rfl)
   rw [hsl] at hrun
   have hconv := run_convert_bytes_string (P := E.P) s.w src dst e ad n c hu he hv
   simp only [execOp, ho, hsl]
   exact run_v (hconv.trans hrun)
  ·cases h
 ·rename_i t id ver off hsd hd hx
  split at h
  ·rename_i ty cells ver' imm he
   split at h
   ·rename_i hc
    simp only [Bool.and_eq_true, decide_eq_true_eq] at hc
    simp only [condR, Option.some.injEq, Prod.mk.injEq] at h; obtain ⟨rfl, rfl, rfl, rfl⟩ := h
    rw [sget_eq, ← hs] at he
    obtain ⟨inf, z, hinf, hsz, _⟩ := (hT t hc.1).info
    obtain ⟨b, hb, hxa⟩ := ref_at hT hs hI ht hx he hp.1
    obtain ⟨hcl, _⟩ := arr_at hT hs hI ht he hb
    have hsO := hI.shape id _ b he hb rfl
    have hoff := hsO.1
    have hsh := hsO.shape
    rw [hsd] at hu; rw [hd] at hv
    have hr := ev_rep ht x
    refine .pure hs hI (v := a.eval x) ?_ (by rw [← hx]; exact hr)
    have := Lib.run_to_unsafe (P := E.P) s.w ⟨b.blk, b.off + off, none⟩ hu hv hinf (by omega) hsh (by have := hp.2; simp only; omega)
    simp only [execOp, ho, hxa]
    exact run_v this
   ·cases h
  ·cases h
 ·rename_i t id ver off hsd hd hx
  split at h
  ·rename_i ty cells ver' imm he
   split at h
   ·rename_i hc
    simp only [Bool.and_eq_true, decide_eq_true_eq] at hc
    simp only [condR, Option.some.injEq, Prod.mk.injEq] at h; obtain ⟨rfl, rfl, rfl, rfl⟩ := h
    rw [sget_eq, ← hs] at he
    obtain ⟨hver, rfl, rfl, hsl⟩ := hp
    obtain ⟨inf, z, hinf, hsz, _⟩ := (hT ty hc.1).info
    obtain ⟨b, hb, hxa⟩ := ref_at hT hs hI ht hx he hver
    obtain ⟨hcl, _⟩ := arr_at hT hs hI ht he hb
    have hsO := hI.shape id _ b he hb rfl
    have hoff := hsO.1
    have hsh := hsO.shape
    simp only [Ent.ty] at hsh
    rw [hsd] at hu; rw [hd] at hv
    have hr := ev_rep ht x
    have hco : E.P.cellsOf ty = inf.size := by simp [Program.cellsOf, hinf]
    have hlies : liesAt E.P E.P.depth ty ((b.off + b.ext) / E.P.cellsOf ty) 0 ty 1 = true := by
     have hdep : E.P.depth = (2 * (E.P.types.size + Made.depth) + 1) + 1 := rfl
     have h1 : 1 ≤ (b.off + b.ext) / inf.size := by
      rw [Nat.le_div_iff_mul_le (by omega)]; omega
     have h0 : inf.size ≠ 0 := by omega
     rw [hdep]
     simp only [liesAt, Bool.or_eq_true]
     left
     rw [hdep]
     simp [rowAt, hco, h0, h1, sameLayout]
    refine .pure hs hI (v := a.eval x) ?_ (by rw [← hx]; exact hr)
    have := Lib.run_from_unsafe (P := E.P) s.w ⟨b.blk, b.off + 0, none⟩ hu hv hinf hsh (by rw [hoff] at *; exact hlies)
    simp only [execOp, ho, hxa]
    exact run_v this
   ·cases h
  ·cases h
 ·cases h
end
end Go.Vm
namespace Go.Vm
open Go.RowKit
theorem isConst_spec {x : Operand} (h : isConst x = true) : ∃ c, x = .const c := by
 cases x <;> simp_all [isConst]
theorem sameAddr_other (P : Program) (w : World) {a b : Addr} (hne : a.block ≠ b.block) {ca cb : Array Value} {ta tb : TypeId} {fa fb : Nat × Nat} (ha : w.heap[a.block]? = some (.cells ca ta fa))
  (hb : w.heap[b.block]? = some (.cells cb tb fb)) (h1 : fa.2 = 0) (h2 : fb.2 = 0) : (sameAddr a b).run P w = .ok false w := by
 simp [sameAddr, hne, World.frozen?, ha, hb, noView, viewAt, World.shape?, mayBeOne, stringish, h1, h2]
theorem eq_run {P : Program} {w : World} {op : BinOp} {t : TypeId} {px py : Operand} {u v : Value} {b : Bool}
  (hg : (eqGuard op t px py u v).run P w = .ok () w) (hq : ∀ d, (Op.equalIn (d + 1) t u v).run P w = .ok b w)
  (h1 : binOp .eql t u v = do pure (.bool (← Op.equal t u v))) (h2 : binOp .neq t u v = do pure (.bool (!(← Op.equal t u v))))
  (hop : op = .eql ∨ op = .neq) : (do eqGuard op t px py u v; binOp op t u v : Sem Value).run P w = .ok (.bool (if op = .eql then b else !b)) w := by
 rcases hop with rfl | rfl
 ·simp [hg, h1, Op.equal, Op.maxDepth, hq 9999]
 ·simp [hg, h2, Op.equal, Op.maxDepth, hq 9999]
section
variable {E : Env} {T : Nat → TI} (hT : TabOK E.P T) {s : S} {a : Act} {ts : Ts} {g l : List Ent} (hs : s.σ = g ++ l) (hI : HInv s) (ht : TsRep s ts a)
include hT hs hI ht
theorem plain_at {x : Operand} {id ver off : Nat} (hx : ev ts x = .ref id ver off) (hp : plainRef g l id ver) :
  ∃ b cs ty fr, s.β[id]? = some b ∧ a.eval x = .pointer (some ⟨b.blk, b.off + off, none⟩) ∧ s.w.heap[b.blk]? = some (.cells cs ty fr) ∧ fr.2 = 0 := by
 unfold plainRef at hp
 split at hp
 ·rename_i ty cells v imm he
  obtain ⟨rfl, rfl⟩ := hp
  rw [sget_eq, ← hs] at he
  obtain ⟨b, h1, h2⟩ := ref_at hT hs hI ht hx he rfl
  obtain ⟨_, cs, fr, h3, _, h4⟩ := hI.shape id _ b he h1 rfl
  exact ⟨b, cs, _, fr, h1, h2, h3, by simp only [Ent.imm] at h4; omega⟩
 ·cases hp
theorem st_eq {o : Oper} {op : BinOp} {t : TypeId} {x y : Operand} {tu : TypeId} (ho : o.op = .binOp op t x y tu) (h1 : (T t).ok = true) (hc : (isConst x || isConst y || !isIfaceD (T t).desc) = true)
  {p : Prop} {b : Bool} (h : aeq T g l (T t).desc (ev ts x) (ev ts y) = some (p, b)) (hp : p) (hop : op = .eql ∨ op = .neq) : StepOK E o s a g (boolV (if op = .eql then b else !b)) g l := by
 have hu := (hT t h1).und
 have hx := ev_rep ht x
 have hy := ev_rep ht y
 have fin : ∀ {u v : Value}, a.eval x = u → a.eval y = v → (eqGuard op t x y u v).run E.P s.w = .ok () s.w → (∀ d, (Op.equalIn (d + 1) t u v).run E.P s.w = .ok b s.w) →
   (binOp .eql t u v = do pure (.bool (← Op.equal t u v))) → (binOp .neq t u v = do pure (.bool (!(← Op.equal t u v)))) → StepOK E o s a g (boolV (if op = .eql then b else !b)) g l := by
  intro u v hu' hv' hg hq e1 e2
  refine .pure hs hI (v := .bool (if op = .eql then b else !b)) ?_ (by simp only [boolV]; unfold Rep; rfl)
  simp only [execOp, ho, hu', hv']
  exact run_v (eq_run hg hq e1 e2 hop)
 unfold aeq at h
 split at h
 ·rename_i e hd hvx hvy
  simp only [Option.some.injEq, Prod.mk.injEq] at h; obtain ⟨rfl, rfl⟩ := h
  rw [hd] at hu
  refine fin (rep_v hs hI ht hvx) (rep_v hs hI ht hvy) ?_ (fun d => ?_) rfl rfl
  ·rcases hop with rfl | rfl <;> simp [eqGuard]
  ·simp [Op.equalIn, run_underlying hu]
 ·rename_i e id ver off hd hvx hvy
  simp only [Option.some.injEq, Prod.mk.injEq] at h; obtain ⟨rfl, rfl⟩ := h
  rw [hd] at hu; rw [hvx] at hx
  obtain ⟨ad, hx⟩ := hx.ptr
  refine fin hx (rep_v hs hI ht hvy) ?_ (fun d => ?_) rfl rfl
  ·rcases hop with rfl | rfl <;> simp [eqGuard]
  ·simp [Op.equalIn, run_underlying hu]
 ·rename_i e id ver off hd hvx hvy
  simp only [Option.some.injEq, Prod.mk.injEq] at h; obtain ⟨rfl, rfl⟩ := h
  rw [hd] at hu; rw [hvy] at hy
  obtain ⟨ad, hy⟩ := hy.ptr
  refine fin (rep_v hs hI ht hvx) hy ?_ (fun d => ?_) rfl rfl
  ·rcases hop with rfl | rfl <;> simp [eqGuard]
  ·simp [Op.equalIn, run_underlying hu]
 ·rename_i e cs hd hvx hvy
  simp only [Option.some.injEq, Prod.mk.injEq] at h; obtain ⟨rfl, rfl⟩ := h
  rw [hd] at hu; rw [hvx] at hx
  unfold Rep at hx
  obtain ⟨blk, off, hx, _⟩ := hx
  refine fin hx (rep_v hs hI ht hvy) ?_ (fun d => ?_) rfl rfl
  ·rcases hop with rfl | rfl <;> simp [eqGuard]
  ·simp [Op.equalIn, run_underlying hu]
 ·rename_i e cs hd hvx hvy
  simp only [Option.some.injEq, Prod.mk.injEq] at h; obtain ⟨rfl, rfl⟩ := h
  rw [hd] at hu; rw [hvy] at hy
  unfold Rep at hy
  obtain ⟨blk, off, hy, _⟩ := hy
  refine fin (rep_v hs hI ht hvx) hy ?_ (fun d => ?_) rfl rfl
  ·rcases hop with rfl | rfl <;> simp [eqGuard]
  ·simp [Op.equalIn, run_underlying hu]
 ·rename_i e id ver off id' ver' off' hd hvx hvy
  split at h
  ·rename_i hc2
   simp only [Bool.and_eq_true, decide_eq_true_eq] at hc2
   rw [hd] at hu
   obtain ⟨inf, z, hinf, hsz, _⟩ := (hT e hc2.1).info
   have hne : inf.size ≠ 0 := by omega
   split at h
   ·rename_i hid
    subst hid
    split at h
    ·rename_i en hen
     simp only [Option.some.injEq, Prod.mk.injEq] at h; obtain ⟨rfl, rfl⟩ := h
     obtain ⟨hv1, hv2⟩ := hp
     rw [sget_eq, ← hs] at hen
     obtain ⟨sb, hsb, hxa⟩ := ref_at hT hs hI ht hvx hen hv1
     obtain ⟨sb', hsb', hya⟩ := ref_at hT hs hI ht hvy hen hv2
     rw [hsb] at hsb'; cases hsb'
     refine fin hxa hya ?_ (fun d => ?_) rfl rfl
     ·rcases hop with rfl | rfl <;> simp [eqGuard]
     ·simp [Op.equalIn, run_underlying hu, sizeOf, typeInfo, hinf, hne, sameAddr]
      by_cases hoo : off = off'
      ·simp [hoo]
      ·simp only [hoo, decide_false]
       exact beq_eq_false_iff_ne.2 (by simp [hoo])
    ·cases h
   ·rename_i hid
    simp only [Option.some.injEq, Prod.mk.injEq] at h; obtain ⟨rfl, rfl⟩ := h
    obtain ⟨sb, c1, t1, f1, hsb, hxa, hh1, hf1⟩ := plain_at hT hs hI ht hvx hp.1
    obtain ⟨sb', c2, t2, f2, hsb', hya, hh2, hf2⟩ := plain_at hT hs hI ht hvy hp.2
    refine fin hxa hya ?_ (fun d => ?_) rfl rfl
    ·rcases hop with rfl | rfl <;> simp [eqGuard]
    ·have hq := sameAddr_other E.P s.w (a := ⟨sb.blk, sb.off + off, none⟩) (b := ⟨sb'.blk, sb'.off + off', none⟩) (fun hh => hid (hI.inj _ _ _ _ hsb hsb' hh)) hh1 hh2 hf1 hf2
     simp only [Op.equalIn, Sem.run_bind, run_underlying hu, Result.andThen]
     simp [sizeOf, typeInfo, hinf, hne, Result.andThen, hq]
  ·cases h
 ·rename_i e hd hvx hvy
  simp only [Option.some.injEq, Prod.mk.injEq] at h; obtain ⟨rfl, rfl⟩ := h
  rw [hd] at hu
  refine fin (rep_v hs hI ht hvx) (rep_v hs hI ht hvy) ?_ (fun d => ?_) rfl rfl
  ·rcases hop with rfl | rfl <;> simp [eqGuard]
  ·simp [Op.equalIn, run_underlying hu]
 ·rename_i e _ _ _ _ _ hd hvx hvy
  simp only [Option.some.injEq, Prod.mk.injEq] at h; obtain ⟨rfl, rfl⟩ := h
  rw [hd] at hu; rw [hvx] at hx
  unfold Rep at hx
  obtain ⟨_, _, _, _, _, ab, ao, cap, hx, _⟩ := hx
  refine fin hx (rep_v hs hI ht hvy) ?_ (fun d => ?_) rfl rfl
  ·rcases hop with rfl | rfl <;> simp [eqGuard]
  ·simp [Op.equalIn, run_underlying hu]
 ·rename_i e _ _ _ _ _ hd hvx hvy
  simp only [Option.some.injEq, Prod.mk.injEq] at h; obtain ⟨rfl, rfl⟩ := h
  rw [hd] at hu; rw [hvy] at hy
  unfold Rep at hy
  obtain ⟨_, _, _, _, _, ab, ao, cap, hy, _⟩ := hy
  refine fin (rep_v hs hI ht hvx) hy ?_ (fun d => ?_) rfl rfl
  ·rcases hop with rfl | rfl <;> simp [eqGuard]
  ·simp [Op.equalIn, run_underlying hu]
 ·rename_i e es hd hvx hvy
  simp only [Option.some.injEq, Prod.mk.injEq] at h; obtain ⟨rfl, rfl⟩ := h
  rw [hd] at hu; rw [hvx] at hx
  unfold Rep at hx
  obtain ⟨ad, cap, hx, _, hh⟩ := hx
  rcases hh with hh | ⟨blk, off, k, rfl, _⟩
  ·exact absurd hh hp
  ·refine fin hx (rep_v hs hI ht hvy) ?_ (fun d => ?_) rfl rfl
   ·rcases hop with rfl | rfl <;> simp [eqGuard]
   ·simp [Op.equalIn, run_underlying hu]
 ·rename_i e hd hvx hvy
  simp only [Option.some.injEq, Prod.mk.injEq] at h; obtain ⟨rfl, rfl⟩ := h
  rw [hd] at hu
  refine fin (rep_v hs hI ht hvx) (rep_v hs hI ht hvy) ?_ (fun d => ?_) rfl rfl
  ·rw [hd] at hc
   simp only [isIfaceD, Bool.not_true, Bool.or_false, Bool.or_eq_true] at hc
   rcases hc with hc | hc <;> obtain ⟨c, rfl⟩ := isConst_spec hc
   ·rcases hop with rfl | rfl <;> simp [eqGuard]
   ·rcases hop with rfl | rfl <;> simp [eqGuard]
  ·simp [Op.equalIn, run_underlying hu]
 ·rename_i e _ _ hd hvx hvy
  simp only [Option.some.injEq, Prod.mk.injEq] at h; obtain ⟨rfl, rfl⟩ := h
  rw [hd] at hu; rw [hvx] at hx
  unfold Rep at hx
  obtain ⟨z, hx, _⟩ := hx
  refine fin hx (rep_v hs hI ht hvy) ?_ (fun d => ?_) rfl rfl
  ·rcases hop with rfl | rfl <;> simp [eqGuard]
  ·simp [Op.equalIn, run_underlying hu]
 ·rename_i e _ _ hd hvx hvy
  simp only [Option.some.injEq, Prod.mk.injEq] at h; obtain ⟨rfl, rfl⟩ := h
  rw [hd] at hu; rw [hvy] at hy
  unfold Rep at hy
  obtain ⟨z, hy, _⟩ := hy
  refine fin (rep_v hs hI ht hvx) hy ?_ (fun d => ?_) rfl rfl
  ·rcases hop with rfl | rfl <;> simp [eqGuard]
  ·simp [Op.equalIn, run_underlying hu]
 ·rename_i k v id hd hvx hvy
  simp only [Option.some.injEq, Prod.mk.injEq] at h; obtain ⟨rfl, rfl⟩ := h
  rw [hd] at hu; rw [hvx] at hx
  unfold Rep at hx
  obtain ⟨_, b, _, _, _, hx⟩ := hx
  refine fin hx (rep_v hs hI ht hvy) ?_ (fun d => ?_) rfl rfl
  ·rcases hop with rfl | rfl <;> simp [eqGuard]
  ·simp [Op.equalIn, run_underlying hu]
 ·rename_i k v hd hvx hvy
  simp only [Option.some.injEq, Prod.mk.injEq] at h; obtain ⟨rfl, rfl⟩ := h
  rw [hd] at hu
  refine fin (rep_v hs hI ht hvx) (rep_v hs hI ht hvy) ?_ (fun d => ?_) rfl rfl
  ·rcases hop with rfl | rfl <;> simp [eqGuard]
  ·simp [Op.equalIn, run_underlying hu]
 ·cases h
theorem st_sliceData {o : Oper} {c : Call} (ho : o.op = .call c) (hc : c.callee = .builtin .unsafeSliceData) {id ver off n sz : Nat} (hargs : c.args.toList.map (ev ts) = [.rsl id ver off n sz])
  {e : Ent} (he : s.σ[id]? = some e) (hver : ver = e.ver) (hn : 0 < n) : StepOK E o s a g (.ref id ver off) g l := by
 obtain ⟨x, hx⟩ : ∃ x, c.args = #[x] := by
  cases hh : c.args.toList with
  | nil => rw [hh] at hargs; cases hargs
  | cons x r =>
   cases r with
   | nil => exact ⟨x, by apply Array.ext'; simpa using hh⟩
   | cons _ _ => rw [hh] at hargs; simp at hargs
 rw [hx] at hargs
 simp only [List.map_cons, List.map_nil, List.cons.injEq, and_true] at hargs
 obtain ⟨b, cap, hb, hv, hcap, _⟩ := rsl_at hT hs hI ht hargs he hver hn
 refine .pure hs hI (v := .pointer (some ⟨b.blk, b.off + off, none⟩)) ?_ (by unfold Rep; exact ⟨e, b, he, hb, by omega, _, rfl, fun _ => rfl⟩)
 have := Lib.run_unsafeSliceData_row (P := E.P) s.w c.argTypes o.type ⟨b.blk, b.off + off, none⟩ n cap (by omega)
 simp [execOp, ho, resolve, hc, invoke, builtin, hx, hv, this]
theorem st_sliceData_nil {o : Oper} {c : Call} (ho : o.op = .call c) (hc : c.callee = .builtin .unsafeSliceData) (hargs : c.args.toList.map (ev ts) = [.v (.slice none 0 0)]) :
  StepOK E o s a g (.v (.pointer none)) g l := by
 obtain ⟨x, hx⟩ : ∃ x, c.args = #[x] := by
  cases hh : c.args.toList with
  | nil => rw [hh] at hargs; cases hargs
  | cons x r =>
   cases r with
   | nil => exact ⟨x, by apply Array.ext'; simpa using hh⟩
   | cons _ _ => rw [hh] at hargs; simp at hargs
 rw [hx] at hargs
 simp only [List.map_cons, List.map_nil, List.cons.injEq, and_true] at hargs
 have hv := rep_v hs hI ht hargs
 refine .pure hs hI (v := .pointer none) ?_ (by unfold Rep; rfl)
 have := Lib.run_unsafeSliceData_nil (P := E.P) s.w c.argTypes o.type 0 0
 simp [execOp, ho, resolve, hc, invoke, builtin, hx, hv, this]
end
theorem freeze_cell? (w : World) (p : Addr) (n : Nat) (q : Addr) : (w.freeze p n).cell? q = w.cell? q := by
 unfold World.freeze
 split
 ·rfl
 ·unfold World.cell?
  simp only [Array.getElem?_modify]
  by_cases h : p.block = q.block
  ·rw [h, if_pos rfl]
   cases w.heap[q.block]? with
   | none => rfl
   | some o => cases o <;> rfl
  ·rw [if_neg h]
theorem freeze_other (w : World) (p : Addr) (n : Nat) {r : Nat} (h : p.block ≠ r) : (w.freeze p n).heap[r]? = w.heap[r]? := by
 unfold World.freeze
 split
 ·rfl
 ·simp only [Array.getElem?_modify]; rw [if_neg h]
theorem freeze_size (w : World) (p : Addr) (n : Nat) : (w.freeze p n).heap.size = w.heap.size := by
 unfold World.freeze
 split <;> simp
def S.ice (s : S) (id ty : Nat) (cells : List AV) (ver imm n : Nat) (b : Slot) : S :=
 { s with σ := s.σ.set id (.arr ty cells ver (max imm n)), w := s.w.freeze ⟨b.blk, 0, none⟩ n }
section
variable {s : S} (hI : HInv s) {id ty : Nat} {cells : List AV} {ver imm : Nat} {b : Slot} (he : s.σ[id]? = some (.arr ty cells ver imm)) (hb : s.β[id]? = some b) {n : Nat} (hn : n ≤ cells.length)
include hI he hb
theorem Ext.ice : Ext s (s.ice id ty cells ver imm n b) := by
 have h1 := Ext.retell hI he hb (cells' := cells) (ver' := ver) (imm' := max imm n) (Nat.le_refl _) (Nat.le_max_left _ _)
 refine ⟨rfl, Lib.below_freeze (Below.refl _ _) (hI.slot id b hb).1 n, fun blk off hi => ?_, h1.ent⟩
 obtain ⟨h2, h3⟩ := h1.imm blk off hi
 exact ⟨⟨by show blk < (s.w.freeze _ _).heap.size; rw [freeze_size]; exact h2.1, h2.2⟩, freeze_cell? _ _ _ _⟩
include hn
theorem HInv.ice : HInv (s.ice id ty cells ver imm n b) := by
 have hE := Ext.ice hI he hb (n := n)
 obtain ⟨e1, e2, e3, e4⟩ := hI.ent id _ b he hb
 have h1 := HInv.retell hI he hb (cells' := cells) (ver' := ver) (imm' := max imm n) (Nat.le_refl _) (Nat.le_max_left _ _) e1 (by omega) e4
 have hsz : (s.w.freeze ⟨b.blk, 0, none⟩ n).heap.size = s.w.heap.size := freeze_size _ _ _
 refine ⟨h1.len, by show _ ≤ (s.w.freeze _ _).heap.size; rw [hsz]; exact h1.B, fun i b' hb' => ⟨(h1.slot i b' hb').1, by show _ < (s.w.freeze _ _).heap.size; rw [hsz]; exact (h1.slot i b' hb').2⟩, h1.inj, fun i e b' he' hb' => ?_, fun i e b' he' hb' hm => ?_⟩
 ·by_cases h : id = i
  ·subst h
   rw [show (s.ice id ty cells ver imm n b).β = s.β from rfl, hb] at hb'; cases hb'
   rcases get_set he' with ⟨_, rfl, _⟩ | ⟨h, _⟩
   ·refine ⟨e1, by omega, fun j hj => ⟨?_, fun h5 => ?_⟩, e4.of hE fun j _ => freeze_cell? _ _ _ _⟩
    ·obtain ⟨y, hy⟩ := (e3 j hj).1
     exact ⟨y, (freeze_cell? _ _ _ _).trans hy⟩
    ·obtain ⟨h0, cs, fr, a1, a2, a3⟩ := (hI.shape id _ b he hb rfl).freeze n
     show (s.w.freeze ⟨b.blk, 0, none⟩ n).frozen? _ = false
     simp only [World.frozen?, a1]
     simp only [Ent.imm] at a3
     simp; omega
   ·exact absurd rfl h
  ·have he'' : s.σ[i]? = some e := by
    have : (s.σ.set id (.arr ty cells ver (max imm n)))[i]? = some e := he'
    rwa [get_set_ne h] at this
   have hne : b.blk ≠ b'.blk := fun hh => h (hI.inj id i b b' hb hb' hh)
   have hold := hI.ent i e b' he'' hb'
   have hblk := freeze_other s.w ⟨b.blk, 0, none⟩ n hne
   cases e with
   | arr ty' cells' ver' imm' =>
    obtain ⟨h1, h2, h3, h4⟩ := hold
    refine ⟨h1, h2, fun j hj => ?_, h4.of hE fun j _ => freeze_cell? _ _ _ _⟩
    obtain ⟨⟨y, h5⟩, h6⟩ := h3 j hj
    refine ⟨⟨y, (freeze_cell? _ _ _ _).trans h5⟩, fun h7 => ?_⟩
    have := h6 h7
    show (s.w.freeze ⟨b.blk, 0, none⟩ n).frozen? _ = false
    unfold World.frozen? at this ⊢
    rw [hblk]; exact this
   | map es clock => exact hold.obj hE rfl hblk
   | iter m since seen last => exact hold.obj hE rfl hblk
 ·show ShapeOK (s.w.freeze ⟨b.blk, 0, none⟩ n) _ _ _
  by_cases h : id = i
  ·subst h
   rw [show (s.ice id ty cells ver imm n b).β = s.β from rfl, hb] at hb'; cases hb'
   rcases get_set he' with ⟨_, rfl, _⟩ | ⟨h, _⟩
   ·exact (hI.shape id _ b he hb rfl).freeze n
   ·exact absurd rfl h
  ·have he'' : s.σ[i]? = some e := by
    have : (s.σ.set id (.arr ty cells ver (max imm n)))[i]? = some e := he'
    rwa [get_set_ne h] at this
   have hne : b.blk ≠ b'.blk := fun hh => h (hI.inj id i b b' hb hb' hh)
   obtain ⟨h0, cs, fr, a1, a2, a3⟩ := hI.shape i e b' he'' hb' hm
   exact ⟨h0, cs, fr, (freeze_other s.w ⟨b.blk, 0, none⟩ n hne).trans a1, a2, a3⟩
end
theorem two_of {c : Call} {ts : Ts} {p q : AV} (h : c.args.toList.map (ev ts) = [p, q]) : ∃ x y, c.args = #[x, y] ∧ ev ts x = p ∧ ev ts y = q := by
 cases hh : c.args.toList with
 | nil => rw [hh] at h; cases h
 | cons x r =>
  cases r with
  | nil => rw [hh] at h; simp at h
  | cons y r =>
   cases r with
   | nil => rw [hh] at h; simp at h; exact ⟨x, y, by apply Array.ext'; simpa using hh, h.1, h.2⟩
   | cons _ _ => rw [hh] at h; simp at h
section
variable {E : Env} {T : Nat → TI} (hT : TabOK E.P T) {s : S} {a : Act} {ts : Ts} {g l : List Ent} (hs : s.σ = g ++ l) (hI : HInv s) (ht : TsRep s ts a)
include hT hs hI ht
theorem st_string_nil {o : Oper} {c : Call} (ho : o.op = .call c) (hc : c.callee = .builtin .unsafeString) (hargs : c.args.toList.map (ev ts) = [.v (.pointer none), .v (.int .i64 0)]) {pt it : TypeId}
  (htys : c.argTypes.toList = [pt, it]) : StepOK E o s a g (.str []) g l := by
 obtain ⟨x, y, hxy, hx, hy⟩ := two_of hargs
 have hv := rep_v hs hI ht hx
 have hw := rep_v hs hI ht hy
 have htys' : c.argTypes = #[pt, it] := by apply Array.ext'; simpa using htys
 refine .pure hs hI (v := .string .empty) ?_ (by unfold Rep; rfl)
 have := Lib.run_unsafeString_none (P := E.P) s.w pt it o.type none
 simp [execOp, ho, resolve, hc, invoke, builtin, hxy, hv, hw, htys', this]
theorem st_string {o : Oper} {c : Call} (ho : o.op = .call c) (hc : c.callee = .builtin .unsafeString) {id ver : Nat} {n : Int} (hargs : c.args.toList.map (ev ts) = [.ref id ver 0, .v (.int .i64 n)]) {pt it e : TypeId}
  (htys : c.argTypes.toList = [pt, it]) (h1 : (T pt).ok = true) (hd : (T pt).desc = .pointer e) (h2 : (T e).ok = true) (hz : (T e).size = 1) {cells : List AV} {imm : Nat} (he : s.σ[id]? = some (.arr e cells ver imm))
  (h0 : 0 < n) (hn : n ≤ cells.length) (hmax : n ≤ maxRoom) {b : List UInt8} (hb : avBytes (cells.take n.toNat) = some b) :
  StepOK E o s a g (.str b) (ssetG g id (.arr e cells ver (max imm n.toNat))) (ssetL g l id (.arr e cells ver (max imm n.toNat))) := by
 obtain ⟨x, y, hxy, hx, hy⟩ := two_of hargs
 have htys' : c.argTypes = #[pt, it] := by apply Array.ext'; simpa using htys
 obtain ⟨sb, hsb, hv⟩ := ref_at hT hs hI ht hx he rfl
 have hw := rep_v hs hI ht hy
 obtain ⟨hcl, _, _, hc'⟩ := arr_at hT hs hI ht he hsb
 have hu := (hT pt h1).und
 rw [hd] at hu
 obtain ⟨inf, z, hinf, hsz, _⟩ := (hT e h2).info
 have hco : E.P.cellsOf e = 1 := by simp [Program.cellsOf, hinf]; omega
 have hsO := hI.shape id _ sb he hsb rfl
 have hoff := hsO.1
 have hsh := hsO.shape
 simp only [Ent.ty] at hsh
 have hlen : (b.length : Int) = n := by have := avBytes_len hb; simp at this; omega
 have hln : b.length = n.toNat := by omega
 have hns := avBytes_spec hb
 have hrun := Lib.run_unsafeString_row (P := E.P) s.w pt it o.type e hu hco sb.blk (sb.off + sb.ext) hsh b (by intro hh; rw [hh] at hln; simp at hln; omega) (by omega) (by unfold maxRoom at hmax; omega)
  (fun j q hj => by
   have hj' : (cells.take n.toNat)[j]? = some (.v (.int .u8 q.toNat)) := by rw [hns]; simp [hj]
   rw [List.getElem?_take] at hj'
   split at hj'
   ·obtain ⟨y', a1, a2, _⟩ := hc' _ _ hj'
    unfold Rep at a2
    subst a2
    rw [hoff] at a1
    have : (⟨sb.blk, 0, none⟩ : Addr).add j = ⟨sb.blk, 0 + j, none⟩ := by
     unfold Addr.add; split <;> simp_all
    rw [this]; exact a1
   ·cases hj')
 refine ⟨_, .string ⟨b.toArray⟩, s.ice id e cells ver imm n.toNat sb, ?_, .inl rfl, ?_, ssetG_len _ _ _, rfl, hI.ice he hsb (by omega), Ext.ice hI he hsb, by unfold Rep; rfl⟩
 ·rw [hlen] at hrun
  rw [hoff] at hv
  simp only [execOp, ho, resolve, hc, invoke, builtin, hxy]
  simp [hv, hw, htys', hrun, hln, S.ice]
 ·show s.σ.set id _ = _
  rw [hs, sset_eq]
end
end Go.Vm
