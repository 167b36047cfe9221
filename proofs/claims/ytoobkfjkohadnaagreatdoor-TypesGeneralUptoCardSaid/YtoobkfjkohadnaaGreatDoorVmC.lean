/- Arrays' cells, interface values, new rows, bytes of texts. -/
import Derived.Test.YtoobkfjkohadnaaGreatDoorVmB
import Derived.Laws.MakeOwn
import Derived.Laws.IdiomStrings
import Derived.Laws.AppendOwn
import Derived.MapKept
import Derived.Maps.RangeRun
set_option linter.unusedVariables false
set_option linter.unusedSimpArgs false
set_option linter.unusedSectionVars false
namespace Go.Vm
open Go.RowKit
theorem imm_new0 {s : S} (hI : HInv s) {w' : World} {blk : Nat} (h1 : s.w.heap.size ≤ blk) (h2 : blk < w'.heap.size) (off : Nat) : Imm { s with w := w' } blk off := by
 refine ⟨h2, fun id e b he hb hbb => ?_⟩
 have := (hI.slot id b hb).2
 omega
theorem one_cells {es : List AV} (h : ∀ x ∈ es, isEl 1 false x = true) : es.flatMap AV.cells = es := by
 induction es with
 | nil => rfl
 | cons x r ih =>
  rw [List.flatMap_cons, ih fun y hy => h y (by simp [hy])]
  have hx := h x (by simp)
  cases x <;> simp_all [isEl, AV.isAgg, AV.cells]
section
variable {E : Env} {T : Nat → TI} (hT : TabOK E.P T) {s : S} {a : Act} {ts : Ts} {g l : List Ent} (hs : s.σ = g ++ l) (hI : HInv s) (ht : TsRep s ts a)
include hT hs hI ht
theorem st_indexAddr_arr {o : Oper} {t : TypeId} {x i : Operand} (ho : o.op = .indexAddr t x i) (h1 : (T t).ok = true) {m : Nat} {e : TypeId} (hd : (T t).desc = .array m e) (h2 : (T e).ok = true)
  {id ver off : Nat} (hx : ev ts x = .ref id ver off) {k : IntKind} {n : Int} (hi : ev ts i = .v (.int k n)) (h0 : 0 ≤ n) (hn : n < m) :
  StepOK E o s a g (.ref id ver (off + n.toNat * (T e).size)) g l := by
 have hun := (hT t h1).und
 rw [hd] at hun
 obtain ⟨inf, z, hinf, hsz, _⟩ := (hT e h2).info
 have h := ev_rep ht x
 rw [hx] at h
 unfold Rep at h
 obtain ⟨en, b, he, hb, hv, ad, hh, hadd⟩ := h
 have hk := rep_v hs hI ht hi
 refine .pure hs hI (v := .pointer (some (ad.add (n.toNat * (T e).size)))) ?_ ?_
 ·simp [execOp, ho, Instr.indexAt, Instr.sureAddr, hh, hk, asIntOf, run_underlying hun, h0, hn, run_sizeOf' hinf, hsz]
 ·unfold Rep
  refine ⟨en, b, he, hb, hv, _, rfl, fun hver => ?_⟩
  rw [hadd hver, Addr.add_lit, Nat.add_assoc]
theorem st_makeInterface {o : Oper} {t : TypeId} {x : Operand} (ho : o.op = .makeInterface t x) (h1 : (T t).ok = true) (hne : isIfaceD (T t).desc = false) : StepOK E o s a g (.ifc t (ev ts x)) g l := by
 have hun := (hT t h1).und
 refine .pure hs hI (v := .iface t (a.eval x)) ?_ (by unfold Rep; exact ⟨_, rfl, ev_rep ht x⟩)
 simp only [execOp, ho, Instr.makeInterface]
 cases hd : (T t).desc <;> rw [hd] at hun hne <;> first
  | (simp [isIfaceD] at hne; done)
  | simp [run_underlying hun]
theorem st_makeSlice {o : Oper} {t : TypeId} {x y : Operand} (ho : o.op = .makeSlice t x y) (h1 : (T t).ok = true) {e : TypeId} (hd : (T t).desc = .slice e) (h2 : (T e).ok = true) (hag : (T e).isAgg = false)
  (hzc : (T e).zero.isCell = true) {k j : IntKind} {n c : Int} (hx : ev ts x = .v (.int k n)) (hy : ev ts y = .v (.int j c)) (h0 : 0 ≤ n) (hc : n ≤ c) (hm : c ≤ maxRoom) (hb : ((T e).bytes : Int) * c ≤ maxRoom) :
  StepOK E o s a g (.rsl (g.length + l.length) 0 0 n.toNat 1) g (l ++ [.arr e (List.replicate n.toNat (T e).zero) 0 0]) := by
 have hun := (hT t h1).und
 rw [hd] at hun
 obtain ⟨inf, z, hinf, hsz, hby, hz, hzv⟩ := (hT e h2).info
 have hone := (hT e h2).one hag
 have hkx := rep_v hs hI ht hx
 have hky := rep_v hs hI ht hy
 have hzr := zval_rep s hzv
 have hzcell := hzr.cellV hzc
 unfold maxRoom at hm hb
 have hrun := run_make (P := E.P) s.w t e inf z hun hinf hz k j n c h0 hc (by rw [hby]; omega) (by omega)
 have hcells : madeCells z.cells (c.toNat * inf.size) = Array.replicate c.toNat z := by
  rw [hzcell.cells, hsz, hone, Nat.mul_one]
  apply Array.ext
  ·simp [madeCells]
  ·intro i hi1 hi2
   simp [madeCells, Nat.mod_one]
 rw [hcells] at hrun
 have hlen2 : s.σ.length = g.length + l.length := by rw [hs]; simp
 have hle : n.toNat ≤ c.toNat := by omega
 refine ⟨.value (.slice (some ⟨s.w.heap.size, 0, none⟩) n.toNat c.toNat), .slice (some ⟨s.w.heap.size, 0, none⟩) n.toNat c.toNat, s.push (.arr e (List.replicate n.toNat (T e).zero) 0 0) ⟨s.w.heap.size, 0, (Array.replicate c.toNat z).size⟩ (s.w.alloc (.cells (Array.replicate c.toNat z) e)), ?_, .inl rfl, by simp [S.push, hs], rfl, rfl,
  hI.push _ _ e (by simp; omega) fun i q hq => ?_, Ext.push hI _ _ _, ?_⟩
 ·simp only [execOp, ho, hkx, hky]
  exact run_v hrun
 ·rw [List.getElem?_replicate] at hq
  split at hq
  ·rename_i hi
   injection hq with hq
   refine ⟨z, by rw [Array.getElem?_replicate, if_pos (by omega)], hq ▸ hzr, hzcell⟩
  ·cases hq
 ·unfold Rep
  refine ⟨.arr e (List.replicate n.toNat (T e).zero) 0 0, ⟨s.w.heap.size, 0, (Array.replicate c.toNat z).size⟩, ?_, ?_, Nat.le_refl _, _, _, _, rfl, fun _ => ⟨fun _ => ⟨rfl, rfl⟩, hle, ?_⟩⟩
  ·simp [S.push, ← hlen2]
  ·simp [S.push, ← hlen2, ← hI.len]
  ·simp
theorem st_bytes {o : Oper} {src dst : TypeId} {x : Operand} (ho : o.op = .convert src dst x) (h1 : (T src).ok = true) (h2 : (T dst).ok = true) {e : TypeId} (hsd : (T src).desc = .string) (hd : (T dst).desc = .slice e)
  (he : (T e).ok = true) (heb : isByteD (T e).desc = true) {b : List UInt8} (hx : ev ts x = .str b) : StepOK E o s a g (.sl (b.map byteAV)) g l := by
 have hu := (hT src h1).und
 have hv := (hT dst h2).und
 have hue := (hT e he).und
 rw [hsd] at hu; rw [hd] at hv; rw [isByteD_spec heb] at hue
 have h := ev_rep ht x
 rw [hx] at h
 unfold Rep at h
 have hrun := run_bytes_of_string (P := E.P) s.w src dst e ⟨⟨b⟩⟩ hu hv hue
 generalize hG : grownCap s.w (ByteArray.mk ⟨b⟩).size 0 e = cap at hrun
 have hcap : b.length ≤ cap := by
  rw [← hG]; have := grownCap_ge s.w (ByteArray.mk ⟨b⟩).size 0 e; simpa [ByteArray.size] using this
 generalize hO : Obj.cells (bytesRow ⟨⟨b⟩⟩ cap) e ((bytesRow ⟨⟨b⟩⟩ cap).size, (bytesRow ⟨⟨b⟩⟩ cap).size + 1) = ob at hrun
 have hbw : Below s.w.heap.size s.w (s.w.drew.alloc ob) := (below_drew s.w).trans (below_alloc s.w.drew ob)
 have hsz : (ByteArray.mk ⟨b⟩).size = b.length := by simp [ByteArray.size]
 rw [hsz] at hrun
 refine ⟨_, .slice (some ⟨s.w.heap.size, 0, none⟩) b.length cap, { s with w := s.w.drew.alloc ob }, ?_, .inl rfl, hs, rfl, rfl, hI.of_below hbw, Ext.of_below hI hbw, ?_⟩
 ·simp only [execOp, ho, h]
  exact run_v hrun
 ·unfold Rep
  refine ⟨_, _, by rw [List.length_map], by rw [List.length_map]; exact hcap, .inr ⟨_, _, 1, rfl, by omega, RepRow.mk fun i q hq => ?_⟩⟩
  simp only [List.getElem?_map, Option.map_eq_some_iff] at hq
  obtain ⟨c, hc, rfl⟩ := hq
  refine ⟨.int .u8 c.toNat, ?_, by unfold byteAV intV Rep; rfl⟩
  unfold LoadsAt
  simp only [byteAV, intV, AV.isAgg, Bool.false_eq_true, if_false]
  refine ⟨trivial, ?_, imm_new0 hI (Nat.le_refl _) (by show s.w.heap.size < (s.w.heap.push _).size; simp) _⟩
  have hlt := lt_of_get hc
  have : (s.w.drew.alloc ob).cell? ⟨s.w.heap.size, 0 + i * 1, none⟩ = (bytesRow ⟨⟨b⟩⟩ cap)[i]? := by
   rw [← hO]
   show (({ s.w.drew with heap := s.w.heap.push _ } : World)).cell? _ = _
   simp [World.cell?]
  rw [this]
  unfold bytesRow
  rw [Array.getElem?_append_left (by simpa using hlt)]
  simp [hc]
theorem st_copy_nil {o : Oper} {c : Call} (ho : o.op = .call c) (hc : c.callee = .builtin .copy) {id ver off n sz : Nat} (hargs : c.args.toList.map (ev ts) = [.rsl id ver off n sz, .v (.slice none 0 0)]) {dT sT : TypeId} (htys : c.argTypes.toList = [dT, sT])
  (h1 : (T dT).ok = true) {e : TypeId} (hd : (T dT).desc = .slice e) (h2 : (T e).ok = true) : StepOK E o s a g (intV .i64 0) g l := by
 have hun := (hT dT h1).und
 rw [hd] at hun
 obtain ⟨inf, z, hinf, hszi, _⟩ := (hT e h2).info
 have h := evs_rep ht c.args.toList
 rw [hargs] at h
 unfold RepL RepL RepL Rep at h
 obtain ⟨v, vs, h3, ⟨en, b, he', hb, _, ab, ao, cap, rfl, hadd⟩, v2, vs2, rfl, rfl, rfl⟩ := h
 obtain ⟨cal, as, tys⟩ := c
 simp only at hc h3 htys
 subst hc
 obtain rfl : tys = #[dT, sT] := by apply Array.ext'; simpa using htys
 have hargs' : as.map a.eval = #[.slice (some ⟨ab, ao, none⟩) n cap, .slice none 0 0] := by apply Array.ext'; simpa using h3
 refine .pure hs hI (v := .int .i64 0) ?_ (by simp only [intV]; unfold Rep; rfl)
 simp [execOp, ho, resolve, invoke, builtin, Builtin.copy_, Builtin.lenOf, Builtin.firstCells, storeCells, hargs', run_underlying hun, run_sizeOf' hinf, goInt]
theorem st_cap_nil {o : Oper} {c : Call} (ho : o.op = .call c) (hc : c.callee = .builtin .cap) (hargs : c.args.toList.map (ev ts) = [.v (.slice none 0 0)]) {dT : TypeId} (htys : c.argTypes.toList = [dT])
  (h1 : (T dT).ok = true) {e : TypeId} (hd : (T dT).desc = .slice e) : StepOK E o s a g (intV .i64 0) g l := by
 have hun := (hT dT h1).und
 rw [hd] at hun
 have h := evs_rep ht c.args.toList
 rw [hargs] at h
 unfold RepL RepL Rep at h
 obtain ⟨v, vs, h3, rfl, rfl⟩ := h
 obtain ⟨cal, as, tys⟩ := c
 simp only at hc h3 htys
 subst hc
 obtain rfl : tys = #[dT] := by apply Array.ext'; simpa using htys
 have hargs' : as.map a.eval = #[.slice none 0 0] := by apply Array.ext'; simpa using h3
 refine .pure hs hI (v := .int .i64 0) ?_ (by simp only [intV]; unfold Rep; rfl)
 simp [execOp, ho, resolve, invoke, builtin, Builtin.cap_, hargs', run_underlying hun, goInt]
theorem st_clear {o : Oper} {c : Call} (ho : o.op = .call c) (hc : c.callee = .builtin .clear) {id ver off n sz : Nat} (hargs : c.args.toList.map (ev ts) = [.rsl id ver off n sz]) {dT : TypeId} (htys : c.argTypes.toList = [dT])
  (h1 : (T dT).ok = true) {e : TypeId} (hd : (T dT).desc = .slice e) (h2 : (T e).ok = true) (hag : (T e).isAgg = false) (hzc : (T e).zero.isCell = true) {ty : Nat} {cells : List AV} {ver' imm : Nat} (he : s.σ[id]? = some (.arr ty cells ver' imm)) (hver : ver = ver') (hsz : sz = 1)
  (him : imm ≤ off) (hfit : off + n ≤ cells.length) :
  StepOK E o s a g (.v undef) (ssetG g id (.arr ty (setRange cells off (List.replicate n (T e).zero)) ver' imm)) (ssetL g l id (.arr ty (setRange cells off (List.replicate n (T e).zero)) ver' imm)) := by
 have hun := (hT dT h1).und
 rw [hd] at hun
 obtain ⟨inf, z, hinf, hszi, hby, hz, hzv⟩ := (hT e h2).info
 have hzr := zval_rep s hzv
 have hzcell := hzr.cellV hzc
 have h := evs_rep ht c.args.toList
 rw [hargs] at h
 unfold RepL RepL Rep at h
 obtain ⟨v, vs, h3, ⟨en, b, he', hb, _, ab, ao, cap, rfl, hadd⟩, rfl⟩ := h
 obtain rfl : Ent.arr ty cells ver' imm = en := Option.some.inj (he.symm.trans he')
 obtain ⟨hcl, _, _, _⟩ := arr_at hT hs hI ht he hb
 have h5 := hadd hver
 have ha : c.args.map a.eval = #[.slice (some ⟨ab, ao, none⟩) n cap] := by
  apply Array.toList_inj.1
  rw [Array.toList_map, h3]
 have hty : c.argTypes = #[dT] := Array.toList_inj.1 (by rw [htys])
 rcases Nat.eq_zero_or_pos n with h0 | h0
 ·subst h0
  have key : (Builtin.clear_ c.argTypes o.type (c.args.map a.eval)).run E.P s.w = .ok undef s.w := by
   rw [ha, hty]
   simp [Builtin.clear_, run_underlying hun, undef]
  refine ⟨.value undef, undef, s, ?_, .inl rfl, ?_, ssetG_len _ _ _, rfl, hI, Ext.refl s, by unfold Rep; rfl⟩
  ·simp [execOp, ho, resolve, hc, invoke, builtin, key]
  ·rw [sset_eq, ← hs]
   simp only [List.replicate_zero, setRange]
   exact (list_set_same he).symm
 ·have h6 : 0 < cap := by have := h5.2.1; omega
  obtain ⟨rfl, rfl⟩ := h5.1 h6
  have hrl : ∀ n : Nat, RepL s (List.replicate n (T e).zero) (List.replicate n z) := fun n => by
   induction n with
   | zero => unfold RepL; rfl
   | succ n ih => rw [List.replicate_succ, List.replicate_succ]; unfold RepL; exact ⟨_, _, rfl, hzr, ih⟩
  obtain ⟨s', h8, h9, h10, h11, h12, h13, _, _⟩ := storeRange' E.P (List.replicate n (T e).zero) (List.replicate n z) s id ty cells ver' imm b off 0 (b.off + off) hI he hb him (by rw [List.length_replicate]; omega) (hrl n) (fun v hv => by rw [(List.mem_replicate.1 hv).2]; exact hzcell) (by omega)
  have hzs : (Builtin.zeroCells z.cells n).toList = List.replicate n z := by
   rw [hzcell.cells]
   apply List.ext_getElem
   ·simp [Builtin.zeroCells]
   ·intro i hi1 hi2
    simp [Builtin.zeroCells, Nat.mod_one]
  have key : (Builtin.clear_ c.argTypes o.type (c.args.map a.eval)).run E.P s.w = .ok undef s'.w := by
   rw [ha, hty]
   have hn0 : n ≠ 0 := by omega
   simp [Builtin.clear_, run_underlying hun, zeroValue, typeInfo, hinf, hz, hzs, h8, undef, hn0]
  refine ⟨.value undef, undef, s', ?_, .inl rfl, ?_, ssetG_len _ _ _, h13, h9, h10, by unfold Rep; rfl⟩
  ·simp [execOp, ho, resolve, hc, invoke, builtin, key]
  ·rw [h11, hs, sset_eq]
theorem st_copy {o : Oper} {c : Call} (ho : o.op = .call c) (hc : c.callee = .builtin .copy) {id ver off n sz : Nat} {es : List AV} (hargs : c.args.toList.map (ev ts) = [.rsl id ver off n sz, .sl es]) {dT sT : TypeId} (htys : c.argTypes.toList = [dT, sT])
  (h1 : (T dT).ok = true) {e : TypeId} (hd : (T dT).desc = .slice e) (h2 : (T e).ok = true) (hone : (T e).size = 1) {ty : Nat} {cells : List AV} {ver' imm : Nat} (he : s.σ[id]? = some (.arr ty cells ver' imm)) (hver : ver = ver') (hsz : sz = 1)
  (him : imm ≤ off) (hfit : off + n ≤ cells.length) (hk : 0 < min n es.length) (hel : ∀ x ∈ es, isEl 1 false x = true) :
  StepOK E o s a g (intV .i64 ((min n es.length : Nat) : Int)) (ssetG g id (.arr ty (setRange cells off (es.take (min n es.length))) ver' imm)) (ssetL g l id (.arr ty (setRange cells off (es.take (min n es.length))) ver' imm)) := by
 have hun := (hT dT h1).und
 rw [hd] at hun
 obtain ⟨inf, z, hinf, hszi, _⟩ := (hT e h2).info
 have h := evs_rep ht c.args.toList
 rw [hargs] at h
 unfold RepL RepL RepL Rep at h
 obtain ⟨v, vs, h3, ⟨en, b, he', hb, _, ab, ao, cap, rfl, hadd⟩, v2, vs2, rfl, ⟨a2, cap2, rfl, hc2, hrow⟩, rfl⟩ := h
 obtain rfl : Ent.arr ty cells ver' imm = en := Option.some.inj (he.symm.trans he')
 obtain ⟨hcl, _, _, _⟩ := arr_at hT hs hI ht he hb
 have h5 := hadd hver
 have h6 : 0 < cap := by
  have := h5.2.1
  omega
 obtain ⟨rfl, rfl⟩ := h5.1 h6
 rcases hrow with rfl | ⟨blk, off2, kk, rfl, hpos, hrow⟩
 ·simp at hk
 generalize hkk : min n es.length = k at *
 have hkl : k ≤ es.length := by omega
 have hkn : k ≤ n := by omega
 have hk1 : kk = 1 := by
  rcases es with _ | ⟨x, r⟩
  ·simp at hkl; omega
  ·unfold RepRow at hrow
   obtain ⟨⟨y, h7, _⟩, _⟩ := hrow
   have hx := hel x (by simp)
   have : x.isAgg = false := by simp [isEl] at hx; exact hx.1.1
   rw [this] at h7
   unfold LoadsAt at h7
   simp only [Bool.false_eq_true, if_false] at h7
   exact h7.1
 subst hk1
 have hrow2 : RepRow s 1 blk off2 (es.take k) := RepRow.mk fun i q hq => by
  rw [List.getElem?_take] at hq
  split at hq
  ·exact hrow.get hq
  ·cases hq
 obtain ⟨news, r1, r2, r3, r4⟩ := row_cells (sz := 1) (ag := false) hrow2 fun q hq => hel q (List.mem_of_mem_take hq)
 rw [one_cells (es := es.take k) fun q hq => hel q (List.mem_of_mem_take hq)] at r1
 have r2' : news.length = k := by rw [r2, List.length_take]; omega
 obtain ⟨s', h8, h9, h10, h11, h12, h13, _, _⟩ := storeRange' E.P (es.take k) news s id ty cells ver' imm b off 0 (b.off + off) hI he hb him (by rw [List.length_take]; omega) r1 r4 (by omega)
 have hfirst := run_firstCells_some (P := E.P) s.w 1 k ⟨blk, off2, none⟩ es.length cap2 news (by omega) (fun j u hj => by rw [Addr.add_lit]; exact r3 j u hj)
 have ha : c.args.map a.eval = #[.slice (some ⟨b.blk, b.off + off, none⟩) n cap, .slice (some ⟨blk, off2, none⟩) es.length cap2] := by
  apply Array.toList_inj.1
  rw [Array.toList_map, h3]
 have hty : c.argTypes = #[dT, sT] := Array.toList_inj.1 (by rw [htys])
 have key : (Builtin.copy_ c.argTypes o.type (c.args.map a.eval)).run E.P s.w = .ok (.int .i64 k) s'.w := by
  rw [ha, hty]
  have hmin : Nat.min es.length n = k := by rw [← hkk]; exact Nat.min_comm _ _
  simp [Builtin.copy_, run_underlying hun, Builtin.lenOf, run_sizeOf' hinf, hszi, hone, hmin, hfirst, h8, goInt]
 refine ⟨.value (.int .i64 k), .int .i64 k, s', ?_, .inl rfl, ?_, ssetG_len _ _ _, h13, h9, h10, by simp only [intV]; unfold Rep; rfl⟩
 ·simp [execOp, ho, resolve, hc, invoke, builtin, key]
 ·rw [h11, hs, sset_eq]
end
end Go.Vm
namespace Go.Vm
open Go.RowKit
theorem MRep.length {s : S} : ∀ {es : List MEnt} {ms : List MapEntry}, MRep s es ms → ms.length = es.length
 | [], ms, h => by unfold MRep at h; subst h; rfl
 | _ :: _, ms, h => by
  unfold MRep at h
  obtain ⟨z, y, ms', rfl, _, _, h3⟩ := h
  simp [h3.length]
theorem HInv.pushObj {s : S} (hI : HInv s) (e : Ent) (o : Obj) (hm : e.isMap = true) (hok : EntOK (s.push e ⟨s.w.heap.size, 0, 0⟩ (s.w.alloc o)) e ⟨s.w.heap.size, 0, 0⟩) :
  HInv (s.push e ⟨s.w.heap.size, 0, 0⟩ (s.w.alloc o)) := by
 have hE := Ext.push hI e o 0
 have hw := below_alloc s.w o
 refine ⟨by simp [S.push, hI.len], Nat.le_trans hI.B hw.size, fun id b hb => ?_, fun i j b c hb hc' hbc => ?_, fun id e' b he hb => ?_, fun id e' b he hb hm' => ?_⟩
 ·rcases get_push hb with hb | ⟨_, rfl⟩
  ·exact ⟨(hI.slot id b hb).1, Nat.lt_of_lt_of_le (hI.slot id b hb).2 hw.size⟩
  ·exact ⟨hI.B, by simp [S.push]⟩
 ·rcases get_push hb with hb | ⟨hi, rfl⟩ <;> rcases get_push hc' with hc' | ⟨hj, rfl⟩
  ·exact hI.inj i j b c hb hc' hbc
  ·have := (hI.slot i b hb).2; simp only at hbc; omega
  ·have := (hI.slot j c hc').2; simp only at hbc; omega
  ·omega
 ·rcases get_push hb with hb | ⟨hi, rfl⟩
  ·rcases get_push he with he | ⟨hi', _⟩
   ·exact (hI.ent id e' b he hb).of_below hE (hI.slot id b hb).2 hw
   ·have := lt_of_get hb; rw [hI.len] at this; omega
  ·rcases get_push he with he | ⟨_, rfl⟩
   ·have := lt_of_get he; rw [← hI.len] at this; omega
   ·exact hok
 ·rcases get_push hb with hb | ⟨hi, rfl⟩
  ·rcases get_push he with he | ⟨hi', _⟩
   ·exact (hI.shape id e' b he hb hm').below hw (hI.slot id b hb).2
   ·have := lt_of_get hb; rw [hI.len] at this; omega
  ·rcases get_push he with he | ⟨_, rfl⟩
   ·have := lt_of_get he; rw [← hI.len] at this; omega
   ·rw [hm] at hm'; cases hm'
def S.setObj (s : S) (id : Nat) (e : Ent) (b : Slot) (o : Obj) : S := { s with σ := s.σ.set id e, w := { s.w with heap := s.w.heap.setIfInBounds b.blk o } }
theorem heap_set_ne (w : World) (k : Nat) (o : Obj) {j : Nat} (h : k ≠ j) : ({ w with heap := w.heap.setIfInBounds k o } : World).heap[j]? = w.heap[j]? := by
 simp [h]
section
variable {s : S} (hI : HInv s) {id : Nat} {e0 : Ent} {b : Slot} (he : s.σ[id]? = some e0) (hb : s.β[id]? = some b) (hm0 : e0.isMap = true) {e : Ent} (hm : e.isMap = true) (o : Obj)
include hI he hb hm0 hm
theorem obj_off : b.off = 0 := by
 have h := hI.ent id e0 b he hb
 cases e0 with
 | arr _ _ _ _ => simp [Ent.isMap] at hm0
 | map _ _ => exact h.1
 | iter _ _ _ _ => exact h.1
theorem Ext.setObj : Ext s (s.setObj id e b o) := by
 have h0 := obj_off hI he hb hm0 hm
 have hv : ∀ e : Ent, e.isMap = true → e.ver = 0 := fun e h => by cases e <;> simp_all [Ent.isMap, Ent.ver]
 have hi : ∀ e : Ent, e.isMap = true → e.imm = 0 := fun e h => by cases e <;> simp_all [Ent.isMap, Ent.imm]
 have hsl := hI.slot id b hb
 have hbw : Below b.blk s.w { s.w with heap := s.w.heap.setIfInBounds b.blk o } := ⟨rfl, rfl, rfl, by simp, fun k hk => heap_set_ne _ _ _ (by omega)⟩
 refine ⟨rfl, hbw.mono hsl.1, fun blk off him => ?_, fun i e' b' he' hb' => ?_⟩
 ·have hne : b.blk ≠ blk := fun h => by
   have := him.2 id e0 b he hb h
   rw [hi e0 hm0] at this; omega
  refine ⟨⟨by simpa [S.setObj] using him.1, fun i e' b' he' hb' hbb => ?_⟩, World.cell?_of_block (w := s.w) (heap_set_ne _ _ _ hne)⟩
  rcases get_set he' with ⟨rfl, rfl, _⟩ | ⟨_, he'⟩
  ·have hb2 : s.β[id]? = some b' := hb'
   rw [hb] at hb2; cases hb2
   exact absurd hbb hne
  ·exact him.2 i e' b' he' hb' hbb
 ·by_cases h : id = i
  ·subst h
   rw [he] at he'; cases he'
   exact ⟨_, b', get_set_self he, hb', by rw [hv _ hm0]; exact Nat.zero_le _, fun _ => rfl, fun _ => hm⟩
  ·exact ⟨e', b', by simp only [S.setObj]; rw [get_set_ne h]; exact he', hb', Nat.le_refl _, fun _ => rfl, fun h => h⟩
theorem HInv.setObj (hok : EntOK (s.setObj id e b o) e b) : HInv (s.setObj id e b o) := by
 have hE := Ext.setObj hI he hb hm0 hm o
 have hne : ∀ {i : Nat} {b' : Slot}, id ≠ i → s.β[i]? = some b' → b.blk ≠ b'.blk := fun h hb' hh => h (hI.inj _ _ _ _ hb hb' hh)
 refine ⟨by simp [S.setObj, hI.len], by simpa [S.setObj] using hI.B, fun i b' hb' => by simpa [S.setObj] using hI.slot i b' hb', hI.inj, fun i e' b' he' hb' => ?_, fun i e' b' he' hb' hm' => ?_⟩
 ·by_cases h : id = i
  ·subst h
   rw [show (s.setObj id e b o).β = s.β from rfl, hb] at hb'; cases hb'
   rcases get_set he' with ⟨_, rfl, _⟩ | ⟨h, _⟩
   ·exact hok
   ·exact absurd rfl h
  ·have he'' : s.σ[i]? = some e' := by
    have : (s.σ.set id e)[i]? = some e' := he'
    rwa [get_set_ne h] at this
   have hbl := heap_set_ne s.w b.blk o (hne h hb')
   have hold := hI.ent i e' b' he'' hb'
   cases e' with
   | arr ty cells ver imm =>
    obtain ⟨h1, h2, h3, h4⟩ := hold
    refine ⟨h1, h2, fun j hj => ?_, h4.of hE fun j _ => World.cell?_of_block (w := s.w) hbl⟩
    obtain ⟨⟨y, h5⟩, h6⟩ := h3 j hj
    refine ⟨⟨y, (World.cell?_of_block (w := s.w) hbl).trans h5⟩, fun h7 => ?_⟩
    exact (World.frozen?_of_block (w := s.w) hbl).trans (h6 h7)
   | map es clock => exact hold.obj hE rfl hbl
   | iter m since seen last => exact hold.obj hE rfl hbl
 ·by_cases h : id = i
  ·subst h
   rcases get_set he' with ⟨_, rfl, _⟩ | ⟨h, _⟩
   ·rw [hm] at hm'; cases hm'
   ·exact absurd rfl h
  ·have he'' : s.σ[i]? = some e' := by
    have : (s.σ.set id e)[i]? = some e' := he'
    rwa [get_set_ne h] at this
   obtain ⟨h0, cs, fr, h1, h2⟩ := hI.shape i e' b' he'' hb' hm'
   exact ⟨h0, cs, fr, (heap_set_ne s.w b.blk o (hne h hb')).trans h1, h2⟩
end
def mpos (k : AV) : List MEnt → Option Nat
 | [] => none
 | e :: r => if keq k e.1 then some 0 else (mpos k r).map (· + 1)
def found (k : AV) (es : List MEnt) (ms : List MapEntry) : Option (Nat × Value) := (mpos k es).bind fun j => (ms[j]?).map fun m => (j, m.val)
theorem mpos_none {k : AV} : ∀ {es : List MEnt}, mpos k es = none → mget k es = none ∧ (∀ x c, mput k x c es = es ++ [(k, x, c)]) ∧ mdel k es = es
 | [], _ => ⟨rfl, fun _ _ => rfl, rfl⟩
 | e :: r, h => by
  unfold mpos at h
  split at h
  ·cases h
  ·rename_i hk
   obtain ⟨h1, h2, h3⟩ := mpos_none (es := r) (by simpa using h)
   refine ⟨by simp [mget, hk, h1], fun x c => by simp [mput, hk, h2], by simp [mdel, hk, h3]⟩
theorem mpos_some {s : S} {k : AV} : ∀ {es : List MEnt} {ms : List MapEntry} {j : Nat}, MRep s es ms → mpos k es = some j →
  ∃ c x b z y, c ∈ es.map (·.1) ∧ keq k c = true ∧ ms[j]? = some { key := z, val := y, born := b } ∧ Rep s c z ∧ Rep s x y ∧ mget k es = some x ∧
   (∀ v zk yv cl, Rep s k zk → Rep s v yv → MRep s (mput k v cl es) (ms.set j { key := zk, val := yv, born := b })) ∧ MRep s (mdel k es) (ms.eraseIdx j)
 | [], _, _, _, h => by cases h
 | e :: r, ms, j, hr, h => by
  unfold MRep at hr
  obtain ⟨z, y, ms', rfl, h1, h2, h3⟩ := hr
  unfold mpos at h
  split at h
  ·rename_i hk
   cases h
   refine ⟨e.1, e.2.1, e.2.2, z, y, by simp, hk, rfl, h1, h2, by simp [mget, hk], fun v zk yv cl q1 q2 => ?_, by simpa [mdel, hk] using h3⟩
   simp only [mput, hk, if_true, List.set_cons_zero]
   unfold MRep
   exact ⟨zk, yv, ms', rfl, q1, q2, h3⟩
  ·rename_i hk
   obtain ⟨i, hi, rfl⟩ := Option.map_eq_some_iff.1 h
   obtain ⟨c, x, b, z', y', a1, a2, a3, a4, a5, a6, a7, a8⟩ := mpos_some h3 hi
   refine ⟨c, x, b, z', y', by simp only [List.map_cons, List.mem_cons]; exact .inr a1, a2, by simpa using a3, a4, a5, by simp [mget, hk, a6], fun v zk yv cl q1 q2 => ?_, ?_⟩
   ·simp only [mput, hk, Bool.false_eq_true, if_false, List.set_cons_succ]
    unfold MRep
    exact ⟨z, y, _, rfl, h1, h2, a7 v zk yv cl q1 q2⟩
   ·simp only [mdel, hk, Bool.false_eq_true, if_false, List.eraseIdx_cons_succ]
    unfold MRep
    exact ⟨z, y, _, rfl, h1, h2, a8⟩
theorem MRep.at {s : S} : ∀ {es : List MEnt} {ms : List MapEntry}, MRep s es ms → ∀ m ∈ ms, ∃ e ∈ es, e.2.2 = m.born ∧ Rep s e.1 m.key ∧ Rep s e.2.1 m.val
 | [], ms, h, m, hm => by unfold MRep at h; subst h; cases hm
 | e :: r, ms, h, m, hm => by
  unfold MRep at h
  obtain ⟨z, y, ms', rfl, h1, h2, h3⟩ := h
  rcases List.mem_cons.1 hm with rfl | hm
  ·exact ⟨e, by simp, rfl, h1, h2⟩
  ·obtain ⟨e', a1, a2⟩ := MRep.at h3 m hm
   exact ⟨e', by simp [a1], a2⟩
theorem MRep.from {s : S} : ∀ {es : List MEnt} {ms : List MapEntry}, MRep s es ms → ∀ e ∈ es, ∃ m ∈ ms, e.2.2 = m.born
 | e :: r, ms, h, c, hc => by
  unfold MRep at h
  obtain ⟨z, y, ms', rfl, h1, h2, h3⟩ := h
  rcases List.mem_cons.1 hc with rfl | hc
  ·exact ⟨_, List.mem_cons_self, rfl⟩
  ·obtain ⟨m, a1, a2⟩ := MRep.from h3 c hc
   exact ⟨m, by simp [a1], a2⟩
theorem MRep.find {s : S} (b : Nat) : ∀ {es : List MEnt} {ms : List MapEntry}, MRep s es ms → ∀ e, es.find? (fun e => e.2.2 == b) = some e → ∃ m, ms.find? (·.born == b) = some m ∧ Rep s e.1 m.key ∧ Rep s e.2.1 m.val
 | e :: r, ms, h, c, hc => by
  unfold MRep at h
  obtain ⟨z, y, ms', rfl, h1, h2, h3⟩ := h
  rw [List.find?_cons] at hc ⊢
  cases hb : e.2.2 == b with
  | true => simp only [hb, Option.some.injEq] at hc ⊢; subst hc; exact ⟨_, rfl, h1, h2⟩
  | false => simp only [hb] at hc ⊢; exact MRep.find b h3 c hc
theorem MRep.push {s : S} {k x : AV} {z y : Value} {c : Nat} : ∀ {es : List MEnt} {ms : List MapEntry}, MRep s es ms → Rep s k z → Rep s x y → MRep s (es ++ [(k, x, c)]) (ms ++ [{ key := z, val := y, born := c }])
 | [], _, h, h1, h2 => by
  unfold MRep at h; subst h
  simp only [List.nil_append]
  unfold MRep
  exact ⟨z, y, [], rfl, h1, h2, by unfold MRep; rfl⟩
 | _ :: _, _, h, h1, h2 => by
  unfold MRep at h
  obtain ⟨z', y', ms', rfl, q1, q2, q3⟩ := h
  simp only [List.cons_append]
  unfold MRep
  exact ⟨z', y', _, rfl, q1, q2, q3.push h1 h2⟩
theorem plainRef_rep {s : S} {g l : List Ent} (hs : s.σ = g ++ l) (hI : HInv s) {id ver off : Nat} {z : Value} (hz : Rep s (.ref id ver off) z) (hp : plainRef g l id ver) :
  ∃ b cs ty fr, s.β[id]? = some b ∧ z = .pointer (some ⟨b.blk, b.off + off, none⟩) ∧ s.w.heap[b.blk]? = some (.cells cs ty fr) ∧ fr.2 = 0 := by
 unfold Rep at hz
 obtain ⟨e, b, h1, h2, _, a, rfl, h3⟩ := hz
 unfold plainRef at hp
 split at hp
 ·rename_i ty cells v imm he
  obtain ⟨rfl, rfl⟩ := hp
  rw [sget_eq, ← hs, h1] at he
  cases he
  obtain rfl := h3 rfl
  obtain ⟨_, cs, fr, h5, _, h4⟩ := hI.shape id _ b h1 h2 rfl
  exact ⟨b, cs, _, fr, h2, rfl, h5, by simp only [Ent.imm] at h4; omega⟩
 ·cases hp
section
variable {E : Env} {T : Nat → TI} (hT : TabOK E.P T) {s : S} {g l : List Ent} (hs : s.σ = g ++ l) (hI : HInv s)
include hT hs hI
theorem keys_same {kt : TypeId} (h1 : (T kt).ok = true) {k c : AV} (hk : kOK T g l (T kt).desc k) (hc : kOK T g l (T kt).desc c) {z y : Value} (hz : Rep s k z) (hy : Rep s c y) :
  (keq k c = true ↔ z = y) ∧ ((MapKept.IsKey (T kt).desc z ∧ MapKept.IsKey (T kt).desc y) ∨
   (isPtrD T (T kt).desc = true ∧ (Op.equal kt z y).run E.P s.w = .ok (keq k c) s.w ∧ ∃ a, z = .pointer a)) := by
 have hu := (hT kt h1).und
 cases k with
 | v x =>
  unfold Rep at hz; subst hz
  cases z with
  | int a n =>
   simp only [kOK] at hk
   rw [hk] at hc ⊢
   cases c with
   | v x2 =>
    unfold Rep at hy; subst hy
    cases y with
    | int b m =>
     simp only [kOK, TypeDesc.int.injEq] at hc
     subst hc
     exact ⟨by simp [keq], .inl ⟨by simp [MapKept.IsKey], by simp [MapKept.IsKey]⟩⟩
    | _ => simp [kOK] at hc
   | ref _ _ _ => simp [kOK, isPtrD] at hc
   | _ => simp [kOK] at hc
  | bool a =>
   simp only [kOK] at hk
   rw [hk] at hc ⊢
   cases c with
   | v x2 =>
    unfold Rep at hy; subst hy
    cases y with
    | bool b => exact ⟨by simp [keq], .inl ⟨by simp [MapKept.IsKey], by simp [MapKept.IsKey]⟩⟩
    | _ => simp [kOK] at hc
   | ref _ _ _ => simp [kOK, isPtrD] at hc
   | _ => simp [kOK] at hc
  | _ => simp [kOK] at hk
 | str x =>
  unfold Rep at hz; subst hz
  simp only [kOK] at hk
  rw [hk] at hc ⊢
  cases c with
  | str x2 =>
   unfold Rep at hy; subst hy
   exact ⟨by simp [keq], .inl ⟨by simp [MapKept.IsKey], by simp [MapKept.IsKey]⟩⟩
  | v x2 => cases x2 <;> simp [kOK] at hc
  | ref _ _ _ => simp [kOK, isPtrD] at hc
  | _ => simp [kOK] at hc
 | ref id ver off =>
  simp only [kOK] at hk
  cases hd : (T kt).desc with
  | pointer e =>
   rw [hd] at hk hc hu
   have hpd := hk.1
   simp only [isPtrD, Bool.and_eq_true, decide_eq_true_eq] at hpd
   cases c with
   | ref id' ver' off' =>
    simp only [kOK] at hc
    obtain ⟨b1, c1, t1, f1, p2, rfl, p3, p4⟩ := plainRef_rep hs hI hz hk.2
    obtain ⟨b2, c2, t2, f2, r2, rfl, r3, r4⟩ := plainRef_rep hs hI hy hc.2
    have hbeq : (keq (.ref id ver off) (.ref id' ver' off') = true) ↔ (⟨b1.blk, b1.off + off, none⟩ : Addr) = ⟨b2.blk, b2.off + off', none⟩ := by
     simp only [keq, Bool.and_eq_true, decide_eq_true_eq, Addr.mk.injEq, and_true]
     constructor
     ·rintro ⟨rfl, rfl⟩
      rw [p2] at r2; cases r2
      exact ⟨rfl, rfl⟩
     ·rintro ⟨q1, q2⟩
      have := hI.inj _ _ _ _ p2 r2 q1
      subst this
      rw [p2] at r2; cases r2
      exact ⟨rfl, by omega⟩
    refine ⟨by rw [hbeq]; simp, .inr ⟨hk.1, ?_, _, rfl⟩⟩
    obtain ⟨inf, z, hinf, hsz, _⟩ := (hT e hpd.1).info
    have hne : inf.size ≠ 0 := by omega
    have hrun : (sameAddr ⟨b1.blk, b1.off + off, none⟩ ⟨b2.blk, b2.off + off', none⟩).run E.P s.w = .ok (keq (.ref id ver off) (.ref id' ver' off')) s.w := by
     by_cases hbb : b1.blk = b2.blk
     ·have h3 : (sameAddr ⟨b1.blk, b1.off + off, none⟩ ⟨b2.blk, b2.off + off', none⟩).run E.P s.w = .ok ((⟨b1.blk, b1.off + off, none⟩ : Addr) == ⟨b2.blk, b2.off + off', none⟩) s.w := by
       simp [sameAddr, hbb]
      rw [h3]
      congr 1
      rw [Bool.eq_iff_iff, hbeq, beq_iff_eq]
     ·rw [sameAddr_other E.P s.w hbb p3 r3 p4 r4]
      congr 1
      symm
      rw [← Bool.not_eq_true, hbeq]
      intro h; exact hbb (by simpa using congrArg Addr.block h)
    have hq : ∀ d, (Op.equalIn (d + 1) kt (.pointer (some ⟨b1.blk, b1.off + off, none⟩)) (.pointer (some ⟨b2.blk, b2.off + off', none⟩))).run E.P s.w = .ok (keq (.ref id ver off) (.ref id' ver' off')) s.w := fun d => by
     simp only [Op.equalIn, Sem.run_bind, run_underlying hu, Result.andThen]
     simp [sizeOf, typeInfo, hinf, hne, Result.andThen, hrun]
    simp only [Op.equal, Op.maxDepth]
    exact hq 9999
   | v x2 => cases x2 <;> simp [kOK] at hc
   | _ => simp [kOK] at hc
  | _ => rw [hd] at hk; simp [isPtrD] at hk
 | _ => simp [kOK] at hk
theorem asking {kt : TypeId} (h1 : (T kt).ok = true) {k : AV} (hk : kOK T g l (T kt).desc k) {z : Value} (hz : Rep s k z) (hp : isPtrD T (T kt).desc = true) :
  ∀ (es : List MEnt) (ms : List MapEntry) (i : Nat), MRep s es ms → (∀ e ∈ es, kOK T g l (T kt).desc e.1) →
   (Instr.findAsking kt z ms i).run E.P s.w = .ok ((found k es ms).map fun p => (i + p.1, p.2)) s.w
 | [], ms, i, h, _ => by
  unfold MRep at h; subst h
  simp [Instr.findAsking, found, mpos]
 | e :: r, ms, i, h, hh => by
  unfold MRep at h
  obtain ⟨c, y, ms', rfl, q1, q2, q3⟩ := h
  obtain ⟨k1, k2⟩ := keys_same hT hs hI h1 hk (hh e (by simp)) hz q1
  have k3 : (Op.equal kt z c).run E.P s.w = .ok (keq k e.1) s.w := by
   rcases k2 with ⟨k2, _⟩ | ⟨_, k2, _⟩
   ·cases hd : (T kt).desc <;> rw [hd] at k2 hp <;> simp [isPtrD] at hp <;> simp [MapKept.IsKey] at k2
   ·exact k2
  unfold Instr.findAsking
  simp only [Sem.run_bind, k3, Result.andThen]
  by_cases hq : keq k e.1 = true
  ·simp [hq, found, mpos]
  ·have hq' : keq k e.1 = false := by simpa using hq
   simp only [hq', Bool.false_eq_true, if_false]
   rw [asking h1 hk hz hp r ms' (i + 1) q3 fun x hx => hh x (by simp [hx])]
   simp only [found, mpos, hq', Bool.false_eq_true, if_false]
   cases mpos k r with
   | none => rfl
   | some j =>
    simp only [Option.map_some, Option.bind_some, List.getElem?_cons_succ]
    cases ms'[j]? with
    | none => rfl
    | some m => simp; omega
theorem nowing {kt : TypeId} (h1 : (T kt).ok = true) {k : AV} (hk : kOK T g l (T kt).desc k) {z : Value} (hz : Rep s k z) (hp : isPtrD T (T kt).desc = false) :
  ∀ (es : List MEnt) (ms : List MapEntry) (i : Nat), MRep s es ms → (∀ e ∈ es, kOK T g l (T kt).desc e.1) →
   Instr.findNow (T kt).desc z ms i = some ((found k es ms).map fun p => (i + p.1, p.2))
 | [], ms, i, h, _ => by
  unfold MRep at h; subst h
  simp [Instr.findNow, found, mpos]
 | e :: r, ms, i, h, hh => by
  unfold MRep at h
  obtain ⟨c, y, ms', rfl, q1, q2, q3⟩ := h
  obtain ⟨k1, k2⟩ := keys_same hT hs hI h1 hk (hh e (by simp)) hz q1
  have k3 : Instr.sameNow (T kt).desc z c = some (keq k e.1) := by
   rcases k2 with ⟨k2, k4⟩ | ⟨k2, _⟩
   ·obtain ⟨b, hb1, hb2⟩ := MapKept.sameNow_of_keys k2 k4
    rw [hb1]
    congr 1
    rw [Bool.eq_iff_iff, hb2, k1]
   ·rw [hp] at k2; cases k2
  unfold Instr.findNow
  simp only [k3]
  by_cases hq : keq k e.1 = true
  ·simp [hq, found, mpos]
  ·have hq' : keq k e.1 = false := by simpa using hq
   simp only [hq']
   rw [nowing h1 hk hz hp r ms' (i + 1) q3 fun x hx => hh x (by simp [hx])]
   simp only [found, mpos, hq', Bool.false_eq_true, if_false]
   cases mpos k r with
   | none => rfl
   | some j =>
    simp only [Option.map_some, Option.bind_some, List.getElem?_cons_succ]
    cases ms'[j]? with
    | none => rfl
    | some m => simp; omega
theorem finding {kt : TypeId} (h1 : (T kt).ok = true) {k : AV} {es : List MEnt} (hk : ksOK T g l (T kt).desc k es) {z : Value} (hz : Rep s k z) {ms : List MapEntry} (hr : MRep s es ms) :
  (Instr.findKey kt z ms).run E.P s.w = .ok (found k es ms) s.w := by
 have hu := (hT kt h1).und
 have hid : (found k es ms).map (fun p => (0 + p.1, p.2)) = found k es ms := by cases found k es ms <;> simp
 cases hp : isPtrD T (T kt).desc with
 | false =>
  have h := nowing hT hs hI h1 hk.1 hz hp es ms 0 hr hk.2
  rw [hid] at h
  exact MapKept.run_findKey hu h
 | true =>
  have h := asking hT hs hI h1 hk.1 hz hp es ms 0 hr hk.2
  rw [hid] at h
  unfold Instr.findKey
  simp only [Sem.run_bind, run_underlying hu, Result.andThen]
  cases ms with
  | nil =>
   have : es = [] := List.length_eq_zero_iff.1 (by have := hr.length; simpa using this.symm)
   subst this
   simp [Instr.findNow, found, mpos]
  | cons m ms =>
   have h2 : Instr.findNow (T kt).desc z (m :: ms) 0 = none := by
    cases hd : (T kt).desc <;> rw [hd] at hp <;> simp [isPtrD] at hp
    simp [Instr.findNow, Instr.sameNow]
   simp only [h2]
   exact h
theorem checking {kt : TypeId} (h1 : (T kt).ok = true) {k : AV} (hk : kOK T g l (T kt).desc k) {z : Value} (hz : Rep s k z) (e : Bool) : (Instr.checkKey e 10000 kt z).run E.P s.w = .ok () s.w := by
 have hu := (hT kt h1).und
 obtain ⟨_, h⟩ := keys_same hT hs hI h1 hk hk hz hz
 rcases h with ⟨h, _⟩ | ⟨h, _, a, rfl⟩
 ·exact MapKept.run_checkKey hu h e 9999
 ·unfold Instr.checkKey
  simp only [Sem.run_bind, run_underlying hu, Result.andThen]
  cases hd : (T kt).desc <;> rw [hd] at h <;> simp [isPtrD] at h
  simp
theorem staying {kt : TypeId} (h1 : (T kt).ok = true) {k c : AV} (hk : kOK T g l (T kt).desc k) (hc : kOK T g l (T kt).desc c) {z y : Value} (hz : Rep s k z) (hy : Rep s c y) (hq : keq k c = true) :
  (Instr.keyThatStays y z).run E.P s.w = .ok z s.w := by
 obtain ⟨h2, h⟩ := keys_same hT hs hI h1 hk hc hz hy
 obtain rfl := h2.1 hq
 rcases h with ⟨h, _⟩ | ⟨h, _, a, rfl⟩
 ·exact MapKept.run_keyThatStays h
 ·have : Instr.sameBits 10000 (.pointer a) (.pointer a) = true := by simp [Instr.sameBits]
  simp [Instr.keyThatStays, this]
end
section
variable {E : Env} {T : Nat → TI} (hT : TabOK E.P T) {s : S} {a : Act} {ts : Ts} {g l : List Ent} (hs : s.σ = g ++ l) (hI : HInv s) (ht : TsRep s ts a)
include hT hs hI ht
theorem map_at {x : Operand} {id : Nat} (hx : ev ts x = .mp id) {es : List MEnt} {clock : Nat} (he : s.σ[id]? = some (.map es clock)) :
  ∃ b ms, s.β[id]? = some b ∧ a.eval x = .map (some b.blk) ∧ b.off = 0 ∧ s.w.heap[b.blk]? = some (.map ms.toArray clock) ∧ MRep s es ms := by
 have h := ev_rep ht x
 rw [hx] at h
 unfold Rep at h
 obtain ⟨e, b, h1, h2, h3, h4⟩ := h
 rw [he] at h1; cases h1
 obtain ⟨h5, ms, h6, h7⟩ := hI.ent id _ b he h2
 exact ⟨b, ms, h2, h4, h5, h6, h7⟩
theorem st_makeMap {o : Oper} {t : TypeId} {r : Option Operand} (ho : o.op = .makeMap t r) (h1 : (T t).ok = true) {kt et : TypeId} (hd : (T t).desc = .map kt et)
  (hr : r = none ∨ ∃ x k n, r = some x ∧ ev ts x = .v (.int k n)) : StepOK E o s a g (.mp (g.length + l.length)) g (l ++ [.map [] 0]) := by
 have hun := (hT t h1).und
 rw [hd] at hun
 have hlen2 : s.σ.length = g.length + l.length := by rw [hs]; simp
 refine ⟨.value (.map (some s.w.heap.size)), .map (some s.w.heap.size), s.push (.map [] 0) ⟨s.w.heap.size, 0, 0⟩ (s.w.alloc (.map #[] 0)), ?_, .inl rfl, by simp [S.push, hs], rfl, rfl,
  hI.pushObj _ _ rfl ⟨rfl, [], by simp [S.push, show (s.w.alloc (Obj.map #[] 0)).heap = s.w.heap.push (Obj.map #[] 0) from rfl], by unfold MRep; rfl⟩, Ext.push hI _ _ _, ?_⟩
 ·rcases hr with rfl | ⟨x, k, n, rfl, hx⟩
  ·simp [execOp, ho, Instr.makeMap, S.push, Result.andThen]
  ·have hk := rep_v hs hI ht hx
   simp [execOp, ho, Instr.makeMap, S.push, Result.andThen, hk, run_underlying hun, asInt, asIntOf]
 ·unfold Rep
  refine ⟨.map [] 0, ⟨s.w.heap.size, 0, 0⟩, ?_, ?_, rfl, rfl⟩
  ·simp [S.push, ← hlen2]
  ·simp [S.push, ← hlen2, ← hI.len]
theorem mres_rep {ok : Bool} {z : AV} {zv : Value} (hz : Rep s z zv) {k : AV} {es : List MEnt} {ms : List MapEntry} (hr : MRep s es ms) :
  Rep s (mres ok z (mget k es)) (if ok then .tuple #[((found k es ms).map (·.2)).getD zv, .bool (found k es ms).isSome] else ((found k es ms).map (·.2)).getD zv) := by
 unfold found
 cases hp : mpos k es with
 | none =>
  rw [(mpos_none hp).1]
  cases ok
  ·simpa [mres] using hz
  ·simp only [mres, if_true, Option.bind_none, Option.map_none, Option.getD_none, Option.isSome_none]
   unfold Rep
   refine ⟨_, rfl, ?_⟩
   unfold RepL RepL RepL
   exact ⟨_, _, rfl, hz, _, _, rfl, by simp only [boolV]; unfold Rep; rfl, rfl⟩
 | some j =>
  obtain ⟨c, x, b, z', y', a1, a2, a3, a4, a5, a6, _⟩ := mpos_some hr hp
  rw [a6]
  simp only [Option.bind_some, a3, Option.map_some, Option.getD_some, Option.isSome_some]
  cases ok
  ·simpa [mres] using a5
  ·simp only [mres, if_true]
   unfold Rep
   refine ⟨_, rfl, ?_⟩
   unfold RepL RepL RepL
   exact ⟨_, _, rfl, a5, _, _, rfl, by simp only [boolV]; unfold Rep; rfl, rfl⟩
theorem st_lookup {o : Oper} {t : TypeId} {x i : Operand} {ok : Bool} (ho : o.op = .lookup t x i ok) (h1 : (T t).ok = true) {kt et : TypeId} (hd : (T t).desc = .map kt et) (h2 : (T kt).ok = true) (h3 : (T et).ok = true)
  {id : Nat} (hx : ev ts x = .mp id) {es : List MEnt} {clock : Nat} (he : s.σ[id]? = some (.map es clock)) (hk : ksOK T g l (T kt).desc (ev ts i) es) :
  StepOK E o s a g (mres ok (T et).zero (mget (ev ts i) es)) g l := by
 have hun := (hT t h1).und
 rw [hd] at hun
 obtain ⟨inf, z, hinf, hszi, hby, hz, hzv⟩ := (hT et h3).info
 have hzr := zval_rep s hzv
 obtain ⟨b, ms, hb, hx', h0, hh, hr⟩ := map_at hT hs hI ht hx he
 have hi := ev_rep ht i
 have hck := checking hT hs hI h2 hk.1 hi
 have hfi := finding hT hs hI h2 hk hi hr
 have hzero : (zeroValue et).run E.P s.w = .ok z s.w := by simp [zeroValue, typeInfo, hinf, hz]
 refine .pure hs hI ?_ (mres_rep hT hs hI ht (ok := ok) hzr (k := ev ts i) hr)
 simp only [execOp, ho, Instr.lookup, hx']
 refine run_v ?_
 simp only [Sem.run_bind, run_underlying hun, Result.andThen, MapKept.run_getObj_map hh, Sem.run_pure, hck, hfi]
 cases hf : found (ev ts i) es ms with
 | none => cases ok <;> simp [hzero]
 | some p => cases ok <;> simp
theorem st_lookup_nil {o : Oper} {t : TypeId} {x i : Operand} {ok : Bool} (ho : o.op = .lookup t x i ok) (h1 : (T t).ok = true) {kt et : TypeId} (hd : (T t).desc = .map kt et) (h2 : (T kt).ok = true) (h3 : (T et).ok = true)
  (hx : ev ts x = .v (.map none)) (hk : kOK T g l (T kt).desc (ev ts i)) : StepOK E o s a g (mres ok (T et).zero none) g l := by
 have hun := (hT t h1).und
 rw [hd] at hun
 obtain ⟨inf, z, hinf, hszi, hby, hz, hzv⟩ := (hT et h3).info
 have hzr := zval_rep s hzv
 have hx' := rep_v hs hI ht hx
 have hi := ev_rep ht i
 have hck := checking hT hs hI h2 hk hi
 have hr : MRep s [] [] := by unfold MRep; rfl
 have hfi := finding hT hs hI h2 (es := []) ⟨hk, by simp⟩ hi hr
 have hzero : (zeroValue et).run E.P s.w = .ok z s.w := by simp [zeroValue, typeInfo, hinf, hz]
 refine .pure hs hI ?_ (mres_rep hT hs hI ht (ok := ok) hzr (k := ev ts i) hr)
 simp only [execOp, ho, Instr.lookup, hx']
 refine run_v ?_
 simp only [Sem.run_bind, run_underlying hun, Result.andThen, Sem.run_pure, hck, hfi]
 cases ok <;> simp [hzero, found, mpos]
theorem st_put {o : Oper} {t : TypeId} {m k x : Operand} (ho : o.op = .mapUpdate t m k x ∨ o.op = .insert t m k x) (h1 : (T t).ok = true) {kt et : TypeId} (hd : (T t).desc = .map kt et) (h2 : (T kt).ok = true)
  {id : Nat} (hm : ev ts m = .mp id) {es : List MEnt} {clock : Nat} (he : s.σ[id]? = some (.map es clock)) (hk : ksOK T g l (T kt).desc (ev ts k) es) :
  StepOK E o s a g (.v undef) (ssetG g id (.map (mput (ev ts k) (ev ts x) clock es) (mclock (ev ts k) es clock))) (ssetL g l id (.map (mput (ev ts k) (ev ts x) clock es) (mclock (ev ts k) es clock))) := by
 have hun := (hT t h1).und
 rw [hd] at hun
 obtain ⟨b, ms, hb, hm', h0, hh, hr⟩ := map_at hT hs hI ht hm he
 have hi := ev_rep ht k
 have hxr := ev_rep ht x
 have hck := checking hT hs hI h2 hk.1 hi
 have hfi := finding hT hs hI h2 hk hi hr
 have fin : ∀ ms', (Instr.mapUpdate t (.map (some b.blk)) (a.eval k) (a.eval x)).run E.P s.w = .ok () { s.w with heap := s.w.heap.setIfInBounds b.blk (.map ms'.toArray (mclock (ev ts k) es clock)) } →
   MRep s (mput (ev ts k) (ev ts x) clock es) ms' →
   StepOK E o s a g (.v undef) (ssetG g id (.map (mput (ev ts k) (ev ts x) clock es) (mclock (ev ts k) es clock))) (ssetL g l id (.map (mput (ev ts k) (ev ts x) clock es) (mclock (ev ts k) es clock))) := by
  intro ms' hrun hr'
  have hE := Ext.setObj hI he hb rfl (e := .map (mput (ev ts k) (ev ts x) clock es) (mclock (ev ts k) es clock)) rfl (.map ms'.toArray (mclock (ev ts k) es clock))
  refine ⟨.skip, undef, s.setObj id (.map (mput (ev ts k) (ev ts x) clock es) (mclock (ev ts k) es clock)) b (.map ms'.toArray (mclock (ev ts k) es clock)), ?_, .inr ⟨rfl, rfl⟩, ?_, ssetG_len _ _ _, rfl,
   hI.setObj he hb rfl rfl _ ⟨h0, ms', ?_, hr'.ext hE⟩, hE, by unfold Rep; rfl⟩
  ·rcases ho with ho | ho <;> simp only [execOp, ho, hm'] <;> simp [hrun, S.setObj]
  ·rw [sset_eq, ← hs]; rfl
  ·have := (hI.slot id b hb).2
   simp [S.setObj, this]
 cases hp : mpos (ev ts k) es with
 | none =>
  obtain ⟨q1, q2, q3⟩ := mpos_none hp
  have hf : found (ev ts k) es ms = none := by simp [found, hp]
  refine fin (ms ++ [{ key := a.eval k, val := a.eval x, born := clock }]) ?_ (by rw [q2]; exact hr.push hi hxr)
  simp only [Instr.mapUpdate, Sem.run_bind, run_underlying hun, Result.andThen, MapKept.run_getObj_map hh, hck, hfi, hf, mclock, q1]
  simp [MapKept.run_setObj_map _ hh]
 | some j =>
  obtain ⟨c, x0, b0, z', y', a1, a2, a3, a4, a5, a6, a7, _⟩ := mpos_some hr hp
  have hf : found (ev ts k) es ms = some (j, y') := by simp [found, hp, a3]
  obtain ⟨ec, hec, rfl⟩ := List.mem_map.1 a1
  have hst := staying hT hs hI h2 hk.1 (hk.2 ec hec) hi a4 a2
  refine fin (ms.set j { key := a.eval k, val := a.eval x, born := b0 }) ?_ (a7 _ _ _ _ hi hxr)
  have hmod : (ms.toArray.modify j fun e => { e with key := a.eval k, val := a.eval x }) = (ms.set j { key := a.eval k, val := a.eval x, born := b0 }).toArray := by
   apply Array.toList_inj.1
   rw [Array.toList_modify]
   apply List.ext_getElem?
   intro i
   rw [List.getElem?_modify]
   by_cases hij : j = i
   ·subst hij
    obtain ⟨hlt, hge⟩ := List.getElem?_eq_some_iff.1 a3
    simp [hge, hlt]
   ·simp [hij]
  simp only [Instr.mapUpdate, Sem.run_bind, run_underlying hun, Result.andThen, MapKept.run_getObj_map hh, hck, hfi, hf, mclock, a6]
  simp [MapKept.run_setObj_map _ hh, a3, hst, hmod]
theorem st_delete {o : Oper} {c : Call} (ho : o.op = .call c) (hc : c.callee = .builtin .delete) {id : Nat} {k : AV} (hargs : c.args.toList.map (ev ts) = [.mp id, k]) {t : TypeId} {rest : List TypeId} (htys : c.argTypes.toList = t :: rest)
  (h1 : (T t).ok = true) {kt et : TypeId} (hd : (T t).desc = .map kt et) (h2 : (T kt).ok = true) {es : List MEnt} {clock : Nat} (he : s.σ[id]? = some (.map es clock)) (hk : ksOK T g l (T kt).desc k es) :
  StepOK E o s a g (.tup []) (ssetG g id (.map (mdel k es) clock)) (ssetL g l id (.map (mdel k es) clock)) := by
 have hun := (hT t h1).und
 rw [hd] at hun
 have h := evs_rep ht c.args.toList
 rw [hargs] at h
 unfold RepL RepL RepL at h
 obtain ⟨v, vs, h3, hv, kv, vs2, rfl, hi, rfl⟩ := h
 unfold Rep at hv
 obtain ⟨e, b, he', hb, _, rfl⟩ := hv
 rw [he] at he'; cases he'
 obtain ⟨h0, ms, hh, hr⟩ := hI.ent id _ b he hb
 have hck := checking hT hs hI h2 hk.1 hi
 have hfi := finding hT hs hI h2 hk hi hr
 obtain ⟨cal, as, tys⟩ := c
 simp only at hc h3 htys
 subst hc
 have hargs' : as.map a.eval = #[.map (some b.blk), kv] := by apply Array.ext'; simpa using h3
 have hty0 : tys[0]? = some t := by rw [← Array.getElem?_toList, htys]; rfl
 have fin : ∀ ms', (Builtin.delete_ tys o.type #[.map (some b.blk), kv]).run E.P s.w = .ok (.tuple #[]) { s.w with heap := s.w.heap.setIfInBounds b.blk (.map ms'.toArray clock) } → MRep s (mdel k es) ms' →
   StepOK E o s a g (.tup []) (ssetG g id (.map (mdel k es) clock)) (ssetL g l id (.map (mdel k es) clock)) := by
  intro ms' hrun hr'
  have hE := Ext.setObj hI he hb rfl (e := .map (mdel k es) clock) rfl (.map ms'.toArray clock)
  refine ⟨.value (.tuple #[]), .tuple #[], s.setObj id (.map (mdel k es) clock) b (.map ms'.toArray clock), ?_, .inl rfl, ?_, ssetG_len _ _ _, rfl,
   hI.setObj he hb rfl rfl _ ⟨h0, ms', ?_, hr'.ext hE⟩, hE, by unfold Rep RepL; exact ⟨#[], rfl, rfl⟩⟩
  ·simp [execOp, ho, resolve, invoke, builtin, hargs', hrun, S.setObj]
  ·rw [sset_eq, ← hs]; rfl
  ·have := (hI.slot id b hb).2
   simp [S.setObj, this]
 cases hp : mpos k es with
 | none =>
  obtain ⟨q1, q2, q3⟩ := mpos_none hp
  have hf : found k es ms = none := by simp [found, hp]
  refine fin ms ?_ (by rw [q3]; exact hr)
  simp [Builtin.delete_, hty0, run_underlying hun, Result.andThen, MapKept.run_getObj_map hh, hck, hfi, hf, MapKept.run_setObj_map _ hh]
 | some j =>
  obtain ⟨c, x0, b0, z', y', a1, a2, a3, a4, a5, a6, a7, a8⟩ := mpos_some hr hp
  have hf : found k es ms = some (j, y') := by simp [found, hp, a3]
  have her : ms.toArray.eraseIdxIfInBounds j = (ms.eraseIdx j).toArray := by
   apply Array.toList_inj.1
   have hlt := lt_of_get a3
   simp [Array.eraseIdxIfInBounds, hlt]
  refine fin (ms.eraseIdx j) ?_ a8
  simp [Builtin.delete_, hty0, run_underlying hun, Result.andThen, MapKept.run_getObj_map hh, hck, hfi, hf, MapKept.run_setObj_map _ hh, her]
theorem st_range {o : Oper} {t : TypeId} {x : Operand} (ho : o.op = .range t x) (h1 : (T t).ok = true) {kt et : TypeId} (hd : (T t).desc = .map kt et) {id : Nat} (hx : ev ts x = .mp id) {es : List MEnt} {clock : Nat}
  (he : s.σ[id]? = some (.map es clock)) : StepOK E o s a g (.ref (g.length + l.length) 0 0) g (l ++ [.iter (some id) clock [] clock]) := by
 have hun := (hT t h1).und
 rw [hd] at hun
 obtain ⟨b, ms, hb, hx', h0, hh, hr⟩ := map_at hT hs hI ht hx he
 have hlen2 : s.σ.length = g.length + l.length := by rw [hs]; simp
 have hlt := lt_of_get he
 have hltb := lt_of_get hb
 refine ⟨.value (.pointer (some ⟨s.w.heap.size, 0, none⟩)), .pointer (some ⟨s.w.heap.size, 0, none⟩), s.push (.iter (some id) clock [] clock) ⟨s.w.heap.size, 0, 0⟩ (s.w.alloc (.mapIter (some b.blk) clock #[] clock)), ?_, .inl rfl, by simp [S.push, hs], rfl, rfl,
  hI.pushObj _ _ rfl ⟨rfl, some b.blk, by simp [S.push, show (s.w.alloc (.mapIter (some b.blk) clock #[] clock)).heap = s.w.heap.push (.mapIter (some b.blk) clock #[] clock) from rfl],
   .map es clock, b, by simp only [S.push]; exact get_old he, rfl, by simp only [S.push]; exact get_old hb, rfl⟩, Ext.push hI _ _ _, ?_⟩
 ·simp only [execOp, ho, Instr.range, hx']
  simp [run_underlying hun, Result.andThen, MapKept.run_getObj_map hh, S.push]
 ·unfold Rep
  refine ⟨.iter (some id) clock [] clock, ⟨s.w.heap.size, 0, 0⟩, ?_, ?_, Nat.le_refl _, _, rfl, fun _ => rfl⟩
  ·simp [S.push, ← hlen2]
  ·simp [S.push, ← hlen2, ← hI.len]
theorem iter_at {i : Operand} {id m since last : Nat} {seen : List Nat} (hi : ev ts i = .ref id 0 0) (hg : sget g l id = some (.iter (some m) since seen last)) {es : List MEnt} {clock : Nat} (hm : sget g l m = some (.map es clock)) :
  ∃ b bm ms, s.β[id]? = some b ∧ s.σ[id]? = some (.iter (some m) since seen last) ∧ a.eval i = .pointer (some ⟨b.blk, 0, none⟩) ∧ b.off = 0 ∧ s.w.heap[b.blk]? = some (.mapIter (some bm.blk) since seen.toArray last) ∧
   s.σ[m]? = some (.map es clock) ∧ s.β[m]? = some bm ∧ s.w.heap[bm.blk]? = some (.map ms.toArray clock) ∧ MRep s es ms := by
 rw [sget_eq, ← hs] at hg hm
 have h := ev_rep ht i
 rw [hi] at h
 unfold Rep at h
 obtain ⟨e, b, h1, h2, h3, aa, h4, h5⟩ := h
 rw [hg] at h1; cases h1
 obtain rfl := h5 rfl
 obtain ⟨h6, mo, h7, em, bm, h8, h9, h10, rfl⟩ := hI.ent id _ b hg h2
 rw [hm] at h8; cases h8
 obtain ⟨h11, ms, h12, h13⟩ := hI.ent m _ bm hm h10
 exact ⟨b, bm, ms, h2, hg, by rw [h4, h6], h6, h7, hm, h10, h12, h13⟩
theorem st_entry {i : Operand} {o : Oper} (ho : o.op = .entry i) {id m since last : Nat} {seen : List Nat} (hi : ev ts i = .ref id 0 0) (hg : sget g l id = some (.iter (some m) since seen last)) {es : List MEnt} {clock : Nat} (hm : sget g l m = some (.map es clock))
  {b : Nat} (hb : seen.getLast? = some b) {e : MEnt} (he : es.find? (fun e => e.2.2 == b) = some e) (hc : clock = last) : StepOK E o s a g (.tup [e.1, e.2.1]) g l := by
 obtain ⟨b1, bm, ms, hb1, hg', hv, h0, hr, hm', hbm, hmh, hmr⟩ := iter_at hT hs hI ht hi hg hm
 obtain ⟨mm, h1, h2, h3⟩ := hmr.find b e he
 refine ⟨.value (.tuple #[mm.key, mm.val]), .tuple #[mm.key, mm.val], s, ?_, .inl rfl, hs, rfl, rfl, hI, Ext.refl _, ?_⟩
 ·have hbk : seen.toArray.back? = some b := by simpa using hb
  have hf : ms.toArray.find? (·.born == b) = some mm := by simpa using h1
  simp only [execOp, ho, Instr.entry, hv]
  simp [Sem.run_bind, getObj, Sem.run, hr, hmh, Result.andThen, hb, hc, h1]
 ·unfold Rep
  refine ⟨_, rfl, ?_⟩
  unfold RepL RepL RepL
  exact ⟨_, _, rfl, h2, _, _, rfl, h3, rfl⟩
theorem aMap_sound {o : Oper} {p : Prop} {r : AV} {g' l' : List Ent} (h : aMap T o ts g l = some (p, r, g', l')) (hp : p) : StepOK E o s a g r g' l' := by
 unfold aMap at h
 cases ho : o.op <;> simp only [ho] at h <;> try (cases h; done)
 case makeMap t r =>
  split at h
  ·rename_i hd hr
   split at h
   ·rename_i h1
    simp only [Option.some.injEq, Prod.mk.injEq] at h; obtain ⟨rfl, rfl, rfl, rfl⟩ := h
    exact st_makeMap hT hs hI ht ho h1 hd (.inl (by simpa using hr))
   ·cases h
  ·rename_i hd hr
   split at h
   ·rename_i h1
    simp only [Option.some.injEq, Prod.mk.injEq] at h; obtain ⟨rfl, rfl, rfl, rfl⟩ := h
    obtain ⟨x, rfl, hx⟩ := Option.map_eq_some_iff.1 hr
    exact st_makeMap hT hs hI ht ho h1 hd (.inr ⟨x, _, _, rfl, hx⟩)
   ·cases h
  ·cases h
 case entry i =>
  split at h
  ·rename_i id hi
   split at h
   ·rename_i m since seen last hg
    split at h
    ·rename_i es clock b hm hb
     split at h
     ·rename_i e he
      simp only [condR, Option.some.injEq, Prod.mk.injEq] at h; obtain ⟨rfl, rfl, rfl, rfl⟩ := h
      exact st_entry hT hs hI ht ho hi hg hm hb he hp
     ·cases h
    ·cases h
   ·cases h
  ·cases h
 case lookup t x i ok =>
  split at h
  ·rename_i kt et hd
   split at h
   ·rename_i hc
    simp only [Bool.and_eq_true] at hc
    split at h
    ·rename_i hx
     simp only [condR, Option.some.injEq, Prod.mk.injEq] at h; obtain ⟨rfl, rfl, rfl, rfl⟩ := h
     exact st_lookup_nil hT hs hI ht ho hc.1.1 hd hc.1.2 hc.2 hx hp
    ·rename_i id hx
     split at h
     ·rename_i es clock he
      simp only [condR, Option.some.injEq, Prod.mk.injEq] at h; obtain ⟨rfl, rfl, rfl, rfl⟩ := h
      rw [sget_eq, ← hs] at he
      exact st_lookup hT hs hI ht ho hc.1.1 hd hc.1.2 hc.2 hx he hp
     ·cases h
    ·cases h
   ·cases h
  ·cases h
 case mapUpdate t m k x =>
  split at h
  ·rename_i kt et id hd hm
   split at h
   ·rename_i es clock he
    split at h
    ·rename_i hc
     simp only [Bool.and_eq_true] at hc
     simp only [Option.some.injEq, Prod.mk.injEq] at h; obtain ⟨rfl, rfl, rfl, rfl⟩ := h
     rw [sget_eq, ← hs] at he
     exact st_put hT hs hI ht (.inl ho) hc.1 hd hc.2 hm he hp
    ·cases h
   ·cases h
  ·cases h
 case insert t m k x =>
  split at h
  ·rename_i kt et id hd hm
   split at h
   ·rename_i es clock he
    split at h
    ·rename_i hc
     simp only [Bool.and_eq_true] at hc
     simp only [Option.some.injEq, Prod.mk.injEq] at h; obtain ⟨rfl, rfl, rfl, rfl⟩ := h
     rw [sget_eq, ← hs] at he
     exact st_put hT hs hI ht (.inr ho) hc.1 hd hc.2 hm he hp
    ·cases h
   ·cases h
  ·cases h
 case call c =>
  split at h
  ·rename_i id k t rest hc hargs htys
   split at h
   ·rename_i kt et es clock hd he
    split at h
    ·rename_i hcc
     simp only [Bool.and_eq_true] at hcc
     simp only [Option.some.injEq, Prod.mk.injEq] at h; obtain ⟨rfl, rfl, rfl, rfl⟩ := h
     rw [sget_eq, ← hs] at he
     exact st_delete hT hs hI ht ho hc hargs htys hcc.1 hd hcc.2 he hp
    ·cases h
   ·cases h
  ·cases h
 case range t x =>
  split at h
  ·rename_i kt et id hd hx
   split at h
   ·rename_i es clock he
    split at h
    ·rename_i h1
     simp only [Option.some.injEq, Prod.mk.injEq] at h; obtain ⟨rfl, rfl, rfl, rfl⟩ := h
     rw [sget_eq, ← hs] at he
     exact st_range hT hs hI ht ho h1 hd hx he
    ·cases h
   ·cases h
  ·cases h
end
end Go.Vm
namespace Go.Vm
open Go.RowKit
theorem isSliceD_spec {d : TypeDesc} (h : isSliceD d = true) : ∃ e, d = .slice e := by
 cases d <;> simp_all [isSliceD]
theorem isStringD_spec {d : TypeDesc} (h : isStringD d = true) : d = .string := by
 cases d <;> simp_all [isStringD]
theorem isBoolD_spec {d : TypeDesc} (h : isBoolD d = true) : d = .bool := by
 cases d <;> simp_all [isBoolD]
section
variable {E : Env} {T : Nat → TI} (hT : TabOK E.P T) {s : S} {a : Act} {ts : Ts} {g l : List Ent} (hs : s.σ = g ++ l) (hI : HInv s) (ht : TsRep s ts a)
include hT hs hI ht
theorem aDet_sound {rows : List Nat} {o : Oper} {p : Prop} {r : AV} {g' l' : List Ent} (h : aDet T rows o ts g l = some (p, r, g', l')) (hp : p) : StepOK E o s a g r g' l' := by
 unfold aDet at h
 cases ho : o.op <;> simp only [ho] at h <;> try (first | (cases h; done) | exact aMap_sound hT hs hI ht h hp)
 case move x => simp only [pureR, Option.some.injEq, Prod.mk.injEq] at h; obtain ⟨rfl, rfl, rfl, rfl⟩ := h; exact st_move hs hI ht ho
 case assign x => simp only [pureR, Option.some.injEq, Prod.mk.injEq] at h; obtain ⟨rfl, rfl, rfl, rfl⟩ := h; exact st_assign hs hI ht ho
 case pick c x y =>
  split at h
  ·rename_i hc; simp only [pureR, Option.some.injEq, Prod.mk.injEq] at h; obtain ⟨rfl, rfl, rfl, rfl⟩ := h; exact st_pick hs hI ht ho hc
  ·rename_i hc; simp only [pureR, Option.some.injEq, Prod.mk.injEq] at h; obtain ⟨rfl, rfl, rfl, rfl⟩ := h; exact st_pick hs hI ht ho hc
  ·cases h
 case alloc t =>
  split at h
  ·rename_i hc
   simp only [Bool.and_eq_true] at hc
   simp only [Option.some.injEq, Prod.mk.injEq] at h; obtain ⟨rfl, rfl, rfl, rfl⟩ := h
   exact st_alloc hT hs hI ht ho hc.1 hc.2
  ·cases h
 case box t x =>
  split at h
  ·rename_i hc
   simp only [Option.some.injEq, Prod.mk.injEq] at h; obtain ⟨rfl, rfl, rfl, rfl⟩ := h
   exact st_box hs hI ht ho hc
  ·cases h
 case build t parts =>
  split at h
  ·rename_i hc
   simp only [Bool.and_eq_true, Bool.not_eq_true', List.isEmpty_eq_false_iff] at hc
   split at h
   ·rename_i cells hf
    simp only [pureR, Option.some.injEq, Prod.mk.injEq] at h; obtain ⟨rfl, rfl, rfl, rfl⟩ := h
    exact st_build hT hs hI ht ho hc.1.1 hc.1.2 hc.2 hf
   ·cases h
  ·split at h
   ·rename_i hc
    simp only [Bool.and_eq_true] at hc
    split at h
    ·rename_i cells hf
     simp only [pureR, Option.some.injEq, Prod.mk.injEq] at h; obtain ⟨rfl, rfl, rfl, rfl⟩ := h
     exact st_buildA hT hs hI ht ho hc.1.1.1 hc.1.1.2 hc.1.2 hc.2 hf
    ·cases h
   ·cases h
 case buildSlice t n parts =>
  split at h
  ·rename_i hc
   simp only [Bool.and_eq_true, decide_eq_true_eq] at hc
   obtain ⟨⟨⟨⟨⟨⟨h1, hm⟩, h2⟩, hpos⟩, hn⟩, hsz⟩, hps⟩ := hc
   obtain ⟨e, hd⟩ := isSliceD_spec hm
   have helem := (hT t h1).elem e hd
   rw [helem] at h2 hpos hsz h
   split at h
   ·rename_i es hl
    split at h
    ·simp only [Option.some.injEq, Prod.mk.injEq] at h; obtain ⟨rfl, rfl, rfl, rfl⟩ := h
     exact st_buildSlice_row hT hs hI ht ho h1 hd h2 hpos hn hsz hps hl
    ·simp only [pureR, Option.some.injEq, Prod.mk.injEq] at h; obtain ⟨rfl, rfl, rfl, rfl⟩ := h
     exact st_buildSlice hT hs hI ht ho h1 hd h2 hpos hn hsz hps hl
   ·cases h
  ·cases h
 case load t x =>
  split at h
  ·rename_i id ver off hx
   split at h
   ·rename_i ty cells ver' imm he
    rw [sget_eq, ← hs] at he
    split at h
    ·rename_i h1
     split at h
     ·rename_i hag
      simp only [condR, Option.some.injEq, Prod.mk.injEq] at h; obtain ⟨rfl, rfl, rfl, rfl⟩ := h
      exact st_load_ref_agg hT hs hI ht ho h1 hag hx he hp.1 hp.2
     ·rename_i hag
      split at h
      ·rename_i c hc
       simp only [condR, Option.some.injEq, Prod.mk.injEq] at h; obtain ⟨rfl, rfl, rfl, rfl⟩ := h
       exact st_load_ref_one hT hs hI ht ho h1 (by simpa using hag) hx he hp hc
      ·cases h
    ·cases h
   ·cases h
  ·rename_i cells hx
   split at h
   ·rename_i h1
    split at h
    ·rename_i hag
     simp only [condR, Option.some.injEq, Prod.mk.injEq] at h; obtain ⟨rfl, rfl, rfl, rfl⟩ := h
     exact st_load_iptr_agg hT hs hI ht ho h1 hag hx hp
    ·rename_i hag
     split at h
     ·simp only [pureR, Option.some.injEq, Prod.mk.injEq] at h; obtain ⟨rfl, rfl, rfl, rfl⟩ := h
      exact st_load_iptr_one hT hs hI ht ho h1 (by simpa using hag) hx
     ·cases h
   ·cases h
  ·cases h
 case store t x y =>
  split at h
  ·rename_i id ver off hx
   split at h
   ·rename_i ty cells ver' imm he
    rw [sget_eq, ← hs] at he
    split at h
    ·rename_i hc
     simp only [Bool.and_eq_true] at hc
     simp only [Option.some.injEq, Prod.mk.injEq] at h; obtain ⟨rfl, rfl, rfl, rfl⟩ := h
     exact st_store hT hs hI ht ho hc.1 hx he hp.1 hp.2.1 hp.2.2.1 hp.2.2.2 hc.2
    ·cases h
   ·cases h
  ·cases h
 case binOp op t x y tu =>
  split at h
  ·rename_i p' r' hb
   simp only [condR, Option.some.injEq, Prod.mk.injEq] at h; obtain ⟨rfl, rfl, rfl, rfl⟩ := h
   refine st_binOp hs hI ht (T := T) ho (fun hb => ?_) hb hp
   simp only [Bool.and_eq_true] at hb
   have := (hT t hb.1).und
   rw [this, isBoolD_spec hb.2]
  ·split at h
   ·rename_i hc
    simp only [Bool.and_eq_true] at hc
    split at h
    ·rename_i p' b he _
     simp only [condR, Option.some.injEq, Prod.mk.injEq] at h; obtain ⟨rfl, rfl, rfl, rfl⟩ := h
     have := st_eq hT hs hI ht ho hc.1 (by simpa using hc.2) he hp (.inl rfl)
     simpa using this
    ·rename_i p' b he _
     simp only [condR, Option.some.injEq, Prod.mk.injEq] at h; obtain ⟨rfl, rfl, rfl, rfl⟩ := h
     have := st_eq hT hs hI ht ho hc.1 (by simpa using hc.2) he hp (.inr rfl)
     simpa using this
    ·cases h
   ·cases h
 case unOp op t x =>
  split at h
  ·rename_i r' hb
   simp only [pureR, Option.some.injEq, Prod.mk.injEq] at h; obtain ⟨rfl, rfl, rfl, rfl⟩ := h
   exact st_unOp hs hI ht ho hb
  ·cases h
 case convert src dst x =>
  split at h
  ·rename_i hc
   simp only [Bool.and_eq_true] at hc
   split at h
   ·rename_i e b hsd hd hx
    split at h
    ·rename_i hee
     simp only [Bool.and_eq_true] at hee
     simp only [pureR, Option.some.injEq, Prod.mk.injEq] at h; obtain ⟨rfl, rfl, rfl, rfl⟩ := h
     exact st_bytes hT hs hI ht ho hc.1 hc.2 hsd hd hee.1 hee.2 hx
    ·cases h
   ·exact st_convert hT hs hI ht ho hc.1 hc.2 h hp
  ·cases h
 case makeInterface t x =>
  split at h
  ·rename_i hc
   simp only [Bool.and_eq_true, Bool.not_eq_true'] at hc
   simp only [pureR, Option.some.injEq, Prod.mk.injEq] at h; obtain ⟨rfl, rfl, rfl, rfl⟩ := h
   exact st_makeInterface hT hs hI ht ho hc.1 hc.2
  ·cases h
 case makeSlice t x y =>
  split at h
  ·rename_i hc
   simp only [Bool.and_eq_true, Bool.not_eq_true'] at hc
   obtain ⟨⟨⟨⟨h1, hm⟩, h2⟩, hag⟩, hz⟩ := hc
   obtain ⟨e, hd⟩ := isSliceD_spec hm
   have helem := (hT t h1).elem e hd
   rw [helem] at h2 h hag hz
   split at h
   ·rename_i hx hy
    simp only [Option.some.injEq, Prod.mk.injEq] at h; obtain ⟨rfl, rfl, rfl, rfl⟩ := h
    exact st_makeSlice hT hs hI ht ho h1 hd h2 hag hz hx hy hp.1 hp.2.1 hp.2.2.1 hp.2.2.2
   ·cases h
  ·cases h
 case slice t x lo hi mx =>
  cases mx with
  | some m => exact aMap_sound hT hs hI ht h hp
  | none =>
   simp only at h
   split at h
   ·rename_i hc
    simp only [Bool.and_eq_true] at hc
    unfold asliceS at h
    split at h
    ·rename_i str hx
     split at h
     ·rename_i p1 q1 hp1 hq1
      simp only [condR, Option.some.injEq, Prod.mk.injEq] at h; obtain ⟨rfl, rfl, rfl, rfl⟩ := h
      exact st_slice_str hT hs hI ht ho hc.1 (isStringD_spec hc.2) hx hp1 hq1 hp.1 hp.2.1 hp.2.2
     ·cases h
    ·cases h
   ·split at h
    ·rename_i hc
     simp only [Bool.and_eq_true] at hc
     obtain ⟨⟨h1, hm⟩, h2⟩ := hc
     obtain ⟨e, hd⟩ := isSliceD_spec hm
     have helem := (hT t h1).elem e hd
     rw [helem] at h2 h
     unfold asliceL at h
     split at h
     ·rename_i es hx
      split at h
      ·rename_i p1 q1 hp1 hq1
       simp only [condR, Option.some.injEq, Prod.mk.injEq] at h; obtain ⟨rfl, rfl, rfl, rfl⟩ := h
       exact st_slice_sl hT hs hI ht ho h1 hd h2 hx hp1 hq1 hp.1 hp.2.1 hp.2.2.1 hp.2.2.2
      ·cases h
     ·rename_i hx
      split at h
      ·rename_i p1 q1 hp1 hq1
       simp only [condR, Option.some.injEq, Prod.mk.injEq] at h; obtain ⟨rfl, rfl, rfl, rfl⟩ := h
       rw [hx]
       exact st_slice_nil hT hs hI ht ho h1 hd h2 hx hp1 hq1 hp.1 hp.2
      ·cases h
     ·rename_i id ver off n sz hx
      split at h
      ·rename_i p1 q1 en hp1 hq1 he
       rw [sget_eq, ← hs] at he
       simp only [condR, Option.some.injEq, Prod.mk.injEq] at h; obtain ⟨rfl, rfl, rfl, rfl⟩ := h
       exact st_slice_rsl hT hs hI ht ho h1 hd h2 hx hp1 hq1 hp.1 hp.2.1 hp.2.2.1 hp.2.2.2.1 he hp.2.2.2.2
      ·cases h
     ·cases h
    ·cases h
 case fieldAddr t x f =>
  split at h
  ·rename_i h1
   split at h
   ·rename_i hf hx
    simp only [pureR, Option.some.injEq, Prod.mk.injEq] at h; obtain ⟨rfl, rfl, rfl, rfl⟩ := h
    exact st_fieldAddr_ref hT hs hI ht ho h1 hf hx
   ·rename_i hf hx
    simp only [pureR, Option.some.injEq, Prod.mk.injEq] at h; obtain ⟨rfl, rfl, rfl, rfl⟩ := h
    exact st_fieldAddr_iptr hT hs hI ht ho h1 hf hx
   ·cases h
  ·cases h
 case field t x f =>
  split at h
  ·rename_i h1
   split at h
   ·rename_i hf hx
    simp only [condR, Option.some.injEq, Prod.mk.injEq] at h; obtain ⟨rfl, rfl, rfl, rfl⟩ := h
    exact st_field_agg hT hs hI ht ho h1 hf hx hp
   ·rename_i hf hx
    split at h
    ·rename_i c hc
     simp only [pureR, Option.some.injEq, Prod.mk.injEq] at h; obtain ⟨rfl, rfl, rfl, rfl⟩ := h
     exact st_field_one hT hs hI ht ho h1 hf hx hc
    ·cases h
   ·cases h
  ·cases h
 case indexAddr t x i =>
  split at h
  ·rename_i hc
   simp only [Bool.and_eq_true] at hc
   obtain ⟨⟨h1, h2⟩, hm⟩ := hc
   obtain ⟨e, hd⟩ := isSliceD_spec hm
   have helem := (hT t h1).elem e hd
   rw [helem] at h2 h
   split at h
   ·rename_i hx hi
    simp only [condR, Option.some.injEq, Prod.mk.injEq] at h; obtain ⟨rfl, rfl, rfl, rfl⟩ := h
    exact st_indexAddr_sl hT hs hI ht ho h1 hd h2 hx hi hp.1 hp.2.1 hp.2.2
   ·rename_i hx hi
    simp only [condR, Option.some.injEq, Prod.mk.injEq] at h; obtain ⟨rfl, rfl, rfl, rfl⟩ := h
    exact st_indexAddr_rsl hT hs hI ht ho h1 hd h2 hx hi hp.1 hp.2.1 hp.2.2
   ·cases h
  ·split at h
   ·rename_i hd
    split at h
    ·rename_i hc
     simp only [Bool.and_eq_true] at hc
     split at h
     ·rename_i hx hi
      simp only [condR, Option.some.injEq, Prod.mk.injEq] at h; obtain ⟨rfl, rfl, rfl, rfl⟩ := h
      exact st_indexAddr_arr hT hs hI ht ho hc.1 hd hc.2 hx hi hp.1 hp.2
     ·cases h
    ·cases h
   ·cases h
 case index t x i =>
  split at h
  ·rename_i hc
   simp only [Bool.and_eq_true] at hc
   split at h
   ·rename_i hx hi
    simp only [condR, Option.some.injEq, Prod.mk.injEq] at h; obtain ⟨rfl, rfl, rfl, rfl⟩ := h
    exact st_index hT hs hI ht ho hc.1 (isStringD_spec hc.2) hx hi hp.1 hp.2
   ·cases h
  ·cases h
 case extract x i =>
  split at h
  ·rename_i cs hx
   split at h
   ·rename_i c hc
    simp only [pureR, Option.some.injEq, Prod.mk.injEq] at h; obtain ⟨rfl, rfl, rfl, rfl⟩ := h
    exact st_extract hs hI ht ho hx hc
   ·cases h
  ·cases h
 case makeFunc fn fs cs =>
  cases fn <;> simp only at h <;> try (first | (cases h; done) | exact aMap_sound hT hs hI ht h hp)
  simp only [pureR, Option.some.injEq, Prod.mk.injEq] at h; obtain ⟨rfl, rfl, rfl, rfl⟩ := h
  exact st_makeFunc hs hI ht ho
 case nilCheck x =>
  have hn := fun hh => st_nilCheck hs hI ht (E := E) (o := o) (x := x) ho hh
  split at h
  ·rename_i hx
   simp only [pureR, Option.some.injEq, Prod.mk.injEq] at h; obtain ⟨rfl, rfl, rfl, rfl⟩ := h
   rw [hx] at hn; exact hn (.inl ⟨_, _, _, rfl⟩)
  ·rename_i hx
   simp only [pureR, Option.some.injEq, Prod.mk.injEq] at h; obtain ⟨rfl, rfl, rfl, rfl⟩ := h
   rw [hx] at hn; exact hn (.inr (.inl ⟨_, rfl⟩))
  ·rename_i hx
   simp only [pureR, Option.some.injEq, Prod.mk.injEq] at h; obtain ⟨rfl, rfl, rfl, rfl⟩ := h
   rw [hx] at hn; exact hn (.inr (.inr ⟨_, _, _, rfl⟩))
  ·cases h
 case call c =>
  split at h
  ·rename_i hc
   split at h
   ·rename_i x t h0 k0
    split at h
    ·rename_i h1
     cases hn : alen (T t).desc (ev ts x) with
     | none => simp [hn] at h
     | some n =>
      simp only [hn, Option.bind_some, pureR, Option.some.injEq, Prod.mk.injEq] at h; obtain ⟨rfl, rfl, rfl, rfl⟩ := h
      exact st_len hT hs hI ht ho hc h0 k0 h1 hn
    ·cases h
   ·cases h
  ·rename_i hc
   split at h
   ·rename_i x y t h0 hy k0
    split at h
    ·rename_i hcc
     simp only [Bool.and_eq_true, decide_eq_true_eq] at hcc
     obtain ⟨⟨⟨⟨⟨⟨h1, h2⟩, hpos⟩, hany⟩, hsz⟩, hsz2⟩, hm⟩ := hcc
     obtain ⟨e, hd⟩ := isSliceD_spec hm
     have helem := (hT t h1).elem e hd
     rw [helem] at h2 hpos
     cases hu : c.argTypes[1]? with
     | none => simp [hu] at hany
     | some u =>
      simp only [hu, Option.any_some, Bool.and_eq_true, Bool.or_eq_true] at hany
      refine st_append hT hs hI ht ho hc h0 hy hsz k0 hu hsz2 h1 hd h2 hpos hany.1 ?_ h hp
      rcases hany.2 with hh | hh
      ·exact .inl (isSliceD_spec hh)
      ·exact .inr (isStringD_spec hh)
    ·cases h
   ·cases h
  ·rename_i hc
   split at h
   ·rename_i hh
    simp only [pureR, Option.some.injEq, Prod.mk.injEq] at h; obtain ⟨rfl, rfl, rfl, rfl⟩ := h
    exact st_sliceData_nil hT hs hI ht ho hc hh
   ·rename_i hh
    split at h
    ·rename_i en he
     rw [sget_eq, ← hs] at he
     simp only [condR, Option.some.injEq, Prod.mk.injEq] at h; obtain ⟨rfl, rfl, rfl, rfl⟩ := h
     exact st_sliceData hT hs hI ht ho hc hh he hp.1 hp.2
    ·cases h
   ·cases h
  ·rename_i hc
   split at h
   ·rename_i hh hk
    simp only [pureR, Option.some.injEq, Prod.mk.injEq] at h; obtain ⟨rfl, rfl, rfl, rfl⟩ := h
    exact st_string_nil hT hs hI ht ho hc hh hk
   ·rename_i hh hk
    split at h
    ·rename_i he hd
     rw [sget_eq, ← hs] at he
     split at h
     ·rename_i hcc
      simp only [Bool.and_eq_true, decide_eq_true_eq] at hcc
      split at h
      ·rename_i b hb
       simp only [Option.some.injEq, Prod.mk.injEq] at h; obtain ⟨rfl, rfl, rfl, rfl⟩ := h
       obtain ⟨rfl, rfl, rfl, h5, h6, h7⟩ := hp
       exact st_string hT hs hI ht ho hc hh hk hcc.1.1 hd hcc.1.2 hcc.2 he h5 h6 h7 hb
      ·cases h
     ·cases h
    ·cases h
   ·cases h
  ·rename_i hc
   split at h
   ·rename_i hh hk
    split at h
    ·rename_i he
     rw [sget_eq, ← hs] at he
     split at h
     ·rename_i hcc
      simp only [Bool.and_eq_true, decide_eq_true_eq] at hcc
      obtain ⟨e, hd⟩ := isSliceD_spec hcc.1.1.2
      have helem := (hT _ hcc.1.1.1).elem e hd
      rw [helem] at hcc
      simp only [Option.some.injEq, Prod.mk.injEq] at h; obtain ⟨rfl, rfl, rfl, rfl⟩ := h
      obtain ⟨q1, q2, q3, q4, q5, q6⟩ := hp
      exact st_copy hT hs hI ht ho hc hh hk hcc.1.1.1 hd hcc.1.2 hcc.2 he q1 q2 q3 q4 q5 q6
     ·cases h
    ·cases h
   ·rename_i hh hk
    split at h
    ·rename_i hcc
     simp only [Bool.and_eq_true] at hcc
     obtain ⟨e, hd⟩ := isSliceD_spec hcc.1.2
     have helem := (hT _ hcc.1.1).elem e hd
     rw [helem] at hcc
     simp only [pureR, Option.some.injEq, Prod.mk.injEq] at h; obtain ⟨rfl, rfl, rfl, rfl⟩ := h
     exact st_copy_nil hT hs hI ht ho hc hh hk hcc.1.1 hd hcc.2
    ·cases h
   ·cases h
  ·rename_i hc
   split at h
   ·rename_i hh hk
    split at h
    ·rename_i hcc
     simp only [Bool.and_eq_true] at hcc
     obtain ⟨e, hd⟩ := isSliceD_spec hcc.2
     simp only [pureR, Option.some.injEq, Prod.mk.injEq] at h; obtain ⟨rfl, rfl, rfl, rfl⟩ := h
     exact st_cap_nil hT hs hI ht ho hc hh hk hcc.1 hd
    ·cases h
   ·cases h
  ·rename_i hc
   split at h
   ·rename_i hh hk
    split at h
    ·rename_i he
     rw [sget_eq, ← hs] at he
     split at h
     ·rename_i hcc
      simp only [Bool.and_eq_true, Bool.not_eq_true'] at hcc
      obtain ⟨⟨⟨⟨k1, k2⟩, k3⟩, k4⟩, k5⟩ := hcc
      obtain ⟨e, hd⟩ := isSliceD_spec k2
      have helem := (hT _ k1).elem e hd
      rw [helem] at k3 k4 k5 h
      simp only [Option.some.injEq, Prod.mk.injEq] at h; obtain ⟨rfl, rfl, rfl, rfl⟩ := h
      obtain ⟨q1, q2, q3, q4⟩ := hp
      exact st_clear hT hs hI ht ho hc hh hk k1 hd k3 k4 k5 he q1 q2 q3 q4
     ·cases h
    ·cases h
   ·cases h
  ·rename_i hc
   split at h
   ·rename_i hh
    simp only [pureR, Option.some.injEq, Prod.mk.injEq] at h; obtain ⟨rfl, rfl, rfl, rfl⟩ := h
    exact st_max hs hI ht ho hc hh
   ·cases h
  ·rename_i hc
   split at h
   ·rename_i hh
    simp only [pureR, Option.some.injEq, Prod.mk.injEq] at h; obtain ⟨rfl, rfl, rfl, rfl⟩ := h
    exact st_min hs hI ht ho hc hh
   ·cases h
  ·exact aMap_sound hT hs hI ht h hp
end
end Go.Vm
namespace Go.Vm
open Go.RowKit
section
variable {E : Env} {T : Nat → TI} (hT : TabOK E.P T) {s : S} {a : Act} {ts : Ts} {g l : List Ent} (hs : s.σ = g ++ l) (hI : HInv s) (ht : TsRep s ts a)
include hT hs hI ht
theorem aNxt_sound {i : Operand} {o : Oper} (ho : o.op = .next i false) {K : AV → List Ent → List Ent → Prop} (h : aNxt (ev ts i) g l K) {next : Act → World → Prop} {Q : Exit → Act → World → Prop}
  (hK : ∀ v r g' l' s', s'.σ = g' ++ l' → g'.length = g.length → HInv s' → Ext s s' → Rep s' r v → K r g' l' → next (a.put o.dst v) s'.w) : o.wp E.P a s.w next Q := by
 unfold aNxt at h
 split at h
 case h_2 => exact h.elim
 rename_i id hi
 split at h
 case h_2 => exact h.elim
 rename_i m since seen last hg
 split at h
 case h_2 => exact h.elim
 rename_i es clock hm
 obtain ⟨hold, hsc, hend, hone⟩ := h
 obtain ⟨b, bm, ms, hb, hg', hv, h0, hr, hm', hbm, hmh, hmr⟩ := iter_at hT hs hI ht hi hg hm
 have hold' : ∀ x ∈ ms.toArray.toList, x.born < since := fun x hx => by
  obtain ⟨e, he, h1, _⟩ := hmr.at x (by simpa using hx)
  rw [← h1]; exact hold e he
 have hex : (execOp a.eval o).run E.P s.w = ((Instr.next (.pointer (some ⟨b.blk, 0, none⟩)) false o.type).run E.P s.w).andThen fun v w => .ok (.value v) w := by
  simp only [execOp, ho, hv]
  simp [Sem.run_bind]
 rcases run_next_at (P := E.P) s.w o.type b.blk bm.blk since last seen.toArray ms.toArray clock hr hmh hold' hsc with ⟨hz, hrun⟩ | ⟨e, he, w1, hw1, hrun⟩
 ·have hall : ∀ e ∈ es, e.2.2 ∈ seen := fun e he => by
   obtain ⟨m, h1, h2⟩ := hmr.from e he
   rw [h2]
   have hz' := Array.eq_empty_of_size_eq_zero hz
   unfold leftOf at hz'
   rw [Array.filter_eq_empty_iff] at hz'
   have := hz' m (by simpa using h1)
   simpa using this
  unfold Oper.wp
  rw [hex, hrun]
  exact hK _ (.tup [boolV false]) g l s hs rfl hI (Ext.refl _) (by unfold Rep; exact ⟨#[.bool false], rfl, by unfold RepL; exact ⟨_, _, rfl, rfl, rfl⟩⟩) (hend hall)
 ·unfold leftOf at he
  have he' : e ∈ ms ∧ e.born ∉ seen := by simpa using he
  obtain ⟨c, hc, hcb, hk1, hk2⟩ := hmr.at e he'.1
  have hbw : Below s.w.heap.size s.w w1 := by
   rcases hw1 with rfl | rfl
   ·exact Below.refl _ _
   ·exact below_drew _
  have hI1 := hI.of_below hbw
  have hE1 := Ext.of_below hI hbw
  have hh1 : w1.heap = s.w.heap := by rcases hw1 with rfl | rfl <;> rfl
  have hE2 := Ext.setObj (s := { s with w := w1 }) hI1 hg' hb rfl (e := .iter (some m) since (seen ++ [c.2.2]) clock) rfl (.mapIter (some bm.blk) since (seen.toArray.push e.born) clock)
  have hE := hE1.trans hE2
  have hne : b.blk ≠ bm.blk := fun hh => by
   have := hI.inj _ _ _ _ hb hbm hh
   subst this
   rw [hg'] at hm'; cases hm'
  have hidm : id ≠ m := fun hh => by subst hh; rw [hg'] at hm'; cases hm'
  unfold Oper.wp
  rw [hex, hrun]
  refine hK _ (.tup [boolV true, c.1, c.2.1]) _ _ (S.setObj { s with w := w1 } id (.iter (some m) since (seen ++ [c.2.2]) clock) b (.mapIter (some bm.blk) since (seen.toArray.push e.born) clock)) ?_ (ssetG_len _ _ _)
   (hI1.setObj hg' hb rfl rfl _ ⟨h0, some bm.blk, ?_, .map es clock, bm, ?_, rfl, hbm, rfl⟩) hE ?_ (hone c hc (by rw [hcb]; exact he'.2))
  ·rw [sset_eq, ← hs]; rfl
  ·have := (hI.slot id b hb).2
   simp [S.setObj, hh1, this, hcb]
  ·simp only [S.setObj]; rw [get_set_ne hidm]; exact hm'
  ·unfold Rep
   refine ⟨#[.bool true, e.key, e.val], rfl, ?_⟩
   unfold RepL RepL RepL RepL
   exact ⟨_, _, rfl, by unfold Rep boolV; rfl, _, _, rfl, hk1.ext hE, _, _, rfl, hk2.ext hE, rfl⟩
end
end Go.Vm
namespace Go.Vm
open Go.RowKit
mutual
theorem Rep.low {s : S} : ∀ {c : AV} {y : Value}, Rep s c y → c.low s.σ.length = true
 | .v _, _, _ => by simp [AV.low]
 | .str _, _, _ => by simp [AV.low]
 | .un, _, _ => by simp [AV.low]
 | .agg _, _, h => by unfold Rep at h; obtain ⟨vs, _, h1⟩ := h; simp only [AV.low]; exact RepL.low h1
 | .tup _, _, h => by unfold Rep at h; obtain ⟨vs, _, h1⟩ := h; simp only [AV.low]; exact RepL.low h1
 | .sl es, _, h => by
  unfold Rep at h
  obtain ⟨a, cap, _, _, h1⟩ := h
  simp only [AV.low]
  rcases h1 with rfl | ⟨blk, off, k, _, _, h1⟩
  ·simp [AV.low.lows]
  ·exact RepRow.low h1
 | .iptr _, _, h => by unfold Rep at h; obtain ⟨blk, off, _, h1⟩ := h; simp only [AV.low]; exact RepAt.low h1
 | .ref id _ _, _, h => by unfold Rep at h; obtain ⟨e, b, he, _⟩ := h; simp only [AV.low, decide_eq_true_eq]; exact lt_of_get he
 | .rsl id _ _ _ _, _, h => by unfold Rep at h; obtain ⟨e, b, he, _⟩ := h; simp only [AV.low, decide_eq_true_eq]; exact lt_of_get he
 | .mp id, _, h => by unfold Rep at h; obtain ⟨e, b, he, _⟩ := h; simp only [AV.low, decide_eq_true_eq]; exact lt_of_get he
 | .fn _ _ _, _, h => by unfold Rep at h; obtain ⟨vs, us, _, h1, h2⟩ := h; simp only [AV.low, Bool.and_eq_true]; exact ⟨RepL.low h1, RepL.low h2⟩
 | .ifc _ _, _, h => by unfold Rep at h; obtain ⟨v, _, h1⟩ := h; simp only [AV.low]; exact Rep.low h1
theorem RepL.low {s : S} : ∀ {cs : List AV} {vs : List Value}, RepL s cs vs → AV.low.lows s.σ.length cs = true
 | [], _, _ => by simp [AV.low.lows]
 | _ :: _, _, h => by unfold RepL at h; obtain ⟨v, vs', _, h1, h2⟩ := h; simp only [AV.low.lows, Bool.and_eq_true]; exact ⟨Rep.low h1, RepL.low h2⟩
theorem RepRow.low {s : S} {k blk : Nat} : ∀ {off : Nat} {es : List AV}, RepRow s k blk off es → AV.low.lows s.σ.length es = true
 | _, [], _ => by simp [AV.low.lows]
 | _, _ :: _, h => by unfold RepRow at h; obtain ⟨⟨y, _, h1⟩, h2⟩ := h; simp only [AV.low.lows, Bool.and_eq_true]; exact ⟨Rep.low h1, RepRow.low h2⟩
theorem RepAt.low {s : S} {blk : Nat} : ∀ {off : Nat} {cs : List AV}, RepAt s blk off cs → AV.low.lows s.σ.length cs = true
 | _, [], _ => by simp [AV.low.lows]
 | _, _ :: _, h => by unfold RepAt at h; obtain ⟨⟨y, _, _, h1⟩, h2⟩ := h; simp only [AV.low.lows, Bool.and_eq_true]; exact ⟨Rep.low h1, RepAt.low h2⟩
end
def S.cut (s : S) (n : Nat) : S := { s with σ := s.σ.take n, β := s.β.take n }
theorem get_take {α : Type} {l : List α} {n i : Nat} {x : α} (h : (l.take n)[i]? = some x) : i < n ∧ l[i]? = some x := by
 rw [List.getElem?_take] at h
 split at h
 ·rename_i hh; exact ⟨hh, h⟩
 ·cases h
theorem take_get {α : Type} {l : List α} {n i : Nat} {x : α} (hi : i < n) (h : l[i]? = some x) : (l.take n)[i]? = some x := by
 rw [List.getElem?_take, if_pos hi, h]
theorem Imm.cut {s : S} {n blk off : Nat} (h : Imm s blk off) : Imm (s.cut n) blk off :=
 ⟨h.1, fun id e b he hb hbb => h.2 id e b (get_take he).2 (get_take hb).2 hbb⟩
theorem LoadsAt.cut {s : S} {n : Nat} {ag : Bool} {k blk off : Nat} {y : Value} (h : LoadsAt s ag k blk off y) : LoadsAt (s.cut n) ag k blk off y := by
 cases ag with
 | true => obtain ⟨vs, rfl, hk, hh⟩ := LoadsAt.agg h; unfold LoadsAt; simp only [if_true]; exact ⟨vs, rfl, hk, fun i x hx => ⟨(hh i x hx).1, (hh i x hx).2.cut⟩⟩
 | false => obtain ⟨rfl, h1, h2⟩ := LoadsAt.cell h; unfold LoadsAt; simp only [Bool.false_eq_true, if_false]; exact ⟨by trivial, h1, h2.cut⟩
mutual
theorem Rep.cut {s : S} {n : Nat} : ∀ {c : AV} {y : Value}, Rep s c y → c.low n = true → Rep (s.cut n) c y
 | .v _, _, h, _ => by unfold Rep at *; exact h
 | .str _, _, h, _ => by unfold Rep at *; exact h
 | .un, _, _, _ => by unfold Rep; trivial
 | .agg _, _, h, hl => by unfold Rep at *; obtain ⟨vs, rfl, h1⟩ := h; simp only [AV.low] at hl; exact ⟨vs, rfl, RepL.cut h1 hl⟩
 | .tup _, _, h, hl => by unfold Rep at *; obtain ⟨vs, rfl, h1⟩ := h; simp only [AV.low] at hl; exact ⟨vs, rfl, RepL.cut h1 hl⟩
 | .sl es, _, h, hl => by
  unfold Rep at *
  obtain ⟨a, cap, rfl, h0, h1⟩ := h
  simp only [AV.low] at hl
  refine ⟨a, cap, rfl, h0, ?_⟩
  rcases h1 with h1 | ⟨blk, off, k, ha, hk, h1⟩
  ·exact .inl h1
  ·exact .inr ⟨blk, off, k, ha, hk, RepRow.cut h1 hl⟩
 | .iptr _, _, h, hl => by unfold Rep at *; obtain ⟨blk, off, rfl, h1⟩ := h; simp only [AV.low] at hl; exact ⟨blk, off, rfl, RepAt.cut h1 hl⟩
 | .ref id _ _, _, h, hl => by
  unfold Rep at *; obtain ⟨e, b, he, hb, h1⟩ := h; simp only [AV.low, decide_eq_true_eq] at hl
  exact ⟨e, b, take_get hl he, take_get hl hb, h1⟩
 | .rsl id _ _ _ _, _, h, hl => by
  unfold Rep at *; obtain ⟨e, b, he, hb, h1⟩ := h; simp only [AV.low, decide_eq_true_eq] at hl
  exact ⟨e, b, take_get hl he, take_get hl hb, h1⟩
 | .mp id, _, h, hl => by
  unfold Rep at *; obtain ⟨e, b, he, hb, h1⟩ := h; simp only [AV.low, decide_eq_true_eq] at hl
  exact ⟨e, b, take_get hl he, take_get hl hb, h1⟩
 | .fn _ _ _, _, h, hl => by
  unfold Rep at *; obtain ⟨vs, us, rfl, h1, h2⟩ := h; simp only [AV.low, Bool.and_eq_true] at hl
  exact ⟨vs, us, rfl, RepL.cut h1 hl.1, RepL.cut h2 hl.2⟩
 | .ifc _ _, _, h, hl => by unfold Rep at *; obtain ⟨v, rfl, h1⟩ := h; simp only [AV.low] at hl; exact ⟨v, rfl, Rep.cut h1 hl⟩
theorem RepL.cut {s : S} {n : Nat} : ∀ {cs : List AV} {vs : List Value}, RepL s cs vs → AV.low.lows n cs = true → RepL (s.cut n) cs vs
 | [], _, h, _ => by unfold RepL at *; exact h
 | _ :: _, _, h, hl => by unfold RepL at *; obtain ⟨v, vs', rfl, h1, h2⟩ := h; simp only [AV.low.lows, Bool.and_eq_true] at hl; exact ⟨v, vs', rfl, Rep.cut h1 hl.1, RepL.cut h2 hl.2⟩
theorem RepRow.cut {s : S} {n k blk : Nat} : ∀ {off : Nat} {es : List AV}, RepRow s k blk off es → AV.low.lows n es = true → RepRow (s.cut n) k blk off es
 | _, [], _, _ => by unfold RepRow; trivial
 | _, _ :: _, h, hl => by unfold RepRow at *; obtain ⟨⟨y, h0, h1⟩, h2⟩ := h; simp only [AV.low.lows, Bool.and_eq_true] at hl; exact ⟨⟨y, h0.cut, Rep.cut h1 hl.1⟩, RepRow.cut h2 hl.2⟩
theorem RepAt.cut {s : S} {n blk : Nat} : ∀ {off : Nat} {cs : List AV}, RepAt s blk off cs → AV.low.lows n cs = true → RepAt (s.cut n) blk off cs
 | _, [], _, _ => by unfold RepAt; trivial
 | _, _ :: _, h, hl => by unfold RepAt at *; obtain ⟨⟨y, h0, h00, h1⟩, h2⟩ := h; simp only [AV.low.lows, Bool.and_eq_true] at hl; exact ⟨⟨y, h0, h00.cut, Rep.cut h1 hl.1⟩, RepAt.cut h2 hl.2⟩
end
def Ent.low (n : Nat) : Ent → Bool
 | .arr _ cells _ _ => AV.low.lows n cells
 | .map es _ => AV.low.lows n (es.map (·.1)) && AV.low.lows n (es.map (·.2.1))
 | .iter m _ _ _ => m.all (decide <| · < n)
theorem lows_get {n : Nat} : ∀ {l : List AV}, AV.low.lows n l = true → ∀ {i : Nat} {c : AV}, l[i]? = some c → c.low n = true
 | [], _, i, c, h => by simp at h
 | x :: l, h, i, c, hi => by
  simp only [AV.low.lows, Bool.and_eq_true] at h
  cases i with
  | zero => simp at hi; subst hi; exact h.1
  | succ i => simp at hi; exact lows_get h.2 hi
theorem lows_of {n : Nat} : ∀ {l : List AV}, (∀ (i : Nat) c, l[i]? = some c → c.low n = true) → AV.low.lows n l = true
 | [], _ => rfl
 | x :: l, h => by simp only [AV.low.lows, Bool.and_eq_true]; exact ⟨h 0 x rfl, lows_of fun i c hi => h (i + 1) c (by simpa using hi)⟩
theorem EntOK.low {s : S} {e : Ent} {b : Slot} (h : EntOK s e b) : e.low s.σ.length = true := by
 cases e with
 | arr ty cells ver imm =>
  obtain ⟨_, _, _, hc⟩ := h
  exact lows_of fun i c hi => by obtain ⟨y, _, h2, _⟩ := hc i c hi; exact h2.low
 | map es clock =>
  obtain ⟨_, mes, _, h3⟩ := h
  simp only [Ent.low, Bool.and_eq_true]
  constructor <;> refine lows_of fun i c hi => ?_
  ·obtain ⟨q, hq, rfl⟩ := List.mem_map.1 (List.mem_of_getElem? hi)
   obtain ⟨⟨z, h1⟩, _⟩ := h3.all q hq
   exact h1.low
  ·obtain ⟨q, hq, rfl⟩ := List.mem_map.1 (List.mem_of_getElem? hi)
   obtain ⟨_, ⟨z, h1⟩⟩ := h3.all q hq
   exact h1.low
 | iter m since seen last =>
  obtain ⟨_, mo, _, h3⟩ := h
  cases m with
  | none => rfl
  | some i =>
   obtain ⟨em, bm, h4, _⟩ := h3
   have := lt_of_get h4
   simp [Ent.low, this]
theorem EntOK.cut {s : S} {n : Nat} {e : Ent} {b : Slot} (h : EntOK s e b) (hl : e.low n = true) : EntOK (s.cut n) e b := by
 cases e with
 | arr ty cells ver imm =>
  obtain ⟨h1, h2, h3, h4⟩ := h
  exact ⟨h1, h2, h3, fun j c hj => by obtain ⟨y, a1, a2, a3⟩ := h4 j c hj; exact ⟨y, a1, a2.cut (lows_get hl hj), a3⟩⟩
 | map es clock =>
  obtain ⟨h0, mes, h1, h2⟩ := h
  simp only [Ent.low, Bool.and_eq_true] at hl
  refine ⟨h0, mes, h1, h2.of fun e he => ?_⟩
  obtain ⟨j, hj, rfl⟩ := List.getElem_of_mem he
  exact ⟨fun z hz => hz.cut (lows_get hl.1 (i := j) (by simp [hj])), fun z hz => hz.cut (lows_get hl.2 (i := j) (by simp [hj]))⟩
 | iter m since seen last =>
  obtain ⟨h0, mo, h1, h2⟩ := h
  refine ⟨h0, mo, h1, ?_⟩
  cases m with
  | none => exact h2
  | some i =>
   obtain ⟨em, bm, h3, h4, h5, h6⟩ := h2
   simp only [Ent.low, Option.all_some, decide_eq_true_eq] at hl
   exact ⟨em, bm, by simp [S.cut, hl, h3], h4, by simp [S.cut, hl, h5], h6⟩
def StoreLow (n : Nat) (g g' : List Ent) : Prop := ∀ (i : Nat) (e : Ent), g'[i]? = some e → g[i]? = some e ∨ e.low n = true
theorem StoreLow.refl (n : Nat) (g : List Ent) : StoreLow n g g := fun _ _ h => .inl h
theorem Ext.length {s s' : S} (hI : HInv s) (h : Ext s s') : s.σ.length ≤ s'.σ.length := by
 rcases Nat.eq_zero_or_pos s.σ.length with h0 | h0
 ·omega
 ·have h1 : s.σ[s.σ.length - 1]? = some s.σ[s.σ.length - 1] := List.getElem?_eq_getElem (by omega)
  have hb : s.σ.length - 1 < s.β.length := by rw [hI.len]; omega
  obtain ⟨e', b', h2, _⟩ := h.ent _ _ _ h1 (List.getElem?_eq_getElem hb)
  have := lt_of_get h2
  omega
theorem cut_ok {s0 s : S} {g' l' : List Ent} (hI0 : HInv s0) (hI : HInv s) (hE : Ext s0 s) (hs : s.σ = g' ++ l') (hg : g'.length = s0.σ.length) (hl : StoreLow s0.σ.length s0.σ g') :
  HInv (s.cut s0.σ.length) ∧ Ext s0 (s.cut s0.σ.length) ∧ (s.cut s0.σ.length).σ = g' := by
 have hσ : s.σ.take s0.σ.length = g' := by rw [hs, ← hg, List.take_left]
 refine ⟨⟨?_, hI.B, fun id b hb => hI.slot id b (get_take hb).2, fun i j b c hb hc => hI.inj i j b c (get_take hb).2 (get_take hc).2, fun id e b he hb => ?_, fun id e b he hb hm => hI.shape id e b (get_take he).2 (get_take hb).2 hm⟩, ⟨hE.B, hE.below, fun blk off hi => ?_, fun id e b he hb => ?_⟩, hσ⟩
 ·simp only [S.cut, List.length_take, hI.len]
 ·have he' := get_take he
  refine (hI.ent id e b he'.2 (get_take hb).2).cut ?_
  have hge : g'[id]? = some e := by
   have : (s.σ.take s0.σ.length)[id]? = some e := he
   rwa [hσ] at this
  rcases hl id e hge with h1 | h1
  ·have hb0 : id < s0.β.length := by rw [hI0.len]; exact lt_of_get h1
   exact (hI0.ent id e _ h1 (List.getElem?_eq_getElem hb0)).low
  ·exact h1
 ·obtain ⟨h1, h2⟩ := hE.imm blk off hi
  exact ⟨h1.cut, h2⟩
 ·obtain ⟨e', b', h1, h2, h3⟩ := hE.ent id e b he hb
  have hid := lt_of_get he
  exact ⟨e', b', take_get hid h1, take_get hid h2, h3⟩
end Go.Vm
namespace Go.Vm
open Go.RowKit
theorem TsRep.ext {s s' : S} (h : Ext s s') {ts : Ts} {a : Act} (ht : TsRep s ts a) : TsRep s' ts a := fun i => Rep.ext h (ht i)
theorem getD_set (A : Array Value) (d i : Nat) (v : Value) : (A.setIfInBounds d v).getD i undef = if d = i ∧ d < A.size then v else A.getD i undef := by
 simp only [Array.getD_eq_getD_getElem?, Array.getElem?_setIfInBounds]
 by_cases h : d = i
 ·subst h
  by_cases h2 : d < A.size
  ·simp [h2]
  ·simp [h2]
 ·simp [h]
theorem TsRep.put {s : S} {ts : Ts} {a : Act} (ht : TsRep s ts a) {dst : Option Nat} (hd : ∀ d, dst = some d → d < a.tmps.size) {r : AV} {v : Value} (hr : Rep s r v) : TsRep s (tput ts dst r) (a.put dst v) := by
 cases dst with
 | none => exact ht
 | some d =>
  intro i
  show Rep s (tget ((d, r) :: ts) i) ((a.tmps.setIfInBounds d v).getD i undef)
  rw [getD_set]
  unfold tget
  by_cases h : d = i
  ·rw [if_pos h, if_pos ⟨h, hd d rfl⟩]; exact hr
  ·rw [if_neg h, if_neg (fun hh => h hh.1)]; exact ht i
theorem TsRep.tell {s : S} {ts : Ts} {a : Act} (ht : TsRep s ts a) {d : Nat} {r : AV} (hr : Rep s r (a.tmps.getD d undef)) : TsRep s ((d, r) :: ts) a := by
 intro i
 unfold tget
 by_cases h : d = i
 ·rw [if_pos h]; subst h; exact hr
 ·rw [if_neg h]; exact ht i
theorem put_size (a : Act) (dst : Option Nat) (v : Value) : (a.put dst v).tmps.size = a.tmps.size := by
 cases dst <;> simp [Act.put]
theorem put_defers (a : Act) (dst : Option Nat) (v : Value) : (a.put dst v).defers = a.defers := by
 cases dst <;> rfl
section
variable {E : Env} {T : Nat → TI} (hT : TabOK E.P T)
include hT
theorem aOne_sound {rows : List Nat} {o : Oper} {ts : Ts} {g l : List Ent} {K : AV → List Ent → List Ent → Prop} (h : aOne E T rows o ts g l K) {s : S} {a : Act} (hs : s.σ = g ++ l) (hI : HInv s)
  (hΓ : E.Γ s.B s.w) (ht : TsRep s ts a) {next : Act → World → Prop} {Q : Exit → Act → World → Prop}
  (hK : ∀ v r g' l' s', s'.σ = g' ++ l' → g'.length = g.length → HInv s' → Ext s s' → Rep s' r v → K r g' l' → next (a.put o.dst v) s'.w) : o.wp E.P a s.w next Q := by
 have hdet : ∀ {p : Prop} {r : AV} {g' l' : List Ent}, aDet T rows o ts g l = some (p, r, g', l') → p → K r g' l' → o.wp E.P a s.w next Q := by
  intro p r g' l' h1 hp hk
  obtain ⟨nx, v, s', hrun, hnx, hs', hg, hB, hI', hE, hr⟩ := aDet_sound hT hs hI ht h1 hp
  unfold Oper.wp
  rw [hrun]
  rcases hnx with rfl | ⟨rfl, rfl⟩
  ·exact hK v r g' l' s' hs' hg hI' hE hr hk
  ·exact hK undef r g' l' s' hs' hg hI' hE hr hk
 unfold aOne at h
 split at h
 ·rename_i f as tys ho
  split at h
  ·rename_i fid first cap hf
   have hfr := ev_rep ht f
   rw [hf] at hfr
   unfold Rep at hfr
   obtain ⟨vs, us, hv, hr1, hr2⟩ := hfr
   have hargs : RepL s (first ++ as.toList.map (ev ts) ++ cap) (vs.toList ++ as.toList.map a.eval ++ us.toList) := RepL.append (RepL.append hr1 (evs_rep ht as.toList)) hr2
   have harr : (vs.toList ++ as.toList.map a.eval ++ us.toList).toArray = vs ++ as.map a.eval ++ us := by
    apply Array.ext'; simp
   rcases h with ⟨⟨fn, hfn, hbody, hname⟩, hcall⟩ | hcall
   ·have hc := hcall s _ hs hI hΓ hargs
    rw [harr] at hc
    have hnone : fn.body.isNone = false := by cases hb : fn.body <;> simp_all
    have hrun : (execOp a.eval o).run E.P s.w = .ok (.enter fid (vs ++ as.map a.eval ++ us)) s.w := by
     have hn1 : fn.name ≠ "runtime.NumGoroutine" := by simpa using hname
     have hn2 : fn.body ≠ none := by intro hh; rw [hh] at hnone; cases hnone
     simp [execOp, ho, resolve, hv, Deferred.ofValue, invoke, callFunc, hfn, hn1, hn2]
    unfold Oper.wp
    rw [hrun, Oper.upon_enter]
    refine hc.mono fun e w' ⟨v, r, s', he, hw, hI', hE, hr, hk⟩ => ?_
    subst he hw
    have hlen := hE.length hI
    rw [hs, List.length_append] at hlen
    exact hK v r _ _ s' (List.take_append_drop g.length s'.σ).symm (by simp; omega) hI' hE hr hk
   ·obtain ⟨v, r, s', hc, hI', hE, hr, hk⟩ := hcall s _ hs hI hΓ hargs
    rw [harr] at hc
    rw [Array.append_assoc] at hc
    have hrun : (execOp a.eval o).run E.P s.w = .ok (.value v) s'.w := by
     simp [execOp, ho, resolve, hv, Deferred.ofValue, invoke, hc]
    unfold Oper.wp
    rw [hrun]
    have hlen := hE.length hI
    rw [hs, List.length_append] at hlen
    exact hK v r _ _ s' (List.take_append_drop g.length s'.σ).symm (by simp; omega) hI' hE hr hk
  ·exact h.elim
 ·rename_i rc m as tys ho
  split at h
  ·rename_i t x hf
   obtain ⟨fid, hm, h⟩ := h
   have hfr := ev_rep ht rc
   rw [hf] at hfr
   unfold Rep at hfr
   obtain ⟨v, hv, hr1⟩ := hfr
   have hargs : RepL s (x :: as.toList.map (ev ts)) (v :: as.toList.map a.eval) := by unfold RepL; exact ⟨_, _, rfl, hr1, evs_rep ht as.toList⟩
   have harr : (v :: as.toList.map a.eval).toArray = #[v] ++ as.map a.eval := by
    apply Array.ext'; simp
   have hres : (execOp a.eval o).run E.P s.w = (callFunc fid (#[v] ++ as.map a.eval)).run E.P s.w := by
    have e0 : (#[Value.iface t v] ++ Array.map a.eval as)[0]? = some (.iface t v) := by rw [Array.getElem?_append_left (by simp)]; rfl
    have e1 : (Array.map a.eval as).extract 0 as.size = as.map a.eval := by
     have : as.size = (Array.map a.eval as).size := by simp
     rw [this]; exact Array.extract_size
    simp [execOp, ho, resolve, hv, invoke, callMethod, e0, e1, hm v]
   rcases h with ⟨⟨fn, hfn, hbody, hname⟩, hcall⟩ | hcall
   ·have hc := hcall s _ hs hI hΓ hargs
    rw [harr] at hc
    have hnone : fn.body.isNone = false := by cases hb : fn.body <;> simp_all
    have hrun : (execOp a.eval o).run E.P s.w = .ok (.enter fid (#[v] ++ as.map a.eval)) s.w := by
     have hn1 : fn.name ≠ "runtime.NumGoroutine" := by simpa using hname
     have hn2 : fn.body ≠ none := by intro hh; rw [hh] at hnone; cases hnone
     rw [hres]
     simp [callFunc, hfn, hn1, hn2]
    unfold Oper.wp
    rw [hrun, Oper.upon_enter]
    refine hc.mono fun e w' ⟨v, r, s', he, hw, hI', hE, hr, hk⟩ => ?_
    subst he hw
    have hlen := hE.length hI
    rw [hs, List.length_append] at hlen
    exact hK v r _ _ s' (List.take_append_drop g.length s'.σ).symm (by simp; omega) hI' hE hr hk
   ·obtain ⟨v', r, s', hc, hI', hE, hr, hk⟩ := hcall s _ hs hI hΓ hargs
    rw [harr] at hc
    have hrun : (execOp a.eval o).run E.P s.w = .ok (.value v') s'.w := by rw [hres, hc]
    unfold Oper.wp
    rw [hrun]
    have hlen := hE.length hI
    rw [hs, List.length_append] at hlen
    exact hK v' r _ _ s' (List.take_append_drop g.length s'.σ).symm (by simp; omega) hI' hE hr hk
  ·exact h.elim
 ·rename_i i ho
  exact aNxt_sound hT hs hI ht ho h hK
 ·split at h
  ·rename_i p r g' l' hd
   exact hdet hd h.1 h.2
  ·exact h.elim
def opsOK (n : Nat) (ops : List Oper) : Bool := ops.all fun o => match o.dst with
 | some d => decide (d < n)
 | none => true
omit hT in
theorem opsOK_dst {n : Nat} {ops : List Oper} (h : opsOK n ops = true) {i : Nat} {o : Oper} (hi : ops[i]? = some o) : ∀ d, o.dst = some d → d < n := by
 intro d hd
 have := List.all_eq_true.1 h o (List.mem_of_getElem? hi)
 simpa [hd] using this
theorem getD_bool {A : Array Value} {d : Nat} {b : Bool} (h : A.getD d undef = .bool b) : A[d]? = some (.bool b) := by
 rw [Array.getD_eq_getD_getElem?] at h
 cases hh : A[d]? with
 | none => rw [hh] at h; simp [undef] at h
 | some x => rw [hh] at h; simp at h; rw [h]
theorem aOps_sound {n : Nat} {rows : List Nat} {ops : Array Oper} (hok : opsOK n ops.toList = true) {Q : Exit → Act → World → Prop} : ∀ (m k : Nat), k + m = ops.size → ∀ {ts : Ts} {g l : List Ent} {K : Ts → List Ent → List Ent → Prop},
  aOps E T rows ops (ops.toList.drop k) ts g l K → ∀ {s : S} {a : Act}, s.σ = g ++ l → HInv s → E.Γ s.B s.w → TsRep s ts a → a.tmps.size = n →
  (∀ ts' g' l' s' a', s'.σ = g' ++ l' → g'.length = g.length → HInv s' → Ext s s' → TsRep s' ts' a' → a'.tmps.size = n → a'.defers = a.defers → K ts' g' l' → Q .normal a' s'.w) →
  wpOps E.P ops Q (List.range' k m) a s.w := by
 intro m
 induction m with
 | zero =>
  intro k hk ts g l K h s a hs hI hΓ ht hn hK
  have : ops.toList.drop k = [] := by rw [List.drop_eq_nil_of_le]; simp; omega
  rw [this] at h
  exact hK ts g l s a hs rfl hI (Ext.refl s) ht hn rfl h
 | succ m ih =>
  intro k hk ts g l K h s a hs hI hΓ ht hn hK
  have hlt : k < ops.size := by omega
  have hget : ops[k]? = some ops[k] := Array.getElem?_eq_getElem hlt
  generalize ho : ops[k] = o at hget
  have hdrop : ops.toList.drop k = o :: ops.toList.drop (k + 1) := by
   rw [List.drop_eq_getElem_cons (by simpa using hlt)]; simp [ho]
  rw [hdrop] at h
  have hdst := opsOK_dst hok (i := k) (o := o) (by simpa using hget)
  have hcont : ∀ {v : Value} {r : AV} {ts0 : Ts} {g' l' : List Ent} {s' : S}, s'.σ = g' ++ l' → g'.length = g.length → HInv s' → Ext s s' → Rep s' r v → TsRep s' ts0 a →
    aOps E T rows ops (ops.toList.drop (k + 1)) (tput ts0 o.dst r) g' l' K → wpOps E.P ops Q (List.range' (k + 1) m) (a.put o.dst v) s'.w := by
   intro v r ts0 g' l' s' hs' hg' hI' hE hr ht' hh
   refine ih (k + 1) (by omega) hh hs' hI' (hE.B ▸ E.stable _ _ _ (hE.below) hΓ) (ht'.put (by rw [hn]; exact hdst) hr) (by rw [put_size]; exact hn) ?_
   intro ts' g'' l'' s'' a' h1 h2 h3 h4 h5 h6 h7 h8
   exact hK ts' g'' l'' s'' a' h1 (h2.trans hg') h3 (hE.trans h4) h5 h6 (by rw [h7, put_defers]) h8
  rw [List.range'_succ]
  unfold wpOps
  simp only [hget]
  unfold aOps at h
  cases hg : o.guard with
  | none =>
   simp only [hg] at h
   have hw : Region.wanted o (yielded ops a.tmps) = true := by simp [Region.wanted, hg]
   rw [if_pos hw]
   left
   exact aOne_sound hT h hs hI hΓ ht fun v r g' l' s' h1 h2 h3 h4 h5 h6 => hcont h1 h2 h3 h4 h5 (ht.ext h4) h6
  | some jw =>
   obtain ⟨j, want⟩ := jw
   simp only [hg] at h
   cases hsl : gslot ops j with
   | none => simp [hsl] at h
   | some d =>
    simp only [hsl] at h
    unfold gslot at hsl
    have htd := ht d
    split at h
    ·rename_i b hb
     rw [hb] at htd
     unfold Rep at htd
     have hy : yielded ops a.tmps j = some b := by
      unfold yielded; rw [hsl]; simp [getD_bool hT htd]
     split at h
     ·rename_i hbw
      subst hbw
      have hw : Region.wanted o (yielded ops a.tmps) = true := by simp [Region.wanted, hg, hy]
      rw [if_pos hw]
      left
      have ht2 : TsRep s ((d, boolV b) :: ts) a := ht.tell (by rw [htd]; simp only [boolV]; unfold Rep; rfl)
      exact aOne_sound hT h hs hI hΓ ht2 fun v r g' l' s' h1 h2 h3 h4 h5 h6 => hcont h1 h2 h3 h4 h5 (ht2.ext h4) h6
     ·rename_i hbw
      have hw : ¬ Region.wanted o (yielded ops a.tmps) = true := by simp [Region.wanted, hg, hy, hbw]
      rw [if_neg hw]
      have ht2 : TsRep s ((d, boolV (!want)) :: ts) a := ht.tell (by
       rw [htd]; simp only [boolV]; unfold Rep
       cases b <;> cases want <;> simp_all)
      exact hcont hs rfl hI (Ext.refl s) (by unfold Rep; rfl) ht2 h
    ·rename_i q hb
     rw [hb] at htd
     unfold Rep at htd
     have hy : yielded ops a.tmps j = none := by
      unfold yielded; rw [hsl]
      simp only [Option.bind_some]
      rw [Array.getD_eq_getD_getElem?] at htd
      cases hh : a.tmps[d]? with
      | none => rfl
      | some x => rw [hh] at htd; simp at htd; rw [htd]
     have hw : ¬ Region.wanted o (yielded ops a.tmps) = true := by simp [Region.wanted, hg, hy]
     rw [if_neg hw]
     exact hcont hs rfl hI (Ext.refl s) (by unfold Rep; rfl) ht h
    ·exact h.elim
def codeOK (n : Nat) : Code → Bool
 | .region _ ops _ => opsOK n ops.toList
 | .seq a b => codeOK n a && codeOK n b
 | .cond _ a b => codeOK n a && codeOK n b
 | .block _ b => codeOK n b
 | .loop b => codeOK n b
 | _ => true
omit hT in
theorem AWp.mono {n : Nat} {c : Code} {Q Q' : Exit → Ts → List Ent → List Ent → Prop} {ts : Ts} {g l : List Ent} (h : AWp E n c Q ts g l) (hq : ∀ e ts' g' l', g'.length = g.length → Q e ts' g' l' → Q' e ts' g' l') : AWp E n c Q' ts g l :=
 fun s a D h1 h2 h3 h4 h5 h6 => wp_mono (h s a _ h1 h2 h3 h4 h5 h6) fun e a' w' ⟨ts', g', l', s', a1, a2, a3, a4, a5, a6, a7, a8, a9⟩ => ⟨ts', g', l', s', a1, a2, a3, a4, a5, a6, a7, a8, hq e ts' g' l' a3 a9⟩
omit hT in
theorem AWp.from {n : Nat} {c : Code} {Q : Exit → Ts → List Ent → List Ent → Prop} {ts : Ts} {g l : List Ent} (h : AWp E n c Q ts g l) {s0 s : S} {a : Act} {g0 : List Ent} (hE0 : Ext s0 s) (hg0 : g.length = g0.length)
  (h1 : s.σ = g ++ l) (h2 : HInv s) (h3 : E.Γ s.B s.w) (h4 : TsRep s ts a) (h5 : a.tmps.size = n) {D : List Deferred} (h6 : a.defers = D) :
  c.wp E.P (fun e a' w' => ∃ ts' g' l' s', s'.w = w' ∧ s'.σ = g' ++ l' ∧ g'.length = g0.length ∧ HInv s' ∧ Ext s0 s' ∧ TsRep s' ts' a' ∧ a'.tmps.size = n ∧ a'.defers = D ∧ Q e ts' g' l') a s.w :=
 wp_mono (h s a _ h1 h2 h3 h4 h5 h6) fun e a' w' ⟨ts', g', l', s', a1, a2, a3, a4, a5, a6, a7, a8, a9⟩ => ⟨ts', g', l', s', a1, a2, a3.trans hg0, a4, hE0.trans a5, a6, a7, a8, a9⟩
theorem aCode_sound {n : Nat} {rows : List Nat} : ∀ {c : Code} {Q : Exit → Ts → List Ent → List Ent → Prop} {ts : Ts} {g l : List Ent}, codeOK n c = true → aCode E n T rows c Q ts g l → AWp E n c Q ts g l
 | .skip, Q, ts, g, l, _, h => fun s a D h1 h2 h3 h4 h5 h6 => wp_skip ⟨ts, g, l, s, rfl, h1, rfl, h2, Ext.refl s, h4, h5, h6, by unfold aCode at h; exact h⟩
 | .region id ops true, Q, ts, g, l, _, h => by unfold aCode at h; exact h
 | .region id ops false, Q, ts, g, l, hok, h => fun s a D h1 h2 h3 h4 h5 h6 => by
  unfold aCode at h
  unfold codeOK at hok
  refine wp_region ?_
  rw [List.range_eq_range']
  refine aOps_sound hT hok ops.size 0 (by omega) (K := Q .normal) (by simpa using h) h1 h2 h3 h4 h5 ?_
  intro ts' g' l' s' a' a1 a2 a3 a4 a5 a6 a7 a8
  exact ⟨ts', g', l', s', rfl, a1, a2, a3, a4, a5, a6, a7.trans h6, a8⟩
 | .seq x y, Q, ts, g, l, hok, h => fun s a D h1 h2 h3 h4 h5 h6 => by
  unfold aCode at h
  simp only [codeOK, Bool.and_eq_true] at hok
  refine wp_seq (wp_mono (aCode_sound hok.1 h s a _ h1 h2 h3 h4 h5 h6) ?_)
  rintro e a' w' ⟨ts', g', l', s', rfl, a2, a3, a4, a5, a6, a7, a8, a9⟩
  cases e <;> simp only [Exit.then, thenQ] at a9 ⊢
  case normal => exact AWp.from (aCode_sound hok.2 a9) a5 a3 a2 a4 (a5.B ▸ E.stable _ _ _ a5.below h3) a6 a7 a8
  all_goals exact ⟨ts', g', l', s', rfl, a2, a3, a4, a5, a6, a7, a8, a9⟩
 | .cond c x y, Q, ts, g, l, hok, h => fun s a D h1 h2 h3 h4 h5 h6 => by
  unfold aCode at h
  simp only [codeOK, Bool.and_eq_true] at hok
  split at h
  ·rename_i b hb
   have hv := rep_v h1 h2 h4 hb
   refine wp_cond hv ?_
   split at h
   ·rename_i hbt; subst hbt; exact aCode_sound hok.1 h s a _ h1 h2 h3 h4 h5 h6
   ·rename_i hbt; have : b = false := by simpa using hbt
    subst this; exact aCode_sound hok.2 h s a _ h1 h2 h3 h4 h5 h6
  ·exact h.elim
 | .block id b, Q, ts, g, l, hok, h => fun s a D h1 h2 h3 h4 h5 h6 => by
  unfold aCode at h
  refine wp_block (wp_mono (aCode_sound (by simpa [codeOK] using hok) h s a _ h1 h2 h3 h4 h5 h6) ?_)
  rintro e a' w' ⟨ts', g', l', s', rfl, a2, a3, a4, a5, a6, a7, a8, a9⟩
  cases e <;> simp only [Exit.inBlock, blockQ] at a9 ⊢
  case exit id' =>
   split
   ·rename_i hid; rw [if_pos hid] at a9; exact ⟨ts', g', l', s', rfl, a2, a3, a4, a5, a6, a7, a8, a9⟩
   ·rename_i hid; rw [if_neg hid] at a9; exact ⟨ts', g', l', s', rfl, a2, a3, a4, a5, a6, a7, a8, a9⟩
  all_goals exact ⟨ts', g', l', s', rfl, a2, a3, a4, a5, a6, a7, a8, a9⟩
 | .loop b, Q, ts, g, l, _, h => by unfold aCode at h; exact h
 | .exit id, Q, ts, g, l, _, h => fun s a D h1 h2 h3 h4 h5 h6 => wp_exit ⟨ts, g, l, s, rfl, h1, rfl, h2, Ext.refl s, h4, h5, h6, by unfold aCode at h; exact h⟩
 | .ret, Q, ts, g, l, _, h => fun s a D h1 h2 h3 h4 h5 h6 => wp_ret ⟨ts, g, l, s, rfl, h1, rfl, h2, Ext.refl s, h4, h5, h6, by unfold aCode at h; exact h⟩
 | .rangeFunc .., Q, ts, g, l, _, h => by unfold aCode at h; exact h.elim
 | .scope .., Q, ts, g, l, _, h => by unfold aCode at h; exact h.elim
 | .label .., Q, ts, g, l, _, h => by unfold aCode at h; exact h.elim
 | .goto .., Q, ts, g, l, _, h => by unfold aCode at h; exact h.elim
 | .refuse .., Q, ts, g, l, _, h => by unfold aCode at h; exact h.elim
end
end Go.Vm
