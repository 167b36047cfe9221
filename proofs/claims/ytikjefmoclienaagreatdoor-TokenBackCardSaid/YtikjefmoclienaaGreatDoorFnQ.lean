/- sync.Once.Do, not yet done: the function is called, once. -/
import Derived.Test.YtikjefmoclienaaGreatDoorFnA
import Derived.Conc.MuLone
import Derived.RegionTactic
import Derived.RegionCalls
import Derived.ChangeAlike
set_option linter.unusedVariables false
set_option linter.unusedSimpArgs false
set_option maxRecDepth 100000
namespace Go.D
open Go Go.Vm Go.Proofs Go.RowKit

abbrev muLink : Go.Conc.Locks.MuLink := { lock := 109, unlock := 110, ilock := 121, iunlock := 122, lockSlow := 135, unlockSlow := 138, disable := 131, enable := 133, acquire := 134, relMerge := 136, cas32 := 132, add32 := 137, tMutex := 92, tIMutex := 90, tPMutex := 157, tPIMutex := 173, tPI32 := 175, tUP := 113, tNoCopy := 85, tU32 := 81 }
theorem muLib : Go.Conc.Locks.MuLib Tryz.prog muLink :=
  ⟨Tryz.func109, Tryz.func110, Tryz.func121, Tryz.func122, Tryz.func131, Tryz.func133, Tryz.func134, Tryz.func136, Tryz.func132, Tryz.func137,
    Tryz.underlying90, Tryz.runUnderlying90, Tryz.sizeOf90, Tryz.isAgg90, Tryz.zeroValue90, Tryz.underlying92, Tryz.runUnderlying92, Tryz.sizeOf92, Tryz.isAgg92, Tryz.zeroValue92,
    Tryz.underlying157, Tryz.runUnderlying157, Tryz.sizeOf157, Tryz.isAgg157, Tryz.zeroValue157, Tryz.underlying173, Tryz.runUnderlying173, Tryz.sizeOf173, Tryz.isAgg173, Tryz.zeroValue173,
    Tryz.underlying175, Tryz.runUnderlying175, Tryz.sizeOf175, Tryz.isAgg175, Tryz.zeroValue175, Tryz.underlying113, Tryz.runUnderlying113, Tryz.sizeOf113, Tryz.isAgg113, Tryz.zeroValue113,
    Tryz.underlying85, Tryz.runUnderlying85, Tryz.sizeOf85, Tryz.isAgg85, Tryz.zeroValue85, Tryz.underlying21, Tryz.runUnderlying21, Tryz.sizeOf21, Tryz.isAgg21, Tryz.zeroValue21, (by kernel_rfl)⟩

/-- '(*sync/atomic.Bool).Store(true)', deferred. -/
theorem store_deferred (a : Addr) (x : Value) (u : FrameMode) (w : World) (hc : w.cell? a = some x) (hz : w.frozen? a = false) :
    CallsD Tryz.prog 111 #[.pointer (some a), .bool true] u w fun e u' w' => u' = u ∧ (e = .returned (.tuple #[]) ∧ w' = w.drew.setCell a (.int .u32 1)) := by
  have hc' : w.drew.cell? a = some x := by go_simp
  have hz' : w.drew.frozen? a = false := by go_simp
  have hst := run_call_store (P := Tryz.prog) Tryz.func123 (by kernel_rfl) (by kernel_rfl) (by kernel_rfl) (by kernel_rfl) (k := .u32) (y := 1) hc' hz'
  go_enter_d Tryz.func111, Tryz.ntmps111
  go_wp2
  go_region_calls
  all_goals (go_end0; exact ⟨rfl, rfl⟩)

/-- '(*sync/atomic.Bool).Load'. -/
theorem load_at (a : Addr) (x : Int) (w : World) (hc : w.cell? a = some (.int .u32 x)) :
    Calls Tryz.prog 94 #[.pointer (some a)] w fun e w' => e = .returned (.bool (!decide (x = 0))) ∧ w' = w := by
  have hst := run_call_load (P := Tryz.prog) Tryz.func108 (by kernel_rfl) (by kernel_rfl) (by kernel_rfl) .u32 (by kernel_rfl) hc
  go_enter Tryz.func94, Tryz.ntmps94
  go_wp2
  refine ⟨rfl, .bool (x != 0), by simp [results, Tryz.results94], rfl, rfl⟩

/-- The contract of a function that has a body. -/
def ABody (f : FuncId) (args : List AV) (σ : List Ent) (R : AV → List Ent → Prop) : Prop := HasBody E f ∧ ∀ (s : S) (vs : List Value), s.σ = σ → HInv s → E.Γ s.B s.w → RepL s args vs →
    Calls E.P f vs.toArray s.w fun e w' => ∃ v r s', e = .returned v ∧ s'.w = w' ∧ HInv s' ∧ Ext s s' ∧ Rep s' r v ∧ R r s'.σ

theorem abody {f : FuncId} {fn : Func} {c : Code} {args : List AV} {σ : List Ent} {R : AV → List Ent → Prop} (kp : Keep) (rows : List Nat) (hf : E.P.funcs[f]? = some fn) (hb : fn.body = some c)
    (hname : (fn.name == "runtime.NumGoroutine") = false) (hok : codeOK fn.ntmps c = true) (hargs : args.length ≤ fn.ntmps)
    (h : xCode E fn.ntmps tab rows c (.done (retQ tab kp fn.results.toList σ R)) (argTs 0 args) σ []) : ABody f args σ R := xbody T0 kp rows hf hb hname hok hargs h

/-- What is told of a pointer into an entry: where it lies, and its cells. -/
theorem at_ref {s : S} (hI : HInv s) {id ty ver off : Nat} {cells : List AV} {imm : Nat} {y : Value} (he : s.σ[id]? = some (.arr ty cells ver imm)) (hr : Rep s (.ref id ver off) y) :
    ∃ blk ext, s.β[id]? = some ⟨blk, 0, ext⟩ ∧ y = .pointer (some ⟨blk, off, none⟩) ∧ cells.length ≤ ext ∧ (∀ (j : Nat) c, cells[j]? = some c → ∃ x, s.w.cell? ⟨blk, j, none⟩ = some x ∧ Rep s c x ∧ cellV x) ∧
      ∀ j, imm ≤ j → j < ext → s.w.frozen? ⟨blk, j, none⟩ = false := by
  unfold Rep at hr
  obtain ⟨e, b, h1, h2, _, a, rfl, h3⟩ := hr
  rw [he] at h1; cases h1
  obtain ⟨h4, _⟩ := hI.shape _ _ _ he h2 rfl
  obtain ⟨h5, _, h6, h7⟩ := hI.ent _ _ _ he h2
  obtain ⟨blk, o, ext⟩ := b
  simp only at h4; subst h4
  refine ⟨blk, ext, h2, by rw [h3 rfl]; simp, h5, fun j c hj => ?_, fun j hj hx => ?_⟩
  · obtain ⟨y, h8, h9, h10⟩ := h7 j c hj
    exact ⟨y, by simpa using h8, h9, h10⟩
  · have := (h6 j hx).2 hj
    simpa using this

theorem cell_int {s : S} {k : IntKind} {n : Int} {x : Value} (h : Rep s (.v (.int k n)) x) : x = .int k n := by unfold Rep at h; exact h

set_option maxHeartbeats 1600000 in
theorem slow_ok {σ : List Ent} {id ver : Nat} {cells : List AV} {R1 R : AV → List Ent → Prop} (hσ : σ[id]? = some (.arr 98 cells ver 0)) (h0 : cells[0]? = some (.v (.int .u32 0))) (h1 : cells[1]? = some (.v (.int .i32 0)))
    (inner : ABody 80 [.ref id ver 0] (σ.set id (.arr 98 (cells.set 1 (.v (.int .i32 1))) ver 0)) R1)
    (hR : ∀ r τ, R1 r τ → ∃ cells', τ[id]? = some (.arr 98 cells' ver 0) ∧ cells'[0]? = some (.v (.int .u32 0)) ∧ cells'[1]? = some (.v (.int .i32 1)) ∧
      R (.tup []) (τ.set id (.arr 98 ((cells'.set 0 (.v (.int .u32 1))).set 1 (.v (.int .i32 0))) ver 0))) :
    ABody 95 [.ref id ver 0, .fn 80 [.ref id ver 0] []] σ R := by
  refine ⟨⟨_, Tryz.func95, by kernel_rfl, by kernel_rfl⟩, fun s vs hs hI hΓ hr => ?_⟩
  obtain ⟨p, fv, rfl, hp, hf⟩ := repL2 hr
  unfold Rep at hf
  obtain ⟨fs, us, rfl, hfs, hus⟩ := hf
  obtain ⟨p', hfs1, hp'⟩ := repL1 hfs
  obtain rfl : fs = #[p'] := by apply Array.ext'; simpa using hfs1
  obtain rfl : us = #[] := by unfold RepL at hus; apply Array.ext'; simpa using hus
  rw [← hs] at hσ
  obtain ⟨blk, ext, hb, rfl, hlen, hc, hfz⟩ := at_ref hI hσ hp
  obtain ⟨blk', ext', hb', rfl, _⟩ := at_ref hI hσ hp'
  rw [hb] at hb'; cases hb'
  obtain ⟨x0, c0, r0, _⟩ := hc 0 _ h0
  rw [cell_int r0] at c0
  obtain ⟨x1, c1, r1, _⟩ := hc 1 _ h1
  rw [cell_int r1] at c1
  have hl1 : 1 < ext := by have := lt_of_get h1; omega
  have f0 := hfz 0 (Nat.zero_le _) (by omega)
  have f1 := hfz 1 (Nat.zero_le _) hl1
  -- the lock is taken
  have hIa := HInv.put hI hσ hb hl1 (Nat.zero_le 1) (c := .v (.int .i32 1)) (y := .int .i32 1) (rep_mk_v _ _) (by simp [cellV])
  have hEa := Ext.put hI hσ hb hl1 (Nat.zero_le 1) (c := .v (.int .i32 1)) (y := .int .i32 1)
  have hin := inner.2 _ [.pointer (some ⟨blk, 0, none⟩)] (by simp only [S.put, hs]) hIa (hEa.B ▸ E.stable _ _ _ hEa.below hΓ) (by
    unfold RepL RepL
    exact ⟨_, _, rfl, Rep.ext hEa hp, rfl⟩)
  have hw1 : (s.put id 98 cells ver 0 ⟨blk, 0, ext⟩ 1 (.v (.int .i32 1)) (.int .i32 1)).w = s.w.setCell ⟨blk, 1, none⟩ (.int .i32 1) := by simp [S.put]
  rw [hw1] at hin
  have hnot : ∀ (x : Bool) (w : World), (Op.unary .not (.bool x)).run Tryz.prog w = .ok (.bool (!x)) w := fun _ _ => rfl
  have hd0 : (s.w.setCell ⟨blk, 1, none⟩ (.int .i32 1)).cell? ⟨blk, 0, none⟩ = some (.int .u32 0) := (World.cell?_setCell_ne _ _ _ _ _ _ (.inr (by omega))).trans c0
  change Calls Tryz.prog 80 _ _ _ at hin
  change Calls Tryz.prog 95 _ _ _
  go_enter_defers Tryz.func95, Tryz.ntmps95
  go_wp2_with (first
    | (go_at_call 109; refine (Go.MuLone.lock_free muLib ⟨blk, 1, none⟩ _ c1 f1).mono ?_; rintro e w' ⟨rfl, rfl⟩)
    | (go_at_call 94; refine (load_at ⟨blk, 0, none⟩ 0 _ hd0).mono ?_; rintro e w' ⟨rfl, rfl⟩))
  refine hin.mono ?_
  rintro e w' ⟨v, r, s2, rfl, rfl, hI2, hE2, hv, hR2⟩
  go_wp2
  obtain ⟨cells', hτ, h0', h1', hRR⟩ := hR r s2.σ hR2
  obtain ⟨e', b', he', hb2, _, hbb, _⟩ := hE2.ent id _ _ (get_set_self hσ) hb
  rw [hτ] at he'; cases he'
  obtain rfl := hbb rfl
  obtain ⟨hlen2, _, hroom2, hc2⟩ := hI2.ent _ _ _ hτ hb2
  have hl1' : 1 < ext := hl1
  obtain ⟨y0, d0, q0, _⟩ := hc2 0 _ h0'
  rw [cell_int q0] at d0
  obtain ⟨y1, d1, q1, _⟩ := hc2 1 _ h1'
  rw [cell_int q1] at d1
  have g0 := (hroom2 0 (by simp only; omega)).2 (Nat.le_refl _)
  have g1 := (hroom2 1 hl1').2 (Nat.zero_le _)
  simp only [Nat.zero_add, Nat.add_zero] at d0 d1 g0 g1
  have hB3 : Below s2.w.heap.size s2.w s2.w.drew := (Below.refl _ _).drew
  have hI3 := hI2.of_below hB3
  have hE3 := Ext.of_below hI2 hB3
  have hl0' : 0 < ext := by omega
  have hI4 := HInv.put hI3 hτ hb2 hl0' (Nat.le_refl 0) (c := .v (.int .u32 1)) (y := .int .u32 1) (rep_mk_v _ _) (by simp [cellV])
  have hE4 := Ext.put hI3 hτ hb2 hl0' (Nat.le_refl 0) (c := .v (.int .u32 1)) (y := .int .u32 1)
  have hτ4 : (S.put { s2 with w := s2.w.drew } id 98 cells' ver 0 ⟨blk, 0, ext⟩ 0 (.v (.int .u32 1)) (.int .u32 1)).σ[id]? = some (.arr 98 (cells'.set 0 (.v (.int .u32 1))) ver 0) := get_set_self hτ
  have hI5 := HInv.put hI4 hτ4 hb2 hl1' (Nat.zero_le 1) (c := .v (.int .i32 0)) (y := .int .i32 0) (rep_mk_v _ _) (by simp [cellV])
  have hE5 := Ext.put hI4 hτ4 hb2 hl1' (Nat.zero_le 1) (c := .v (.int .i32 0)) (y := .int .i32 0)
  refine leaves_cons (f := 111) (args := #[.pointer (some ⟨blk, 0, none⟩), .bool true]) (by simp) (by simp [go_sem]) ?_
  refine (store_deferred ⟨blk, 0, none⟩ (.int .u32 0) .returning _ d0 g0).mono ?_
  rintro e u' w'' ⟨rfl, rfl, rfl⟩
  refine leaves_cons (f := 110) (args := #[.pointer (some ⟨blk, 1, none⟩)]) (by simp [settle]) (by simp [go_sem]) ?_
  refine (Go.MuLone.unlock_deferred muLib ⟨blk, 1, none⟩ _ _ ?_ (by simp [g1])).mono ?_
  · refine (World.cell?_setCell_ne _ _ _ _ _ _ (.inr (by omega))).trans ?_
    rw [World.cell?_drew]; exact d1
  rintro e u' w'' ⟨rfl, rfl, rfl⟩
  simp only [Leaves, settle]
  refine ⟨.tuple #[], by simp [results, Tryz.results95], .tuple #[], .tup [], _, rfl, ?_, hI5, hEa.trans (hE2.trans (hE3.trans (hE4.trans hE5))), ?_, ?_⟩
  · simp [S.put]
  · unfold Rep RepL; exact ⟨#[], rfl, rfl⟩
  · simpa [S.put] using hRR

/-- '(*sync.Once).Do', not yet done. -/
theorem do_ok {σ : List Ent} {id ver : Nat} {cells : List AV} {R1 R : AV → List Ent → Prop} (hσ : σ[id]? = some (.arr 98 cells ver 0)) (h0 : cells[0]? = some (.v (.int .u32 0))) (h1 : cells[1]? = some (.v (.int .i32 0)))
    (inner : ABody 80 [.ref id ver 0] (σ.set id (.arr 98 (cells.set 1 (.v (.int .i32 1))) ver 0)) R1)
    (hR : ∀ r τ, R1 r τ → ∃ cells', τ[id]? = some (.arr 98 cells' ver 0) ∧ cells'[0]? = some (.v (.int .u32 0)) ∧ cells'[1]? = some (.v (.int .i32 1)) ∧
      R (.tup []) (τ.set id (.arr 98 ((cells'.set 0 (.v (.int .u32 1))).set 1 (.v (.int .i32 0))) ver 0))) :
    ACalls E 79 [.ref id ver 0, .fn 80 [.ref id ver 0] []] σ R := by
  refine .inl ⟨⟨_, Tryz.func79, by kernel_rfl, by kernel_rfl⟩, fun s vs hs hI hΓ hr => ?_⟩
  have hin := (slow_ok (R := fun r τ => r = .tup [] ∧ R (.tup []) τ) hσ h0 h1 inner (fun r τ h => let ⟨c, a1, a2, a3, a4⟩ := hR r τ h; ⟨c, a1, a2, a3, rfl, a4⟩)).2 s vs hs hI hΓ hr
  obtain ⟨p, fv, rfl, hp, hf⟩ := repL2 hr
  rw [← hs] at hσ
  obtain ⟨blk, ext, hb, rfl, hlen, hc, hfz⟩ := at_ref hI hσ hp
  obtain ⟨x0, c0, r0, _⟩ := hc 0 _ h0
  rw [cell_int r0] at c0
  have hnot : ∀ (x : Bool) (w : World), (Op.unary .not (.bool x)).run Tryz.prog w = .ok (.bool (!x)) w := fun _ _ => rfl
  change Calls Tryz.prog 95 _ _ _ at hin
  change Calls Tryz.prog 79 _ _ _
  go_enter Tryz.func79, Tryz.ntmps79
  go_wp2_with (first
    | (go_at_call 94; refine (load_at ⟨blk, 0, none⟩ 0 _ c0).mono ?_; rintro e w' ⟨rfl, rfl⟩)
    | (go_at_call 95; refine hin.mono ?_; rintro e w' ⟨v, r, s2, rfl, rfl, hI2, hE2, hv, rfl, hR2⟩))
  refine ⟨rfl, .tuple #[], by simp [results, Tryz.results79], .tuple #[], .tup [], s2, rfl, rfl, hI2, hE2, ?_, hR2⟩
  unfold Rep RepL; exact ⟨#[], rfl, rfl⟩
#print axioms do_ok
end Go.D

/- strings.NewReplacer of the three pairs of 'quote'. -/
set_option linter.unusedVariables false
set_option linter.unusedSimpArgs false
set_option maxRecDepth 100000
namespace Go.D
open Go Go.Vm Go.Proofs Go.RowKit

abbrev pairs : List AV := [.str [92], .str [92, 92], .str [10], .str [92, 110], .str [34], .str [92, 34]]
abbrev u32 (n : Int) : AV := .v (.int .u32 n)
abbrev i32 (n : Int) : AV := .v (.int .i32 n)

theorem newReplacer_ok (σ : List Ent) : ACalls E 55 [.sl pairs] σ fun r τ => r = .ref (σ.length + 1) 0 0 ∧ τ = σ ++ [.arr 9 pairs 0 0, .arr 98 [u32 0, i32 0, u32 0, .v .nilIface, .rsl σ.length 0 0 6 1] 0 0] := by
  refine xacalls T0 .stay [] Tryz.func55 rfl (by kernel_rfl) (by kernel_rfl) (by simp [Tryz.ntmps55]) ?_
  (simp only [show Int.tmod 6 2 = 0 from rfl, (vm1), (vm2), (vm3), (vm4), aDet, ev, tget, tput, ofC, ofC1, pureR, condR, abin, aun, alen, gslot, Nat.reduceEqDiff, reduceIte, argTs, asliceS, asliceL, bnd, boolV, intV, retQ, aRes, aResV, oneAV, AV.low, AV.low.lows, Nat.reduceAdd, isStringD, isSliceD, isBoolD, setRange, AV.cells, AV.isCell, AV.isAgg, abytes, aconv, aeq, isConst, isByteD, isIfaceD, endQ, Int.reduceToNat, Int.reduceLE, Int.reduceLT, Int.reduceEq, Int.reduceNe, Int.reduceAdd, Int.reduceSub, Int.reduceNeg, Nat.reduceLT, Nat.reduceLeDiff, Ent.ver, Ent.imm, Ent.ty, lits, isEl, newCells, aappend, Nat.reduceBEq, fill, undef, (st1), (st2), (st3), (st4), (st5)]; try simp (disch := omega) only [wrapI64, Int.toNat_natCast, ← Int.natCast_add, nat_add_one, nat_add_two, take_drop_all, List.drop_zero, Nat.sub_zero, Nat.add_sub_cancel_left])
  exact ⟨by intro e he; simp only [List.mem_cons, List.not_mem_nil, or_false] at he; rcases he with rfl | rfl | rfl | rfl | rfl | rfl <;> rfl, by decide, by decide⟩

/-- The cells of the table, behind k of the three pairs (the last one first). -/
def slot (l : List (Nat × List UInt8)) : List AV := l.foldl (fun cs p => cs.set p.1 (.sl (p.2.map byteAV))) (List.replicate 256 (.v (.slice none 0 0)))

theorem all_set {l : List AV} {i : Nat} {x : AV} {f : AV → Bool} (h : l.all f = true) (hx : f x = true) : (l.set i x).all f = true := by
  rw [List.all_eq_true] at h ⊢
  intro y hy
  rcases List.mem_or_eq_of_mem_set hy with hy | rfl
  · exact h y hy
  · exact hx

theorem setRange_at : ∀ (cs pre cells : List AV), cells.length = cs.length → setRange (pre ++ cells) pre.length cs = pre ++ cs
  | [], pre, cells, h => by obtain rfl : cells = [] := by simpa using h
                            rfl
  | c :: cs, pre, [], h => by simp at h
  | c :: cs, pre, d :: cells, h => by
    have := setRange_at cs (pre ++ [c]) cells (by simpa using h)
    unfold setRange
    rw [show (pre ++ d :: cells).set pre.length c = (pre ++ [c]) ++ cells by simp]
    simpa using this
theorem setRange_all {cells cs : List AV} (h : cells.length = cs.length) : setRange cells 0 cs = cs := by simpa using setRange_at cs [] cells h
theorem set_end (z x : AV) (n : Nat) : (List.replicate (n + 1) z).set n x = List.replicate n z ++ [x] := by
  rw [List.replicate_succ', List.set_append_right _ _ (by simp)]
  simp

def prs : List (Nat × List UInt8) := [(34, [92, 34]), (10, [92, 110]), (92, [92, 92])]
def reps : List AV := [.str [34], .str [10], .str [92]]
theorem slot_len : ∀ (l : List (Nat × List UInt8)) (cs : List AV), (l.foldl (fun cs p => cs.set p.1 (.sl (p.2.map byteAV))) cs).length = cs.length
  | [], cs => rfl
  | p :: l, cs => by rw [List.foldl_cons, slot_len l]; simp

def tb (k : Nat) : List AV := slot (prs.take k)
theorem tb_len (k : Nat) : (tb k).length = 256 := by unfold tb slot; rw [slot_len]; simp
theorem tb_get {k i : Nat} {x : AV} (hi : i < 256) (h : (tb k)[i]? = some x) (r : List AV) : (tb k ++ r)[i]? = some x := by rw [List.getElem?_append_left (by rw [tb_len]; exact hi), h]
theorem tb_set {k i : Nat} {x : AV} {cs : List AV} (hi : i < 256) (h : (tb k).set i x = cs) (r : List AV) : (tb k ++ r).set i x = cs ++ r := by rw [List.set_append_left _ _ (by rw [tb_len]; exact hi), h]
theorem tb_end (k : Nat) (x : AV) : (tb k ++ [x])[256]? = some x := by rw [List.getElem?_append_right (by rw [tb_len]; exact Nat.le_refl _), tb_len]; rfl
theorem tb_put (k : Nat) (x y : AV) : (tb k ++ [x]).set 256 y = tb k ++ [y] := by rw [List.set_append_right _ _ (by rw [tb_len]; exact Nat.le_refl _), tb_len]; rfl
theorem tb_0_34 : (tb 0)[34]? = some (.v (.slice none 0 0)) := by rfl
theorem tb_1_10 : (tb 1)[10]? = some (.v (.slice none 0 0)) := by rfl
theorem tb_2_92 : (tb 2)[92]? = some (.v (.slice none 0 0)) := by rfl
theorem tb_s0 : (tb 0).set 34 (.sl [byteAV 92, byteAV 34]) = tb 1 := by rfl
theorem tb_s1 : (tb 1).set 10 (.sl [byteAV 92, byteAV 110]) = tb 2 := by rfl
theorem tb_s2 : (tb 2).set 92 (.sl [byteAV 92, byteAV 92]) = tb 3 := by rfl

theorem build_ok (σ : List Ent) (id n : Nat) (hn : σ[n]? = some (.arr 9 pairs 0 0)) (c0 c1 c2 c3 : AV) (h : σ[id]? = some (.arr 98 [c0, c1, c2, c3, .rsl n 0 0 6 1] 0 0)) :
    ACalls E 96 [.ref id 0 0] σ fun r τ => r = .ifc 148 (.ref (σ.length + 1) 0 0) ∧
      τ = σ ++ [.arr 9 [.str [34], .str [10], .str [92]] 3 0, .arr 147 (tb 3 ++ [.rsl σ.length 3 0 3 1]) 0 0] := by
  have hid' := lt_of_get h
  have hs : ∀ l, sget σ l id = some (.arr 98 [c0, c1, c2, c3, .rsl n 0 0 6 1] 0 0) := fun l => by unfold sget; rw [if_pos hid', h]
  have hs2 : ∀ l, sget σ l n = some (.arr 9 pairs 0 0) := fun l => by unfold sget; rw [if_pos (lt_of_get hn), hn]
  refine xacalls T0 .stay [] Tryz.func96 rfl (by kernel_rfl) (by kernel_rfl) (by simp [Tryz.ntmps96]) ?_
  (simp only [hs, hs2, (vm1), (vm2), (vm3), (vm4), aDet, ev, tget, tput, ofC, ofC1, pureR, condR, abin, aun, alen, gslot, Nat.reduceEqDiff, reduceIte, argTs, asliceS, asliceL, bnd, boolV, intV, retQ, aRes, aResV, oneAV, AV.low, AV.low.lows, Nat.reduceAdd, isStringD, isSliceD, isBoolD, setRange, AV.cells, AV.isCell, AV.isAgg, abytes, aconv, aeq, isConst, isByteD, isIfaceD, endQ, Int.reduceToNat, Int.reduceLE, Int.reduceLT, Int.reduceEq, Int.reduceNe, Int.reduceAdd, Int.reduceSub, Int.reduceNeg, Nat.reduceLT, Nat.reduceLeDiff, Ent.ver, Ent.imm, Ent.ty, lits, isEl, newCells, aappend, Nat.reduceBEq, fill, undef, (st1), (st2), (st3), (st4), (st5)]; try simp (disch := omega) only [wrapI64, Int.toNat_natCast, ← Int.natCast_add, nat_add_one, nat_add_two, take_drop_all, List.drop_zero, Nat.sub_zero, Nat.add_sub_cancel_left])
  refine xloop (α := Int × Bool) T0 (fun x => [(5, i64 x.1), (4, boolV x.2), (3, .rsl n 0 0 6 1), (2, .v .nilIface), (0, .ref id 0 0)]) (fun _ => σ) (fun _ => []) (fun x => x ∈ [((0 : Int), true), (2, false), (4, false), (6, false)]) (fun x => (6 - x.1).toNat) (by kernel_rfl)
    ⟨(0, true), by simp, by (simp only [(vm1), (vm2), (vm3), (vm4), aDet, ev, tget, tput, ofC, ofC1, pureR, condR, abin, aun, alen, gslot, Nat.reduceEqDiff, reduceIte, argTs, asliceS, asliceL, bnd, boolV, intV, retQ, aRes, aResV, oneAV, AV.low, AV.low.lows, Nat.reduceAdd, isStringD, isSliceD, isBoolD, setRange, AV.cells, AV.isCell, AV.isAgg, abytes, aconv, aeq, isConst, isByteD, isIfaceD, endQ, Int.reduceToNat, Int.reduceLE, Int.reduceLT, Int.reduceEq, Int.reduceNe, Int.reduceAdd, Int.reduceSub, Int.reduceNeg, Nat.reduceLT, Nat.reduceLeDiff, Ent.ver, Ent.imm, Ent.ty, lits, isEl, newCells, aappend, Nat.reduceBEq, fill, undef, (st1), (st2), (st3), (st4), (st5)]; try simp (disch := omega) only [wrapI64, Int.toNat_natCast, ← Int.natCast_add, nat_add_one, nat_add_two, take_drop_all, List.drop_zero, Nat.sub_zero, Nat.add_sub_cancel_left]), rfl, rfl⟩ ?_
  rintro ⟨i, b⟩ hx
  simp only [List.mem_cons, Prod.mk.injEq, List.not_mem_nil, or_false] at hx
  rcases hx with ⟨rfl, rfl⟩ | ⟨rfl, rfl⟩ | ⟨rfl, rfl⟩ | ⟨rfl, rfl⟩
  · (simp only [hs, hs2, wrapI64, (vm1), (vm2), (vm3), (vm4), aDet, ev, tget, tput, ofC, ofC1, pureR, condR, abin, aun, alen, gslot, Nat.reduceEqDiff, reduceIte, argTs, asliceS, asliceL, bnd, boolV, intV, retQ, aRes, aResV, oneAV, AV.low, AV.low.lows, Nat.reduceAdd, isStringD, isSliceD, isBoolD, setRange, AV.cells, AV.isCell, AV.isAgg, abytes, aconv, aeq, isConst, isByteD, isIfaceD, endQ, Int.reduceToNat, Int.reduceLE, Int.reduceLT, Int.reduceEq, Int.reduceNe, Int.reduceAdd, Int.reduceSub, Int.reduceNeg, Nat.reduceLT, Nat.reduceLeDiff, Ent.ver, Ent.imm, Ent.ty, lits, isEl, newCells, aappend, Nat.reduceBEq, fill, undef, (st1), (st2), (st3), (st4), (st5)]; try simp (disch := omega) only [wrapI64, Int.toNat_natCast, ← Int.natCast_add, nat_add_one, nat_add_two, take_drop_all, List.drop_zero, Nat.sub_zero, Nat.add_sub_cancel_left])
    exact ⟨(2, false), by simp, by decide, rfl, rfl⟩
  · (simp only [hs, hs2, wrapI64, (vm1), (vm2), (vm3), (vm4), aDet, ev, tget, tput, ofC, ofC1, pureR, condR, abin, aun, alen, gslot, Nat.reduceEqDiff, reduceIte, argTs, asliceS, asliceL, bnd, boolV, intV, retQ, aRes, aResV, oneAV, AV.low, AV.low.lows, Nat.reduceAdd, isStringD, isSliceD, isBoolD, setRange, AV.cells, AV.isCell, AV.isAgg, abytes, aconv, aeq, isConst, isByteD, isIfaceD, endQ, Int.reduceToNat, Int.reduceLE, Int.reduceLT, Int.reduceEq, Int.reduceNe, Int.reduceAdd, Int.reduceSub, Int.reduceNeg, Nat.reduceLT, Nat.reduceLeDiff, Ent.ver, Ent.imm, Ent.ty, lits, isEl, newCells, aappend, Nat.reduceBEq, fill, undef, (st1), (st2), (st3), (st4), (st5)]; try simp (disch := omega) only [wrapI64, Int.toNat_natCast, ← Int.natCast_add, nat_add_one, nat_add_two, take_drop_all, List.drop_zero, Nat.sub_zero, Nat.add_sub_cancel_left])
    exact ⟨(4, false), by simp, by decide, rfl, rfl⟩
  · (simp only [hs, hs2, wrapI64, (vm1), (vm2), (vm3), (vm4), aDet, ev, tget, tput, ofC, ofC1, pureR, condR, abin, aun, alen, gslot, Nat.reduceEqDiff, reduceIte, argTs, asliceS, asliceL, bnd, boolV, intV, retQ, aRes, aResV, oneAV, AV.low, AV.low.lows, Nat.reduceAdd, isStringD, isSliceD, isBoolD, setRange, AV.cells, AV.isCell, AV.isAgg, abytes, aconv, aeq, isConst, isByteD, isIfaceD, endQ, Int.reduceToNat, Int.reduceLE, Int.reduceLT, Int.reduceEq, Int.reduceNe, Int.reduceAdd, Int.reduceSub, Int.reduceNeg, Nat.reduceLT, Nat.reduceLeDiff, Ent.ver, Ent.imm, Ent.ty, lits, isEl, newCells, aappend, Nat.reduceBEq, fill, undef, (st1), (st2), (st3), (st4), (st5)]; try simp (disch := omega) only [wrapI64, Int.toNat_natCast, ← Int.natCast_add, nat_add_one, nat_add_two, take_drop_all, List.drop_zero, Nat.sub_zero, Nat.add_sub_cancel_left])
    exact ⟨(6, false), by simp, by decide, rfl, rfl⟩
  (simp only [hs, hs2, show IntKind.i64.wrap (Int.tdiv 6 2) = 3 from rfl, tab_147, tab_145, List.length_replicate, List.length_set, List.all_replicate, all_set, wrapI64, (vm1), (vm2), (vm3), (vm4), aDet, ev, tget, tput, ofC, ofC1, pureR, condR, abin, aun, alen, gslot, Nat.reduceEqDiff, reduceIte, argTs, asliceS, asliceL, bnd, boolV, intV, retQ, aRes, aResV, oneAV, AV.low, AV.low.lows, Nat.reduceAdd, isStringD, isSliceD, isBoolD, setRange, AV.cells, AV.isCell, AV.isAgg, abytes, aconv, aeq, isConst, isByteD, isIfaceD, endQ, Int.reduceToNat, Int.reduceLE, Int.reduceLT, Int.reduceEq, Int.reduceNe, Int.reduceAdd, Int.reduceSub, Int.reduceNeg, Nat.reduceLT, Nat.reduceLeDiff, Ent.ver, Ent.imm, Ent.ty, lits, isEl, newCells, aappend, Nat.reduceBEq, fill, undef, (st1), (st2), (st3), (st4), (st5)]; try simp (disch := omega) only [wrapI64, Int.toNat_natCast, ← Int.natCast_add, nat_add_one, nat_add_two, take_drop_all, List.drop_zero, Nat.sub_zero, Nat.add_sub_cancel_left])
  refine ⟨by decide, ?_⟩
  rw [setRange_all (by simp), show (257 : Nat) = 256 + 1 from rfl, set_end, show List.replicate 256 (AV.v (.slice none 0 0)) = tb 0 from rfl]
  refine xloop (α := Nat) T0 (fun k => [(12, i64 (4 - 2 * (k : Int))), (11, .ref (σ.length + 1) 0 0), (3, .rsl n 0 0 6 1), (2, .v .nilIface), (0, .ref id 0 0)]) (fun _ => σ)
    (fun k => [.arr 9 (reps.take k) k 0, .arr 147 (tb k ++ [.rsl σ.length k 0 k 1]) 0 0]) (fun k => k ≤ 3) (fun k => 3 - k) (by kernel_rfl)
    ⟨0, by simp, by (simp only [(vm1), (vm2), (vm3), (vm4), aDet, ev, tget, tput, ofC, ofC1, pureR, condR, abin, aun, alen, gslot, Nat.reduceEqDiff, reduceIte, argTs, asliceS, asliceL, bnd, boolV, intV, retQ, aRes, aResV, oneAV, AV.low, AV.low.lows, Nat.reduceAdd, isStringD, isSliceD, isBoolD, setRange, AV.cells, AV.isCell, AV.isAgg, abytes, aconv, aeq, isConst, isByteD, isIfaceD, endQ, Int.reduceToNat, Int.reduceLE, Int.reduceLT, Int.reduceEq, Int.reduceNe, Int.reduceAdd, Int.reduceSub, Int.reduceNeg, Nat.reduceLT, Nat.reduceLeDiff, Ent.ver, Ent.imm, Ent.ty, lits, isEl, newCells, aappend, Nat.reduceBEq, fill, undef, (st1), (st2), (st3), (st4), (st5), Int.natCast_zero, Int.reduceMul]; try simp (disch := omega) only [wrapI64, Int.toNat_natCast, ← Int.natCast_add, nat_add_one, nat_add_two, take_drop_all, List.drop_zero, Nat.sub_zero, Nat.add_sub_cancel_left]), rfl, rfl⟩ ?_
  intro k hk
  have h3 : k = 0 ∨ k = 1 ∨ k = 2 ∨ k = 3 := by omega
  rcases h3 with rfl | rfl | rfl | rfl
  · simp only [hs, hs2, Int.natCast_zero, Int.reduceMul, wrapI64, tab_147, tab_145, tb_end, tb_put, tb_get (by decide) tb_0_34, show (([34] : List UInt8).getD 0 0).toNat = 34 from rfl, show avBytes [.v (.int .u8 34)] = some [34] from rfl, Option.map_some, Option.bind_some, List.map_cons, List.map_nil, tb_set (by decide) tb_s0, (vm1), (vm2), (vm3), (vm4), aDet, ev, tget, tput, ofC, ofC1, pureR, condR, abin, aun, alen, gslot, Nat.reduceEqDiff, reduceIte, argTs, asliceS, asliceL, bnd, boolV, intV, retQ, aRes, aResV, oneAV, AV.low, AV.low.lows, Nat.reduceAdd, isStringD, isSliceD, isBoolD, setRange, AV.cells, AV.isCell, AV.isAgg, abytes, aconv, aeq, isConst, isByteD, isIfaceD, endQ, Int.reduceToNat, Int.reduceLE, Int.reduceLT, Int.reduceEq, Int.reduceNe, Int.reduceAdd, Int.reduceSub, Int.reduceNeg, Nat.reduceLT, Nat.reduceLeDiff, Ent.ver, Ent.imm, Ent.ty, lits, isEl, newCells, aappend, Nat.reduceBEq, fill, undef, (st1), (st2), (st3), (st4), (st5)]
    exact ⟨by decide, by rw [tb_len]; decide, by rw [tb_len]; decide, 1, by decide, by decide, rfl, rfl⟩
  · simp only [hs, hs2, Int.natCast_one, Int.reduceMul, wrapI64, tab_147, tab_145, tb_end, tb_put, tb_get (by decide) tb_1_10, show (([10] : List UInt8).getD 0 0).toNat = 10 from rfl, show avBytes [.v (.int .u8 10)] = some [10] from rfl, Option.map_some, Option.bind_some, List.map_cons, List.map_nil, tb_set (by decide) tb_s1, (vm1), (vm2), (vm3), (vm4), aDet, ev, tget, tput, ofC, ofC1, pureR, condR, abin, aun, alen, gslot, Nat.reduceEqDiff, reduceIte, argTs, asliceS, asliceL, bnd, boolV, intV, retQ, aRes, aResV, oneAV, AV.low, AV.low.lows, Nat.reduceAdd, isStringD, isSliceD, isBoolD, setRange, AV.cells, AV.isCell, AV.isAgg, abytes, aconv, aeq, isConst, isByteD, isIfaceD, endQ, Int.reduceToNat, Int.reduceLE, Int.reduceLT, Int.reduceEq, Int.reduceNe, Int.reduceAdd, Int.reduceSub, Int.reduceNeg, Nat.reduceLT, Nat.reduceLeDiff, Ent.ver, Ent.imm, Ent.ty, lits, isEl, newCells, aappend, Nat.reduceBEq, fill, undef, (st1), (st2), (st3), (st4), (st5)]
    exact ⟨by decide, by rw [tb_len]; decide, by rw [tb_len]; decide, 2, by decide, by decide, rfl, rfl⟩
  · simp only [hs, hs2, Int.cast_ofNat_Int, Int.reduceMul, wrapI64, tab_147, tab_145, tb_end, tb_put, tb_get (by decide) tb_2_92, show (([92] : List UInt8).getD 0 0).toNat = 92 from rfl, show avBytes [.v (.int .u8 92)] = some [92] from rfl, Option.map_some, Option.bind_some, List.map_cons, List.map_nil, tb_set (by decide) tb_s2, (vm1), (vm2), (vm3), (vm4), aDet, ev, tget, tput, ofC, ofC1, pureR, condR, abin, aun, alen, gslot, Nat.reduceEqDiff, reduceIte, argTs, asliceS, asliceL, bnd, boolV, intV, retQ, aRes, aResV, oneAV, AV.low, AV.low.lows, Nat.reduceAdd, isStringD, isSliceD, isBoolD, setRange, AV.cells, AV.isCell, AV.isAgg, abytes, aconv, aeq, isConst, isByteD, isIfaceD, endQ, Int.reduceToNat, Int.reduceLE, Int.reduceLT, Int.reduceEq, Int.reduceNe, Int.reduceAdd, Int.reduceSub, Int.reduceNeg, Nat.reduceLT, Nat.reduceLeDiff, Ent.ver, Ent.imm, Ent.ty, lits, isEl, newCells, aappend, Nat.reduceBEq, fill, undef, (st1), (st2), (st3), (st4), (st5)]
    exact ⟨by decide, by rw [tb_len]; decide, by rw [tb_len]; decide, 3, by decide, by decide, rfl, rfl⟩
  · (simp only [Int.cast_ofNat_Int, Int.reduceMul, wrapI64, (vm1), (vm2), (vm3), (vm4), aDet, ev, tget, tput, ofC, ofC1, pureR, condR, abin, aun, alen, gslot, Nat.reduceEqDiff, reduceIte, argTs, asliceS, asliceL, bnd, boolV, intV, retQ, aRes, aResV, oneAV, AV.low, AV.low.lows, Nat.reduceAdd, isStringD, isSliceD, isBoolD, setRange, AV.cells, AV.isCell, AV.isAgg, abytes, aconv, aeq, isConst, isByteD, isIfaceD, endQ, Int.reduceToNat, Int.reduceLE, Int.reduceLT, Int.reduceEq, Int.reduceNe, Int.reduceAdd, Int.reduceSub, Int.reduceNeg, Nat.reduceLT, Nat.reduceLeDiff, Ent.ver, Ent.imm, Ent.ty, lits, isEl, newCells, aappend, Nat.reduceBEq, fill, undef, (st1), (st2), (st3), (st4), (st5)]; try simp (disch := omega) only [wrapI64, Int.toNat_natCast, ← Int.natCast_add, nat_add_one, nat_add_two, take_drop_all, List.drop_zero, Nat.sub_zero, Nat.add_sub_cancel_left])
    rfl

/-- The Replacer, made: one of its own entries is the machine. -/
theorem buildOnce_ok (σ : List Ent) (id n : Nat) (hn : σ[n]? = some (.arr 9 pairs 0 0)) (c0 c1 c2 c3 : AV) (h : σ[id]? = some (.arr 98 [c0, c1, c2, c3, .rsl n 0 0 6 1] 0 0)) :
    ABody 80 [.ref id 0 0] σ fun r τ => r = .tup [] ∧ τ = σ.set id (.arr 98 [c0, c1, c2, .ifc 148 (.ref (σ.length + 1) 0 0), .v (.slice none 0 0)] 0 0) ++
      [.arr 9 [.str [34], .str [10], .str [92]] 3 0, .arr 147 (tb 3 ++ [.rsl σ.length 3 0 3 1]) 0 0] := by
  have hid' := lt_of_get h
  refine abody .stay [] Tryz.func80 rfl (by kernel_rfl) (by kernel_rfl) (by simp [Tryz.ntmps80]) ?_
  (simp only [(vm1), (vm2), (vm3), (vm4), aDet, ev, tget, tput, ofC, ofC1, pureR, condR, abin, aun, alen, gslot, Nat.reduceEqDiff, reduceIte, argTs, asliceS, asliceL, bnd, boolV, intV, retQ, aRes, aResV, oneAV, AV.low, AV.low.lows, Nat.reduceAdd, isStringD, isSliceD, isBoolD, setRange, AV.cells, AV.isCell, AV.isAgg, abytes, aconv, aeq, isConst, isByteD, isIfaceD, endQ, Int.reduceToNat, Int.reduceLE, Int.reduceLT, Int.reduceEq, Int.reduceNe, Int.reduceAdd, Int.reduceSub, Int.reduceNeg, Nat.reduceLT, Nat.reduceLeDiff, Ent.ver, Ent.imm, Ent.ty, lits, isEl, newCells, aappend, Nat.reduceBEq, fill, undef, (st1), (st2), (st3), (st4), (st5)]; try simp (disch := omega) only [wrapI64, Int.toNat_natCast, ← Int.natCast_add, nat_add_one, nat_add_two, take_drop_all, List.drop_zero, Nat.sub_zero, Nat.add_sub_cancel_left])
  refine xWait.go (build_ok σ id n hn c0 c1 c2 c3 h) ?_
  have hs : ∀ l, sget σ l id = some (.arr 98 [c0, c1, c2, c3, .rsl n 0 0 6 1] 0 0) := fun l => by unfold sget; rw [if_pos hid', h]
  have hG : ∀ e, ssetG σ id e = σ.set id e := fun e => by unfold ssetG; rw [if_pos hid']
  have hL : ∀ l e, ssetL σ l id e = l := fun l e => by unfold ssetL; rw [if_pos hid']
  have hG2 : ∀ e e', ssetG (σ.set id e) id e' = σ.set id e' := fun e e' => by unfold ssetG; rw [if_pos (by simpa using hid'), List.set_set]
  have hL2 : ∀ l e e', ssetL (σ.set id e) l id e' = l := fun l e e' => by unfold ssetL; rw [if_pos (by simpa using hid')]
  have hs2 : ∀ l e, sget (σ.set id e) l id = some e := fun l e => by unfold sget; rw [if_pos (by simpa using hid')]; simp [hid']
  (simp only [hs, hG, hL, hG2, hL2, hs2, (vm1), (vm2), (vm3), (vm4), aDet, ev, tget, tput, ofC, ofC1, pureR, condR, abin, aun, alen, gslot, Nat.reduceEqDiff, reduceIte, argTs, asliceS, asliceL, bnd, boolV, intV, retQ, aRes, aResV, oneAV, AV.low, AV.low.lows, Nat.reduceAdd, isStringD, isSliceD, isBoolD, setRange, AV.cells, AV.isCell, AV.isAgg, abytes, aconv, aeq, isConst, isByteD, isIfaceD, endQ, Int.reduceToNat, Int.reduceLE, Int.reduceLT, Int.reduceEq, Int.reduceNe, Int.reduceAdd, Int.reduceSub, Int.reduceNeg, Nat.reduceLT, Nat.reduceLeDiff, Ent.ver, Ent.imm, Ent.ty, lits, isEl, newCells, aappend, Nat.reduceBEq, fill, undef, (st1), (st2), (st3), (st4), (st5)]; try simp (disch := omega) only [wrapI64, Int.toNat_natCast, ← Int.natCast_add, nat_add_one, nat_add_two, take_drop_all, List.drop_zero, Nat.sub_zero, Nat.add_sub_cancel_left])

/-- The table of a 'quote's Replacer. -/
abbrev quoteTab (n : Nat) : List Ent := [.arr 9 [.str [34], .str [10], .str [92]] 3 0, .arr 147 (tb 3 ++ [.rsl n 3 0 3 1]) 0 0]
end Go.D
