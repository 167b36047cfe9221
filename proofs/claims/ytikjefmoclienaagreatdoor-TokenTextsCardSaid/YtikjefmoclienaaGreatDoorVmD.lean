/- Bytes and texts, nil, pointers turned and held against each other, a text made of a row of bytes. -/
import Derived.Test.YtikjefmoclienaaGreatDoorVmC
import Derived.Lib.Builder
import Derived.Lib.UnsafeStr
import Derived.Laws.BytesString
import Derived.Laws.MakeOwn
import Derived.Laws.IdiomStrings
import Derived.Laws.AppendOwn
import Derived.Defers
import Derived.LoopN
set_option linter.unusedVariables false
set_option linter.unusedSimpArgs false
set_option linter.unusedSectionVars false
namespace Go.Vm
open Go.RowKit

theorem avBytes_spec : ∀ {cs : List AV} {b : List UInt8}, avBytes cs = some b → cs = (b.map fun x => (x.toNat : Int)).map fun n => .v (.int .u8 n)
  | [], b, h => by simp only [avBytes, Option.some.injEq] at h; subst h; rfl
  | c :: cs, b, h => by
    simp only [avBytes, Option.bind_eq_some_iff, Option.map_eq_some_iff] at h
    obtain ⟨x, hx, bs, hb, rfl⟩ := h
    have ih := avBytes_spec hb
    unfold avByte at hx
    split at hx
    · rename_i n
      split at hx
      · rename_i hn
        cases hx
        have : ((UInt8.ofNat n.toNat).toNat : Int) = n := by simp; omega
        simp only [List.map_cons, this, ← ih]
      · cases hx
    · cases hx
theorem avBytes_len {cs : List AV} {b : List UInt8} (h : avBytes cs = some b) : b.length = cs.length := by
  rw [avBytes_spec h]; simp

theorem repL_ints {s : S} : ∀ {ns : List Int} {vs : List Value}, RepL s (ns.map fun n => .v (.int .u8 n)) vs → vs = ns.map (Value.int .u8)
  | [], vs, h => by unfold RepL at h; exact h
  | n :: ns, vs, h => by
    simp only [List.map_cons] at h
    unfold RepL at h
    obtain ⟨v, vs', rfl, h1, h2⟩ := h
    unfold Rep at h1
    subst h1
    simp [repL_ints h2]

theorem fold_push : ∀ (ns : List Int) (A : ByteArray), ns.foldl (fun r n => r.push (UInt8.ofNat n.toNat)) A = ⟨A.data ++ (ns.map fun n => UInt8.ofNat n.toNat).toArray⟩
  | [], A => by simp
  | n :: ns, A => by
    rw [List.foldl_cons, fold_push ns]
    apply ByteArray.ext
    simp [ByteArray.push]

theorem isByteD_spec {d : TypeDesc} (h : isByteD d = true) : d = .int .u8 := by
  unfold isByteD at h; split at h <;> first | rfl | cases h

section
variable {E : Env} {T : Nat → TI} (hT : TabOK E.P T) {s : S} {a : Act} {ts : Ts} {g l : List Ent} (hs : s.σ = g ++ l) (hI : HInv s) (ht : TsRep s ts a)
include hT hs hI ht

/-- A row's slice, as long as nothing was moved. -/
theorem rsl_at {x : Operand} {id ver off n sz : Nat} (hx : ev ts x = .rsl id ver off n sz) {e : Ent} (he : s.σ[id]? = some e) (hver : ver = e.ver) (hn : 0 < n) :
    ∃ b cap, s.β[id]? = some b ∧ a.eval x = .slice (some ⟨b.blk, b.off + off, none⟩) n cap ∧ n ≤ cap ∧ off + cap * sz = b.ext := by
  have h := ev_rep ht x
  rw [hx] at h
  unfold Rep at h
  obtain ⟨e', b, he', hb, _, ab, ao, cap, hh, hadd⟩ := h
  rw [he] at he'; cases he'
  obtain ⟨h1, h2, h3⟩ := hadd hver
  obtain ⟨rfl, rfl⟩ := h1 (by omega)
  exact ⟨b, cap, hb, hh, h2, h3⟩

theorem abytes_run {x : Operand} {p : Prop} {b : List UInt8} (h : abytes g l (ev ts x) = some (p, b)) (hp : p) :
    (∃ ad n c, a.eval x = .slice ad n c) ∧ (Conv.bytesToString (a.eval x)).run E.P s.w = .ok (.string ⟨⟨b⟩⟩) s.w := by
  unfold abytes at h
  split at h
  · rename_i hx
    simp only [Option.some.injEq, Prod.mk.injEq] at h
    obtain ⟨rfl, rfl⟩ := h
    have := rep_v hs hI ht hx
    rw [this]
    exact ⟨⟨_, _, _, rfl⟩, rfl⟩
  · rename_i es hx
    simp only [Option.map_eq_some_iff, Prod.mk.injEq] at h
    obtain ⟨b', hb, rfl, rfl⟩ := h
    have hns := avBytes_spec hb
    generalize hnsd : (b'.map fun x => (x.toNat : Int)) = ns at hns
    subst hns
    have hr := ev_rep ht x
    rw [hx] at hr
    unfold Rep at hr
    obtain ⟨ad, cap, hv, hcap, hh⟩ := hr
    rw [hv]
    refine ⟨⟨_, _, _, rfl⟩, ?_⟩
    rcases hh with hh | ⟨blk, off, k, rfl, hk, hrow⟩
    · have : ns = [] := by simpa using hh
      subst this
      have hb0 : b' = [] := by simpa using hnsd
      subst hb0
      cases ad with
      | none => rfl
      | some ad =>
        have := run_bytesToString (P := E.P) s.w ad 0 cap [] (by simp [loadCells, loadCellsFrom])
        exact this
    · have hk1 : ns ≠ [] → k = 1 := by
        intro hne
        cases ns with
        | nil => exact absurd rfl hne
        | cons n ns =>
          obtain ⟨y, h1, _⟩ := hrow.get (i := 0) rfl
          exact h1.cell.1
      have hl := run_loadCells_at E.P s.w blk off (ns.map (Value.int .u8)) fun j v hj => by
        have hj' : (ns.map fun n => AV.v (.int .u8 n))[j]? = some (.v v) := by
          simp only [List.getElem?_map, Option.map_eq_some_iff] at hj ⊢
          obtain ⟨n, hn, rfl⟩ := hj
          exact ⟨n, hn, rfl⟩
        obtain ⟨y, h1, h2⟩ := hrow.get hj'
        have h3 := h1.cell
        unfold Rep at h2
        subst h2
        obtain ⟨rfl, h4, _⟩ := h3
        simpa using h4
      have := run_bytesToString (P := E.P) s.w ⟨blk, off, none⟩ (ns.map fun n => AV.v (.int .u8 n)).length cap ns (by simpa using hl)
      rw [this, fold_push]
      subst hnsd
      simp [Function.comp_def]
  · rename_i id ver off n sz hx
    split at h
    · rename_i ty cells ver' imm he
      rw [sget_eq, ← hs] at he
      simp only [Option.map_eq_some_iff, Prod.mk.injEq] at h
      obtain ⟨b', hb, rfl, rfl⟩ := h
      obtain ⟨hver, rfl, hle, hn⟩ := hp
      obtain ⟨sb, cap, hsb, hv, _, _⟩ := rsl_at hT hs hI ht hx he hver hn
      obtain ⟨_, _, _, hc⟩ := arr_at hT hs hI ht he hsb
      have hns := avBytes_spec hb
      generalize hnsd : (b'.map fun x => (x.toNat : Int)) = ns at hns
      rw [hv]
      refine ⟨⟨_, _, _, rfl⟩, ?_⟩
      have hlen : ns.length = n := by have := congrArg List.length hns; simp at this; omega
      have hl := run_loadCells_at E.P s.w sb.blk (sb.off + off) (ns.map (Value.int .u8)) fun j v hj => by
        have hj' : ((cells.drop off).take n)[j]? = some (.v v) := by
          rw [hns]
          simp only [List.getElem?_map, Option.map_eq_some_iff] at hj ⊢
          obtain ⟨n, hn, rfl⟩ := hj
          exact ⟨n, hn, rfl⟩
        rw [List.getElem?_take] at hj'
        split at hj'
        · rw [List.getElem?_drop] at hj'
          obtain ⟨y, h2, h3, _⟩ := hc _ _ hj'
          unfold Rep at h3
          subst h3
          rwa [← Nat.add_assoc] at h2
        · cases hj'
      have := run_bytesToString (P := E.P) s.w ⟨sb.blk, sb.off + off, none⟩ n cap ns (by simpa [hlen] using hl)
      rw [this, fold_push]
      subst hnsd
      simp [Function.comp_def]
    · cases h
  · cases h

theorem st_convert {o : Oper} {src dst : TypeId} {x : Operand} (ho : o.op = .convert src dst x) (h1 : (T src).ok = true) (h2 : (T dst).ok = true) {p : Prop} {r : AV} {g' l' : List Ent}
    (h : aconv T g l (T src).desc (T dst).desc (ev ts x) = some (p, r, g', l')) (hp : p) : StepOK E o s a g r g' l' := by
  unfold aconv at h
  have hu := (hT src h1).und
  have hv := (hT dst h2).und
  split at h
  · rename_i k j n hd hx
    simp only [pureR, Option.some.injEq, Prod.mk.injEq] at h; obtain ⟨rfl, rfl, rfl, rfl⟩ := h
    exact st_convert_int hT hs hI ht ho h1 h2 hd hx
  · rename_i m hsd hd hx
    simp only [pureR, Option.some.injEq, Prod.mk.injEq] at h; obtain ⟨rfl, rfl, rfl, rfl⟩ := h
    exact st_convert_str hT hs hI ht ho h1 h2 hsd hd hx
  · rename_i e hsd hd
    split at h
    · rename_i hc
      simp only [Bool.and_eq_true] at hc
      have he := (hT e hc.1).und
      rw [isByteD_spec hc.2] at he
      simp only [Option.bind_eq_some_iff] at h
      obtain ⟨⟨q, b⟩, hb, hh⟩ := h
      simp only [condR, Option.some.injEq, Prod.mk.injEq] at hh; obtain ⟨rfl, rfl, rfl, rfl⟩ := hh
      obtain ⟨⟨ad, n, c, hsl⟩, hrun⟩ := abytes_run hT hs hI ht hb hp
      rw [hsd] at hu; rw [hd] at hv
      refine .pure hs hI (v := .string ⟨⟨b⟩⟩) ?_ (by unfold Rep; rfl)
      rw [hsl] at hrun
      have hconv := run_convert_bytes_string (P := E.P) s.w src dst e ad n c hu he hv
      simp only [execOp, ho, hsl]
      exact run_v (hconv.trans hrun)
    · cases h
  · rename_i t id ver off hsd hd hx
    split at h
    · rename_i ty cells ver' imm he
      split at h
      · rename_i hc
        simp only [Bool.and_eq_true, decide_eq_true_eq] at hc
        simp only [condR, Option.some.injEq, Prod.mk.injEq] at h; obtain ⟨rfl, rfl, rfl, rfl⟩ := h
        rw [sget_eq, ← hs] at he
        obtain ⟨inf, z, hinf, hsz, _⟩ := (hT t hc.1).info
        obtain ⟨b, hb, hxa⟩ := ref_at hT hs hI ht hx he hp.1
        obtain ⟨hcl, _⟩ := arr_at hT hs hI ht he hb
        have hsO := hI.shape id _ b he hb rfl
        have hoff := hsO.1
        have hsh := hsO.shape
        rw [hsd] at hu; rw [hd] at hv
        have hr := ev_rep ht x
        refine .pure hs hI (v := a.eval x) ?_ (by rw [← hx]; exact hr)
        have := Lib.run_to_unsafe (P := E.P) s.w ⟨b.blk, b.off + off, none⟩ hu hv hinf (by omega) hsh (by have := hp.2; simp only; omega)
        simp only [execOp, ho, hxa]
        exact run_v this
      · cases h
    · cases h
  · rename_i t id ver off hsd hd hx
    split at h
    · rename_i ty cells ver' imm he
      split at h
      · rename_i hc
        simp only [Bool.and_eq_true, decide_eq_true_eq] at hc
        simp only [condR, Option.some.injEq, Prod.mk.injEq] at h; obtain ⟨rfl, rfl, rfl, rfl⟩ := h
        rw [sget_eq, ← hs] at he
        obtain ⟨hver, rfl, rfl, hsl⟩ := hp
        obtain ⟨inf, z, hinf, hsz, _⟩ := (hT ty hc.1).info
        obtain ⟨b, hb, hxa⟩ := ref_at hT hs hI ht hx he hver
        obtain ⟨hcl, _⟩ := arr_at hT hs hI ht he hb
        have hsO := hI.shape id _ b he hb rfl
        have hoff := hsO.1
        have hsh := hsO.shape
        simp only [Ent.ty] at hsh
        rw [hsd] at hu; rw [hd] at hv
        have hr := ev_rep ht x
        have hco : E.P.cellsOf ty = inf.size := by simp [Program.cellsOf, hinf]
        have hlies : liesAt E.P E.P.depth ty ((b.off + b.ext) / E.P.cellsOf ty) 0 ty 1 = true := by
          have hdep : E.P.depth = (2 * (E.P.types.size + Made.depth) + 1) + 1 := rfl
          have h1 : 1 ≤ (b.off + b.ext) / inf.size := by
            rw [Nat.le_div_iff_mul_le (by omega)]; omega
          have h0 : inf.size ≠ 0 := by omega
          rw [hdep]
          simp only [liesAt, Bool.or_eq_true]
          left
          rw [hdep]
          simp [rowAt, hco, h0, h1, sameLayout]
        refine .pure hs hI (v := a.eval x) ?_ (by rw [← hx]; exact hr)
        have := Lib.run_from_unsafe (P := E.P) s.w ⟨b.blk, b.off + 0, none⟩ hu hv hinf hsh (by rw [hoff] at *; exact hlies)
        simp only [execOp, ho, hxa]
        exact run_v this
      · cases h
    · cases h
  · cases h
end
end Go.Vm

/- Nil and pointers compared; a text made of a row of bytes. -/
set_option linter.unusedVariables false
set_option linter.unusedSimpArgs false
set_option linter.unusedSectionVars false
namespace Go.Vm
open Go.RowKit

theorem isConst_spec {x : Operand} (h : isConst x = true) : ∃ c, x = .const c := by
  cases x <;> simp_all [isConst]

theorem eq_run {P : Program} {w : World} {op : BinOp} {t : TypeId} {px py : Operand} {u v : Value} {b : Bool}
    (hg : (eqGuard op t px py u v).run P w = .ok () w) (hq : ∀ d, (Op.equalIn (d + 1) t u v).run P w = .ok b w)
    (h1 : binOp .eql t u v = do pure (.bool (← Op.equal t u v))) (h2 : binOp .neq t u v = do pure (.bool (!(← Op.equal t u v))))
    (hop : op = .eql ∨ op = .neq) : (do eqGuard op t px py u v; binOp op t u v : Sem Value).run P w = .ok (.bool (if op = .eql then b else !b)) w := by
  rcases hop with rfl | rfl
  · simp [hg, h1, Op.equal, Op.maxDepth, hq 9999]
  · simp [hg, h2, Op.equal, Op.maxDepth, hq 9999]

section
variable {E : Env} {T : Nat → TI} (hT : TabOK E.P T) {s : S} {a : Act} {ts : Ts} {g l : List Ent} (hs : s.σ = g ++ l) (hI : HInv s) (ht : TsRep s ts a)
include hT hs hI ht

theorem st_eq {o : Oper} {op : BinOp} {t : TypeId} {x y : Operand} {tu : TypeId} (ho : o.op = .binOp op t x y tu) (h1 : (T t).ok = true) (hc : (isConst x || isConst y || !isIfaceD (T t).desc) = true)
    {p : Prop} {b : Bool} (h : aeq T g l (T t).desc (ev ts x) (ev ts y) = some (p, b)) (hp : p) (hop : op = .eql ∨ op = .neq) : StepOK E o s a g (boolV (if op = .eql then b else !b)) g l := by
  have hu := (hT t h1).und
  have hx := ev_rep ht x
  have hy := ev_rep ht y
  have fin : ∀ {u v : Value}, a.eval x = u → a.eval y = v → (eqGuard op t x y u v).run E.P s.w = .ok () s.w → (∀ d, (Op.equalIn (d + 1) t u v).run E.P s.w = .ok b s.w) →
      (binOp .eql t u v = do pure (.bool (← Op.equal t u v))) → (binOp .neq t u v = do pure (.bool (!(← Op.equal t u v)))) → StepOK E o s a g (boolV (if op = .eql then b else !b)) g l := by
    intro u v hu' hv' hg hq e1 e2
    refine .pure hs hI (v := .bool (if op = .eql then b else !b)) ?_ (by simp only [boolV]; unfold Rep; rfl)
    simp only [execOp, ho, hu', hv']
    exact run_v (eq_run hg hq e1 e2 hop)
  unfold aeq at h
  split at h
  · rename_i e hd hvx hvy
    simp only [Option.some.injEq, Prod.mk.injEq] at h; obtain ⟨rfl, rfl⟩ := h
    rw [hd] at hu
    refine fin (rep_v hs hI ht hvx) (rep_v hs hI ht hvy) ?_ (fun d => ?_) rfl rfl
    · rcases hop with rfl | rfl <;> simp [eqGuard]
    · simp [Op.equalIn, run_underlying hu]
  · rename_i e id ver off hd hvx hvy
    simp only [Option.some.injEq, Prod.mk.injEq] at h; obtain ⟨rfl, rfl⟩ := h
    rw [hd] at hu; rw [hvx] at hx
    obtain ⟨ad, hx⟩ := hx.ptr
    refine fin hx (rep_v hs hI ht hvy) ?_ (fun d => ?_) rfl rfl
    · rcases hop with rfl | rfl <;> simp [eqGuard]
    · simp [Op.equalIn, run_underlying hu]
  · rename_i e id ver off hd hvx hvy
    simp only [Option.some.injEq, Prod.mk.injEq] at h; obtain ⟨rfl, rfl⟩ := h
    rw [hd] at hu; rw [hvy] at hy
    obtain ⟨ad, hy⟩ := hy.ptr
    refine fin (rep_v hs hI ht hvx) hy ?_ (fun d => ?_) rfl rfl
    · rcases hop with rfl | rfl <;> simp [eqGuard]
    · simp [Op.equalIn, run_underlying hu]
  · rename_i e cs hd hvx hvy
    simp only [Option.some.injEq, Prod.mk.injEq] at h; obtain ⟨rfl, rfl⟩ := h
    rw [hd] at hu; rw [hvx] at hx
    unfold Rep at hx
    obtain ⟨blk, off, hx, _⟩ := hx
    refine fin hx (rep_v hs hI ht hvy) ?_ (fun d => ?_) rfl rfl
    · rcases hop with rfl | rfl <;> simp [eqGuard]
    · simp [Op.equalIn, run_underlying hu]
  · rename_i e cs hd hvx hvy
    simp only [Option.some.injEq, Prod.mk.injEq] at h; obtain ⟨rfl, rfl⟩ := h
    rw [hd] at hu; rw [hvy] at hy
    unfold Rep at hy
    obtain ⟨blk, off, hy, _⟩ := hy
    refine fin (rep_v hs hI ht hvx) hy ?_ (fun d => ?_) rfl rfl
    · rcases hop with rfl | rfl <;> simp [eqGuard]
    · simp [Op.equalIn, run_underlying hu]
  · rename_i e id ver off id' ver' off' hd hvx hvy
    split at h
    · rename_i en hen
      split at h
      · rename_i hc2
        simp only [Bool.and_eq_true, decide_eq_true_eq] at hc2
        simp only [Option.some.injEq, Prod.mk.injEq] at h; obtain ⟨rfl, rfl⟩ := h
        obtain ⟨rfl, hv1, hv2⟩ := hp
        rw [sget_eq, ← hs] at hen
        rw [hd] at hu
        obtain ⟨sb, hsb, hxa⟩ := ref_at hT hs hI ht hvx hen hv1
        obtain ⟨sb', hsb', hya⟩ := ref_at hT hs hI ht hvy hen hv2
        rw [hsb] at hsb'; cases hsb'
        obtain ⟨inf, z, hinf, hsz, _⟩ := (hT e hc2.1).info
        refine fin hxa hya ?_ (fun d => ?_) rfl rfl
        · rcases hop with rfl | rfl <;> simp [eqGuard]
        · have hne : inf.size ≠ 0 := by omega
          simp [Op.equalIn, run_underlying hu, sizeOf, typeInfo, hinf, hne, sameAddr]
          by_cases hoo : off = off'
          · simp [hoo]
          · simp only [hoo, decide_false]
            exact beq_eq_false_iff_ne.2 (by simp [hoo])
      · cases h
    · cases h
  · rename_i e hd hvx hvy
    simp only [Option.some.injEq, Prod.mk.injEq] at h; obtain ⟨rfl, rfl⟩ := h
    rw [hd] at hu
    refine fin (rep_v hs hI ht hvx) (rep_v hs hI ht hvy) ?_ (fun d => ?_) rfl rfl
    · rcases hop with rfl | rfl <;> simp [eqGuard]
    · simp [Op.equalIn, run_underlying hu]
  · rename_i e _ _ _ _ _ hd hvx hvy
    simp only [Option.some.injEq, Prod.mk.injEq] at h; obtain ⟨rfl, rfl⟩ := h
    rw [hd] at hu; rw [hvx] at hx
    unfold Rep at hx
    obtain ⟨_, _, _, _, _, ab, ao, cap, hx, _⟩ := hx
    refine fin hx (rep_v hs hI ht hvy) ?_ (fun d => ?_) rfl rfl
    · rcases hop with rfl | rfl <;> simp [eqGuard]
    · simp [Op.equalIn, run_underlying hu]
  · rename_i e _ _ _ _ _ hd hvx hvy
    simp only [Option.some.injEq, Prod.mk.injEq] at h; obtain ⟨rfl, rfl⟩ := h
    rw [hd] at hu; rw [hvy] at hy
    unfold Rep at hy
    obtain ⟨_, _, _, _, _, ab, ao, cap, hy, _⟩ := hy
    refine fin (rep_v hs hI ht hvx) hy ?_ (fun d => ?_) rfl rfl
    · rcases hop with rfl | rfl <;> simp [eqGuard]
    · simp [Op.equalIn, run_underlying hu]
  · rename_i e es hd hvx hvy
    simp only [Option.some.injEq, Prod.mk.injEq] at h; obtain ⟨rfl, rfl⟩ := h
    rw [hd] at hu; rw [hvx] at hx
    unfold Rep at hx
    obtain ⟨ad, cap, hx, _, hh⟩ := hx
    rcases hh with hh | ⟨blk, off, k, rfl, _⟩
    · exact absurd hh hp
    · refine fin hx (rep_v hs hI ht hvy) ?_ (fun d => ?_) rfl rfl
      · rcases hop with rfl | rfl <;> simp [eqGuard]
      · simp [Op.equalIn, run_underlying hu]
  · rename_i e hd hvx hvy
    simp only [Option.some.injEq, Prod.mk.injEq] at h; obtain ⟨rfl, rfl⟩ := h
    rw [hd] at hu
    refine fin (rep_v hs hI ht hvx) (rep_v hs hI ht hvy) ?_ (fun d => ?_) rfl rfl
    · rw [hd] at hc
      simp only [isIfaceD, Bool.not_true, Bool.or_false, Bool.or_eq_true] at hc
      rcases hc with hc | hc <;> obtain ⟨c, rfl⟩ := isConst_spec hc
      · rcases hop with rfl | rfl <;> simp [eqGuard]
      · rcases hop with rfl | rfl <;> simp [eqGuard]
    · simp [Op.equalIn, run_underlying hu]
  · rename_i e _ _ hd hvx hvy
    simp only [Option.some.injEq, Prod.mk.injEq] at h; obtain ⟨rfl, rfl⟩ := h
    rw [hd] at hu; rw [hvx] at hx
    unfold Rep at hx
    obtain ⟨z, hx, _⟩ := hx
    refine fin hx (rep_v hs hI ht hvy) ?_ (fun d => ?_) rfl rfl
    · rcases hop with rfl | rfl <;> simp [eqGuard]
    · simp [Op.equalIn, run_underlying hu]
  · rename_i e _ _ hd hvx hvy
    simp only [Option.some.injEq, Prod.mk.injEq] at h; obtain ⟨rfl, rfl⟩ := h
    rw [hd] at hu; rw [hvy] at hy
    unfold Rep at hy
    obtain ⟨z, hy, _⟩ := hy
    refine fin (rep_v hs hI ht hvx) hy ?_ (fun d => ?_) rfl rfl
    · rcases hop with rfl | rfl <;> simp [eqGuard]
    · simp [Op.equalIn, run_underlying hu]
  · rename_i k v id hd hvx hvy
    simp only [Option.some.injEq, Prod.mk.injEq] at h; obtain ⟨rfl, rfl⟩ := h
    rw [hd] at hu; rw [hvx] at hx
    unfold Rep at hx
    obtain ⟨_, b, _, _, _, hx⟩ := hx
    refine fin hx (rep_v hs hI ht hvy) ?_ (fun d => ?_) rfl rfl
    · rcases hop with rfl | rfl <;> simp [eqGuard]
    · simp [Op.equalIn, run_underlying hu]
  · rename_i k v hd hvx hvy
    simp only [Option.some.injEq, Prod.mk.injEq] at h; obtain ⟨rfl, rfl⟩ := h
    rw [hd] at hu
    refine fin (rep_v hs hI ht hvx) (rep_v hs hI ht hvy) ?_ (fun d => ?_) rfl rfl
    · rcases hop with rfl | rfl <;> simp [eqGuard]
    · simp [Op.equalIn, run_underlying hu]
  · cases h

theorem st_sliceData {o : Oper} {c : Call} (ho : o.op = .call c) (hc : c.callee = .builtin .unsafeSliceData) {id ver off n sz : Nat} (hargs : c.args.toList.map (ev ts) = [.rsl id ver off n sz])
    {e : Ent} (he : s.σ[id]? = some e) (hver : ver = e.ver) (hn : 0 < n) : StepOK E o s a g (.ref id ver off) g l := by
  obtain ⟨x, hx⟩ : ∃ x, c.args = #[x] := by
    cases hh : c.args.toList with
    | nil => rw [hh] at hargs; cases hargs
    | cons x r =>
      cases r with
      | nil => exact ⟨x, by apply Array.ext'; simpa using hh⟩
      | cons _ _ => rw [hh] at hargs; simp at hargs
  rw [hx] at hargs
  simp only [List.map_cons, List.map_nil, List.cons.injEq, and_true] at hargs
  obtain ⟨b, cap, hb, hv, hcap, _⟩ := rsl_at hT hs hI ht hargs he hver hn
  refine .pure hs hI (v := .pointer (some ⟨b.blk, b.off + off, none⟩)) ?_ (by unfold Rep; exact ⟨e, b, he, hb, by omega, _, rfl, fun _ => rfl⟩)
  have := Lib.run_unsafeSliceData_row (P := E.P) s.w c.argTypes o.type ⟨b.blk, b.off + off, none⟩ n cap (by omega)
  simp [execOp, ho, resolve, hc, invoke, builtin, hx, hv, this]

theorem st_sliceData_nil {o : Oper} {c : Call} (ho : o.op = .call c) (hc : c.callee = .builtin .unsafeSliceData) (hargs : c.args.toList.map (ev ts) = [.v (.slice none 0 0)]) :
    StepOK E o s a g (.v (.pointer none)) g l := by
  obtain ⟨x, hx⟩ : ∃ x, c.args = #[x] := by
    cases hh : c.args.toList with
    | nil => rw [hh] at hargs; cases hargs
    | cons x r =>
      cases r with
      | nil => exact ⟨x, by apply Array.ext'; simpa using hh⟩
      | cons _ _ => rw [hh] at hargs; simp at hargs
  rw [hx] at hargs
  simp only [List.map_cons, List.map_nil, List.cons.injEq, and_true] at hargs
  have hv := rep_v hs hI ht hargs
  refine .pure hs hI (v := .pointer none) ?_ (by unfold Rep; rfl)
  have := Lib.run_unsafeSliceData_nil (P := E.P) s.w c.argTypes o.type 0 0
  simp [execOp, ho, resolve, hc, invoke, builtin, hx, hv, this]
end

theorem freeze_cell? (w : World) (p : Addr) (n : Nat) (q : Addr) : (w.freeze p n).cell? q = w.cell? q := by
  unfold World.freeze
  split
  · rfl
  · unfold World.cell?
    simp only [Array.getElem?_modify]
    by_cases h : p.block = q.block
    · rw [h, if_pos rfl]
      cases w.heap[q.block]? with
      | none => rfl
      | some o => cases o <;> rfl
    · rw [if_neg h]
theorem freeze_other (w : World) (p : Addr) (n : Nat) {r : Nat} (h : p.block ≠ r) : (w.freeze p n).heap[r]? = w.heap[r]? := by
  unfold World.freeze
  split
  · rfl
  · simp only [Array.getElem?_modify]; rw [if_neg h]
theorem freeze_size (w : World) (p : Addr) (n : Nat) : (w.freeze p n).heap.size = w.heap.size := by
  unfold World.freeze
  split <;> simp
/-- The first n cells of an entry are frozen. -/
def S.ice (s : S) (id ty : Nat) (cells : List AV) (ver imm n : Nat) (b : Slot) : S :=
  { s with σ := s.σ.set id (.arr ty cells ver (max imm n)), w := s.w.freeze ⟨b.blk, 0, none⟩ n }

section
variable {s : S} (hI : HInv s) {id ty : Nat} {cells : List AV} {ver imm : Nat} {b : Slot} (he : s.σ[id]? = some (.arr ty cells ver imm)) (hb : s.β[id]? = some b) {n : Nat} (hn : n ≤ cells.length)
include hI he hb

theorem Ext.ice : Ext s (s.ice id ty cells ver imm n b) := by
  have h1 := Ext.retell hI he hb (cells' := cells) (ver' := ver) (imm' := max imm n) (Nat.le_refl _) (Nat.le_max_left _ _)
  refine ⟨rfl, Lib.below_freeze (Below.refl _ _) (hI.slot id b hb).1 n, fun blk off hi => ?_, h1.ent⟩
  obtain ⟨h2, h3⟩ := h1.imm blk off hi
  exact ⟨⟨by show blk < (s.w.freeze _ _).heap.size; rw [freeze_size]; exact h2.1, h2.2⟩, freeze_cell? _ _ _ _⟩

include hn
theorem HInv.ice : HInv (s.ice id ty cells ver imm n b) := by
  have hE := Ext.ice hI he hb (n := n)
  obtain ⟨e1, e2, e3, e4⟩ := hI.ent id _ b he hb
  have h1 := HInv.retell hI he hb (cells' := cells) (ver' := ver) (imm' := max imm n) (Nat.le_refl _) (Nat.le_max_left _ _) e1 (by omega) e4
  have hsz : (s.w.freeze ⟨b.blk, 0, none⟩ n).heap.size = s.w.heap.size := freeze_size _ _ _
  refine ⟨h1.len, by show _ ≤ (s.w.freeze _ _).heap.size; rw [hsz]; exact h1.B, fun i b' hb' => ⟨(h1.slot i b' hb').1, by show _ < (s.w.freeze _ _).heap.size; rw [hsz]; exact (h1.slot i b' hb').2⟩, h1.inj, fun i e b' he' hb' => ?_, fun i e b' he' hb' hm => ?_⟩
  · by_cases h : id = i
    · subst h
      rw [show (s.ice id ty cells ver imm n b).β = s.β from rfl, hb] at hb'; cases hb'
      rcases get_set he' with ⟨_, rfl, _⟩ | ⟨h, _⟩
      · refine ⟨e1, by omega, fun j hj => ⟨?_, fun h5 => ?_⟩, e4.of hE fun j _ => freeze_cell? _ _ _ _⟩
        · obtain ⟨y, hy⟩ := (e3 j hj).1
          exact ⟨y, (freeze_cell? _ _ _ _).trans hy⟩
        · obtain ⟨h0, cs, fr, a1, a2, a3⟩ := (hI.shape id _ b he hb rfl).freeze n
          show (s.w.freeze ⟨b.blk, 0, none⟩ n).frozen? _ = false
          simp only [World.frozen?, a1]
          simp only [Ent.imm] at a3
          simp; omega
      · exact absurd rfl h
    · have he'' : s.σ[i]? = some e := by
        have : (s.σ.set id (.arr ty cells ver (max imm n)))[i]? = some e := he'
        rwa [get_set_ne h] at this
      have hne : b.blk ≠ b'.blk := fun hh => h (hI.inj id i b b' hb hb' hh)
      have hold := hI.ent i e b' he'' hb'
      have hblk := freeze_other s.w ⟨b.blk, 0, none⟩ n hne
      cases e with
      | arr ty' cells' ver' imm' =>
        obtain ⟨h1, h2, h3, h4⟩ := hold
        refine ⟨h1, h2, fun j hj => ?_, h4.of hE fun j _ => freeze_cell? _ _ _ _⟩
        obtain ⟨⟨y, h5⟩, h6⟩ := h3 j hj
        refine ⟨⟨y, (freeze_cell? _ _ _ _).trans h5⟩, fun h7 => ?_⟩
        have := h6 h7
        show (s.w.freeze ⟨b.blk, 0, none⟩ n).frozen? _ = false
        unfold World.frozen? at this ⊢
        rw [hblk]; exact this
      | map es clock =>
        obtain ⟨mes, h1, h2, h3⟩ := hold
        refine ⟨mes, hblk.trans h1, h2, fun j' k x born hj' => ?_⟩
        obtain ⟨y', h4, h5⟩ := h3 j' k x born hj'
        exact ⟨y', h4, Rep.ext hE h5⟩
  · show ShapeOK (s.w.freeze ⟨b.blk, 0, none⟩ n) _ _ _
    by_cases h : id = i
    · subst h
      rw [show (s.ice id ty cells ver imm n b).β = s.β from rfl, hb] at hb'; cases hb'
      rcases get_set he' with ⟨_, rfl, _⟩ | ⟨h, _⟩
      · exact (hI.shape id _ b he hb rfl).freeze n
      · exact absurd rfl h
    · have he'' : s.σ[i]? = some e := by
        have : (s.σ.set id (.arr ty cells ver (max imm n)))[i]? = some e := he'
        rwa [get_set_ne h] at this
      have hne : b.blk ≠ b'.blk := fun hh => h (hI.inj id i b b' hb hb' hh)
      obtain ⟨h0, cs, fr, a1, a2, a3⟩ := hI.shape i e b' he'' hb' hm
      exact ⟨h0, cs, fr, (freeze_other s.w ⟨b.blk, 0, none⟩ n hne).trans a1, a2, a3⟩
end

theorem two_of {c : Call} {ts : Ts} {p q : AV} (h : c.args.toList.map (ev ts) = [p, q]) : ∃ x y, c.args = #[x, y] ∧ ev ts x = p ∧ ev ts y = q := by
  cases hh : c.args.toList with
  | nil => rw [hh] at h; cases h
  | cons x r =>
    cases r with
    | nil => rw [hh] at h; simp at h
    | cons y r =>
      cases r with
      | nil => rw [hh] at h; simp at h; exact ⟨x, y, by apply Array.ext'; simpa using hh, h.1, h.2⟩
      | cons _ _ => rw [hh] at h; simp at h

section
variable {E : Env} {T : Nat → TI} (hT : TabOK E.P T) {s : S} {a : Act} {ts : Ts} {g l : List Ent} (hs : s.σ = g ++ l) (hI : HInv s) (ht : TsRep s ts a)
include hT hs hI ht

theorem st_string_nil {o : Oper} {c : Call} (ho : o.op = .call c) (hc : c.callee = .builtin .unsafeString) (hargs : c.args.toList.map (ev ts) = [.v (.pointer none), .v (.int .i64 0)]) {pt it : TypeId}
    (htys : c.argTypes.toList = [pt, it]) : StepOK E o s a g (.str []) g l := by
  obtain ⟨x, y, hxy, hx, hy⟩ := two_of hargs
  have hv := rep_v hs hI ht hx
  have hw := rep_v hs hI ht hy
  have htys' : c.argTypes = #[pt, it] := by apply Array.ext'; simpa using htys
  refine .pure hs hI (v := .string .empty) ?_ (by unfold Rep; rfl)
  have := Lib.run_unsafeString_none (P := E.P) s.w pt it o.type none
  simp [execOp, ho, resolve, hc, invoke, builtin, hxy, hv, hw, htys', this]

theorem st_string {o : Oper} {c : Call} (ho : o.op = .call c) (hc : c.callee = .builtin .unsafeString) {id ver : Nat} {n : Int} (hargs : c.args.toList.map (ev ts) = [.ref id ver 0, .v (.int .i64 n)]) {pt it e : TypeId}
    (htys : c.argTypes.toList = [pt, it]) (h1 : (T pt).ok = true) (hd : (T pt).desc = .pointer e) (h2 : (T e).ok = true) (hz : (T e).size = 1) {cells : List AV} {imm : Nat} (he : s.σ[id]? = some (.arr e cells ver imm))
    (h0 : 0 < n) (hn : n ≤ cells.length) (hmax : n ≤ maxRoom) {b : List UInt8} (hb : avBytes (cells.take n.toNat) = some b) :
    StepOK E o s a g (.str b) (ssetG g id (.arr e cells ver (max imm n.toNat))) (ssetL g l id (.arr e cells ver (max imm n.toNat))) := by
  obtain ⟨x, y, hxy, hx, hy⟩ := two_of hargs
  have htys' : c.argTypes = #[pt, it] := by apply Array.ext'; simpa using htys
  obtain ⟨sb, hsb, hv⟩ := ref_at hT hs hI ht hx he rfl
  have hw := rep_v hs hI ht hy
  obtain ⟨hcl, _, _, hc'⟩ := arr_at hT hs hI ht he hsb
  have hu := (hT pt h1).und
  rw [hd] at hu
  obtain ⟨inf, z, hinf, hsz, _⟩ := (hT e h2).info
  have hco : E.P.cellsOf e = 1 := by simp [Program.cellsOf, hinf]; omega
  have hsO := hI.shape id _ sb he hsb rfl
  have hoff := hsO.1
  have hsh := hsO.shape
  simp only [Ent.ty] at hsh
  have hlen : (b.length : Int) = n := by have := avBytes_len hb; simp at this; omega
  have hln : b.length = n.toNat := by omega
  have hns := avBytes_spec hb
  have hrun := Lib.run_unsafeString_row (P := E.P) s.w pt it o.type e hu hco sb.blk (sb.off + sb.ext) hsh b (by intro hh; rw [hh] at hln; simp at hln; omega) (by omega) (by unfold maxRoom at hmax; omega)
    (fun j q hj => by
      have hj' : (cells.take n.toNat)[j]? = some (.v (.int .u8 q.toNat)) := by rw [hns]; simp [hj]
      rw [List.getElem?_take] at hj'
      split at hj'
      · obtain ⟨y', a1, a2, _⟩ := hc' _ _ hj'
        unfold Rep at a2
        subst a2
        rw [hoff] at a1
        have : (⟨sb.blk, 0, none⟩ : Addr).add j = ⟨sb.blk, 0 + j, none⟩ := by
          unfold Addr.add; split <;> simp_all
        rw [this]; exact a1
      · cases hj')
  refine ⟨_, .string ⟨b.toArray⟩, s.ice id e cells ver imm n.toNat sb, ?_, .inl rfl, ?_, ssetG_len _ _ _, rfl, hI.ice he hsb (by omega), Ext.ice hI he hsb, by unfold Rep; rfl⟩
  · rw [hlen] at hrun
    rw [hoff] at hv
    simp only [execOp, ho, resolve, hc, invoke, builtin, hxy]
    simp [hv, hw, htys', hrun, hln, S.ice]
  · show s.σ.set id _ = _
    rw [hs, sset_eq]
end
end Go.Vm

/- Arrays' cells, interface values, new rows, bytes of texts. -/
set_option linter.unusedVariables false
set_option linter.unusedSimpArgs false
set_option linter.unusedSectionVars false
namespace Go.Vm
open Go.RowKit

theorem imm_new0 {s : S} (hI : HInv s) {w' : World} {blk : Nat} (h1 : s.w.heap.size ≤ blk) (h2 : blk < w'.heap.size) (off : Nat) : Imm { s with w := w' } blk off := by
  refine ⟨h2, fun id e b he hb hbb => ?_⟩
  have := (hI.slot id b hb).2
  omega

theorem one_cells {es : List AV} (h : ∀ x ∈ es, isEl 1 false x = true) : es.flatMap AV.cells = es := by
  induction es with
  | nil => rfl
  | cons x r ih =>
    rw [List.flatMap_cons, ih fun y hy => h y (by simp [hy])]
    have hx := h x (by simp)
    cases x <;> simp_all [isEl, AV.isAgg, AV.cells]

section
variable {E : Env} {T : Nat → TI} (hT : TabOK E.P T) {s : S} {a : Act} {ts : Ts} {g l : List Ent} (hs : s.σ = g ++ l) (hI : HInv s) (ht : TsRep s ts a)
include hT hs hI ht

theorem st_indexAddr_arr {o : Oper} {t : TypeId} {x i : Operand} (ho : o.op = .indexAddr t x i) (h1 : (T t).ok = true) {m : Nat} {e : TypeId} (hd : (T t).desc = .array m e) (h2 : (T e).ok = true)
    {id ver off : Nat} (hx : ev ts x = .ref id ver off) {k : IntKind} {n : Int} (hi : ev ts i = .v (.int k n)) (h0 : 0 ≤ n) (hn : n < m) :
    StepOK E o s a g (.ref id ver (off + n.toNat * (T e).size)) g l := by
  have hun := (hT t h1).und
  rw [hd] at hun
  obtain ⟨inf, z, hinf, hsz, _⟩ := (hT e h2).info
  have h := ev_rep ht x
  rw [hx] at h
  unfold Rep at h
  obtain ⟨en, b, he, hb, hv, ad, hh, hadd⟩ := h
  have hk := rep_v hs hI ht hi
  refine .pure hs hI (v := .pointer (some (ad.add (n.toNat * (T e).size)))) ?_ ?_
  · simp [execOp, ho, Instr.indexAt, Instr.sureAddr, hh, hk, asIntOf, run_underlying hun, h0, hn, run_sizeOf' hinf, hsz]
  · unfold Rep
    refine ⟨en, b, he, hb, hv, _, rfl, fun hver => ?_⟩
    rw [hadd hver, Addr.add_lit, Nat.add_assoc]

theorem st_makeInterface {o : Oper} {t : TypeId} {x : Operand} (ho : o.op = .makeInterface t x) (h1 : (T t).ok = true) (hne : isIfaceD (T t).desc = false) : StepOK E o s a g (.ifc t (ev ts x)) g l := by
  have hun := (hT t h1).und
  refine .pure hs hI (v := .iface t (a.eval x)) ?_ (by unfold Rep; exact ⟨_, rfl, ev_rep ht x⟩)
  simp only [execOp, ho, Instr.makeInterface]
  cases hd : (T t).desc <;> rw [hd] at hun hne <;> first
    | (simp [isIfaceD] at hne; done)
    | simp [run_underlying hun]

theorem st_makeSlice {o : Oper} {t : TypeId} {x y : Operand} (ho : o.op = .makeSlice t x y) (h1 : (T t).ok = true) {e : TypeId} (hd : (T t).desc = .slice e) (h2 : (T e).ok = true) (hag : (T e).isAgg = false)
    (hzc : (T e).zero.isCell = true) {k j : IntKind} {n c : Int} (hx : ev ts x = .v (.int k n)) (hy : ev ts y = .v (.int j c)) (h0 : 0 ≤ n) (hc : n ≤ c) (hm : c ≤ maxRoom) (hb : ((T e).bytes : Int) * c ≤ maxRoom) :
    StepOK E o s a g (.rsl (g.length + l.length) 0 0 n.toNat 1) g (l ++ [.arr e (List.replicate n.toNat (T e).zero) 0 0]) := by
  have hun := (hT t h1).und
  rw [hd] at hun
  obtain ⟨inf, z, hinf, hsz, hby, hz, hzv⟩ := (hT e h2).info
  have hone := (hT e h2).one hag
  have hkx := rep_v hs hI ht hx
  have hky := rep_v hs hI ht hy
  have hzr := zval_rep s hzv
  have hzcell := hzr.cellV hzc
  unfold maxRoom at hm hb
  have hrun := run_make (P := E.P) s.w t e inf z hun hinf hz k j n c h0 hc (by rw [hby]; omega) (by omega)
  have hcells : madeCells z.cells (c.toNat * inf.size) = Array.replicate c.toNat z := by
    rw [hzcell.cells, hsz, hone, Nat.mul_one]
    apply Array.ext
    · simp [madeCells]
    · intro i hi1 hi2
      simp [madeCells, Nat.mod_one]
  rw [hcells] at hrun
  have hlen2 : s.σ.length = g.length + l.length := by rw [hs]; simp
  have hle : n.toNat ≤ c.toNat := by omega
  refine ⟨.value (.slice (some ⟨s.w.heap.size, 0, none⟩) n.toNat c.toNat), .slice (some ⟨s.w.heap.size, 0, none⟩) n.toNat c.toNat, s.push (.arr e (List.replicate n.toNat (T e).zero) 0 0) ⟨s.w.heap.size, 0, (Array.replicate c.toNat z).size⟩ (s.w.alloc (.cells (Array.replicate c.toNat z) e)), ?_, .inl rfl, by simp [S.push, hs], rfl, rfl,
    hI.push _ _ e (by simp; omega) fun i q hq => ?_, Ext.push hI _ _ _, ?_⟩
  · simp only [execOp, ho, hkx, hky]
    exact run_v hrun
  · rw [List.getElem?_replicate] at hq
    split at hq
    · rename_i hi
      injection hq with hq
      refine ⟨z, by rw [Array.getElem?_replicate, if_pos (by omega)], hq ▸ hzr, hzcell⟩
    · cases hq
  · unfold Rep
    refine ⟨.arr e (List.replicate n.toNat (T e).zero) 0 0, ⟨s.w.heap.size, 0, (Array.replicate c.toNat z).size⟩, ?_, ?_, Nat.le_refl _, _, _, _, rfl, fun _ => ⟨fun _ => ⟨rfl, rfl⟩, hle, ?_⟩⟩
    · simp [S.push, ← hlen2]
    · simp [S.push, ← hlen2, ← hI.len]
    · simp

theorem st_bytes {o : Oper} {src dst : TypeId} {x : Operand} (ho : o.op = .convert src dst x) (h1 : (T src).ok = true) (h2 : (T dst).ok = true) {e : TypeId} (hsd : (T src).desc = .string) (hd : (T dst).desc = .slice e)
    (he : (T e).ok = true) (heb : isByteD (T e).desc = true) {b : List UInt8} (hx : ev ts x = .str b) : StepOK E o s a g (.sl (b.map byteAV)) g l := by
  have hu := (hT src h1).und
  have hv := (hT dst h2).und
  have hue := (hT e he).und
  rw [hsd] at hu; rw [hd] at hv; rw [isByteD_spec heb] at hue
  have h := ev_rep ht x
  rw [hx] at h
  unfold Rep at h
  have hrun := run_bytes_of_string (P := E.P) s.w src dst e ⟨⟨b⟩⟩ hu hv hue
  generalize hG : grownCap s.w (ByteArray.mk ⟨b⟩).size 0 e = cap at hrun
  have hcap : b.length ≤ cap := by
    rw [← hG]; have := grownCap_ge s.w (ByteArray.mk ⟨b⟩).size 0 e; simpa [ByteArray.size] using this
  generalize hO : Obj.cells (bytesRow ⟨⟨b⟩⟩ cap) e ((bytesRow ⟨⟨b⟩⟩ cap).size, (bytesRow ⟨⟨b⟩⟩ cap).size + 1) = ob at hrun
  have hbw : Below s.w.heap.size s.w (s.w.drew.alloc ob) := (below_drew s.w).trans (below_alloc s.w.drew ob)
  have hsz : (ByteArray.mk ⟨b⟩).size = b.length := by simp [ByteArray.size]
  rw [hsz] at hrun
  refine ⟨_, .slice (some ⟨s.w.heap.size, 0, none⟩) b.length cap, { s with w := s.w.drew.alloc ob }, ?_, .inl rfl, hs, rfl, rfl, hI.of_below hbw, Ext.of_below hI hbw, ?_⟩
  · simp only [execOp, ho, h]
    exact run_v hrun
  · unfold Rep
    refine ⟨_, _, by rw [List.length_map], by rw [List.length_map]; exact hcap, .inr ⟨_, _, 1, rfl, by omega, RepRow.mk fun i q hq => ?_⟩⟩
    simp only [List.getElem?_map, Option.map_eq_some_iff] at hq
    obtain ⟨c, hc, rfl⟩ := hq
    refine ⟨.int .u8 c.toNat, ?_, by unfold byteAV intV Rep; rfl⟩
    unfold LoadsAt
    simp only [byteAV, intV, AV.isAgg, Bool.false_eq_true, if_false]
    refine ⟨trivial, ?_, imm_new0 hI (Nat.le_refl _) (by show s.w.heap.size < (s.w.heap.push _).size; simp) _⟩
    have hlt := lt_of_get hc
    have : (s.w.drew.alloc ob).cell? ⟨s.w.heap.size, 0 + i * 1, none⟩ = (bytesRow ⟨⟨b⟩⟩ cap)[i]? := by
      rw [← hO]
      show (({ s.w.drew with heap := s.w.heap.push _ } : World)).cell? _ = _
      simp [World.cell?]
    rw [this]
    unfold bytesRow
    rw [Array.getElem?_append_left (by simpa using hlt)]
    simp [hc]

theorem st_copy_nil {o : Oper} {c : Call} (ho : o.op = .call c) (hc : c.callee = .builtin .copy) {id ver off n sz : Nat} (hargs : c.args.toList.map (ev ts) = [.rsl id ver off n sz, .v (.slice none 0 0)]) {dT sT : TypeId} (htys : c.argTypes.toList = [dT, sT])
    (h1 : (T dT).ok = true) {e : TypeId} (hd : (T dT).desc = .slice e) (h2 : (T e).ok = true) : StepOK E o s a g (intV .i64 0) g l := by
  have hun := (hT dT h1).und
  rw [hd] at hun
  obtain ⟨inf, z, hinf, hszi, _⟩ := (hT e h2).info
  have h := evs_rep ht c.args.toList
  rw [hargs] at h
  unfold RepL RepL RepL Rep at h
  obtain ⟨v, vs, h3, ⟨en, b, he', hb, _, ab, ao, cap, rfl, hadd⟩, v2, vs2, rfl, rfl, rfl⟩ := h
  obtain ⟨cal, as, tys⟩ := c
  simp only at hc h3 htys
  subst hc
  obtain rfl : tys = #[dT, sT] := by apply Array.ext'; simpa using htys
  have hargs' : as.map a.eval = #[.slice (some ⟨ab, ao, none⟩) n cap, .slice none 0 0] := by apply Array.ext'; simpa using h3
  refine .pure hs hI (v := .int .i64 0) ?_ (by simp only [intV]; unfold Rep; rfl)
  simp [execOp, ho, resolve, invoke, builtin, Builtin.copy_, Builtin.lenOf, Builtin.firstCells, storeCells, hargs', run_underlying hun, run_sizeOf' hinf, goInt]

theorem st_cap_nil {o : Oper} {c : Call} (ho : o.op = .call c) (hc : c.callee = .builtin .cap) (hargs : c.args.toList.map (ev ts) = [.v (.slice none 0 0)]) {dT : TypeId} (htys : c.argTypes.toList = [dT])
    (h1 : (T dT).ok = true) {e : TypeId} (hd : (T dT).desc = .slice e) : StepOK E o s a g (intV .i64 0) g l := by
  have hun := (hT dT h1).und
  rw [hd] at hun
  have h := evs_rep ht c.args.toList
  rw [hargs] at h
  unfold RepL RepL Rep at h
  obtain ⟨v, vs, h3, rfl, rfl⟩ := h
  obtain ⟨cal, as, tys⟩ := c
  simp only at hc h3 htys
  subst hc
  obtain rfl : tys = #[dT] := by apply Array.ext'; simpa using htys
  have hargs' : as.map a.eval = #[.slice none 0 0] := by apply Array.ext'; simpa using h3
  refine .pure hs hI (v := .int .i64 0) ?_ (by simp only [intV]; unfold Rep; rfl)
  simp [execOp, ho, resolve, invoke, builtin, Builtin.cap_, hargs', run_underlying hun, goInt]

theorem st_copy {o : Oper} {c : Call} (ho : o.op = .call c) (hc : c.callee = .builtin .copy) {id ver off n sz : Nat} {es : List AV} (hargs : c.args.toList.map (ev ts) = [.rsl id ver off n sz, .sl es]) {dT sT : TypeId} (htys : c.argTypes.toList = [dT, sT])
    (h1 : (T dT).ok = true) {e : TypeId} (hd : (T dT).desc = .slice e) (h2 : (T e).ok = true) (hone : (T e).size = 1) {ty : Nat} {cells : List AV} {ver' imm : Nat} (he : s.σ[id]? = some (.arr ty cells ver' imm)) (hver : ver = ver') (hsz : sz = 1)
    (him : imm ≤ off) (hfit : off + n ≤ cells.length) (hk : 0 < min n es.length) (hel : ∀ x ∈ es, isEl 1 false x = true) :
    StepOK E o s a g (intV .i64 ((min n es.length : Nat) : Int)) (ssetG g id (.arr ty (setRange cells off (es.take (min n es.length))) ver' imm)) (ssetL g l id (.arr ty (setRange cells off (es.take (min n es.length))) ver' imm)) := by
  have hun := (hT dT h1).und
  rw [hd] at hun
  obtain ⟨inf, z, hinf, hszi, _⟩ := (hT e h2).info
  have h := evs_rep ht c.args.toList
  rw [hargs] at h
  unfold RepL RepL RepL Rep at h
  obtain ⟨v, vs, h3, ⟨en, b, he', hb, _, ab, ao, cap, rfl, hadd⟩, v2, vs2, rfl, ⟨a2, cap2, rfl, hc2, hrow⟩, rfl⟩ := h
  obtain rfl : Ent.arr ty cells ver' imm = en := Option.some.inj (he.symm.trans he')
  obtain ⟨hcl, _, _, _⟩ := arr_at hT hs hI ht he hb
  have h5 := hadd hver
  have h6 : 0 < cap := by
    have := h5.2.1
    omega
  obtain ⟨rfl, rfl⟩ := h5.1 h6
  rcases hrow with rfl | ⟨blk, off2, kk, rfl, hpos, hrow⟩
  · simp at hk
  generalize hkk : min n es.length = k at *
  have hkl : k ≤ es.length := by omega
  have hkn : k ≤ n := by omega
  have hk1 : kk = 1 := by
    rcases es with _ | ⟨x, r⟩
    · simp at hkl; omega
    · unfold RepRow at hrow
      obtain ⟨⟨y, h7, _⟩, _⟩ := hrow
      have hx := hel x (by simp)
      have : x.isAgg = false := by simp [isEl] at hx; exact hx.1.1
      rw [this] at h7
      unfold LoadsAt at h7
      simp only [Bool.false_eq_true, if_false] at h7
      exact h7.1
  subst hk1
  have hrow2 : RepRow s 1 blk off2 (es.take k) := RepRow.mk fun i q hq => by
    rw [List.getElem?_take] at hq
    split at hq
    · exact hrow.get hq
    · cases hq
  obtain ⟨news, r1, r2, r3, r4⟩ := row_cells (sz := 1) (ag := false) hrow2 fun q hq => hel q (List.mem_of_mem_take hq)
  rw [one_cells (es := es.take k) fun q hq => hel q (List.mem_of_mem_take hq)] at r1
  have r2' : news.length = k := by rw [r2, List.length_take]; omega
  obtain ⟨s', h8, h9, h10, h11, h12, h13, _, _⟩ := storeRange' E.P (es.take k) news s id ty cells ver' imm b off 0 (b.off + off) hI he hb him (by rw [List.length_take]; omega) r1 r4 (by omega)
  have hfirst := run_firstCells_some (P := E.P) s.w 1 k ⟨blk, off2, none⟩ es.length cap2 news (by omega) (fun j u hj => by rw [Addr.add_lit]; exact r3 j u hj)
  have ha : c.args.map a.eval = #[.slice (some ⟨b.blk, b.off + off, none⟩) n cap, .slice (some ⟨blk, off2, none⟩) es.length cap2] := by
    apply Array.toList_inj.1
    rw [Array.toList_map, h3]
  have hty : c.argTypes = #[dT, sT] := Array.toList_inj.1 (by rw [htys])
  have key : (Builtin.copy_ c.argTypes o.type (c.args.map a.eval)).run E.P s.w = .ok (.int .i64 k) s'.w := by
    rw [ha, hty]
    have hmin : Nat.min es.length n = k := by rw [← hkk]; exact Nat.min_comm _ _
    simp [Builtin.copy_, run_underlying hun, Builtin.lenOf, run_sizeOf' hinf, hszi, hone, hmin, hfirst, h8, goInt]
  refine ⟨.value (.int .i64 k), .int .i64 k, s', ?_, .inl rfl, ?_, ssetG_len _ _ _, h13, h9, h10, by simp only [intV]; unfold Rep; rfl⟩
  · simp [execOp, ho, resolve, hc, invoke, builtin, key]
  · rw [h11, hs, sset_eq]
end
end Go.Vm

/- One operation, whichever it is. -/
set_option linter.unusedVariables false
set_option linter.unusedSimpArgs false
set_option linter.unusedSectionVars false
namespace Go.Vm
open Go.RowKit

theorem isSliceD_spec {d : TypeDesc} (h : isSliceD d = true) : ∃ e, d = .slice e := by
  cases d <;> simp_all [isSliceD]
theorem isStringD_spec {d : TypeDesc} (h : isStringD d = true) : d = .string := by
  cases d <;> simp_all [isStringD]
theorem isBoolD_spec {d : TypeDesc} (h : isBoolD d = true) : d = .bool := by
  cases d <;> simp_all [isBoolD]

section
variable {E : Env} {T : Nat → TI} (hT : TabOK E.P T) {s : S} {a : Act} {ts : Ts} {g l : List Ent} (hs : s.σ = g ++ l) (hI : HInv s) (ht : TsRep s ts a)
include hT hs hI ht


theorem aDet_sound {rows : List Nat} {o : Oper} {p : Prop} {r : AV} {g' l' : List Ent} (h : aDet T rows o ts g l = some (p, r, g', l')) (hp : p) : StepOK E o s a g r g' l' := by
  unfold aDet at h
  cases ho : o.op <;> simp only [ho] at h <;> try (cases h; done)
  case move x => simp only [pureR, Option.some.injEq, Prod.mk.injEq] at h; obtain ⟨rfl, rfl, rfl, rfl⟩ := h; exact st_move hs hI ht ho
  case assign x => simp only [pureR, Option.some.injEq, Prod.mk.injEq] at h; obtain ⟨rfl, rfl, rfl, rfl⟩ := h; exact st_assign hs hI ht ho
  case pick c x y =>
    split at h
    · rename_i hc; simp only [pureR, Option.some.injEq, Prod.mk.injEq] at h; obtain ⟨rfl, rfl, rfl, rfl⟩ := h; exact st_pick hs hI ht ho hc
    · rename_i hc; simp only [pureR, Option.some.injEq, Prod.mk.injEq] at h; obtain ⟨rfl, rfl, rfl, rfl⟩ := h; exact st_pick hs hI ht ho hc
    · cases h
  case alloc t =>
    split at h
    · rename_i hc
      simp only [Bool.and_eq_true] at hc
      simp only [Option.some.injEq, Prod.mk.injEq] at h; obtain ⟨rfl, rfl, rfl, rfl⟩ := h
      exact st_alloc hT hs hI ht ho hc.1 hc.2
    · cases h
  case box t x =>
    split at h
    · rename_i hc
      simp only [Option.some.injEq, Prod.mk.injEq] at h; obtain ⟨rfl, rfl, rfl, rfl⟩ := h
      exact st_box hs hI ht ho hc
    · cases h
  case build t parts =>
    split at h
    · rename_i hc
      simp only [Bool.and_eq_true, Bool.not_eq_true', List.isEmpty_eq_false_iff] at hc
      split at h
      · rename_i cells hf
        simp only [pureR, Option.some.injEq, Prod.mk.injEq] at h; obtain ⟨rfl, rfl, rfl, rfl⟩ := h
        exact st_build hT hs hI ht ho hc.1.1 hc.1.2 hc.2 hf
      · cases h
    · cases h
  case buildSlice t n parts =>
    split at h
    · rename_i hc
      simp only [Bool.and_eq_true, decide_eq_true_eq] at hc
      obtain ⟨⟨⟨⟨⟨⟨h1, hm⟩, h2⟩, hpos⟩, hn⟩, hsz⟩, hps⟩ := hc
      obtain ⟨e, hd⟩ := isSliceD_spec hm
      have helem := (hT t h1).elem e hd
      rw [helem] at h2 hpos hsz h
      split at h
      · rename_i es hl
        split at h
        · simp only [Option.some.injEq, Prod.mk.injEq] at h; obtain ⟨rfl, rfl, rfl, rfl⟩ := h
          exact st_buildSlice_row hT hs hI ht ho h1 hd h2 hpos hn hsz hps hl
        · simp only [pureR, Option.some.injEq, Prod.mk.injEq] at h; obtain ⟨rfl, rfl, rfl, rfl⟩ := h
          exact st_buildSlice hT hs hI ht ho h1 hd h2 hpos hn hsz hps hl
      · cases h
    · cases h
  case load t x =>
    split at h
    · rename_i id ver off hx
      split at h
      · rename_i ty cells ver' imm he
        rw [sget_eq, ← hs] at he
        split at h
        · rename_i h1
          split at h
          · rename_i hag
            simp only [condR, Option.some.injEq, Prod.mk.injEq] at h; obtain ⟨rfl, rfl, rfl, rfl⟩ := h
            exact st_load_ref_agg hT hs hI ht ho h1 hag hx he hp.1 hp.2
          · rename_i hag
            split at h
            · rename_i c hc
              simp only [condR, Option.some.injEq, Prod.mk.injEq] at h; obtain ⟨rfl, rfl, rfl, rfl⟩ := h
              exact st_load_ref_one hT hs hI ht ho h1 (by simpa using hag) hx he hp hc
            · cases h
        · cases h
      · cases h
    · rename_i cells hx
      split at h
      · rename_i h1
        split at h
        · rename_i hag
          simp only [condR, Option.some.injEq, Prod.mk.injEq] at h; obtain ⟨rfl, rfl, rfl, rfl⟩ := h
          exact st_load_iptr_agg hT hs hI ht ho h1 hag hx hp
        · rename_i hag
          split at h
          · simp only [pureR, Option.some.injEq, Prod.mk.injEq] at h; obtain ⟨rfl, rfl, rfl, rfl⟩ := h
            exact st_load_iptr_one hT hs hI ht ho h1 (by simpa using hag) hx
          · cases h
      · cases h
    · cases h
  case store t x y =>
    split at h
    · rename_i id ver off hx
      split at h
      · rename_i ty cells ver' imm he
        rw [sget_eq, ← hs] at he
        split at h
        · rename_i hc
          simp only [Bool.and_eq_true] at hc
          simp only [Option.some.injEq, Prod.mk.injEq] at h; obtain ⟨rfl, rfl, rfl, rfl⟩ := h
          exact st_store hT hs hI ht ho hc.1 hx he hp.1 hp.2.1 hp.2.2.1 hp.2.2.2 hc.2
        · cases h
      · cases h
    · cases h
  case binOp op t x y tu =>
    split at h
    · rename_i p' r' hb
      simp only [condR, Option.some.injEq, Prod.mk.injEq] at h; obtain ⟨rfl, rfl, rfl, rfl⟩ := h
      refine st_binOp hs hI ht (T := T) ho (fun hb => ?_) hb hp
      simp only [Bool.and_eq_true] at hb
      have := (hT t hb.1).und
      rw [this, isBoolD_spec hb.2]
    · split at h
      · rename_i hc
        simp only [Bool.and_eq_true] at hc
        split at h
        · rename_i p' b he _
          simp only [condR, Option.some.injEq, Prod.mk.injEq] at h; obtain ⟨rfl, rfl, rfl, rfl⟩ := h
          have := st_eq hT hs hI ht ho hc.1 (by simpa using hc.2) he hp (.inl rfl)
          simpa using this
        · rename_i p' b he _
          simp only [condR, Option.some.injEq, Prod.mk.injEq] at h; obtain ⟨rfl, rfl, rfl, rfl⟩ := h
          have := st_eq hT hs hI ht ho hc.1 (by simpa using hc.2) he hp (.inr rfl)
          simpa using this
        · cases h
      · cases h
  case unOp op t x =>
    split at h
    · rename_i r' hb
      simp only [pureR, Option.some.injEq, Prod.mk.injEq] at h; obtain ⟨rfl, rfl, rfl, rfl⟩ := h
      exact st_unOp hs hI ht ho hb
    · cases h
  case convert src dst x =>
    split at h
    · rename_i hc
      simp only [Bool.and_eq_true] at hc
      split at h
      · rename_i e b hsd hd hx
        split at h
        · rename_i hee
          simp only [Bool.and_eq_true] at hee
          simp only [pureR, Option.some.injEq, Prod.mk.injEq] at h; obtain ⟨rfl, rfl, rfl, rfl⟩ := h
          exact st_bytes hT hs hI ht ho hc.1 hc.2 hsd hd hee.1 hee.2 hx
        · cases h
      · exact st_convert hT hs hI ht ho hc.1 hc.2 h hp
    · cases h
  case makeInterface t x =>
    split at h
    · rename_i hc
      simp only [Bool.and_eq_true, Bool.not_eq_true'] at hc
      simp only [pureR, Option.some.injEq, Prod.mk.injEq] at h; obtain ⟨rfl, rfl, rfl, rfl⟩ := h
      exact st_makeInterface hT hs hI ht ho hc.1 hc.2
    · cases h
  case makeSlice t x y =>
    split at h
    · rename_i hc
      simp only [Bool.and_eq_true, Bool.not_eq_true'] at hc
      obtain ⟨⟨⟨⟨h1, hm⟩, h2⟩, hag⟩, hz⟩ := hc
      obtain ⟨e, hd⟩ := isSliceD_spec hm
      have helem := (hT t h1).elem e hd
      rw [helem] at h2 h hag hz
      split at h
      · rename_i hx hy
        simp only [Option.some.injEq, Prod.mk.injEq] at h; obtain ⟨rfl, rfl, rfl, rfl⟩ := h
        exact st_makeSlice hT hs hI ht ho h1 hd h2 hag hz hx hy hp.1 hp.2.1 hp.2.2.1 hp.2.2.2
      · cases h
    · cases h
  case slice t x lo hi mx =>
    cases mx with
    | some m => simp at h
    | none =>
      simp only at h
      split at h
      · rename_i hc
        simp only [Bool.and_eq_true] at hc
        unfold asliceS at h
        split at h
        · rename_i str hx
          split at h
          · rename_i p1 q1 hp1 hq1
            simp only [condR, Option.some.injEq, Prod.mk.injEq] at h; obtain ⟨rfl, rfl, rfl, rfl⟩ := h
            exact st_slice_str hT hs hI ht ho hc.1 (isStringD_spec hc.2) hx hp1 hq1 hp.1 hp.2.1 hp.2.2
          · cases h
        · cases h
      · split at h
        · rename_i hc
          simp only [Bool.and_eq_true] at hc
          obtain ⟨⟨h1, hm⟩, h2⟩ := hc
          obtain ⟨e, hd⟩ := isSliceD_spec hm
          have helem := (hT t h1).elem e hd
          rw [helem] at h2 h
          unfold asliceL at h
          split at h
          · rename_i es hx
            split at h
            · rename_i p1 q1 hp1 hq1
              simp only [condR, Option.some.injEq, Prod.mk.injEq] at h; obtain ⟨rfl, rfl, rfl, rfl⟩ := h
              exact st_slice_sl hT hs hI ht ho h1 hd h2 hx hp1 hq1 hp.1 hp.2.1 hp.2.2.1 hp.2.2.2
            · cases h
          · rename_i hx
            split at h
            · rename_i p1 q1 hp1 hq1
              simp only [condR, Option.some.injEq, Prod.mk.injEq] at h; obtain ⟨rfl, rfl, rfl, rfl⟩ := h
              rw [hx]
              exact st_slice_nil hT hs hI ht ho h1 hd h2 hx hp1 hq1 hp.1 hp.2
            · cases h
          · rename_i id ver off n sz hx
            split at h
            · rename_i p1 q1 en hp1 hq1 he
              rw [sget_eq, ← hs] at he
              simp only [condR, Option.some.injEq, Prod.mk.injEq] at h; obtain ⟨rfl, rfl, rfl, rfl⟩ := h
              exact st_slice_rsl hT hs hI ht ho h1 hd h2 hx hp1 hq1 hp.1 hp.2.1 hp.2.2.1 hp.2.2.2.1 he hp.2.2.2.2
            · cases h
          · cases h
        · cases h
  case fieldAddr t x f =>
    split at h
    · rename_i h1
      split at h
      · rename_i hf hx
        simp only [pureR, Option.some.injEq, Prod.mk.injEq] at h; obtain ⟨rfl, rfl, rfl, rfl⟩ := h
        exact st_fieldAddr_ref hT hs hI ht ho h1 hf hx
      · rename_i hf hx
        simp only [pureR, Option.some.injEq, Prod.mk.injEq] at h; obtain ⟨rfl, rfl, rfl, rfl⟩ := h
        exact st_fieldAddr_iptr hT hs hI ht ho h1 hf hx
      · cases h
    · cases h
  case field t x f =>
    split at h
    · rename_i h1
      split at h
      · rename_i hf hx
        simp only [condR, Option.some.injEq, Prod.mk.injEq] at h; obtain ⟨rfl, rfl, rfl, rfl⟩ := h
        exact st_field_agg hT hs hI ht ho h1 hf hx hp
      · rename_i hf hx
        split at h
        · rename_i c hc
          simp only [pureR, Option.some.injEq, Prod.mk.injEq] at h; obtain ⟨rfl, rfl, rfl, rfl⟩ := h
          exact st_field_one hT hs hI ht ho h1 hf hx hc
        · cases h
      · cases h
    · cases h
  case indexAddr t x i =>
    split at h
    · rename_i hc
      simp only [Bool.and_eq_true] at hc
      obtain ⟨⟨h1, h2⟩, hm⟩ := hc
      obtain ⟨e, hd⟩ := isSliceD_spec hm
      have helem := (hT t h1).elem e hd
      rw [helem] at h2 h
      split at h
      · rename_i hx hi
        simp only [condR, Option.some.injEq, Prod.mk.injEq] at h; obtain ⟨rfl, rfl, rfl, rfl⟩ := h
        exact st_indexAddr_sl hT hs hI ht ho h1 hd h2 hx hi hp.1 hp.2.1 hp.2.2
      · rename_i hx hi
        simp only [condR, Option.some.injEq, Prod.mk.injEq] at h; obtain ⟨rfl, rfl, rfl, rfl⟩ := h
        exact st_indexAddr_rsl hT hs hI ht ho h1 hd h2 hx hi hp.1 hp.2.1 hp.2.2
      · cases h
    · split at h
      · rename_i hd
        split at h
        · rename_i hc
          simp only [Bool.and_eq_true] at hc
          split at h
          · rename_i hx hi
            simp only [condR, Option.some.injEq, Prod.mk.injEq] at h; obtain ⟨rfl, rfl, rfl, rfl⟩ := h
            exact st_indexAddr_arr hT hs hI ht ho hc.1 hd hc.2 hx hi hp.1 hp.2
          · cases h
        · cases h
      · cases h
  case index t x i =>
    split at h
    · rename_i hc
      simp only [Bool.and_eq_true] at hc
      split at h
      · rename_i hx hi
        simp only [condR, Option.some.injEq, Prod.mk.injEq] at h; obtain ⟨rfl, rfl, rfl, rfl⟩ := h
        exact st_index hT hs hI ht ho hc.1 (isStringD_spec hc.2) hx hi hp.1 hp.2
      · cases h
    · cases h
  case extract x i =>
    split at h
    · rename_i cs hx
      split at h
      · rename_i c hc
        simp only [pureR, Option.some.injEq, Prod.mk.injEq] at h; obtain ⟨rfl, rfl, rfl, rfl⟩ := h
        exact st_extract hs hI ht ho hx hc
      · cases h
    · cases h
  case makeFunc fn fs cs =>
    cases fn <;> simp only at h <;> try (cases h; done)
    simp only [pureR, Option.some.injEq, Prod.mk.injEq] at h; obtain ⟨rfl, rfl, rfl, rfl⟩ := h
    exact st_makeFunc hs hI ht ho
  case nilCheck x =>
    have hn := fun hh => st_nilCheck hs hI ht (E := E) (o := o) (x := x) ho hh
    split at h
    · rename_i hx
      simp only [pureR, Option.some.injEq, Prod.mk.injEq] at h; obtain ⟨rfl, rfl, rfl, rfl⟩ := h
      rw [hx] at hn; exact hn (.inl ⟨_, _, _, rfl⟩)
    · rename_i hx
      simp only [pureR, Option.some.injEq, Prod.mk.injEq] at h; obtain ⟨rfl, rfl, rfl, rfl⟩ := h
      rw [hx] at hn; exact hn (.inr (.inl ⟨_, rfl⟩))
    · rename_i hx
      simp only [pureR, Option.some.injEq, Prod.mk.injEq] at h; obtain ⟨rfl, rfl, rfl, rfl⟩ := h
      rw [hx] at hn; exact hn (.inr (.inr ⟨_, _, _, rfl⟩))
    · cases h
  case call c =>
    split at h
    · rename_i hc
      split at h
      · rename_i x t h0 k0
        split at h
        · rename_i h1
          cases hn : alen (T t).desc (ev ts x) with
          | none => simp [hn] at h
          | some n =>
            simp only [hn, Option.bind_some, pureR, Option.some.injEq, Prod.mk.injEq] at h; obtain ⟨rfl, rfl, rfl, rfl⟩ := h
            exact st_len hT hs hI ht ho hc h0 k0 h1 hn
        · cases h
      · cases h
    · rename_i hc
      split at h
      · rename_i x y t h0 hy k0
        split at h
        · rename_i hcc
          simp only [Bool.and_eq_true, decide_eq_true_eq] at hcc
          obtain ⟨⟨⟨⟨⟨⟨h1, h2⟩, hpos⟩, hany⟩, hsz⟩, hsz2⟩, hm⟩ := hcc
          obtain ⟨e, hd⟩ := isSliceD_spec hm
          have helem := (hT t h1).elem e hd
          rw [helem] at h2 hpos
          cases hu : c.argTypes[1]? with
          | none => simp [hu] at hany
          | some u =>
            simp only [hu, Option.any_some, Bool.and_eq_true, Bool.or_eq_true] at hany
            refine st_append hT hs hI ht ho hc h0 hy hsz k0 hu hsz2 h1 hd h2 hpos hany.1 ?_ h hp
            rcases hany.2 with hh | hh
            · exact .inl (isSliceD_spec hh)
            · exact .inr (isStringD_spec hh)
        · cases h
      · cases h
    · rename_i hc
      split at h
      · rename_i hh
        simp only [pureR, Option.some.injEq, Prod.mk.injEq] at h; obtain ⟨rfl, rfl, rfl, rfl⟩ := h
        exact st_sliceData_nil hT hs hI ht ho hc hh
      · rename_i hh
        split at h
        · rename_i en he
          rw [sget_eq, ← hs] at he
          simp only [condR, Option.some.injEq, Prod.mk.injEq] at h; obtain ⟨rfl, rfl, rfl, rfl⟩ := h
          exact st_sliceData hT hs hI ht ho hc hh he hp.1 hp.2
        · cases h
      · cases h
    · rename_i hc
      split at h
      · rename_i hh hk
        simp only [pureR, Option.some.injEq, Prod.mk.injEq] at h; obtain ⟨rfl, rfl, rfl, rfl⟩ := h
        exact st_string_nil hT hs hI ht ho hc hh hk
      · rename_i hh hk
        split at h
        · rename_i he hd
          rw [sget_eq, ← hs] at he
          split at h
          · rename_i hcc
            simp only [Bool.and_eq_true, decide_eq_true_eq] at hcc
            split at h
            · rename_i b hb
              simp only [Option.some.injEq, Prod.mk.injEq] at h; obtain ⟨rfl, rfl, rfl, rfl⟩ := h
              obtain ⟨rfl, rfl, rfl, h5, h6, h7⟩ := hp
              exact st_string hT hs hI ht ho hc hh hk hcc.1.1 hd hcc.1.2 hcc.2 he h5 h6 h7 hb
            · cases h
          · cases h
        · cases h
      · cases h
    · rename_i hc
      split at h
      · rename_i hh hk
        split at h
        · rename_i he
          rw [sget_eq, ← hs] at he
          split at h
          · rename_i hcc
            simp only [Bool.and_eq_true, decide_eq_true_eq] at hcc
            obtain ⟨e, hd⟩ := isSliceD_spec hcc.1.1.2
            have helem := (hT _ hcc.1.1.1).elem e hd
            rw [helem] at hcc
            simp only [Option.some.injEq, Prod.mk.injEq] at h; obtain ⟨rfl, rfl, rfl, rfl⟩ := h
            obtain ⟨q1, q2, q3, q4, q5, q6⟩ := hp
            exact st_copy hT hs hI ht ho hc hh hk hcc.1.1.1 hd hcc.1.2 hcc.2 he q1 q2 q3 q4 q5 q6
          · cases h
        · cases h
      · rename_i hh hk
        split at h
        · rename_i hcc
          simp only [Bool.and_eq_true] at hcc
          obtain ⟨e, hd⟩ := isSliceD_spec hcc.1.2
          have helem := (hT _ hcc.1.1).elem e hd
          rw [helem] at hcc
          simp only [pureR, Option.some.injEq, Prod.mk.injEq] at h; obtain ⟨rfl, rfl, rfl, rfl⟩ := h
          exact st_copy_nil hT hs hI ht ho hc hh hk hcc.1.1 hd hcc.2
        · cases h
      · cases h
    · rename_i hc
      split at h
      · rename_i hh hk
        split at h
        · rename_i hcc
          simp only [Bool.and_eq_true] at hcc
          obtain ⟨e, hd⟩ := isSliceD_spec hcc.2
          simp only [pureR, Option.some.injEq, Prod.mk.injEq] at h; obtain ⟨rfl, rfl, rfl, rfl⟩ := h
          exact st_cap_nil hT hs hI ht ho hc hh hk hcc.1 hd
        · cases h
      · cases h
    · rename_i hc
      split at h
      · rename_i hh
        simp only [pureR, Option.some.injEq, Prod.mk.injEq] at h; obtain ⟨rfl, rfl, rfl, rfl⟩ := h
        exact st_max hs hI ht ho hc hh
      · cases h
    · rename_i hc
      split at h
      · rename_i hh
        simp only [pureR, Option.some.injEq, Prod.mk.injEq] at h; obtain ⟨rfl, rfl, rfl, rfl⟩ := h
        exact st_min hs hI ht ho hc hh
      · cases h
    · cases h
end
end Go.Vm

/- What a call leaves behind it may be forgotten where nothing leads to it. -/
set_option linter.unusedVariables false
set_option linter.unusedSimpArgs false
set_option linter.unusedSectionVars false
namespace Go.Vm
open Go.RowKit

mutual
theorem Rep.low {s : S} : ∀ {c : AV} {y : Value}, Rep s c y → c.low s.σ.length = true
  | .v _, _, _ => by simp [AV.low]
  | .str _, _, _ => by simp [AV.low]
  | .un, _, _ => by simp [AV.low]
  | .agg _, _, h => by unfold Rep at h; obtain ⟨vs, _, h1⟩ := h; simp only [AV.low]; exact RepL.low h1
  | .tup _, _, h => by unfold Rep at h; obtain ⟨vs, _, h1⟩ := h; simp only [AV.low]; exact RepL.low h1
  | .sl es, _, h => by
    unfold Rep at h
    obtain ⟨a, cap, _, _, h1⟩ := h
    simp only [AV.low]
    rcases h1 with rfl | ⟨blk, off, k, _, _, h1⟩
    · simp [AV.low.lows]
    · exact RepRow.low h1
  | .iptr _, _, h => by unfold Rep at h; obtain ⟨blk, off, _, h1⟩ := h; simp only [AV.low]; exact RepAt.low h1
  | .ref id _ _, _, h => by unfold Rep at h; obtain ⟨e, b, he, _⟩ := h; simp only [AV.low, decide_eq_true_eq]; exact lt_of_get he
  | .rsl id _ _ _ _, _, h => by unfold Rep at h; obtain ⟨e, b, he, _⟩ := h; simp only [AV.low, decide_eq_true_eq]; exact lt_of_get he
  | .mp id, _, h => by unfold Rep at h; obtain ⟨e, b, he, _⟩ := h; simp only [AV.low, decide_eq_true_eq]; exact lt_of_get he
  | .fn _ _ _, _, h => by unfold Rep at h; obtain ⟨vs, us, _, h1, h2⟩ := h; simp only [AV.low, Bool.and_eq_true]; exact ⟨RepL.low h1, RepL.low h2⟩
  | .ifc _ _, _, h => by unfold Rep at h; obtain ⟨v, _, h1⟩ := h; simp only [AV.low]; exact Rep.low h1
theorem RepL.low {s : S} : ∀ {cs : List AV} {vs : List Value}, RepL s cs vs → AV.low.lows s.σ.length cs = true
  | [], _, _ => by simp [AV.low.lows]
  | _ :: _, _, h => by unfold RepL at h; obtain ⟨v, vs', _, h1, h2⟩ := h; simp only [AV.low.lows, Bool.and_eq_true]; exact ⟨Rep.low h1, RepL.low h2⟩
theorem RepRow.low {s : S} {k blk : Nat} : ∀ {off : Nat} {es : List AV}, RepRow s k blk off es → AV.low.lows s.σ.length es = true
  | _, [], _ => by simp [AV.low.lows]
  | _, _ :: _, h => by unfold RepRow at h; obtain ⟨⟨y, _, h1⟩, h2⟩ := h; simp only [AV.low.lows, Bool.and_eq_true]; exact ⟨Rep.low h1, RepRow.low h2⟩
theorem RepAt.low {s : S} {blk : Nat} : ∀ {off : Nat} {cs : List AV}, RepAt s blk off cs → AV.low.lows s.σ.length cs = true
  | _, [], _ => by simp [AV.low.lows]
  | _, _ :: _, h => by unfold RepAt at h; obtain ⟨⟨y, _, _, h1⟩, h2⟩ := h; simp only [AV.low.lows, Bool.and_eq_true]; exact ⟨Rep.low h1, RepAt.low h2⟩
end

/-- A store without its last entries. -/
def S.cut (s : S) (n : Nat) : S := { s with σ := s.σ.take n, β := s.β.take n }

theorem get_take {α : Type} {l : List α} {n i : Nat} {x : α} (h : (l.take n)[i]? = some x) : i < n ∧ l[i]? = some x := by
  rw [List.getElem?_take] at h
  split at h
  · rename_i hh; exact ⟨hh, h⟩
  · cases h
theorem take_get {α : Type} {l : List α} {n i : Nat} {x : α} (hi : i < n) (h : l[i]? = some x) : (l.take n)[i]? = some x := by
  rw [List.getElem?_take, if_pos hi, h]

theorem Imm.cut {s : S} {n blk off : Nat} (h : Imm s blk off) : Imm (s.cut n) blk off :=
  ⟨h.1, fun id e b he hb hbb => h.2 id e b (get_take he).2 (get_take hb).2 hbb⟩
theorem LoadsAt.cut {s : S} {n : Nat} {ag : Bool} {k blk off : Nat} {y : Value} (h : LoadsAt s ag k blk off y) : LoadsAt (s.cut n) ag k blk off y := by
  cases ag with
  | true => obtain ⟨vs, rfl, hk, hh⟩ := LoadsAt.agg h; unfold LoadsAt; simp only [if_true]; exact ⟨vs, rfl, hk, fun i x hx => ⟨(hh i x hx).1, (hh i x hx).2.cut⟩⟩
  | false => obtain ⟨rfl, h1, h2⟩ := LoadsAt.cell h; unfold LoadsAt; simp only [Bool.false_eq_true, if_false]; exact ⟨by trivial, h1, h2.cut⟩

mutual
theorem Rep.cut {s : S} {n : Nat} : ∀ {c : AV} {y : Value}, Rep s c y → c.low n = true → Rep (s.cut n) c y
  | .v _, _, h, _ => by unfold Rep at *; exact h
  | .str _, _, h, _ => by unfold Rep at *; exact h
  | .un, _, _, _ => by unfold Rep; trivial
  | .agg _, _, h, hl => by unfold Rep at *; obtain ⟨vs, rfl, h1⟩ := h; simp only [AV.low] at hl; exact ⟨vs, rfl, RepL.cut h1 hl⟩
  | .tup _, _, h, hl => by unfold Rep at *; obtain ⟨vs, rfl, h1⟩ := h; simp only [AV.low] at hl; exact ⟨vs, rfl, RepL.cut h1 hl⟩
  | .sl es, _, h, hl => by
    unfold Rep at *
    obtain ⟨a, cap, rfl, h0, h1⟩ := h
    simp only [AV.low] at hl
    refine ⟨a, cap, rfl, h0, ?_⟩
    rcases h1 with h1 | ⟨blk, off, k, ha, hk, h1⟩
    · exact .inl h1
    · exact .inr ⟨blk, off, k, ha, hk, RepRow.cut h1 hl⟩
  | .iptr _, _, h, hl => by unfold Rep at *; obtain ⟨blk, off, rfl, h1⟩ := h; simp only [AV.low] at hl; exact ⟨blk, off, rfl, RepAt.cut h1 hl⟩
  | .ref id _ _, _, h, hl => by
    unfold Rep at *; obtain ⟨e, b, he, hb, h1⟩ := h; simp only [AV.low, decide_eq_true_eq] at hl
    exact ⟨e, b, take_get hl he, take_get hl hb, h1⟩
  | .rsl id _ _ _ _, _, h, hl => by
    unfold Rep at *; obtain ⟨e, b, he, hb, h1⟩ := h; simp only [AV.low, decide_eq_true_eq] at hl
    exact ⟨e, b, take_get hl he, take_get hl hb, h1⟩
  | .mp id, _, h, hl => by
    unfold Rep at *; obtain ⟨e, b, he, hb, h1⟩ := h; simp only [AV.low, decide_eq_true_eq] at hl
    exact ⟨e, b, take_get hl he, take_get hl hb, h1⟩
  | .fn _ _ _, _, h, hl => by
    unfold Rep at *; obtain ⟨vs, us, rfl, h1, h2⟩ := h; simp only [AV.low, Bool.and_eq_true] at hl
    exact ⟨vs, us, rfl, RepL.cut h1 hl.1, RepL.cut h2 hl.2⟩
  | .ifc _ _, _, h, hl => by unfold Rep at *; obtain ⟨v, rfl, h1⟩ := h; simp only [AV.low] at hl; exact ⟨v, rfl, Rep.cut h1 hl⟩
theorem RepL.cut {s : S} {n : Nat} : ∀ {cs : List AV} {vs : List Value}, RepL s cs vs → AV.low.lows n cs = true → RepL (s.cut n) cs vs
  | [], _, h, _ => by unfold RepL at *; exact h
  | _ :: _, _, h, hl => by unfold RepL at *; obtain ⟨v, vs', rfl, h1, h2⟩ := h; simp only [AV.low.lows, Bool.and_eq_true] at hl; exact ⟨v, vs', rfl, Rep.cut h1 hl.1, RepL.cut h2 hl.2⟩
theorem RepRow.cut {s : S} {n k blk : Nat} : ∀ {off : Nat} {es : List AV}, RepRow s k blk off es → AV.low.lows n es = true → RepRow (s.cut n) k blk off es
  | _, [], _, _ => by unfold RepRow; trivial
  | _, _ :: _, h, hl => by unfold RepRow at *; obtain ⟨⟨y, h0, h1⟩, h2⟩ := h; simp only [AV.low.lows, Bool.and_eq_true] at hl; exact ⟨⟨y, h0.cut, Rep.cut h1 hl.1⟩, RepRow.cut h2 hl.2⟩
theorem RepAt.cut {s : S} {n blk : Nat} : ∀ {off : Nat} {cs : List AV}, RepAt s blk off cs → AV.low.lows n cs = true → RepAt (s.cut n) blk off cs
  | _, [], _, _ => by unfold RepAt; trivial
  | _, _ :: _, h, hl => by unfold RepAt at *; obtain ⟨⟨y, h0, h00, h1⟩, h2⟩ := h; simp only [AV.low.lows, Bool.and_eq_true] at hl; exact ⟨⟨y, h0, h00.cut, Rep.cut h1 hl.1⟩, RepAt.cut h2 hl.2⟩
end

def Ent.low (n : Nat) : Ent → Bool
  | .arr _ cells _ _ => AV.low.lows n cells
  | .map es _ => AV.low.lows n (es.map (·.2.1))

theorem lows_get {n : Nat} : ∀ {l : List AV}, AV.low.lows n l = true → ∀ {i : Nat} {c : AV}, l[i]? = some c → c.low n = true
  | [], _, i, c, h => by simp at h
  | x :: l, h, i, c, hi => by
    simp only [AV.low.lows, Bool.and_eq_true] at h
    cases i with
    | zero => simp at hi; subst hi; exact h.1
    | succ i => simp at hi; exact lows_get h.2 hi
theorem lows_of {n : Nat} : ∀ {l : List AV}, (∀ (i : Nat) c, l[i]? = some c → c.low n = true) → AV.low.lows n l = true
  | [], _ => rfl
  | x :: l, h => by simp only [AV.low.lows, Bool.and_eq_true]; exact ⟨h 0 x rfl, lows_of fun i c hi => h (i + 1) c (by simpa using hi)⟩

theorem EntOK.low {s : S} {e : Ent} {b : Slot} (h : EntOK s e b) : e.low s.σ.length = true := by
  cases e with
  | arr ty cells ver imm =>
    obtain ⟨_, _, _, hc⟩ := h
    exact lows_of fun i c hi => by obtain ⟨y, _, h2, _⟩ := hc i c hi; exact h2.low
  | map es clock =>
    obtain ⟨mes, _, _, h3⟩ := h
    refine lows_of fun i c hi => ?_
    rw [List.getElem?_map] at hi
    cases hh : es[i]? with
    | none => simp [hh] at hi
    | some q =>
      obtain ⟨k, x, born⟩ := q
      simp only [hh, Option.map_some, Option.some.injEq] at hi
      subst hi
      obtain ⟨y, _, h5⟩ := h3 i k x born hh
      exact h5.low

theorem EntOK.cut {s : S} {n : Nat} {e : Ent} {b : Slot} (h : EntOK s e b) (hl : e.low n = true) : EntOK (s.cut n) e b := by
  cases e with
  | arr ty cells ver imm =>
    obtain ⟨h1, h2, h3, h4⟩ := h
    exact ⟨h1, h2, h3, fun j c hj => by obtain ⟨y, a1, a2, a3⟩ := h4 j c hj; exact ⟨y, a1, a2.cut (lows_get hl hj), a3⟩⟩
  | map es clock =>
    obtain ⟨mes, h1, h2, h3⟩ := h
    refine ⟨mes, h1, h2, fun j k x born hj => ?_⟩
    obtain ⟨y, h4, h5⟩ := h3 j k x born hj
    exact ⟨y, h4, h5.cut (lows_get hl (i := j) (by rw [List.getElem?_map, hj]; rfl))⟩

/-- Each entry is as it was, or leads to nothing new. -/
def StoreLow (n : Nat) (g g' : List Ent) : Prop := ∀ (i : Nat) (e : Ent), g'[i]? = some e → g[i]? = some e ∨ e.low n = true
theorem StoreLow.refl (n : Nat) (g : List Ent) : StoreLow n g g := fun _ _ h => .inl h

theorem Ext.length {s s' : S} (hI : HInv s) (h : Ext s s') : s.σ.length ≤ s'.σ.length := by
  rcases Nat.eq_zero_or_pos s.σ.length with h0 | h0
  · omega
  · have h1 : s.σ[s.σ.length - 1]? = some s.σ[s.σ.length - 1] := List.getElem?_eq_getElem (by omega)
    have hb : s.σ.length - 1 < s.β.length := by rw [hI.len]; omega
    obtain ⟨e', b', h2, _⟩ := h.ent _ _ _ h1 (List.getElem?_eq_getElem hb)
    have := lt_of_get h2
    omega

theorem cut_ok {s0 s : S} {g' l' : List Ent} (hI0 : HInv s0) (hI : HInv s) (hE : Ext s0 s) (hs : s.σ = g' ++ l') (hg : g'.length = s0.σ.length) (hl : StoreLow s0.σ.length s0.σ g') :
    HInv (s.cut s0.σ.length) ∧ Ext s0 (s.cut s0.σ.length) ∧ (s.cut s0.σ.length).σ = g' := by
  have hσ : s.σ.take s0.σ.length = g' := by rw [hs, ← hg, List.take_left]
  refine ⟨⟨?_, hI.B, fun id b hb => hI.slot id b (get_take hb).2, fun i j b c hb hc => hI.inj i j b c (get_take hb).2 (get_take hc).2, fun id e b he hb => ?_, fun id e b he hb hm => hI.shape id e b (get_take he).2 (get_take hb).2 hm⟩, ⟨hE.B, hE.below, fun blk off hi => ?_, fun id e b he hb => ?_⟩, hσ⟩
  · simp only [S.cut, List.length_take, hI.len]
  · have he' := get_take he
    refine (hI.ent id e b he'.2 (get_take hb).2).cut ?_
    have hge : g'[id]? = some e := by
      have : (s.σ.take s0.σ.length)[id]? = some e := he
      rwa [hσ] at this
    rcases hl id e hge with h1 | h1
    · have hb0 : id < s0.β.length := by rw [hI0.len]; exact lt_of_get h1
      exact (hI0.ent id e _ h1 (List.getElem?_eq_getElem hb0)).low
    · exact h1
  · obtain ⟨h1, h2⟩ := hE.imm blk off hi
    exact ⟨h1.cut, h2⟩
  · obtain ⟨e', b', h1, h2, h3⟩ := hE.ent id e b he hb
    have hid := lt_of_get he
    exact ⟨e', b', take_get hid h1, take_get hid h2, h3⟩
end Go.Vm

/- Code does what 'aCode' says; a function's body gives the function's contract. -/
set_option linter.unusedVariables false
set_option linter.unusedSimpArgs false
set_option linter.unusedSectionVars false
namespace Go.Vm
open Go.RowKit

theorem TsRep.ext {s s' : S} (h : Ext s s') {ts : Ts} {a : Act} (ht : TsRep s ts a) : TsRep s' ts a := fun i => Rep.ext h (ht i)

theorem getD_set (A : Array Value) (d i : Nat) (v : Value) : (A.setIfInBounds d v).getD i undef = if d = i ∧ d < A.size then v else A.getD i undef := by
  simp only [Array.getD_eq_getD_getElem?, Array.getElem?_setIfInBounds]
  by_cases h : d = i
  · subst h
    by_cases h2 : d < A.size
    · simp [h2]
    · simp [h2]
  · simp [h]

theorem TsRep.put {s : S} {ts : Ts} {a : Act} (ht : TsRep s ts a) {dst : Option Nat} (hd : ∀ d, dst = some d → d < a.tmps.size) {r : AV} {v : Value} (hr : Rep s r v) : TsRep s (tput ts dst r) (a.put dst v) := by
  cases dst with
  | none => exact ht
  | some d =>
    intro i
    show Rep s (tget ((d, r) :: ts) i) ((a.tmps.setIfInBounds d v).getD i undef)
    rw [getD_set]
    unfold tget
    by_cases h : d = i
    · rw [if_pos h, if_pos ⟨h, hd d rfl⟩]; exact hr
    · rw [if_neg h, if_neg (fun hh => h hh.1)]; exact ht i

theorem TsRep.tell {s : S} {ts : Ts} {a : Act} (ht : TsRep s ts a) {d : Nat} {r : AV} (hr : Rep s r (a.tmps.getD d undef)) : TsRep s ((d, r) :: ts) a := by
  intro i
  unfold tget
  by_cases h : d = i
  · rw [if_pos h]; subst h; exact hr
  · rw [if_neg h]; exact ht i

theorem put_size (a : Act) (dst : Option Nat) (v : Value) : (a.put dst v).tmps.size = a.tmps.size := by
  cases dst <;> simp [Act.put]
theorem put_defers (a : Act) (dst : Option Nat) (v : Value) : (a.put dst v).defers = a.defers := by
  cases dst <;> rfl

section
variable {E : Env} {T : Nat → TI} (hT : TabOK E.P T)
include hT

theorem aOne_sound {rows : List Nat} {o : Oper} {ts : Ts} {g l : List Ent} {K : AV → List Ent → List Ent → Prop} (h : aOne E T rows o ts g l K) {s : S} {a : Act} (hs : s.σ = g ++ l) (hI : HInv s)
    (hΓ : E.Γ s.B s.w) (ht : TsRep s ts a) {next : Act → World → Prop} {Q : Exit → Act → World → Prop}
    (hK : ∀ v r g' l' s', s'.σ = g' ++ l' → g'.length = g.length → HInv s' → Ext s s' → Rep s' r v → K r g' l' → next (a.put o.dst v) s'.w) : o.wp E.P a s.w next Q := by
  have hdet : ∀ {p : Prop} {r : AV} {g' l' : List Ent}, aDet T rows o ts g l = some (p, r, g', l') → p → K r g' l' → o.wp E.P a s.w next Q := by
    intro p r g' l' h1 hp hk
    obtain ⟨nx, v, s', hrun, hnx, hs', hg, hB, hI', hE, hr⟩ := aDet_sound hT hs hI ht h1 hp
    unfold Oper.wp
    rw [hrun]
    rcases hnx with rfl | ⟨rfl, rfl⟩
    · exact hK v r g' l' s' hs' hg hI' hE hr hk
    · exact hK undef r g' l' s' hs' hg hI' hE hr hk
  unfold aOne at h
  split at h
  · rename_i f as tys ho
    split at h
    · rename_i fid first cap hf
      have hfr := ev_rep ht f
      rw [hf] at hfr
      unfold Rep at hfr
      obtain ⟨vs, us, hv, hr1, hr2⟩ := hfr
      have hargs : RepL s (first ++ as.toList.map (ev ts) ++ cap) (vs.toList ++ as.toList.map a.eval ++ us.toList) := RepL.append (RepL.append hr1 (evs_rep ht as.toList)) hr2
      have harr : (vs.toList ++ as.toList.map a.eval ++ us.toList).toArray = vs ++ as.map a.eval ++ us := by
        apply Array.ext'; simp
      rcases h with ⟨⟨fn, hfn, hbody, hname⟩, hcall⟩ | hcall
      · have hc := hcall s _ hs hI hΓ hargs
        rw [harr] at hc
        have hnone : fn.body.isNone = false := by cases hb : fn.body <;> simp_all
        have hrun : (execOp a.eval o).run E.P s.w = .ok (.enter fid (vs ++ as.map a.eval ++ us)) s.w := by
          have hn1 : fn.name ≠ "runtime.NumGoroutine" := by simpa using hname
          have hn2 : fn.body ≠ none := by intro hh; rw [hh] at hnone; cases hnone
          simp [execOp, ho, resolve, hv, Deferred.ofValue, invoke, callFunc, hfn, hn1, hn2]
        unfold Oper.wp
        rw [hrun, Oper.upon_enter]
        refine hc.mono fun e w' ⟨v, r, s', he, hw, hI', hE, hr, hk⟩ => ?_
        subst he hw
        have hlen := hE.length hI
        rw [hs, List.length_append] at hlen
        exact hK v r _ _ s' (List.take_append_drop g.length s'.σ).symm (by simp; omega) hI' hE hr hk
      · obtain ⟨v, r, s', hc, hI', hE, hr, hk⟩ := hcall s _ hs hI hΓ hargs
        rw [harr] at hc
        rw [Array.append_assoc] at hc
        have hrun : (execOp a.eval o).run E.P s.w = .ok (.value v) s'.w := by
          simp [execOp, ho, resolve, hv, Deferred.ofValue, invoke, hc]
        unfold Oper.wp
        rw [hrun]
        have hlen := hE.length hI
        rw [hs, List.length_append] at hlen
        exact hK v r _ _ s' (List.take_append_drop g.length s'.σ).symm (by simp; omega) hI' hE hr hk
    · exact h.elim
  · rename_i rc m as tys ho
    split at h
    · rename_i t x hf
      obtain ⟨fid, hm, h⟩ := h
      have hfr := ev_rep ht rc
      rw [hf] at hfr
      unfold Rep at hfr
      obtain ⟨v, hv, hr1⟩ := hfr
      have hargs : RepL s (x :: as.toList.map (ev ts)) (v :: as.toList.map a.eval) := by unfold RepL; exact ⟨_, _, rfl, hr1, evs_rep ht as.toList⟩
      have harr : (v :: as.toList.map a.eval).toArray = #[v] ++ as.map a.eval := by
        apply Array.ext'; simp
      have hres : (execOp a.eval o).run E.P s.w = (callFunc fid (#[v] ++ as.map a.eval)).run E.P s.w := by
        have e0 : (#[Value.iface t v] ++ Array.map a.eval as)[0]? = some (.iface t v) := by rw [Array.getElem?_append_left (by simp)]; rfl
        have e1 : (Array.map a.eval as).extract 0 as.size = as.map a.eval := by
          have : as.size = (Array.map a.eval as).size := by simp
          rw [this]; exact Array.extract_size
        simp [execOp, ho, resolve, hv, invoke, callMethod, e0, e1, hm v]
      rcases h with ⟨⟨fn, hfn, hbody, hname⟩, hcall⟩ | hcall
      · have hc := hcall s _ hs hI hΓ hargs
        rw [harr] at hc
        have hnone : fn.body.isNone = false := by cases hb : fn.body <;> simp_all
        have hrun : (execOp a.eval o).run E.P s.w = .ok (.enter fid (#[v] ++ as.map a.eval)) s.w := by
          have hn1 : fn.name ≠ "runtime.NumGoroutine" := by simpa using hname
          have hn2 : fn.body ≠ none := by intro hh; rw [hh] at hnone; cases hnone
          rw [hres]
          simp [callFunc, hfn, hn1, hn2]
        unfold Oper.wp
        rw [hrun, Oper.upon_enter]
        refine hc.mono fun e w' ⟨v, r, s', he, hw, hI', hE, hr, hk⟩ => ?_
        subst he hw
        have hlen := hE.length hI
        rw [hs, List.length_append] at hlen
        exact hK v r _ _ s' (List.take_append_drop g.length s'.σ).symm (by simp; omega) hI' hE hr hk
      · obtain ⟨v', r, s', hc, hI', hE, hr, hk⟩ := hcall s _ hs hI hΓ hargs
        rw [harr] at hc
        have hrun : (execOp a.eval o).run E.P s.w = .ok (.value v') s'.w := by rw [hres, hc]
        unfold Oper.wp
        rw [hrun]
        have hlen := hE.length hI
        rw [hs, List.length_append] at hlen
        exact hK v' r _ _ s' (List.take_append_drop g.length s'.σ).symm (by simp; omega) hI' hE hr hk
    · exact h.elim
  · split at h
    · rename_i p r g' l' hd
      exact hdet hd h.1 h.2
    · exact h.elim

/-- Each operation's place is one of the frame's. -/
def opsOK (n : Nat) (ops : List Oper) : Bool := ops.all fun o => match o.dst with
  | some d => decide (d < n)
  | none => true
omit hT in
theorem opsOK_dst {n : Nat} {ops : List Oper} (h : opsOK n ops = true) {i : Nat} {o : Oper} (hi : ops[i]? = some o) : ∀ d, o.dst = some d → d < n := by
  intro d hd
  have := List.all_eq_true.1 h o (List.mem_of_getElem? hi)
  simpa [hd] using this

theorem getD_bool {A : Array Value} {d : Nat} {b : Bool} (h : A.getD d undef = .bool b) : A[d]? = some (.bool b) := by
  rw [Array.getD_eq_getD_getElem?] at h
  cases hh : A[d]? with
  | none => rw [hh] at h; simp [undef] at h
  | some x => rw [hh] at h; simp at h; rw [h]

theorem aOps_sound {n : Nat} {rows : List Nat} {ops : Array Oper} (hok : opsOK n ops.toList = true) {Q : Exit → Act → World → Prop} : ∀ (m k : Nat), k + m = ops.size → ∀ {ts : Ts} {g l : List Ent} {K : Ts → List Ent → List Ent → Prop},
    aOps E T rows ops (ops.toList.drop k) ts g l K → ∀ {s : S} {a : Act}, s.σ = g ++ l → HInv s → E.Γ s.B s.w → TsRep s ts a → a.tmps.size = n →
    (∀ ts' g' l' s' a', s'.σ = g' ++ l' → g'.length = g.length → HInv s' → Ext s s' → TsRep s' ts' a' → a'.tmps.size = n → a'.defers = a.defers → K ts' g' l' → Q .normal a' s'.w) →
    wpOps E.P ops Q (List.range' k m) a s.w := by
  intro m
  induction m with
  | zero =>
    intro k hk ts g l K h s a hs hI hΓ ht hn hK
    have : ops.toList.drop k = [] := by rw [List.drop_eq_nil_of_le]; simp; omega
    rw [this] at h
    exact hK ts g l s a hs rfl hI (Ext.refl s) ht hn rfl h
  | succ m ih =>
    intro k hk ts g l K h s a hs hI hΓ ht hn hK
    have hlt : k < ops.size := by omega
    have hget : ops[k]? = some ops[k] := Array.getElem?_eq_getElem hlt
    generalize ho : ops[k] = o at hget
    have hdrop : ops.toList.drop k = o :: ops.toList.drop (k + 1) := by
      rw [List.drop_eq_getElem_cons (by simpa using hlt)]; simp [ho]
    rw [hdrop] at h
    have hdst := opsOK_dst hok (i := k) (o := o) (by simpa using hget)
    have hcont : ∀ {v : Value} {r : AV} {ts0 : Ts} {g' l' : List Ent} {s' : S}, s'.σ = g' ++ l' → g'.length = g.length → HInv s' → Ext s s' → Rep s' r v → TsRep s' ts0 a →
        aOps E T rows ops (ops.toList.drop (k + 1)) (tput ts0 o.dst r) g' l' K → wpOps E.P ops Q (List.range' (k + 1) m) (a.put o.dst v) s'.w := by
      intro v r ts0 g' l' s' hs' hg' hI' hE hr ht' hh
      refine ih (k + 1) (by omega) hh hs' hI' (hE.B ▸ E.stable _ _ _ (hE.below) hΓ) (ht'.put (by rw [hn]; exact hdst) hr) (by rw [put_size]; exact hn) ?_
      intro ts' g'' l'' s'' a' h1 h2 h3 h4 h5 h6 h7 h8
      exact hK ts' g'' l'' s'' a' h1 (h2.trans hg') h3 (hE.trans h4) h5 h6 (by rw [h7, put_defers]) h8
    rw [List.range'_succ]
    unfold wpOps
    simp only [hget]
    unfold aOps at h
    cases hg : o.guard with
    | none =>
      simp only [hg] at h
      have hw : Region.wanted o (yielded ops a.tmps) = true := by simp [Region.wanted, hg]
      rw [if_pos hw]
      left
      exact aOne_sound hT h hs hI hΓ ht fun v r g' l' s' h1 h2 h3 h4 h5 h6 => hcont h1 h2 h3 h4 h5 (ht.ext h4) h6
    | some jw =>
      obtain ⟨j, want⟩ := jw
      simp only [hg] at h
      cases hsl : gslot ops j with
      | none => simp [hsl] at h
      | some d =>
        simp only [hsl] at h
        unfold gslot at hsl
        have htd := ht d
        split at h
        · rename_i b hb
          rw [hb] at htd
          unfold Rep at htd
          have hy : yielded ops a.tmps j = some b := by
            unfold yielded; rw [hsl]; simp [getD_bool hT htd]
          split at h
          · rename_i hbw
            subst hbw
            have hw : Region.wanted o (yielded ops a.tmps) = true := by simp [Region.wanted, hg, hy]
            rw [if_pos hw]
            left
            have ht2 : TsRep s ((d, boolV b) :: ts) a := ht.tell (by rw [htd]; simp only [boolV]; unfold Rep; rfl)
            exact aOne_sound hT h hs hI hΓ ht2 fun v r g' l' s' h1 h2 h3 h4 h5 h6 => hcont h1 h2 h3 h4 h5 (ht2.ext h4) h6
          · rename_i hbw
            have hw : ¬ Region.wanted o (yielded ops a.tmps) = true := by simp [Region.wanted, hg, hy, hbw]
            rw [if_neg hw]
            have ht2 : TsRep s ((d, boolV (!want)) :: ts) a := ht.tell (by
              rw [htd]; simp only [boolV]; unfold Rep
              cases b <;> cases want <;> simp_all)
            exact hcont hs rfl hI (Ext.refl s) (by unfold Rep; rfl) ht2 h
        · rename_i q hb
          rw [hb] at htd
          unfold Rep at htd
          have hy : yielded ops a.tmps j = none := by
            unfold yielded; rw [hsl]
            simp only [Option.bind_some]
            rw [Array.getD_eq_getD_getElem?] at htd
            cases hh : a.tmps[d]? with
            | none => rfl
            | some x => rw [hh] at htd; simp at htd; rw [htd]
          have hw : ¬ Region.wanted o (yielded ops a.tmps) = true := by simp [Region.wanted, hg, hy]
          rw [if_neg hw]
          exact hcont hs rfl hI (Ext.refl s) (by unfold Rep; rfl) ht h
        · exact h.elim

/-- All regions of a code are over the frame's own places. -/
def codeOK (n : Nat) : Code → Bool
  | .region _ ops _ => opsOK n ops.toList
  | .seq a b => codeOK n a && codeOK n b
  | .cond _ a b => codeOK n a && codeOK n b
  | .block _ b => codeOK n b
  | .loop b => codeOK n b
  | _ => true

omit hT in
theorem AWp.mono {n : Nat} {c : Code} {Q Q' : Exit → Ts → List Ent → List Ent → Prop} {ts : Ts} {g l : List Ent} (h : AWp E n c Q ts g l) (hq : ∀ e ts' g' l', g'.length = g.length → Q e ts' g' l' → Q' e ts' g' l') : AWp E n c Q' ts g l :=
  fun s a D h1 h2 h3 h4 h5 h6 => wp_mono (h s a _ h1 h2 h3 h4 h5 h6) fun e a' w' ⟨ts', g', l', s', a1, a2, a3, a4, a5, a6, a7, a8, a9⟩ => ⟨ts', g', l', s', a1, a2, a3, a4, a5, a6, a7, a8, hq e ts' g' l' a3 a9⟩

omit hT in
/-- From here on. -/
theorem AWp.from {n : Nat} {c : Code} {Q : Exit → Ts → List Ent → List Ent → Prop} {ts : Ts} {g l : List Ent} (h : AWp E n c Q ts g l) {s0 s : S} {a : Act} {g0 : List Ent} (hE0 : Ext s0 s) (hg0 : g.length = g0.length)
    (h1 : s.σ = g ++ l) (h2 : HInv s) (h3 : E.Γ s.B s.w) (h4 : TsRep s ts a) (h5 : a.tmps.size = n) {D : List Deferred} (h6 : a.defers = D) :
    c.wp E.P (fun e a' w' => ∃ ts' g' l' s', s'.w = w' ∧ s'.σ = g' ++ l' ∧ g'.length = g0.length ∧ HInv s' ∧ Ext s0 s' ∧ TsRep s' ts' a' ∧ a'.tmps.size = n ∧ a'.defers = D ∧ Q e ts' g' l') a s.w :=
  wp_mono (h s a _ h1 h2 h3 h4 h5 h6) fun e a' w' ⟨ts', g', l', s', a1, a2, a3, a4, a5, a6, a7, a8, a9⟩ => ⟨ts', g', l', s', a1, a2, a3.trans hg0, a4, hE0.trans a5, a6, a7, a8, a9⟩

theorem aCode_sound {n : Nat} {rows : List Nat} : ∀ {c : Code} {Q : Exit → Ts → List Ent → List Ent → Prop} {ts : Ts} {g l : List Ent}, codeOK n c = true → aCode E n T rows c Q ts g l → AWp E n c Q ts g l
  | .skip, Q, ts, g, l, _, h => fun s a D h1 h2 h3 h4 h5 h6 => wp_skip ⟨ts, g, l, s, rfl, h1, rfl, h2, Ext.refl s, h4, h5, h6, by unfold aCode at h; exact h⟩
  | .region id ops true, Q, ts, g, l, _, h => by unfold aCode at h; exact h
  | .region id ops false, Q, ts, g, l, hok, h => fun s a D h1 h2 h3 h4 h5 h6 => by
    unfold aCode at h
    unfold codeOK at hok
    refine wp_region ?_
    rw [List.range_eq_range']
    refine aOps_sound hT hok ops.size 0 (by omega) (K := Q .normal) (by simpa using h) h1 h2 h3 h4 h5 ?_
    intro ts' g' l' s' a' a1 a2 a3 a4 a5 a6 a7 a8
    exact ⟨ts', g', l', s', rfl, a1, a2, a3, a4, a5, a6, a7.trans h6, a8⟩
  | .seq x y, Q, ts, g, l, hok, h => fun s a D h1 h2 h3 h4 h5 h6 => by
    unfold aCode at h
    simp only [codeOK, Bool.and_eq_true] at hok
    refine wp_seq (wp_mono (aCode_sound hok.1 h s a _ h1 h2 h3 h4 h5 h6) ?_)
    rintro e a' w' ⟨ts', g', l', s', rfl, a2, a3, a4, a5, a6, a7, a8, a9⟩
    cases e <;> simp only [Exit.then, thenQ] at a9 ⊢
    case normal => exact AWp.from (aCode_sound hok.2 a9) a5 a3 a2 a4 (a5.B ▸ E.stable _ _ _ a5.below h3) a6 a7 a8
    all_goals exact ⟨ts', g', l', s', rfl, a2, a3, a4, a5, a6, a7, a8, a9⟩
  | .cond c x y, Q, ts, g, l, hok, h => fun s a D h1 h2 h3 h4 h5 h6 => by
    unfold aCode at h
    simp only [codeOK, Bool.and_eq_true] at hok
    split at h
    · rename_i b hb
      have hv := rep_v h1 h2 h4 hb
      refine wp_cond hv ?_
      split at h
      · rename_i hbt; subst hbt; exact aCode_sound hok.1 h s a _ h1 h2 h3 h4 h5 h6
      · rename_i hbt; have : b = false := by simpa using hbt
        subst this; exact aCode_sound hok.2 h s a _ h1 h2 h3 h4 h5 h6
    · exact h.elim
  | .block id b, Q, ts, g, l, hok, h => fun s a D h1 h2 h3 h4 h5 h6 => by
    unfold aCode at h
    refine wp_block (wp_mono (aCode_sound (by simpa [codeOK] using hok) h s a _ h1 h2 h3 h4 h5 h6) ?_)
    rintro e a' w' ⟨ts', g', l', s', rfl, a2, a3, a4, a5, a6, a7, a8, a9⟩
    cases e <;> simp only [Exit.inBlock, blockQ] at a9 ⊢
    case exit id' =>
      split
      · rename_i hid; rw [if_pos hid] at a9; exact ⟨ts', g', l', s', rfl, a2, a3, a4, a5, a6, a7, a8, a9⟩
      · rename_i hid; rw [if_neg hid] at a9; exact ⟨ts', g', l', s', rfl, a2, a3, a4, a5, a6, a7, a8, a9⟩
    all_goals exact ⟨ts', g', l', s', rfl, a2, a3, a4, a5, a6, a7, a8, a9⟩
  | .loop b, Q, ts, g, l, _, h => by unfold aCode at h; exact h
  | .exit id, Q, ts, g, l, _, h => fun s a D h1 h2 h3 h4 h5 h6 => wp_exit ⟨ts, g, l, s, rfl, h1, rfl, h2, Ext.refl s, h4, h5, h6, by unfold aCode at h; exact h⟩
  | .ret, Q, ts, g, l, _, h => fun s a D h1 h2 h3 h4 h5 h6 => wp_ret ⟨ts, g, l, s, rfl, h1, rfl, h2, Ext.refl s, h4, h5, h6, by unfold aCode at h; exact h⟩
  | .rangeFunc .., Q, ts, g, l, _, h => by unfold aCode at h; exact h.elim
  | .scope .., Q, ts, g, l, _, h => by unfold aCode at h; exact h.elim
  | .label .., Q, ts, g, l, _, h => by unfold aCode at h; exact h.elim
  | .goto .., Q, ts, g, l, _, h => by unfold aCode at h; exact h.elim
  | .refuse .., Q, ts, g, l, _, h => by unfold aCode at h; exact h.elim
end
end Go.Vm

/- At a call's end its own rows and boxes are written no more: what leads to them is seen by its contents. -/
set_option linter.unusedVariables false
set_option linter.unusedSimpArgs false
set_option linter.unusedSectionVars false
namespace Go.Vm
open Go.RowKit

mutual
/-- x, with the rows and boxes of 'l' (whose numbers begin at n0) seen by their contents. -/
inductive Frz (n0 : Nat) (l : List Ent) : AV → AV → Prop
  | refl (x : AV) : Frz n0 l x x
  | rsl {id ver off n sz ty imm : Nat} {ag : Bool} {cells : List AV} {es es' : List AV} : n0 ≤ id → l[id - n0]? = some (.arr ty cells ver imm) → cells.drop off = es.flatMap AV.cells → off ≤ cells.length → n = es.length → 0 < sz →
      (∀ e ∈ es, isEl sz ag e = true) → FrzL n0 l es es' → Frz n0 l (.rsl id ver off n sz) (.sl es')
  | ref {id ver off ty imm : Nat} {cells cs' : List AV} : n0 ≤ id → l[id - n0]? = some (.arr ty cells ver imm) → off ≤ cells.length → FrzL n0 l (cells.drop off) cs' → Frz n0 l (.ref id ver off) (.iptr cs')
  | agg {cs cs' : List AV} : FrzL n0 l cs cs' → Frz n0 l (.agg cs) (.agg cs')
  | tup {cs cs' : List AV} : FrzL n0 l cs cs' → Frz n0 l (.tup cs) (.tup cs')
  | ifc {t : TypeId} {x x' : AV} : Frz n0 l x x' → Frz n0 l (.ifc t x) (.ifc t x')
  | fn {f : FuncId} {a a' b b' : List AV} : FrzL n0 l a a' → FrzL n0 l b b' → Frz n0 l (.fn f a b) (.fn f a' b')
inductive FrzL (n0 : Nat) (l : List Ent) : List AV → List AV → Prop
  | nil : FrzL n0 l [] []
  | cons {x x' : AV} {r r' : List AV} : Frz n0 l x x' → FrzL n0 l r r' → FrzL n0 l (x :: r) (x' :: r')
end

theorem FrzL.refl {n0 : Nat} {l : List Ent} : ∀ {es : List AV}, FrzL n0 l es es
  | [] => .nil
  | _ :: _ => .cons (.refl _) FrzL.refl

def Ent.shut : Ent → Ent
  | .arr ty cells ver _ => .arr ty cells ver cells.length
  | e => e
theorem Ent.shut_ver (e : Ent) : e.shut.ver = e.ver := by cases e <;> rfl
theorem Ent.shut_isMap (e : Ent) : e.shut.isMap = e.isMap := by cases e <;> rfl

/-- The entries from n on are written no more. -/
def S.shut (s : S) (n : Nat) : S := { s with σ := s.σ.take n ++ (s.σ.drop n).map Ent.shut }

theorem shut_get {σ : List Ent} {n i : Nat} {e : Ent} (h : (σ.take n ++ (σ.drop n).map Ent.shut)[i]? = some e) : ∃ e0, σ[i]? = some e0 ∧ ((i < n ∧ e = e0) ∨ (n ≤ i ∧ e = e0.shut)) := by
  rcases Nat.lt_or_ge i (σ.take n).length with h1 | h1
  · rw [List.getElem?_append_left h1, List.getElem?_take] at h
    split at h
    · exact ⟨e, h, .inl ⟨by assumption, rfl⟩⟩
    · cases h
  · rw [List.getElem?_append_right h1, List.getElem?_map, List.getElem?_drop] at h
    simp only [Option.map_eq_some_iff] at h
    obtain ⟨e0, h2, rfl⟩ := h
    have hlt := lt_of_get h2
    have hl : (σ.take n).length = min n σ.length := List.length_take
    have : n ≤ i := by omega
    have hn : (σ.take n).length = n := by omega
    refine ⟨e0, ?_, .inr ⟨this, rfl⟩⟩
    rw [hn] at h2
    rw [← h2]; congr 1; omega
theorem get_shut {σ : List Ent} {n i : Nat} {e : Ent} (h : σ[i]? = some e) : (σ.take n ++ (σ.drop n).map Ent.shut)[i]? = some (if i < n then e else e.shut) := by
  have hlt := lt_of_get h
  have hl : (σ.take n).length = min n σ.length := List.length_take
  split
  · rename_i hi
    rw [List.getElem?_append_left (by omega), List.getElem?_take, if_pos hi]; exact h
  · rename_i hi
    rw [List.getElem?_append_right (by omega), List.getElem?_map, List.getElem?_drop]
    have : n + (i - (σ.take n).length) = i := by omega
    rw [this, h]; rfl

section
variable {s : S} (hI : HInv s) (n : Nat)
include hI

theorem Ext.shut : Ext s (s.shut n) := by
  refine ⟨rfl, Below.refl _ _, fun blk off hi => ⟨⟨hi.1, fun i e b he hb hbb => ?_⟩, rfl⟩, fun i e b he hb => ⟨_, b, get_shut he, hb, ?_, fun _ => rfl, fun h => ?_⟩⟩
  · obtain ⟨e0, h0, h1⟩ := shut_get he
    have h2 := hi.2 i e0 b h0 hb hbb
    rcases h1 with ⟨_, rfl⟩ | ⟨_, rfl⟩
    · exact h2
    · cases e0 with
      | arr ty cells ver imm =>
        have := (hI.ent i _ b h0 hb).2.1
        simp only [Ent.shut, Ent.imm] at *; omega
      | map _ _ => exact h2
  · split <;> simp [Ent.shut_ver]
  · split <;> simp [Ent.shut_isMap, h]

theorem HInv.shut : HInv (s.shut n) := by
  have hE := Ext.shut hI n
  refine ⟨?_, hI.B, hI.slot, hI.inj, fun i e b he hb => ?_, fun i e b he hb hm => ?_⟩
  · show s.β.length = _
    rw [hI.len]; simp [S.shut]; omega
  · obtain ⟨e0, h0, h1⟩ := shut_get he
    have h2 := (hI.ent i e0 b h0 hb).of_below hE (hI.slot i b hb).2 (Below.refl _ _)
    rcases h1 with ⟨_, rfl⟩ | ⟨_, rfl⟩
    · exact h2
    · cases e0 with
      | arr ty cells ver imm =>
        obtain ⟨a1, a2, a3, a4⟩ := h2
        exact ⟨a1, Nat.le_refl _, fun j hj => ⟨(a3 j hj).1, fun h => (a3 j hj).2 (by omega)⟩, a4⟩
      | map _ _ => exact h2
  · obtain ⟨e0, h0, h1⟩ := shut_get he
    rcases h1 with ⟨_, rfl⟩ | ⟨_, rfl⟩
    · exact hI.shape i e b h0 hb hm
    · cases e0 with
      | arr ty cells ver imm => exact (hI.shape i _ b h0 hb rfl).mono (hI.ent i _ b h0 hb).2.1
      | map _ _ => simp [Ent.shut, Ent.isMap] at hm
end

theorem Frz.isAgg {n0 : Nat} {l : List Ent} {x x' : AV} (h : Frz n0 l x x') : x'.isAgg = x.isAgg := by
  cases h <;> rfl

/-- The cells of an entry that is shut are not written. -/
theorem imm_shut {s : S} (hI : HInv s) {id ty : Nat} {cells : List AV} {ver : Nat} {b : Slot} (he : s.σ[id]? = some (.arr ty cells ver cells.length)) (hb : s.β[id]? = some b) {j : Nat} (hj : j < cells.length) : Imm s b.blk (b.off + j) := by
  refine ⟨(hI.slot id b hb).2, fun i e b' he' hb' hbb => ?_⟩
  have : i = id := hI.inj i id b' b hb' hb hbb
  subst this
  rw [he] at he'; cases he'
  rw [hb] at hb'; cases hb'
  simp only [Ent.imm]; omega

theorem FrzL.get {n0 : Nat} {l : List Ent} : ∀ {es es' : List AV}, FrzL n0 l es es' → ∀ {i : Nat} {e' : AV}, es'[i]? = some e' → ∃ e, es[i]? = some e ∧ Frz n0 l e e'
  | _, _, .nil, i, e', h => by simp at h
  | _, _, .cons (r := r) h1 h2, i, e', h => by
    cases i with
    | zero => simp at h; subst h; exact ⟨_, rfl, h1⟩
    | succ i => simp at h; obtain ⟨e, h3, h4⟩ := h2.get h; exact ⟨e, by simpa using h3, h4⟩
theorem FrzL.length {n0 : Nat} {l : List Ent} : ∀ {es es' : List AV}, FrzL n0 l es es' → es'.length = es.length
  | _, _, .nil => rfl
  | _, _, .cons h1 h2 => by simp [h2.length]

section
variable {s : S} (hI : HInv s) {n0 : Nat} {l : List Ent} (hl : ∀ (id : Nat) ty cells ver imm, n0 ≤ id → l[id - n0]? = some (.arr ty cells ver imm) → s.σ[id]? = some (.arr ty cells ver cells.length))
include hI hl

mutual
theorem Rep.frz : ∀ {x x' : AV}, Frz n0 l x x' → ∀ {y : Value}, Rep s x y → Rep s x' y
  | _, _, .refl x, y, h => h
  | _, _, .rsl (ag := ag) (cells := cells) (es := es) (es' := es') h1 h2 h3 h4 h5 h6 h7 h8, y, h => by
    rename_i id ver off n sz ty imm
    have he := hl id ty cells ver imm h1 h2
    unfold Rep at h ⊢
    obtain ⟨e, b, he', hb, _, ab, ao, cap, rfl, hh⟩ := h
    rw [he] at he'; cases he'
    obtain ⟨a1, a2, a3⟩ := hh rfl
    obtain ⟨_, _, _, hc⟩ := hI.ent id _ b he hb
    have hlen := h8.length
    refine ⟨_, _, by rw [hlen, h5], by omega, ?_⟩
    rcases Nat.eq_zero_or_pos n with h0 | h0
    · left
      cases es' with
      | nil => rfl
      | cons _ _ => simp at hlen; omega
    · right
      obtain ⟨rfl, rfl⟩ := a1 (by omega)
      refine ⟨_, _, sz, rfl, h6, RepRow.mk fun i e' hi => ?_⟩
      obtain ⟨e, b1, b2, b2r⟩ := RepL.each h8 hi
      have hel := isEl_spec (h7 e (List.mem_of_getElem? b1))
      have hflat := fun j (hj : j < sz) => flat_get (f := AV.cells) (sz := sz) (fun x hx => (isEl_spec (h7 x hx)).2.1) b1 hj
      have hcell : ∀ j, j < sz → ∀ c, e.cells[j]? = some c → ∃ v, s.w.cell? ⟨b.blk, b.off + off + i * sz + j, none⟩ = some v ∧ Imm s b.blk (b.off + off + i * sz + j) ∧ Rep s c v := by
        intro j hj c hcj
        have b3 := hflat j hj
        rw [← h3, List.getElem?_drop, hcj] at b3
        obtain ⟨v, b4, b5, _⟩ := hc _ _ b3
        have := lt_of_get b3
        rw [show b.off + (off + (i * sz + j)) = b.off + off + i * sz + j by omega] at b4
        exact ⟨v, b4, by rw [show b.off + off + i * sz + j = b.off + (off + (i * sz + j)) by omega]; exact imm_shut hI he hb this, b5⟩
      cases hag : e.isAgg with
      | true =>
        cases e <;> simp [AV.isAgg] at hag
        rename_i cs
        simp only [AV.cells] at hel hcell
        obtain ⟨vs, c1, c2, c3⟩ := RepL.ofCells (s := s) (w := s.w) (cs := cs) (blk := b.blk) (off := b.off + off + i * sz) fun j c hj => by
          obtain ⟨v, d1, d2, d3⟩ := hcell j (by have := lt_of_get hj; omega) c hj
          exact ⟨v, d1, d3⟩
        have hr := b2r (.agg vs.toArray) (by unfold Rep; exact ⟨_, rfl, by simpa using c1⟩)
        refine ⟨_, ?_, hr⟩
        rw [b2]
        unfold LoadsAt
        simp only [AV.isAgg, if_true]
        refine ⟨_, rfl, by simp [c2]; omega, fun j x hx => ?_⟩
        have hx' : vs[j]? = some x := by simpa using hx
        have hjl := lt_of_get hx'
        obtain ⟨v, d1, d2, d3⟩ := hcell j (by omega) cs[j] (List.getElem?_eq_getElem (by omega))
        exact ⟨c3 j x hx', d2⟩
      | false =>
        have hsz : sz = 1 := by
          have := hel.2.1
          cases e <;> simp [AV.isAgg] at hag <;> simp [AV.cells] at this <;> omega
        subst hsz
        obtain ⟨v, d1, d2, d3⟩ := hcell 0 (by omega) e (by cases e <;> simp [AV.isAgg] at hag <;> rfl)
        refine ⟨v, ?_, b2r v d3⟩
        rw [b2, hag]
        unfold LoadsAt
        simp only [Bool.false_eq_true, if_false]
        exact ⟨by first | rfl | trivial, d1, d2⟩
  | _, _, .ref (cells := cells) (cs' := cs') h1 h2 h3 h4, y, h => by
    rename_i id ver off ty imm
    have he := hl id ty cells ver imm h1 h2
    unfold Rep at h ⊢
    obtain ⟨e, b, he', hb, _, ad, rfl, hh⟩ := h
    rw [he] at he'; cases he'
    rw [hh rfl]
    obtain ⟨_, _, _, hc⟩ := hI.ent id _ b he hb
    refine ⟨_, _, rfl, RepAt.mk fun j c' hj => ?_⟩
    obtain ⟨c, b1, _, b2⟩ := RepL.each h4 hj
    rw [List.getElem?_drop] at b1
    obtain ⟨v, b4, b5, _⟩ := hc _ _ b1
    have := lt_of_get b1
    refine ⟨v, by rw [Nat.add_assoc]; exact b4, by rw [Nat.add_assoc]; exact imm_shut hI he hb this, b2 v b5⟩
  | _, _, .agg h1, y, h => by
    unfold Rep at h ⊢
    obtain ⟨vs, rfl, h2⟩ := h
    exact ⟨vs, rfl, RepL.frz h1 h2⟩
  | _, _, .tup h1, y, h => by
    unfold Rep at h ⊢
    obtain ⟨vs, rfl, h2⟩ := h
    exact ⟨vs, rfl, RepL.frz h1 h2⟩
  | _, _, .ifc h1, y, h => by
    unfold Rep at h ⊢
    obtain ⟨v, rfl, h2⟩ := h
    exact ⟨v, rfl, Rep.frz h1 h2⟩
  | _, _, .fn h1 h2, y, h => by
    unfold Rep at h ⊢
    obtain ⟨vs, us, rfl, h3, h4⟩ := h
    exact ⟨vs, us, rfl, RepL.frz h1 h3, RepL.frz h2 h4⟩
theorem RepL.frz : ∀ {x x' : List AV}, FrzL n0 l x x' → ∀ {y : List Value}, RepL s x y → RepL s x' y
  | _, _, .nil, y, h => h
  | _, _, .cons h1 h2, y, h => by
    unfold RepL at h ⊢
    obtain ⟨v, vs, rfl, h3, h4⟩ := h
    exact ⟨v, vs, rfl, Rep.frz h1 h3, RepL.frz h2 h4⟩
theorem RepL.each : ∀ {es es' : List AV}, FrzL n0 l es es' → ∀ {i : Nat} {e' : AV}, es'[i]? = some e' → ∃ e, es[i]? = some e ∧ e'.isAgg = e.isAgg ∧ ∀ y, Rep s e y → Rep s e' y
  | _, _, .nil, i, e', h => by simp at h
  | _, _, .cons h1 h2, i, e', h => by
    cases i with
    | zero => simp at h; subst h; exact ⟨_, rfl, h1.isAgg, fun y hy => Rep.frz h1 hy⟩
    | succ i => simp at h; obtain ⟨e, h3, h4⟩ := RepL.each h2 h; exact ⟨e, by simpa using h3, h4⟩
end
end
end Go.Vm

/- Functions and loops. -/
set_option linter.unusedVariables false
set_option linter.unusedSimpArgs false
set_option linter.unusedSectionVars false
namespace Go.Vm
open Go.RowKit

def argTs : Nat → List AV → Ts
  | _, [] => []
  | i, x :: r => (i, x) :: argTs (i + 1) r

theorem tget_argTs : ∀ (l : List AV) (i j : Nat), tget (argTs i l) j = if i ≤ j then l.getD (j - i) .un else .un
  | [], i, j => by simp [argTs, tget]
  | x :: l, i, j => by
    simp only [argTs, tget]
    by_cases h : i = j
    · subst h; simp
    · rw [if_neg h, tget_argTs l (i + 1) j]
      by_cases h2 : i + 1 ≤ j
      · rw [if_pos h2, if_pos (by omega)]
        have : j - i = (j - (i + 1)) + 1 := by omega
        rw [this]; simp
      · rw [if_neg h2, if_neg (by omega)]

def aResV (T : Nat → TI) (ts : Ts) (g l : List Ent) : ResultVar → Option (Prop × AV)
  | .tmp t => some (True, tget ts t)
  | .cell ad t =>
    match tget ts ad with
    | .ref id ver off =>
      match sget g l id with
      | some (.arr _ cells ver' _) =>
        if (T t).ok then
          if (T t).isAgg then some (ver = ver' ∧ off + (T t).size ≤ cells.length, .agg ((cells.drop off).take (T t).size))
          else
            match cells[off]? with
            | some c => some (ver = ver', c)
            | none => none
        else none
      | _ => none
    | _ => none
def aRes (T : Nat → TI) (ts : Ts) (g l : List Ent) : List ResultVar → Option (Prop × List AV)
  | [] => some (True, [])
  | r :: rs =>
    match aResV T ts g l r, aRes T ts g l rs with
    | some (p, x), some (q, xs) => some (p ∧ q, x :: xs)
    | _, _ => none
def oneAV : List AV → AV
  | [x] => x
  | xs => .tup xs

/-- What becomes of a call's own entries: nothing leads to them; they stay; what leads to them is seen by its contents. -/
inductive Keep where
  | drop | stay | freeze

def endQ (kp : Keep) (g0 g l : List Ent) (x : AV) (R : AV → List Ent → Prop) : Prop :=
  match kp with
  | .stay => R x (g ++ l)
  | .drop => x.low g0.length = true ∧ StoreLow g0.length g0 g ∧ R x g
  | .freeze => ∃ x', Frz g0.length l x x' ∧ x'.low g0.length = true ∧ StoreLow g0.length g0 g ∧ R x' g

/-- What must hold at a function's end. -/
def retQ (T : Nat → TI) (kp : Keep) (rs : List ResultVar) (g0 : List Ent) (R : AV → List Ent → Prop) : Exit → Ts → List Ent → List Ent → Prop
  | .normal, ts, g, l | .ret, ts, g, l =>
    match aRes T ts g l rs with
    | some (p, xs) => p ∧ endQ kp g0 g l (oneAV xs) R
    | none => False
  | _, _, _, _ => False

section
variable {E : Env} {T : Nat → TI} (hT : TabOK E.P T)
include hT

theorem aResV_run {ts : Ts} {g l : List Ent} {r : ResultVar} {p : Prop} {x : AV} (h : aResV T ts g l r = some (p, x)) (hp : p) {s : S} {a : Act} (hs : s.σ = g ++ l) (hI : HInv s) (ht : TsRep s ts a) :
    ∃ y, (match r with
      | .tmp t => pure (a.tmps.getD t undef)
      | .cell ad t => do loadVar t (← asAddr (a.tmps.getD ad undef)) : Sem Value).run E.P s.w = .ok y s.w ∧ Rep s x y := by
  cases r with
  | tmp t =>
    simp only [aResV, Option.some.injEq, Prod.mk.injEq] at h
    obtain ⟨rfl, rfl⟩ := h
    exact ⟨_, rfl, ht t⟩
  | cell ad t =>
    -- as the operation 'load' would read it
    have key : ∀ {r' : AV}, StepOK E { (default : Oper) with op := .load t (.tmp ad) } s a g r' g l → (∃ b o', a.tmps.getD ad undef = .pointer (some ⟨b, o', none⟩)) → True := fun _ _ => trivial
    simp only [aResV] at h
    split at h
    · rename_i id ver off hx
      split at h
      · rename_i ty cells ver' imm he
        rw [sget_eq, ← hs] at he
        split at h
        · rename_i h1
          have hev : ev ts (.tmp ad) = .ref id ver off := hx
          have hun := (hT t h1).und
          obtain ⟨inf, z, hinf, hsz, _⟩ := (hT t h1).info
          split at h
          · rename_i hag
            simp only [Option.some.injEq, Prod.mk.injEq] at h
            obtain ⟨rfl, rfl⟩ := h
            obtain ⟨b, hb, hxa⟩ := ref_at hT hs hI ht hev he hp.1
            obtain ⟨_, _, _, hc⟩ := arr_at hT hs hI ht he hb
            have hag' : aggD (T t).desc = true := by rw [← (hT t h1).agg]; exact hag
            obtain ⟨ys, h3, h4, h5⟩ := RepL.ofCells (s := s) (w := s.w) (cs := (cells.drop off).take (T t).size) (blk := b.blk) (off := b.off + off) fun j c hj => by
              rw [List.getElem?_take] at hj
              split at hj
              · rw [List.getElem?_drop] at hj
                obtain ⟨y, h2, h3, _⟩ := hc _ _ hj
                exact ⟨y, by rwa [← Nat.add_assoc] at h2, h3⟩
              · cases hj
            have hl := run_loadCells_at E.P s.w b.blk (b.off + off) ys h5
            have hlen : ys.length = inf.size := by rw [h4, hsz]; simp; omega
            rw [hlen] at hl
            refine ⟨.agg ys.toArray, ?_, by unfold Rep; exact ⟨_, rfl, by simpa using h3⟩⟩
            have hxa' : a.tmps.getD ad undef = .pointer (some ⟨b.blk, b.off + off, none⟩) := hxa
            simp [hxa', asAddr, loadVar, run_isAgg hun, hag', run_sizeOf' hinf, hl]
          · rename_i hag
            split at h
            · rename_i c hc'
              simp only [Option.some.injEq, Prod.mk.injEq] at h
              obtain ⟨rfl, rfl⟩ := h
              obtain ⟨b, hb, hxa⟩ := ref_at hT hs hI ht hev he hp
              obtain ⟨_, _, _, hc⟩ := arr_at hT hs hI ht he hb
              obtain ⟨y, h2, h3, _⟩ := hc _ _ hc'
              have hag' : aggD (T t).desc = false := by rw [← (hT t h1).agg]; simpa using hag
              have hxa' : a.tmps.getD ad undef = .pointer (some ⟨b.blk, b.off + off, none⟩) := hxa
              refine ⟨y, ?_, h3⟩
              simp [hxa', asAddr, loadVar, run_isAgg hun, hag', h2]
            · cases h
        · cases h
      · cases h
    · cases h

theorem aRes_run {ts : Ts} {g l : List Ent} : ∀ {rs : List ResultVar} {p : Prop} {xs : List AV}, aRes T ts g l rs = some (p, xs) → p → ∀ {s : S} {a : Act}, s.σ = g ++ l → HInv s → TsRep s ts a →
    ∃ ys, (rs.mapM fun
      | .tmp t => pure (a.tmps.getD t undef)
      | .cell ad t => do loadVar t (← asAddr (a.tmps.getD ad undef)) : Sem (List Value)).run E.P s.w = .ok ys s.w ∧ RepL s xs ys
  | [], p, xs, h, hp, s, a, hs, hI, ht => by simp only [aRes, Option.some.injEq, Prod.mk.injEq] at h; obtain ⟨rfl, rfl⟩ := h; exact ⟨[], rfl, by unfold RepL; rfl⟩
  | r :: rs, p, xs, h, hp, s, a, hs, hI, ht => by
    simp only [aRes] at h
    split at h
    · rename_i p1 x q xs' h1 h2
      simp only [Option.some.injEq, Prod.mk.injEq] at h
      obtain ⟨rfl, rfl⟩ := h
      obtain ⟨y, h3, h4⟩ := aResV_run hT h1 hp.1 hs hI ht
      obtain ⟨ys, h5, h6⟩ := aRes_run h2 hp.2 hs hI ht
      refine ⟨y :: ys, ?_, by unfold RepL; exact ⟨y, ys, rfl, h4, h6⟩⟩
      simp only [List.mapM_cons, Sem.run_bind, h3, Result.andThen_ok, h5, Sem.run_pure]
    · cases h

omit hT in
/-- A frame's start. -/
theorem enter_ts {fn : Func} {args : List AV} (hargs : args.length ≤ fn.ntmps) {s : S} {vs : List Value} (hr : RepL s args vs) :
    TsRep s (argTs 0 args) { tmps := vs.toArray ++ Array.replicate (fn.ntmps - vs.toArray.size) undef, defers := [] } ∧ (vs.toArray ++ Array.replicate (fn.ntmps - vs.toArray.size) undef).size = fn.ntmps := by
  have hlen := hr.length
  have ht : TsRep s (argTs 0 args) { tmps := vs.toArray ++ Array.replicate (fn.ntmps - vs.toArray.size) undef, defers := [] } := by
    intro i
    rw [tget_argTs, if_pos (Nat.zero_le _), Nat.sub_zero]
    rcases Nat.lt_or_ge i args.length with hi | hi
    · obtain ⟨y, h1, h2⟩ := hr.get (List.getElem?_eq_getElem hi)
      have e1 : args.getD i .un = args[i] := by simp [List.getD, hi]
      rw [e1]
      have hi2 : i < vs.length := by omega
      have e2 : (vs.toArray ++ Array.replicate (fn.ntmps - vs.toArray.size) undef).getD i undef = y := by
        rw [Array.getD_eq_getD_getElem?, Array.getElem?_append_left (by simpa using hi2)]
        simp only [List.getElem?_toArray, h1, Option.getD_some]
      rw [e2]; exact h2
    · have e1 : args.getD i .un = .un := by simp [List.getD, hi]
      rw [e1]; unfold Rep; trivial
  have hsz : (vs.toArray ++ Array.replicate (fn.ntmps - vs.toArray.size) undef).size = fn.ntmps := by simp; omega
  exact ⟨ht, hsz⟩

/-- The results of a function, and what becomes of its own entries. -/
theorem ret_fin {fn : Func} {kp : Keep} {σ g' l' : List Ent} {R : AV → List Ent → Prop} {s s' : S} {a' : Act} {ts' : Ts} (hI : HInv s) (hs : s.σ = σ) (a2 : s'.σ = g' ++ l') (a3 : g'.length = σ.length) (a4 : HInv s') (a5 : Ext s s')
    (ht' : TsRep s' ts' a') (hh : match aRes T ts' g' l' fn.results.toList with
      | some (p, xs) => p ∧ endQ kp σ g' l' (oneAV xs) R
      | none => False) : ∃ v, (results fn a'.tmps).run E.P s'.w = .ok v s'.w ∧
        ∃ v' r s'', Ending.returned v = .returned v' ∧ s''.w = s'.w ∧ HInv s'' ∧ Ext s s'' ∧ Rep s'' r v' ∧ R r s''.σ := by
  split at hh
  · rename_i p xs hres
    obtain ⟨hp, hR⟩ := hh
    obtain ⟨ys, h3, h4⟩ := aRes_run hT hres hp a2 a4 ht'
    have hl := h4.length
    refine ⟨(if hy : ys.toArray.size = 1 then ys.toArray[0] else .tuple ys.toArray), ?_, ?_⟩
    · unfold results
      rw [Array.mapM_eq_mapM_toList]
      simp only [Sem.run_bind, Sem.run_map, Sem.run_pure]
      exact congrArg (fun r : Result (List Value) => (r.andThen fun a w' => Result.ok a.toArray w').andThen fun a w' => Result.ok (if h : a.size = 1 then a[0] else Value.tuple a) w') h3
    · have hrep : Rep s' (oneAV xs) (if hy : ys.toArray.size = 1 then ys.toArray[0] else .tuple ys.toArray) := by
        match xs, ys, h4, hl with
        | [], [], h4, _ => simp [oneAV]; unfold Rep; exact ⟨_, rfl, h4⟩
        | [x], [y], h4, _ => simp [oneAV]; unfold RepL at h4; obtain ⟨v, vs', h5, h6, _⟩ := h4; cases h5; exact h6
        | x :: x2 :: xs, y :: y2 :: ys, h4, _ => simp [oneAV]; unfold Rep; exact ⟨_, rfl, h4⟩
        | [], _ :: _, _, hl => simp at hl
        | [x], [], _, hl => simp at hl
        | [x], _ :: _ :: _, _, hl => simp at hl
        | _ :: _ :: _, [], _, hl => simp at hl
        | _ :: _ :: _, [_], _, hl => simp at hl
      cases kp with
      | stay =>
        simp only [endQ] at hR
        exact ⟨_, _, s', rfl, rfl, a4, a5, hrep, by rw [a2]; exact hR⟩
      | drop =>
        simp only [endQ] at hR
        obtain ⟨hlow, hst, hR⟩ := hR
        obtain ⟨c1, c2, c3⟩ := cut_ok hI a4 a5 a2 (by rw [a3, hs]) (by rw [hs]; exact hst)
        exact ⟨_, _, s'.cut s.σ.length, rfl, rfl, c1, c2, hrep.cut (by rw [hs]; exact hlow), by rw [c3]; exact hR⟩
      | freeze =>
        simp only [endQ] at hR
        obtain ⟨x', hfz, hlow, hst, hR⟩ := hR
        have d1 := HInv.shut a4 σ.length
        have d2 := Ext.shut a4 σ.length
        have hσ : (s'.shut σ.length).σ = g' ++ l'.map Ent.shut := by
          show s'.σ.take _ ++ (s'.σ.drop _).map _ = _
          rw [a2, ← a3, List.take_left, List.drop_left]
        have d3 := Rep.frz d1 (n0 := σ.length) (l := l') (fun id ty cells ver imm h5 h6 => by
          rw [hσ, List.getElem?_append_right (by rw [a3]; exact h5), List.getElem?_map, a3, h6]; rfl) hfz (Rep.ext d2 hrep)
        obtain ⟨c1, c2, c3⟩ := cut_ok hI d1 (a5.trans d2) hσ (by rw [a3, hs]) (by rw [hs]; exact hst)
        exact ⟨_, _, (s'.shut σ.length).cut s.σ.length, rfl, rfl, c1, c2, d3.cut (by rw [hs]; exact hlow), by rw [c3]; exact hR⟩
  · exact hh.elim

/-- A body's run, in any kind of frame. -/
theorem acalls_wp {f : FuncId} {fn : Func} {c : Code} {args : List AV} {σ : List Ent} {R : AV → List Ent → Prop} (kp : Keep) (rows : List Nat) (hok : codeOK fn.ntmps c = true) (hargs : args.length ≤ fn.ntmps)
    (h : aCode E fn.ntmps T rows c (retQ T kp fn.results.toList σ R) (argTs 0 args) σ []) (s : S) (vs : List Value) (hs : s.σ = σ) (hI : HInv s) (hΓ : E.Γ s.B s.w) (hr : RepL s args vs) :
    c.wp E.P (bodyPost E.P fn fun e w' => ∃ v r s', e = .returned v ∧ s'.w = w' ∧ HInv s' ∧ Ext s s' ∧ Rep s' r v ∧ R r s'.σ) { tmps := vs.toArray ++ Array.replicate (fn.ntmps - vs.toArray.size) undef, defers := [] } s.w := by
  obtain ⟨ht, hsz⟩ := enter_ts hargs hr
  refine wp_mono (aCode_sound hT hok h s _ _ (by simpa using hs) hI hΓ ht hsz rfl) ?_
  rintro e a' w' ⟨ts', g', l', s', rfl, a2, a3, a4, a5, a6, a7, a8, a9⟩
  cases e <;> simp only [retQ] at a9 <;> first | exact a9.elim | skip
  · exact ⟨a8, ret_fin hT hI hs a2 a3 a4 a5 a6 a9⟩
  · exact ⟨a8, ret_fin hT hI hs a2 a3 a4 a5 a6 a9⟩

theorem acalls_body {f : FuncId} {fn : Func} {c : Code} {args : List AV} {σ : List Ent} {R : AV → List Ent → Prop} (kp : Keep) (rows : List Nat) (hf : E.P.funcs[f]? = some fn) (hb : fn.body = some c)
    (hname : (fn.name == "runtime.NumGoroutine") = false) (hok : codeOK fn.ntmps c = true) (hargs : args.length ≤ fn.ntmps)
    (h : aCode E fn.ntmps T rows c (retQ T kp fn.results.toList σ R) (argTs 0 args) σ []) : HasBody E f ∧ ∀ (s : S) (vs : List Value), s.σ = σ → HInv s → E.Γ s.B s.w → RepL s args vs →
    Calls E.P f vs.toArray s.w fun e w' => ∃ v r s', e = .returned v ∧ s'.w = w' ∧ HInv s' ∧ Ext s s' ∧ Rep s' r v ∧ R r s'.σ :=
  ⟨⟨fn, hf, by rw [hb]; rfl, hname⟩, fun s vs hs hI hΓ hr => calls_of_wp hf hb (acalls_wp (f := f) hT kp rows hok hargs h s vs hs hI hΓ hr)⟩
/-- A call that was deferred. -/
def ADef (E : Env) (f : FuncId) (args : List AV) (σ : List Ent) (R : AV → List Ent → Prop) : Prop :=
  HasBody E f ∧ ∀ (s : S) (vs : List Value) (u : FrameMode), s.σ = σ → HInv s → E.Γ s.B s.w → RepL s args vs →
    CallsD E.P f vs.toArray u s.w fun e u' w' => u' = u ∧ ∃ v r s', e = .returned v ∧ s'.w = w' ∧ HInv s' ∧ Ext s s' ∧ Rep s' r v ∧ R r s'.σ
theorem adef_intro {f : FuncId} {fn : Func} {c : Code} {args : List AV} {σ : List Ent} {R : AV → List Ent → Prop} (kp : Keep) (rows : List Nat) (hf : E.P.funcs[f]? = some fn) (hb : fn.body = some c)
    (hname : (fn.name == "runtime.NumGoroutine") = false) (hok : codeOK fn.ntmps c = true) (hargs : args.length ≤ fn.ntmps)
    (h : aCode E fn.ntmps T rows c (retQ T kp fn.results.toList σ R) (argTs 0 args) σ []) : ADef E f args σ R :=
  ⟨⟨fn, hf, by rw [hb]; rfl, hname⟩, fun s vs u hs hI hΓ hr => callsD_of_wp hf hb (acalls_wp (f := f) hT kp rows hok hargs h s vs hs hI hΓ hr)⟩

theorem acalls_intro {f : FuncId} {fn : Func} {c : Code} {args : List AV} {σ : List Ent} {R : AV → List Ent → Prop} (kp : Keep) (rows : List Nat) (hf : E.P.funcs[f]? = some fn) (hb : fn.body = some c)
    (hname : (fn.name == "runtime.NumGoroutine") = false) (hok : codeOK fn.ntmps c = true) (hargs : args.length ≤ fn.ntmps)
    (h : aCode E fn.ntmps T rows c (retQ T kp fn.results.toList σ R) (argTs 0 args) σ []) : ACalls E f args σ R := .inl (acalls_body hT kp rows hf hb hname hok hargs h)


/-- What is told of the temporaries may be less. -/
def Sub (ts small : Ts) : Prop := ∀ p ∈ small, tget ts p.1 = p.2
omit hT in
theorem TsRep.sub {s : S} {ts small : Ts} {a : Act} (ht : TsRep s ts a) : Sub ts small → TsRep s small a := by
  induction small with
  | nil => intro _ i; unfold tget Rep; trivial
  | cons p r ih =>
    intro h i
    obtain ⟨j, x⟩ := p
    unfold tget
    by_cases hj : j = i
    · subst hj
      rw [if_pos rfl]
      have h1 : tget ts j = x := h (j, x) (by simp)
      rw [← h1]; exact ht j
    · rw [if_neg hj]
      exact ih (fun q hq => h q (by simp [hq])) i

omit hT in
theorem rounds_mono {P : Program} {c : Code} {Q : Exit → Act → World → Prop} : ∀ {n : Nat} {a : Act} {w : World}, Code.rounds P c Q n a w → Code.rounds P c Q (n + 1) a w
  | 0, _, _, h => h.elim
  | n + 1, a, w, h => by
    rw [rounds_succ] at *
    refine wp_mono h fun e a' w' hh => ?_
    cases e <;> simp only [Exit.then] at hh ⊢ <;> first | exact rounds_mono hh | exact hh
omit hT in
theorem rounds_le {P : Program} {c : Code} {Q : Exit → Act → World → Prop} {m n : Nat} (h : m ≤ n) {a : Act} {w : World} (hr : Code.rounds P c Q m a w) : Code.rounds P c Q n a w := by
  induction h with
  | refl => exact hr
  | step _ ih => exact rounds_mono ih
omit hT in
theorem wp_loop_idx {P : Program} {c : Code} {Q : Exit → Act → World → Prop} (I : Nat → Act → World → Prop)
    (round : ∀ m a w, I m a w → c.wp P (Exit.then (fun a' w' => ∃ m', m' < m ∧ I m' a' w') Q) a w) : ∀ (m : Nat) {a : Act} {w : World}, I m a w → Code.rounds P c Q (m + 1) a w := by
  intro m
  induction m using Nat.strongRecOn with
  | _ m ih =>
    intro a w h
    rw [rounds_succ]
    refine wp_mono (round m a w h) fun e a' w' hh => ?_
    cases e <;> simp only [Exit.then] at hh ⊢
    case normal => obtain ⟨m', h1, h2⟩ := hh; exact rounds_le (by omega) (ih m' h1 h2)
    all_goals exact hh

/-- A loop: what holds at each round's head, and a number that each round lowers. -/
theorem awp_loop {n : Nat} {rows : List Nat} {c : Code} {Q : Exit → Ts → List Ent → List Ent → Prop} {ts : Ts} {g l : List Ent} {α : Type} (τ : α → Ts) (G L : α → List Ent) (I : α → Prop) (μ : α → Nat)
    (hok : codeOK n c = true) (h0 : ∃ x, I x ∧ Sub ts (τ x) ∧ g = G x ∧ l = L x)
    (round : ∀ x, I x → aCode E n T rows c (thenQ (fun ts' g' l' => ∃ y, I y ∧ μ y < μ x ∧ Sub ts' (τ y) ∧ g' = G y ∧ l' = L y) Q) (τ x) (G x) (L x)) : AWp E n (.loop c) Q ts g l := by
  intro s a D hs hI hΓ ht hn hd
  obtain ⟨x0, hx0, hsub0, rfl, rfl⟩ := h0
  let J : Nat → Act → World → Prop := fun m a' w' => ∃ x s', I x ∧ μ x = m ∧ s'.w = w' ∧ s'.σ = G x ++ L x ∧ (G x).length = (G x0).length ∧ HInv s' ∧ Ext s s' ∧ TsRep s' (τ x) a' ∧ a'.tmps.size = n ∧ a'.defers = D
  refine wp_loop_rounds (μ x0 + 1) (wp_loop_idx J ?_ (μ x0) ⟨x0, s, hx0, rfl, rfl, hs, rfl, hI, Ext.refl s, ht.sub hsub0, hn, hd⟩)
  rintro m a1 w1 ⟨x, s1, hx, rfl, rfl, hs1, hg1, hI1, hE1, ht1, hn1, hd1⟩
  refine wp_mono (AWp.from (aCode_sound hT hok (round x hx)) hE1 hg1 hs1 hI1 (hE1.B ▸ E.stable _ _ _ hE1.below hΓ) ht1 hn1 hd1) ?_
  rintro e a2 w2 ⟨ts', g', l', s', rfl, b2, b3, b4, b5, b6, b7, b8, b9⟩
  cases e <;> simp only [Exit.then, thenQ] at b9 ⊢
  case normal =>
    obtain ⟨y, hy, hlt, hsub, rfl, rfl⟩ := b9
    exact ⟨μ y, hlt, y, s', hy, rfl, rfl, b2, b3, b4, b5, b6.sub hsub, b7, b8⟩
  all_goals exact ⟨ts', g', l', s', rfl, b2, b3, b4, b5, b6, b7, b8, b9⟩
end
end Go.Vm
