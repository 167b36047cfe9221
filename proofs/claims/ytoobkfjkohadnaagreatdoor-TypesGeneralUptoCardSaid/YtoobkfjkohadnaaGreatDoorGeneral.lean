/- For every two trees of types and every list of claims the law TypesGeneral returns true and leaves its arguments as they were. Conditions: what the arguments hold, values and letters, is at most 1048576 (the second form); the listed package-level variables hold what their initialisers lay (the card ties them to the text). -/
import Derived.Test.YtoobkfjkohadnaaGreatDoorFnJ
import Derived.Test.YtoobkfjkohadnaaGreatDoorVmF
import Derived.Test.YtoobkfjkohadnaaGreatDoorCards
import Derived.Test.YtoobkfjkohadnaaGreatDoorTie
import Derived.ProofKit
import Derived.OpenShut
import Derived.ChangeMaps5
set_option linter.unusedVariables false
set_option linter.unusedSimpArgs false
set_option maxRecDepth 100000
namespace Go.Proofs.YtoobkfjkohadnaaGreatDoor
open Go Go.Vm Go.D Go.ChangeMaps Go.ChangeShapes Go.WideShapes Go.ChangeAt Go.RowKit
theorem own : ownKnob Tryz.prog.godebug = none := by kernel_rfl
theorem laid_out : laidOutB Tryz.prog = true := by kernel_rfl
theorem space_tab : Rows.laid_strings_asciiSpace (H := Unit) = Lib.tabData .u8 Lib.asciiSpaceTab := by kernel_rfl
theorem pow_tab : Rows.laid_internal_strconv_uint64pow10 (H := Unit) = Lib.tabData .u64 Lib.pow10Tab := by kernel_rfl
theorem gam_of {W : World} {laid : List (String × DataW Unit)} (hS : W.ShapedOpen Tryz.prog) (hL : laidMet Tryz.prog laid W)
  (h1 : ("strconv.ErrSyntax", Rows.laid_strconv_ErrSyntax) ∈ laid) (h2 : ("strconv.ErrRange", Rows.laid_strconv_ErrRange) ∈ laid) (h3 : ("strings.asciiSpace", Rows.laid_strings_asciiSpace) ∈ laid)
  (h4 : ("internal/strconv.uint64pow10", Rows.laid_internal_strconv_uint64pow10) ∈ laid) : gam W.heap.size W := by
 have e1 := laid_iface hL h1 (g := 2) (by kernel_rfl) (by kernel_rfl) Tryz.underlying172
 have e2 := laid_iface hL h2 (g := 3) (by kernel_rfl) (by kernel_rfl) Tryz.underlying172
 rw [space_tab] at h3
 rw [pow_tab] at h4
 have e3 := laid_tab hL h3 (g := 0) (t := 175) (m := 256) (by kernel_rfl) (by kernel_rfl) Tryz.underlying175 Tryz.underlying5 (by kernel_rfl) (by kernel_rfl)
 have e4 := laid_tab hL h4 (g := 5) (t := 234) (m := 20) (by kernel_rfl) (by kernel_rfl) Tryz.underlying234 Tryz.underlying157 (by kernel_rfl) (by kernel_rfl)
 have e0 := shape_int hS (g := 4) (t := 3) (k := .i64) (zero := #[.int .i64 0]) (of_decide_eq_true (by kernel_rfl)) (by kernel_rfl) (by kernel_rfl) (by kernel_rfl) (by kernel_rfl) Tryz.underlying3
 have hb : 5 < W.heap.size := by
  have h := World.var?_cell (P := Tryz.prog) (w := W) (g := 5) (by kernel_rfl) e4 0
  rw [show ((Lib.pow10Tab.map fun z => Value.int .u64 z).toArray)[0]? = some (Value.int .u64 1) from by kernel_rfl] at h
  exact block_lt h
 exact ⟨by omega, e0, e1, e2, e3, e4⟩
theorem lenTs_of : ∀ (us : List D.Tr), (∀ x ∈ us, lenT x) → lenTs us
 | [], _ => trivial
 | t :: ts, h => ⟨h t (by simp), lenTs_of ts fun x hx => h x (by simp [hx])⟩
theorem opens_ty {H : Type} (enc : TypeId × Value → H) (W : World) (n : Nat) : Opens enc Tryz.prog ⟨[], [], W, W.heap.size⟩ 24 n lenT tyV := by
 induction n using Nat.strongRecOn with
 | _ n ih =>
  have h := opens_struct3 (enc := enc) (P := Tryz.prog) (s := ⟨[], [], W, W.heap.size⟩) (n := n) (fa := AV.str) (fb := AV.str) (fc := fun xs : List D.Tr => .sl (xs.map tyV)) Tryz.underlying24 rfl (by kernel_rfl) (by kernel_rfl) (by kernel_rfl)
   (fun _ _ => opens_string Tryz.underlying9) (fun _ _ => opens_string Tryz.underlying9)
   (fun m hm => opens_slice (k := 3) (ag := true) Tryz.underlying22 (by kernel_rfl) (by omega) rfl (fun m' hm' => ih m' (by omega)) (fun x _ => tyV_el x))
  intro cs d hd
  obtain ⟨⟨a, b, us⟩, ⟨h1, h2, h3⟩, hr⟩ := h cs d hd
  refine ⟨.mk a b us, ?_, ?_⟩
  ·simp only [lenT]
   unfold maxLen at h2 h3
   exact ⟨by simp only at h2; omega, by have := h3.1; simp only at this; omega, lenTs_of us h3.2⟩
  ·simpa [tyV, AV.cells, tysV_map] using hr
theorem sums_ty {H : Type} : ∀ (ds : List (DataW H)) (us : List D.Tr), ds.length = us.length → (∀ (i : Nat) e x, ds[i]? = some e → us[i]? = some x → bulkT x ≤ Rows.uptoBulk e) → bulkTs us ≤ Rows.uptoBulkAll ds
 | [], [], _, _ => by simp [bulkTs]
 | d :: ds, u :: us, h, hk => by
  have h0 := hk 0 d u rfl rfl
  have h1 := sums_ty ds us (by simpa using h) fun i e x he hx => hk (i + 1) e x (by simpa using he) (by simpa using hx)
  simp only [bulkTs, Rows.uptoBulkAll]; omega
theorem slice_ty {H : Type} {d : DataW H} {us : List D.Tr} (h : okSl (fun d t => bulkT t ≤ Rows.uptoBulk d) d us) : bulkTs us + 1 ≤ Rows.uptoBulk d := by
 rcases h.2 with ⟨rfl, rfl⟩ | ⟨ds, rest, rfl, hl, hk⟩
 ·simp [bulkTs, Rows.uptoBulk]
 ·have := sums_ty ds us hl hk
  simp only [Rows.uptoBulk]; omega
theorem opens_tyB {H : Type} (enc : TypeId × Value → H) (W : World) (n : Nat) : OpensD enc Tryz.prog ⟨[], [], W, W.heap.size⟩ 24 n (fun d t => bulkT t ≤ Rows.uptoBulk d) tyV := by
 induction n using Nat.strongRecOn with
 | _ n ih =>
  have h := opensD_struct3 (enc := enc) (P := Tryz.prog) (s := ⟨[], [], W, W.heap.size⟩) (n := n) (fa := AV.str) (fb := AV.str) (fc := fun xs : List D.Tr => .sl (xs.map tyV)) Tryz.underlying24 rfl (by kernel_rfl) (by kernel_rfl) (by kernel_rfl)
   (fun _ _ => opensD_string Tryz.underlying9) (fun _ _ => opensD_string Tryz.underlying9)
   (fun m hm => opensD_slice (k := 3) (ag := true) Tryz.underlying22 (by kernel_rfl) (by omega) rfl (fun m' hm' => ih m' (by omega)) (fun _ x _ => tyV_el x))
  intro cs d hd
  obtain ⟨⟨a, b, us⟩, ⟨da, db, dc, hd0, ⟨h1, _⟩, ⟨h2, _⟩, h3⟩, hr⟩ := h cs d hd
  refine ⟨.mk a b us, ?_, ?_⟩
  ·have h4 := slice_ty h3
   simp only at h1 h2 h4
   rw [hd0, h1, h2]
   simp only [bulkT, Rows.uptoBulk, Rows.uptoBulkAll]; omega
  ·simpa [tyV, AV.cells, tysV_map] using hr
theorem opens_claimB {H : Type} (enc : TypeId × Value → H) (W : World) (n : Nat) : OpensD enc Tryz.prog ⟨[], [], W, W.heap.size⟩ 33 n (fun d (c : D.Cl) => c.1.length + bulkT c.2 + 2 ≤ Rows.uptoBulk d) clV := by
 have h := opensD_struct2 (enc := enc) (P := Tryz.prog) (s := ⟨[], [], W, W.heap.size⟩) (n := n) (fa := AV.str) (fb := tyV) Tryz.underlying33 rfl (by kernel_rfl) (by kernel_rfl)
   (fun _ _ => opensD_string Tryz.underlying9) (fun m _ => opens_tyB enc W m)
 intro cs d hd
 obtain ⟨⟨a, u⟩, ⟨da, db, hd0, ⟨h1, _⟩, h2⟩, hr⟩ := h cs d hd
 refine ⟨(a, u), ?_, ?_⟩
 ·simp only at h1 h2
  rw [hd0, h1]
  simp only [Rows.uptoBulk, Rows.uptoBulkAll]; omega
 ·have e : (AV.str a).cells ++ (tyV u).cells = (clV (a, u)).cells := by rw [tyV_cells]; rfl
  rw [← e]; exact hr
theorem sums_cl {H : Type} : ∀ (ds : List (DataW H)) (us : List D.Cl), ds.length = us.length → (∀ (i : Nat) e (x : D.Cl), ds[i]? = some e → us[i]? = some x → x.1.length + bulkT x.2 + 2 ≤ Rows.uptoBulk e) → bulkC us ≤ Rows.uptoBulkAll ds
 | [], [], _, _ => by simp [bulkC]
 | d :: ds, u :: us, h, hk => by
  have h0 := hk 0 d u rfl rfl
  have h1 := sums_cl ds us (by simpa using h) fun i e x he hx => hk (i + 1) e x (by simpa using he) (by simpa using hx)
  simp only [bulkC, Rows.uptoBulkAll]; omega
theorem opens_claimsB {H : Type} (enc : TypeId × Value → H) (W : World) (n : Nat) : OpensD enc Tryz.prog ⟨[], [], W, W.heap.size⟩ 25 n (fun d l => bulkC l ≤ Rows.uptoBulk d) (fun l => .sl (clsV l)) := by
 have h := opensD_slice (enc := enc) (P := Tryz.prog) (s := ⟨[], [], W, W.heap.size⟩) (n := n) (k := 4) (ag := true) Tryz.underlying25 (by kernel_rfl) (by omega) rfl (fun m _ => opens_claimB enc W m) (fun _ x _ => clV_el x)
 intro cs d hd
 obtain ⟨l, h1, hr⟩ := h cs d hd
 refine ⟨l, ?_, hr⟩
 rcases h1.2 with ⟨rfl, h2⟩ | ⟨ds, rest, h2, hl, hk⟩
 ·simp [bulkC]
 ·have := sums_cl ds l hl hk
  rw [h2]
  simp only [Rows.uptoBulk]; omega
theorem reads11 (os : Os) {H : Type} (enc : TypeId × Value → H) : ∃ places, DataW.whole enc Tryz.prog ((World.laidAll Tryz.prog os Rows.typesGeneralUptoRow.laid).forCall (fun _ _ => 0) ⟨#[], #[.agg #[.string ⟨#[]⟩, .string ⟨#[]⟩, .slice none 0 0], .agg #[.string ⟨#[]⟩, .string ⟨#[]⟩, .slice none 0 0], .slice none 0 0], []⟩).memory Tryz.f11.params.toList Rows.typesGeneralSpec.vars false (#[.agg #[.string ⟨#[]⟩, .string ⟨#[]⟩, .slice none 0 0], .agg #[.string ⟨#[]⟩, .string ⟨#[]⟩, .slice none 0 0], .slice none 0 0] : Array Value).toList 8 = some ([.agg [.lit (.string []), .lit (.string []), .nil], .agg [.lit (.string []), .lit (.string []), .nil], .nil], [], places) :=
 ⟨[], by kernel_rfl⟩
theorem laid11 (os : Os) : laidMet Tryz.prog Rows.typesGeneralUptoRow.laid ((World.laidAll Tryz.prog os Rows.typesGeneralUptoRow.laid).forCall (fun _ _ => 0) ⟨#[], #[.agg #[.string ⟨#[]⟩, .string ⟨#[]⟩, .slice none 0 0], .agg #[.string ⟨#[]⟩, .string ⟨#[]⟩, .slice none 0 0], .slice none 0 0], []⟩).memory :=
 laidMet_laidAll _ (by kernel_rfl) (by kernel_rfl)
theorem shaped11 (os : Os) : ((World.laidAll Tryz.prog os Rows.typesGeneralUptoRow.laid).forCall (fun _ _ => 0) ⟨#[], #[.agg #[.string ⟨#[]⟩, .string ⟨#[]⟩, .slice none 0 0], .agg #[.string ⟨#[]⟩, .string ⟨#[]⟩, .slice none 0 0], .slice none 0 0], []⟩).Shaped Tryz.prog :=
 World.shaped_of_ZipB (by kernel_rfl) (by kernel_rfl)
theorem lifted11 (os : Os) (started : os.Started) (H : Type) (enc : TypeId × Value → H) (F : Stop.Interp) :
  ReturnsInHanded {} Tryz.checked os 11 .any ((Rows.OpenSpec.upto Rows.typesGeneralSpec).preRow enc Tryz.prog Tryz.f11 Rows.typesGeneralUptoRow.domain false Rows.typesGeneralUptoRow.laid) (((Rows.OpenSpec.upto Rows.typesGeneralSpec).at F).post enc Tryz.prog Tryz.f11 false true false false) := by
 obtain ⟨places, hx⟩ := reads11 os enc
 refine returnsInHanded_of_row (C := Tryz.checked) (s := Rows.OpenSpec.upto Rows.typesGeneralSpec) own started (by kernel_rfl) Tryz.func11
  (witness_row (enc := enc) (C := Tryz.checked) (World.laidAll Tryz.prog os Rows.typesGeneralUptoRow.laid) #[.agg #[.string ⟨#[]⟩, .string ⟨#[]⟩, .slice none 0 0], .agg #[.string ⟨#[]⟩, .string ⟨#[]⟩, .slice none 0 0], .slice none 0 0] (World.laidAll_os _ _ _) (shaped11 os) (by kernel_rfl)
   (OpenSpec.preRow_of_cond 8 hx (by kernel_rfl) (fun k hk => by cases hk; kernel_rfl) (by kernel_rfl) (by rw [MakeChecks.laidMetH_plain _ _ _ (by kernel_rfl)]; exact laid11 os))) ?_
 intro W base args ds gs before hval hW _ hcond _ hL hS _
 rw [MakeChecks.laidMetH_plain _ _ _ (by kernel_rfl)] at hL
 have hΓ := gam_of hS hL (by simp [Rows.typesGeneralUptoRow]) (by simp [Rows.typesGeneralUptoRow]) (by simp [Rows.typesGeneralUptoRow]) (by simp [Rows.typesGeneralUptoRow])
 have hW' := hW
 obtain ⟨p, q, hA0, hV, hbefore, hfz, hnd⟩ := hW
 have hA : DataW.TrodAll enc Tryz.prog W 0 (fun _ => true) true Tryz.f11.params.toList args.toList ds p := hA0
 have hA2 := hA
 rw [Tryz.params11] at hA hval
 obtain ⟨v0, vs0, d0, ds0, p0, q0, hargs, hds, hp, h0, r0⟩ := trodAll_cons hA
 obtain ⟨v1, vs1, d1, ds1, p1, q1, hvs1, hds1, hp1, h1, r1⟩ := trodAll_cons r0
 obtain ⟨v2, vs2, d2, ds2, p2, q2, hvs2, hds2, hp2, h2, r2⟩ := trodAll_cons r1
 obtain ⟨hvsE, hdsE, hpE⟩ := trodAll_nil r2
 obtain rfl : args = #[v0, v1, v2] := by cases args; simp_all
 obtain rfl : ds = [d0, d1, d2] := by simp_all
 obtain ⟨rfl, rfl⟩ := trodVars_none hV
 obtain ⟨x0, hl0, w0⟩ := opensD_top_struct Tryz.underlying24 (opens_tyB enc W) (fun x => by cases x; exact ⟨_, rfl⟩) (hval 0 24 v0 rfl rfl) h0
 obtain ⟨x1, hl1, w1⟩ := opensD_top_struct Tryz.underlying24 (opens_tyB enc W) (fun x => by cases x; exact ⟨_, rfl⟩) (hval 1 24 v1 rfl rfl) h1
 obtain ⟨x2, hl2, w2⟩ := opensD_top_slice Tryz.underlying25 (opens_claimsB enc W) (fun x => ⟨_, rfl⟩) (hval 2 25 v2 rfl rfl) h2
 have hB : Rows.uptoBulkAll _ ≤ 1048576 := of_decide_eq_true (hcond _ rfl)
 simp only [List.cons_append, List.nil_append, List.append_nil, Rows.uptoBulkAll] at hB
 have walk := calls_top (args := [tyV x0, tyV x1, .sl (clsV x2)]) (R := fun r τ => r = boolV true ∧ τ = []) (law_general awake_ok x0 x1 x2 (by omega) (by omega) (by omega) []) (fun _ _ h => h.1) W [v0, v1, v2] hΓ (by unfold RepL; exact ⟨_, _, rfl, w0, by unfold RepL; exact ⟨_, _, rfl, w1, by unfold RepL; exact ⟨_, _, rfl, w2, by unfold RepL; rfl⟩⟩⟩)
 refine walk.mono fun e W' ⟨he, hb⟩ => ?_
 subst he
 refine ⟨_, rfl, post_of_below (pa := p) (pv := []) hW' (fun _ _ _ => trodAll_cons_mk (shut_bool Tryz.underlying4 _) trodAll_mk0) (fun sp hsp => args_stay laid_out hb ?_ hA2 (fun x hx => hsp x (by rw [hbefore]; exact List.mem_append_left _ hx))) (fun _ _ => rfl) hbefore hb (ok_one (by kernel_rfl) rfl (okWide_bool_mk Tryz.underlying4 _))⟩
 rw [Tryz.params11]
 intro t ht
 have hor : t = 24 ∨ t = 25 := by have := ht; simp at this; first | omega | (rcases this with h | h <;> subst h <;> simp)
 rcases hor with rfl | rfl
 ·exact ⟨by kernel_rfl, of_decide_eq_true (by kernel_rfl)⟩
 ·exact ⟨by kernel_rfl, of_decide_eq_true (by kernel_rfl)⟩
theorem said11 : Rows.TypesGeneralUptoSaid :=
 OpenClaim.holds_of_cond 11 Tryz.f11 rfl rfl rfl rfl rfl rfl rfl ⟨rfl, rfl, rfl, rfl, rfl⟩ rfl rfl rfl rfl rfl (by kernel_rfl) Tryz.func11 (by kernel_rfl)
  (of_decide_eq_true (by kernel_rfl)) (by unfold Func.isWrapper; first | (rw [if_pos (by decide +kernel)]; kernel_rfl) | (rw [if_neg (by decide +kernel)]; exact ⟨rfl, rfl⟩))
  (fun os started H enc _ F => by rw [OpenClaim.pre_eq_preRow]; exact lifted11 os started H enc F)
theorem plain11 (f : FuncId) (fn : Func) (hf : Tryz.pinned.checked.prog.funcNamed "virgate/virgatelaw04.TypesGeneral" = some f) (hfn : Tryz.pinned.checked.prog.funcs[f]? = some fn) :
  true = Tryz.pinned.checked.prog.looks [] ∧ ∀ (j : Nat) t, fn.params[j]? = some t → Tryz.pinned.checked.prog.wantsStandIn t = false := by
 obtain rfl : f = 11 := Option.some.inj ((show Tryz.prog.funcNamed "virgate/virgatelaw04.TypesGeneral" = some 11 by kernel_rfl).symm.trans hf) |>.symm
 obtain rfl : fn = Tryz.f11 := (Option.some.inj (Tryz.func11.symm.trans hfn)).symm
 refine ⟨by kernel_rfl, fun j t ht => ?_⟩
 rw [Tryz.params11] at ht
 have ht := Array.mem_of_getElem? ht
 have hor : t = 24 ∨ t = 25 := by have := ht; simp at this; first | omega | (rcases this with h | h <;> subst h <;> simp)
 rcases hor with rfl | rfl
 ·exact (show Tryz.prog.wantsStandIn 24 = false by kernel_rfl)
 ·exact (show Tryz.prog.wantsStandIn 25 = false by kernel_rfl)
theorem card11 : Rows.TypesGeneralUptoCardSaid :=
 Claim7.holds_tied_plain_at .later [] _ _ _ _ said11 (fun _ h => by cases h) (by kernel_rfl) (fun _ h => by cases h) typesGeneralUpto_row_tie rfl ⟨rfl, rfl⟩ (by kernel_rfl) rfl plain11 (by kernel_rfl)
#print axioms card11
end Go.Proofs.YtoobkfjkohadnaaGreatDoor
