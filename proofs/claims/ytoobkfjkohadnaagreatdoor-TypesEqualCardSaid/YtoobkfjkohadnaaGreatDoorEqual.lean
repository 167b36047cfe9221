/- For every two trees of types the law TypesEqual returns true and leaves both as they were. Conditions: the listed package-level variables hold what their initialisers lay (the card ties them to the text); no bound on the trees. -/
import Derived.Test.YtoobkfjkohadnaaGreatDoorFnH
import Derived.Test.YtoobkfjkohadnaaGreatDoorFnG
import Derived.Test.YtoobkfjkohadnaaGreatDoorVmF
import Derived.Test.YtoobkfjkohadnaaGreatDoorCards
import Derived.Test.YtoobkfjkohadnaaGreatDoorTie
import Derived.ProofKit
import Derived.OpenShut
import Derived.ChangeMaps5
set_option linter.unusedVariables false
set_option linter.unusedSimpArgs false
set_option maxRecDepth 100000
namespace Go.Proofs.YtoobkfjkohadnaaGreatDoor
open Go Go.Vm Go.D Go.ChangeMaps Go.ChangeShapes Go.WideShapes Go.ChangeAt Go.RowKit

theorem own : ownKnob Tryz.prog.godebug = none := by kernel_rfl
theorem laid_out : laidOutB Tryz.prog = true := by kernel_rfl
theorem space_tab : Rows.laid_strings_asciiSpace (H := Unit) = Lib.tabData .u8 Lib.asciiSpaceTab := by kernel_rfl
theorem pow_tab : Rows.laid_internal_strconv_uint64pow10 (H := Unit) = Lib.tabData .u64 Lib.pow10Tab := by kernel_rfl

theorem gam_of {W : World} {laid : List (String × DataW Unit)} (hS : W.ShapedOpen Tryz.prog) (hL : laidMet Tryz.prog laid W)
    (h1 : ("strconv.ErrSyntax", Rows.laid_strconv_ErrSyntax) ∈ laid) (h2 : ("strconv.ErrRange", Rows.laid_strconv_ErrRange) ∈ laid) (h3 : ("strings.asciiSpace", Rows.laid_strings_asciiSpace) ∈ laid)
    (h4 : ("internal/strconv.uint64pow10", Rows.laid_internal_strconv_uint64pow10) ∈ laid) : gam W.heap.size W := by
  have e1 := laid_iface hL h1 (g := 2) (by kernel_rfl) (by kernel_rfl) Tryz.underlying172
  have e2 := laid_iface hL h2 (g := 3) (by kernel_rfl) (by kernel_rfl) Tryz.underlying172
  rw [space_tab] at h3
  rw [pow_tab] at h4
  have e3 := laid_tab hL h3 (g := 0) (t := 175) (m := 256) (by kernel_rfl) (by kernel_rfl) Tryz.underlying175 Tryz.underlying5 (by kernel_rfl) (by kernel_rfl)
  have e4 := laid_tab hL h4 (g := 5) (t := 234) (m := 20) (by kernel_rfl) (by kernel_rfl) Tryz.underlying234 Tryz.underlying157 (by kernel_rfl) (by kernel_rfl)
  have e0 := shape_int hS (g := 4) (t := 3) (k := .i64) (zero := #[.int .i64 0]) (of_decide_eq_true (by kernel_rfl)) (by kernel_rfl) (by kernel_rfl) (by kernel_rfl) (by kernel_rfl) Tryz.underlying3
  have hb : 5 < W.heap.size := by
    have h := World.var?_cell (P := Tryz.prog) (w := W) (g := 5) (by kernel_rfl) e4 0
    rw [show ((Lib.pow10Tab.map fun z => Value.int .u64 z).toArray)[0]? = some (Value.int .u64 1) from by kernel_rfl] at h
    exact block_lt h
  exact ⟨by omega, e0, e1, e2, e3, e4⟩

theorem lenTs_of : ∀ (us : List D.Tr), (∀ x ∈ us, lenT x) → lenTs us
  | [], _ => trivial
  | t :: ts, h => ⟨h t (by simp), lenTs_of ts fun x hx => h x (by simp [hx])⟩
/-- A type of layer 2, seen by its contents. -/
theorem opens_ty {H : Type} (enc : TypeId × Value → H) (W : World) (n : Nat) : Opens enc Tryz.prog ⟨[], [], W, W.heap.size⟩ 24 n lenT tyV := by
  induction n using Nat.strongRecOn with
  | _ n ih =>
    have h := opens_struct3 (enc := enc) (P := Tryz.prog) (s := ⟨[], [], W, W.heap.size⟩) (n := n) (fa := AV.str) (fb := AV.str) (fc := fun xs : List D.Tr => .sl (xs.map tyV)) Tryz.underlying24 rfl (by kernel_rfl) (by kernel_rfl) (by kernel_rfl)
      (fun _ _ => opens_string Tryz.underlying9) (fun _ _ => opens_string Tryz.underlying9)
      (fun m hm => opens_slice (k := 3) (ag := true) Tryz.underlying22 (by kernel_rfl) (by omega) rfl (fun m' hm' => ih m' (by omega)) (fun x _ => tyV_el x))
    intro cs d hd
    obtain ⟨⟨a, b, us⟩, ⟨h1, h2, h3⟩, hr⟩ := h cs d hd
    refine ⟨.mk a b us, ?_, ?_⟩
    · simp only [lenT]
      unfold maxLen at h2 h3
      exact ⟨by simp only at h2; omega, by have := h3.1; simp only at this; omega, lenTs_of us h3.2⟩
    · simpa [tyV, AV.cells, tysV_map] using hr

theorem reads4 (os : Os) {H : Type} (enc : TypeId × Value → H) : ∃ places, DataW.whole enc Tryz.prog ((World.laidAll Tryz.prog os Rows.typesEqualRow.laid).forCall (fun _ _ => 0) ⟨#[], #[.agg #[.string ⟨#[]⟩, .string ⟨#[]⟩, .slice none 0 0], .agg #[.string ⟨#[]⟩, .string ⟨#[]⟩, .slice none 0 0]], []⟩).memory Tryz.f4.params.toList Rows.typesEqualSpec.vars false (#[.agg #[.string ⟨#[]⟩, .string ⟨#[]⟩, .slice none 0 0], .agg #[.string ⟨#[]⟩, .string ⟨#[]⟩, .slice none 0 0]] : Array Value).toList 8 = some ([.agg [.lit (.string []), .lit (.string []), .nil], .agg [.lit (.string []), .lit (.string []), .nil]], [], places) :=
  ⟨[], by kernel_rfl⟩
theorem laid4 (os : Os) : laidMet Tryz.prog Rows.typesEqualRow.laid ((World.laidAll Tryz.prog os Rows.typesEqualRow.laid).forCall (fun _ _ => 0) ⟨#[], #[.agg #[.string ⟨#[]⟩, .string ⟨#[]⟩, .slice none 0 0], .agg #[.string ⟨#[]⟩, .string ⟨#[]⟩, .slice none 0 0]], []⟩).memory :=
  laidMet_laidAll _ (by kernel_rfl) (by kernel_rfl)
theorem shaped4 (os : Os) : ((World.laidAll Tryz.prog os Rows.typesEqualRow.laid).forCall (fun _ _ => 0) ⟨#[], #[.agg #[.string ⟨#[]⟩, .string ⟨#[]⟩, .slice none 0 0], .agg #[.string ⟨#[]⟩, .string ⟨#[]⟩, .slice none 0 0]], []⟩).Shaped Tryz.prog :=
  World.shaped_of_ZipB (by kernel_rfl) (by kernel_rfl)

theorem lifted4 (os : Os) (started : os.Started) (H : Type) (enc : TypeId × Value → H) (F : Stop.Interp) :
    ReturnsInHanded {} Tryz.checked os 4 .any ((OpenSpec.ofChange Rows.typesEqualSpec).preRow enc Tryz.prog Tryz.f4 Rows.typesEqualRow.domain false Rows.typesEqualRow.laid) (((OpenSpec.ofChange Rows.typesEqualSpec).at F).post enc Tryz.prog Tryz.f4 false true false false) := by
  obtain ⟨places, hx⟩ := reads4 os enc
  refine returnsInHanded_of_row (C := Tryz.checked) (s := OpenSpec.ofChange Rows.typesEqualSpec) own started (by kernel_rfl) Tryz.func4
    (witness_row (enc := enc) (C := Tryz.checked) (World.laidAll Tryz.prog os Rows.typesEqualRow.laid) #[.agg #[.string ⟨#[]⟩, .string ⟨#[]⟩, .slice none 0 0], .agg #[.string ⟨#[]⟩, .string ⟨#[]⟩, .slice none 0 0]] (World.laidAll_os _ _ _) (shaped4 os) (by kernel_rfl)
      (OpenSpec.preRow_of_cond 8 hx (by kernel_rfl) (fun k hk => by cases hk) (by kernel_rfl) (by rw [MakeChecks.laidMetH_plain _ _ _ (by kernel_rfl)]; exact laid4 os))) ?_
  intro W base args ds gs before hval hW _ _ _ hL hS _
  rw [MakeChecks.laidMetH_plain _ _ _ (by kernel_rfl)] at hL
  have hΓ := gam_of hS hL (by simp [Rows.typesEqualRow]) (by simp [Rows.typesEqualRow]) (by simp [Rows.typesEqualRow]) (by simp [Rows.typesEqualRow])
  have hW' := hW
  obtain ⟨p, q, hA0, hV, hbefore, hfz, hnd⟩ := hW
  have hA : DataW.TrodAll enc Tryz.prog W 0 (fun _ => true) true Tryz.f4.params.toList args.toList ds p := hA0
  have hA2 := hA
  rw [Tryz.params4] at hA hval
  obtain ⟨v0, vs0, d0, ds0, p0, q0, hargs, hds, hp, h0, r0⟩ := trodAll_cons hA
  obtain ⟨v1, vs1, d1, ds1, p1, q1, hvs1, hds1, hp1, h1, r1⟩ := trodAll_cons r0
  obtain ⟨hvsE, hdsE, hpE⟩ := trodAll_nil r1
  obtain rfl : args = #[v0, v1] := by cases args; simp_all
  obtain rfl : ds = [d0, d1] := by simp_all
  obtain ⟨rfl, rfl⟩ := trodVars_none hV
  obtain ⟨x0, hl0, w0⟩ := opens_top_struct Tryz.underlying24 (opens_ty enc W) (fun x => by cases x; exact ⟨_, rfl⟩) (hval 0 24 v0 rfl rfl) h0
  obtain ⟨x1, hl1, w1⟩ := opens_top_struct Tryz.underlying24 (opens_ty enc W) (fun x => by cases x; exact ⟨_, rfl⟩) (hval 1 24 v1 rfl rfl) h1
  have walk := calls_top (args := [tyV x0, tyV x1]) (R := fun r τ => r = boolV true ∧ τ = []) (law_equal awake_ok x0 x1 (unifyOK_all x0 x1 hl0 hl1) hl0 hl1 []) (fun _ _ h => h.1) W [v0, v1] hΓ (by unfold RepL; exact ⟨_, _, rfl, w0, by unfold RepL; exact ⟨_, _, rfl, w1, by unfold RepL; rfl⟩⟩)
  refine walk.mono fun e W' ⟨he, hb⟩ => ?_
  subst he
  refine ⟨_, rfl, post_of_below (pa := p) (pv := []) hW' (fun _ _ _ => trodAll_cons_mk (shut_bool Tryz.underlying4 _) trodAll_mk0) (fun sp hsp => args_stay laid_out hb ?_ hA2 (fun x hx => hsp x (by rw [hbefore]; exact List.mem_append_left _ hx))) (fun _ _ => rfl) hbefore hb (ok_one (by kernel_rfl) rfl (okWide_bool_mk Tryz.underlying4 _))⟩
  rw [Tryz.params4]
  intro t ht
  obtain rfl : t = 24 := by have := ht; simp at this; first | omega | (rcases this with h | h <;> subst h <;> simp)
  exact ⟨by kernel_rfl, of_decide_eq_true (by kernel_rfl)⟩

theorem said4 : Rows.TypesEqualSaid :=
  OpenClaim.holds_of_cond 4 Tryz.f4 rfl rfl rfl rfl rfl rfl rfl ⟨rfl, rfl, rfl, rfl, rfl⟩ rfl rfl rfl rfl rfl (by kernel_rfl) Tryz.func4 (by kernel_rfl)
    (of_decide_eq_true (by kernel_rfl)) (by unfold Func.isWrapper; first | (rw [if_pos (by decide +kernel)]; kernel_rfl) | (rw [if_neg (by decide +kernel)]; exact ⟨rfl, rfl⟩))
    (fun os started H enc _ F => by rw [OpenClaim.pre_eq_preRow]; exact lifted4 os started H enc F)

theorem plain4 (f : FuncId) (fn : Func) (hf : Tryz.pinned.checked.prog.funcNamed "virgate/virgatelaw04.TypesEqual" = some f) (hfn : Tryz.pinned.checked.prog.funcs[f]? = some fn) :
    true = Tryz.pinned.checked.prog.looks [] ∧ ∀ (j : Nat) t, fn.params[j]? = some t → Tryz.pinned.checked.prog.wantsStandIn t = false := by
  obtain rfl : f = 4 := Option.some.inj ((show Tryz.prog.funcNamed "virgate/virgatelaw04.TypesEqual" = some 4 by kernel_rfl).symm.trans hf) |>.symm
  obtain rfl : fn = Tryz.f4 := (Option.some.inj (Tryz.func4.symm.trans hfn)).symm
  refine ⟨by kernel_rfl, fun j t ht => ?_⟩
  rw [Tryz.params4] at ht
  have ht := Array.mem_of_getElem? ht
  obtain rfl : t = 24 := by have := ht; simp at this; first | omega | (rcases this with h | h <;> subst h <;> simp)
  exact (show Tryz.prog.wantsStandIn 24 = false by kernel_rfl)
theorem card4 : Rows.TypesEqualCardSaid :=
  Claim7.holds_tied_plain_at .later [] _ _ _ _ said4 (fun _ h => by cases h) (by kernel_rfl) (fun _ h => by cases h) typesEqual_row_tie rfl ⟨rfl, rfl⟩ (by kernel_rfl) rfl plain4 (by kernel_rfl)
#print axioms card4
end Go.Proofs.YtoobkfjkohadnaaGreatDoor
