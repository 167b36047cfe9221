/- For every two lists of numbers the law PlaceEffects returns true and leaves both as they were. Conditions: the listed package-level variables hold what their initialisers lay (the card ties them to the text); no bound on the lists. -/
import Derived.Test.YtcgcmehohibnoaaGreatDoorFnH
import Derived.Test.YtcgcmehohibnoaaGreatDoorVmF
import Derived.Test.YtcgcmehohibnoaaGreatDoorCards
import Derived.Test.YtcgcmehohibnoaaGreatDoorTie
import Derived.ProofKit
import Derived.OpenShut
import Derived.ChangeMaps5
set_option linter.unusedVariables false
set_option linter.unusedSimpArgs false
set_option maxRecDepth 100000
namespace Go.Proofs.YtcgcmehohibnoaaGreatDoor
open Go Go.Vm Go.D Go.ChangeMaps Go.ChangeShapes Go.WideShapes Go.ChangeAt Go.RowKit

theorem own : ownKnob Tryz.prog.godebug = none := by kernel_rfl
theorem laid_out : laidOutB Tryz.prog = true := by kernel_rfl
theorem space_tab : Rows.laid_strings_asciiSpace (H := Unit) = Lib.tabData .u8 Lib.asciiSpaceTab := by kernel_rfl
theorem pow_tab : Rows.laid_internal_strconv_uint64pow10 (H := Unit) = Lib.tabData .u64 Lib.pow10Tab := by kernel_rfl

theorem gam_of {W : World} {laid : List (String × DataW Unit)} (hS : W.ShapedOpen Tryz.prog) (hL : laidMet Tryz.prog laid W)
    (h1 : ("strconv.ErrSyntax", Rows.laid_strconv_ErrSyntax) ∈ laid) (h2 : ("strconv.ErrRange", Rows.laid_strconv_ErrRange) ∈ laid) (h3 : ("strings.asciiSpace", Rows.laid_strings_asciiSpace) ∈ laid)
    (h4 : ("internal/strconv.uint64pow10", Rows.laid_internal_strconv_uint64pow10) ∈ laid) : gam W.heap.size W := by
  have e1 := laid_iface hL h1 (g := 3) (by kernel_rfl) (by kernel_rfl) Tryz.underlying132
  have e2 := laid_iface hL h2 (g := 4) (by kernel_rfl) (by kernel_rfl) Tryz.underlying132
  rw [space_tab] at h3
  rw [pow_tab] at h4
  have e3 := laid_tab hL h3 (g := 0) (t := 172) (m := 256) (by kernel_rfl) (by kernel_rfl) Tryz.underlying172 Tryz.underlying5 (by kernel_rfl) (by kernel_rfl)
  have e4 := laid_tab hL h4 (g := 5) (t := 199) (m := 20) (by kernel_rfl) (by kernel_rfl) Tryz.underlying199 Tryz.underlying126 (by kernel_rfl) (by kernel_rfl)
  have e0 := shape_int hS (g := 1) (t := 3) (k := .i64) (zero := #[.int .i64 0]) (of_decide_eq_true (by kernel_rfl)) (by kernel_rfl) (by kernel_rfl) (by kernel_rfl) (by kernel_rfl) Tryz.underlying3
  have hb : 5 < W.heap.size := by
    have h := World.var?_cell (P := Tryz.prog) (w := W) (g := 5) (by kernel_rfl) e4 0
    rw [show ((Lib.pow10Tab.map fun z => Value.int .u64 z).toArray)[0]? = some (Value.int .u64 1) from by kernel_rfl] at h
    exact block_lt h
  exact ⟨by omega, e0, e1, e2, e3, e4⟩

theorem opens_ints {H : Type} (enc : TypeId × Value → H) (W : World) (n : Nat) : Opens enc Tryz.prog ⟨[], [], W, W.heap.size⟩ 22 n (fun xs : List Int => xs.length ≤ maxLen ∧ ∀ x ∈ xs, (Lit.int .i64 x).wf = true) (fun xs => .sl (xs.map fun z => .v (.int .i64 z))) :=
  opens_slice (k := 1) (ag := false) Tryz.underlying22 (by kernel_rfl) (by omega) rfl (fun m _ => opens_int Tryz.underlying3) (fun x _ => rfl)

theorem reads3 (os : Os) {H : Type} (enc : TypeId × Value → H) : ∃ places, DataW.whole enc Tryz.prog ((World.laidAll Tryz.prog os Rows.placeEffectsRow.laid).forCall (fun _ _ => 0) ⟨#[], #[.slice none 0 0, .slice none 0 0], []⟩).memory Tryz.f3.params.toList Rows.placeEffectsSpec.vars false (#[.slice none 0 0, .slice none 0 0] : Array Value).toList 8 = some ([.nil, .nil], [], places) :=
  ⟨[], by kernel_rfl⟩
theorem laid3 (os : Os) : laidMet Tryz.prog Rows.placeEffectsRow.laid ((World.laidAll Tryz.prog os Rows.placeEffectsRow.laid).forCall (fun _ _ => 0) ⟨#[], #[.slice none 0 0, .slice none 0 0], []⟩).memory :=
  laidMet_laidAll _ (by kernel_rfl) (by kernel_rfl)
theorem shaped3 (os : Os) : ((World.laidAll Tryz.prog os Rows.placeEffectsRow.laid).forCall (fun _ _ => 0) ⟨#[], #[.slice none 0 0, .slice none 0 0], []⟩).Shaped Tryz.prog :=
  World.shaped_of_ZipB (by kernel_rfl) (by kernel_rfl)

theorem lifted3 (os : Os) (started : os.Started) (H : Type) (enc : TypeId × Value → H) (F : Stop.Interp) :
    ReturnsInHanded {} Tryz.checked os 3 .any ((OpenSpec.ofChange Rows.placeEffectsSpec).preRow enc Tryz.prog Tryz.f3 Rows.placeEffectsRow.domain false Rows.placeEffectsRow.laid) (((OpenSpec.ofChange Rows.placeEffectsSpec).at F).post enc Tryz.prog Tryz.f3 false true false false) := by
  obtain ⟨places, hx⟩ := reads3 os enc
  refine returnsInHanded_of_row (C := Tryz.checked) (s := OpenSpec.ofChange Rows.placeEffectsSpec) own started (by kernel_rfl) Tryz.func3
    (witness_row (enc := enc) (C := Tryz.checked) (World.laidAll Tryz.prog os Rows.placeEffectsRow.laid) #[.slice none 0 0, .slice none 0 0] (World.laidAll_os _ _ _) (shaped3 os) (by kernel_rfl)
      (OpenSpec.preRow_of_cond 8 hx (by kernel_rfl) (fun k hk => by cases hk) (by kernel_rfl) (by rw [MakeChecks.laidMetH_plain _ _ _ (by kernel_rfl)]; exact laid3 os))) ?_
  intro W base args ds gs before hval hW _ _ _ hL hS _
  rw [MakeChecks.laidMetH_plain _ _ _ (by kernel_rfl)] at hL
  have hΓ := gam_of hS hL (by simp [Rows.placeEffectsRow]) (by simp [Rows.placeEffectsRow]) (by simp [Rows.placeEffectsRow]) (by simp [Rows.placeEffectsRow])
  have hW' := hW
  obtain ⟨p, q, hA0, hV, hbefore, hfz, hnd⟩ := hW
  have hA : DataW.TrodAll enc Tryz.prog W 0 (fun _ => true) true Tryz.f3.params.toList args.toList ds p := hA0
  have hA2 := hA
  rw [Tryz.params3] at hA hval
  obtain ⟨v0, vs0, d0, ds0, p0, q0, hargs, hds, hp, h0, r0⟩ := trodAll_cons hA
  obtain ⟨v1, vs1, d1, ds1, p1, q1, hvs1, hds1, hp1, h1, r1⟩ := trodAll_cons r0
  obtain ⟨hvsE, hdsE, hpE⟩ := trodAll_nil r1
  obtain rfl : args = #[v0, v1] := by cases args; simp_all
  obtain rfl : ds = [d0, d1] := by simp_all
  obtain ⟨rfl, rfl⟩ := trodVars_none hV
  obtain ⟨x0, hl0, w0⟩ := opens_top_slice Tryz.underlying22 (opens_ints enc W) (fun x => ⟨_, rfl⟩) (hval 0 22 v0 rfl rfl) h0
  obtain ⟨x1, hl1, w1⟩ := opens_top_slice Tryz.underlying22 (opens_ints enc W) (fun x => ⟨_, rfl⟩) (hval 1 22 v1 rfl rfl) h1
  have walk := calls_top (args := [.sl (ivs x0), .sl (ivs x1)]) (R := fun r τ => r = boolV true ∧ τ = []) (law_effects awake_ok x0 x1 (by have := hl0.1; unfold maxLen at this; omega) (by have := hl1.1; unfold maxLen at this; omega) []) (fun _ _ h => h.1) W [v0, v1] hΓ (by unfold RepL; exact ⟨_, _, rfl, w0, by unfold RepL; exact ⟨_, _, rfl, w1, by unfold RepL; rfl⟩⟩)
  refine walk.mono fun e W' ⟨he, hb⟩ => ?_
  subst he
  refine ⟨_, rfl, post_of_below (pa := p) (pv := []) hW' (fun _ _ _ => trodAll_cons_mk (shut_bool Tryz.underlying4 _) trodAll_mk0) (fun sp hsp => args_stay laid_out hb ?_ hA2 (fun x hx => hsp x (by rw [hbefore]; exact List.mem_append_left _ hx))) (fun _ _ => rfl) hbefore hb (ok_one (by kernel_rfl) rfl (okWide_bool_mk Tryz.underlying4 _))⟩
  rw [Tryz.params3]
  intro t ht
  obtain rfl : t = 22 := by have := ht; simp at this; omega
  exact ⟨by kernel_rfl, of_decide_eq_true (by kernel_rfl)⟩

theorem said3 : Rows.PlaceEffectsSaid :=
  OpenClaim.holds_of_cond 3 Tryz.f3 rfl rfl rfl rfl rfl rfl rfl ⟨rfl, rfl, rfl, rfl, rfl⟩ rfl rfl rfl rfl rfl (by kernel_rfl) Tryz.func3 (by kernel_rfl)
    (of_decide_eq_true (by kernel_rfl)) (by unfold Func.isWrapper; first | (rw [if_pos (by decide +kernel)]; kernel_rfl) | (rw [if_neg (by decide +kernel)]; exact ⟨rfl, rfl⟩))
    (fun os started H enc _ F => by rw [OpenClaim.pre_eq_preRow]; exact lifted3 os started H enc F)

theorem plain3 (f : FuncId) (fn : Func) (hf : Tryz.pinned.checked.prog.funcNamed "virgate/virgatelaw10.PlaceEffects" = some f) (hfn : Tryz.pinned.checked.prog.funcs[f]? = some fn) :
    true = Tryz.pinned.checked.prog.looks [] ∧ ∀ (j : Nat) t, fn.params[j]? = some t → Tryz.pinned.checked.prog.wantsStandIn t = false := by
  obtain rfl : f = 3 := Option.some.inj ((show Tryz.prog.funcNamed "virgate/virgatelaw10.PlaceEffects" = some 3 by kernel_rfl).symm.trans hf) |>.symm
  obtain rfl : fn = Tryz.f3 := (Option.some.inj (Tryz.func3.symm.trans hfn)).symm
  refine ⟨by kernel_rfl, fun j t ht => ?_⟩
  rw [Tryz.params3] at ht
  have ht := Array.mem_of_getElem? ht
  obtain rfl : t = 22 := by have := ht; simp at this; omega
  exact (show Tryz.prog.wantsStandIn 22 = false by kernel_rfl)
theorem card3 : Rows.PlaceEffectsCardSaid :=
  Claim7.holds_tied_plain_at .later [] _ _ _ _ said3 (fun _ h => by cases h) (by kernel_rfl) (fun _ h => by cases h) placeEffects_row_tie rfl ⟨rfl, rfl⟩ (by kernel_rfl) rfl plain3 (by kernel_rfl)
#print axioms card3
end Go.Proofs.YtcgcmehohibnoaaGreatDoor
