/- For every text the law TokenQuotes returns true and leaves the text as it was. Conditions: the listed package-level variables hold what their initialisers lay (the card ties them to the text); no bound on the text. -/
import Derived.Test.YtikjefmoclienaaGreatDoorFnNn
import Derived.Test.YtikjefmoclienaaGreatDoorCards
import Derived.Test.YtikjefmoclienaaGreatDoorTie
import Derived.ProofKit
import Derived.OpenShut
import Derived.ChangeMaps5
set_option linter.unusedVariables false
set_option linter.unusedSimpArgs false
set_option maxRecDepth 100000
namespace Go.Proofs.YtikjefmoclienaaGreatDoor
open Go Go.Vm Go.D Go.ChangeMaps Go.ChangeShapes Go.WideShapes Go.ChangeAt Go.RowKit

theorem own : ownKnob Tryz.prog.godebug = none := by kernel_rfl
theorem laid_out : laidOutB Tryz.prog = true := by kernel_rfl
theorem space_tab : Rows.laid_strings_asciiSpace (H := Unit) = Lib.tabData .u8 Lib.asciiSpaceTab := by kernel_rfl

theorem gam_of {W : World} {laid : List (String × DataW Unit)} (hS : W.ShapedOpen Tryz.prog) (hL : laidMet Tryz.prog laid W)
    (h1 : ("strconv.ErrSyntax", Rows.laid_strconv_ErrSyntax) ∈ laid) (h2 : ("strconv.ErrRange", Rows.laid_strconv_ErrRange) ∈ laid) (h3 : ("strings.asciiSpace", Rows.laid_strings_asciiSpace) ∈ laid) : gam W.heap.size W := by
  have e1 := laid_iface hL h1 (g := 3) (by kernel_rfl) (by kernel_rfl) Tryz.underlying55
  have e2 := laid_iface hL h2 (g := 4) (by kernel_rfl) (by kernel_rfl) Tryz.underlying55
  rw [space_tab] at h3
  have e3 := laid_tab hL h3 (g := 0) (t := 76) (m := 256) (by kernel_rfl) (by kernel_rfl) Tryz.underlying76 Tryz.underlying5 (by kernel_rfl) (by kernel_rfl)
  have e0 := shape_int hS (g := 1) (t := 3) (k := .i64) (zero := #[.int .i64 0]) (of_decide_eq_true (by kernel_rfl)) (by kernel_rfl) (by kernel_rfl) (by kernel_rfl) (by kernel_rfl) Tryz.underlying3
  have hb := block_lt e2.choose_spec.choose_spec
  simp only at hb
  exact ⟨by omega, e0, e1, e2, e3⟩

theorem reads6 (os : Os) {H : Type} (enc : TypeId × Value → H) : ∃ places, DataW.whole enc Tryz.prog ((World.laidAll Tryz.prog os Rows.tokenQuotesRow.laid).forCall (fun _ _ => 0) ⟨#[], #[.string ⟨#[]⟩], []⟩).memory Tryz.f6.params.toList Rows.tokenQuotesSpec.vars false #[Value.string ⟨#[]⟩].toList 8 = some ([.lit (.string [])], [], places) :=
  ⟨[], by kernel_rfl⟩

theorem laid6 (os : Os) : laidMet Tryz.prog Rows.tokenQuotesRow.laid ((World.laidAll Tryz.prog os Rows.tokenQuotesRow.laid).forCall (fun _ _ => 0) ⟨#[], #[.string ⟨#[]⟩], []⟩).memory :=
  laidMet_laidAll _ (by kernel_rfl) (by kernel_rfl)
theorem shaped6 (os : Os) : ((World.laidAll Tryz.prog os Rows.tokenQuotesRow.laid).forCall (fun _ _ => 0) ⟨#[], #[.string ⟨#[]⟩], []⟩).Shaped Tryz.prog :=
  World.shaped_of_ZipB (by kernel_rfl) (by kernel_rfl)

theorem lifted6 (os : Os) (started : os.Started) (H : Type) (enc : TypeId × Value → H) (F : Stop.Interp) :
    ReturnsInHanded {} Tryz.checked os 6 .any ((OpenSpec.ofChange Rows.tokenQuotesSpec).preRow enc Tryz.prog Tryz.f6 Rows.tokenQuotesRow.domain false Rows.tokenQuotesRow.laid) (((OpenSpec.ofChange Rows.tokenQuotesSpec).at F).post enc Tryz.prog Tryz.f6 false true false false) := by
  obtain ⟨places, hx⟩ := reads6 os enc
  refine returnsInHanded_of_row (C := Tryz.checked) (s := OpenSpec.ofChange Rows.tokenQuotesSpec) own started (by kernel_rfl) Tryz.func6
    (witness_row (enc := enc) (C := Tryz.checked) (World.laidAll Tryz.prog os Rows.tokenQuotesRow.laid) #[.string ⟨#[]⟩] (World.laidAll_os _ _ _) (shaped6 os) (by kernel_rfl)
      (OpenSpec.preRow_of_cond 8 hx (by kernel_rfl) (fun k hk => by cases hk) (by kernel_rfl) (by rw [MakeChecks.laidMetH_plain _ _ _ (by kernel_rfl)]; exact laid6 os))) ?_
  intro W base args ds gs before hval hW _ _ _ hL hS _
  rw [MakeChecks.laidMetH_plain _ _ _ (by kernel_rfl)] at hL
  have hΓ := gam_of hS hL (by simp [Rows.tokenQuotesRow]) (by simp [Rows.tokenQuotesRow]) (by simp [Rows.tokenQuotesRow])
  have hW' := hW
  obtain ⟨p, q, hA0, hV, rfl, hfz, hnd⟩ := hW
  have hA : DataW.TrodAll enc Tryz.prog W 0 (fun _ => true) true Tryz.f6.params.toList args.toList ds p := hA0
  have hA2 := hA
  rw [Tryz.params6] at hA hval
  obtain ⟨v0, vs0, d0, ds0, p0, q0, hargs, rfl, rfl, h0, r0⟩ := trodAll_cons hA
  obtain ⟨rfl, rfl, rfl⟩ := trodAll_nil r0
  obtain rfl : args = #[v0] := by cases args; simp_all
  obtain ⟨rfl, rfl⟩ := trodVars_none hV
  obtain ⟨s, rfl, rfl, rfl, hlen⟩ := open_string Tryz.underlying9 (hval 0 9 v0 rfl rfl) h0
  have walk := calls_top (args := [.str s.data.toList]) (R := fun r τ => r = boolV true ∧ τ = []) (law_quotes s.data.toList) (fun _ _ h => h.1) W [.string s] hΓ (by unfold RepL RepL; exact ⟨_, _, rfl, by unfold Rep; rfl, rfl⟩)
  refine walk.mono fun e W' ⟨he, hb⟩ => ?_
  subst he
  refine ⟨_, rfl, post_of_below (pa := []) (pv := []) hW' (fun _ _ _ => trodAll_cons_mk (shut_bool Tryz.underlying4 _) trodAll_mk0) (fun sp hsp => args_stay laid_out hb ?_ hA2 (fun p hp => by cases hp)) (fun _ _ => rfl) rfl hb (ok_one (by kernel_rfl) rfl (okWide_bool_mk Tryz.underlying4 _))⟩
  rw [Tryz.params6]
  intro t ht
  obtain rfl : t = 9 := by simpa using ht
  exact ⟨by kernel_rfl, of_decide_eq_true (by kernel_rfl)⟩

theorem said6 : Rows.TokenQuotesSaid :=
  OpenClaim.holds_of_cond 6 Tryz.f6 rfl rfl rfl rfl rfl rfl rfl ⟨rfl, rfl, rfl, rfl, rfl⟩ rfl rfl rfl rfl rfl (by kernel_rfl) Tryz.func6 (by kernel_rfl)
    (of_decide_eq_true (by kernel_rfl)) (by unfold Func.isWrapper; first | (rw [if_pos (by decide +kernel)]; kernel_rfl) | (rw [if_neg (by decide +kernel)]; exact ⟨rfl, rfl⟩))
    (fun os started H enc _ F => by rw [OpenClaim.pre_eq_preRow]; exact lifted6 os started H enc F)

theorem plain6 (f : FuncId) (fn : Func) (hf : Tryz.pinned.checked.prog.funcNamed "virgate/virgatelaw01.TokenQuotes" = some f) (hfn : Tryz.pinned.checked.prog.funcs[f]? = some fn) :
    true = Tryz.pinned.checked.prog.looks [] ∧ ∀ (j : Nat) t, fn.params[j]? = some t → Tryz.pinned.checked.prog.wantsStandIn t = false := by
  obtain rfl : f = 6 := Option.some.inj ((show Tryz.prog.funcNamed "virgate/virgatelaw01.TokenQuotes" = some 6 by kernel_rfl).symm.trans hf) |>.symm
  obtain rfl : fn = Tryz.f6 := (Option.some.inj (Tryz.func6.symm.trans hfn)).symm
  refine ⟨by kernel_rfl, fun j t ht => ?_⟩
  rw [Tryz.params6] at ht
  obtain rfl : t = 9 := by simpa using Array.mem_of_getElem? ht
  exact (show Tryz.prog.wantsStandIn 9 = false by kernel_rfl)
theorem card6 : Rows.TokenQuotesCardSaid :=
  Claim7.holds_tied_plain_at .later [] _ _ _ _ said6 (fun _ h => by cases h) (by kernel_rfl) (fun _ h => by cases h) tokenQuotes_row_tie rfl ⟨rfl, rfl⟩ (by kernel_rfl) rfl plain6 (by kernel_rfl)
end Go.Proofs.YtikjefmoclienaaGreatDoor
