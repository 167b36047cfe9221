/- For every list of tokens the law TokenTexts returns true and leaves the list as it was. Conditions: the listed package-level variables hold what their initialisers lay (the card ties them to the text); no bound on the list. -/
import Derived.Test.YtikjefmoclienaaGreatDoorFnKk
import Derived.Test.YtikjefmoclienaaGreatDoorVmX
import Derived.Test.YtikjefmoclienaaGreatDoorCards
import Derived.Test.YtikjefmoclienaaGreatDoorTie
import Derived.ProofKit
import Derived.OpenShut
import Derived.ChangeMaps5
set_option linter.unusedVariables false
set_option linter.unusedSimpArgs false
set_option maxRecDepth 100000
namespace Go.Proofs.YtikjefmoclienaaGreatDoor
open Go Go.Vm Go.D Go.ChangeMaps Go.ChangeShapes Go.WideShapes Go.ChangeAt Go.RowKit

theorem own : ownKnob Tryz.prog.godebug = none := by kernel_rfl
theorem laid_out : laidOutB Tryz.prog = true := by kernel_rfl
theorem space_tab : Rows.laid_strings_asciiSpace (H := Unit) = Lib.tabData .u8 Lib.asciiSpaceTab := by kernel_rfl

theorem gam_of {W : World} {laid : List (String × DataW Unit)} (hS : W.ShapedOpen Tryz.prog) (hL : laidMet Tryz.prog laid W)
    (h1 : ("strconv.ErrSyntax", Rows.laid_strconv_ErrSyntax) ∈ laid) (h2 : ("strconv.ErrRange", Rows.laid_strconv_ErrRange) ∈ laid) (h3 : ("strings.asciiSpace", Rows.laid_strings_asciiSpace) ∈ laid) : gam W.heap.size W := by
  have e1 := laid_iface hL h1 (g := 3) (by kernel_rfl) (by kernel_rfl) Tryz.underlying55
  have e2 := laid_iface hL h2 (g := 4) (by kernel_rfl) (by kernel_rfl) Tryz.underlying55
  rw [space_tab] at h3
  have e3 := laid_tab hL h3 (g := 0) (t := 76) (m := 256) (by kernel_rfl) (by kernel_rfl) Tryz.underlying76 Tryz.underlying5 (by kernel_rfl) (by kernel_rfl)
  have e0 := shape_int hS (g := 1) (t := 3) (k := .i64) (zero := #[.int .i64 0]) (of_decide_eq_true (by kernel_rfl)) (by kernel_rfl) (by kernel_rfl) (by kernel_rfl) (by kernel_rfl) Tryz.underlying3
  have hb := block_lt e2.choose_spec.choose_spec
  simp only at hb
  exact ⟨by omega, e0, e1, e2, e3⟩

theorem opens_toks {H : Type} (enc : TypeId × Value → H) (W : World) (n : Nat) : Opens enc Tryz.prog ⟨[], [], W, W.heap.size⟩ 27 n (fun xs : List TokI => xs.length ≤ maxLen ∧ ∀ x ∈ xs, x.1.length ≤ maxLen ∧ x.2.1.length ≤ maxLen ∧ (Lit.int .i64 x.2.2).wf = true) (fun xs => .sl (xs.map avI)) :=
  opens_slice (k := 3) (ag := true) Tryz.underlying27 (by kernel_rfl) (by omega) rfl
    (fun m _ => opens_struct3 (fa := AV.str) (fb := AV.str) (fc := fun x => .v (.int .i64 x)) Tryz.underlying32 rfl (by kernel_rfl) (by kernel_rfl) (by kernel_rfl) (fun _ _ => opens_string Tryz.underlying9) (fun _ _ => opens_string Tryz.underlying9) (fun _ _ => opens_int Tryz.underlying3))
    (fun x _ => rfl)

theorem reads7 (os : Os) {H : Type} (enc : TypeId × Value → H) : ∃ places, DataW.whole enc Tryz.prog ((World.laidAll Tryz.prog os Rows.tokenTextsRow.laid).forCall (fun _ _ => 0) ⟨#[], #[.slice none 0 0], []⟩).memory Tryz.f7.params.toList Rows.tokenTextsSpec.vars false (#[.slice none 0 0] : Array Value).toList 8 = some ([.nil], [], places) :=
  ⟨[], by kernel_rfl⟩
theorem laid7 (os : Os) : laidMet Tryz.prog Rows.tokenTextsRow.laid ((World.laidAll Tryz.prog os Rows.tokenTextsRow.laid).forCall (fun _ _ => 0) ⟨#[], #[.slice none 0 0], []⟩).memory :=
  laidMet_laidAll _ (by kernel_rfl) (by kernel_rfl)
theorem shaped7 (os : Os) : ((World.laidAll Tryz.prog os Rows.tokenTextsRow.laid).forCall (fun _ _ => 0) ⟨#[], #[.slice none 0 0], []⟩).Shaped Tryz.prog :=
  World.shaped_of_ZipB (by kernel_rfl) (by kernel_rfl)

theorem lifted7 (os : Os) (started : os.Started) (H : Type) (enc : TypeId × Value → H) (F : Stop.Interp) :
    ReturnsInHanded {} Tryz.checked os 7 .any ((OpenSpec.ofChange Rows.tokenTextsSpec).preRow enc Tryz.prog Tryz.f7 Rows.tokenTextsRow.domain false Rows.tokenTextsRow.laid) (((OpenSpec.ofChange Rows.tokenTextsSpec).at F).post enc Tryz.prog Tryz.f7 false true false false) := by
  obtain ⟨places, hx⟩ := reads7 os enc
  refine returnsInHanded_of_row (C := Tryz.checked) (s := OpenSpec.ofChange Rows.tokenTextsSpec) own started (by kernel_rfl) Tryz.func7
    (witness_row (enc := enc) (C := Tryz.checked) (World.laidAll Tryz.prog os Rows.tokenTextsRow.laid) #[.slice none 0 0] (World.laidAll_os _ _ _) (shaped7 os) (by kernel_rfl)
      (OpenSpec.preRow_of_cond 8 hx (by kernel_rfl) (fun k hk => by cases hk) (by kernel_rfl) (by rw [MakeChecks.laidMetH_plain _ _ _ (by kernel_rfl)]; exact laid7 os))) ?_
  intro W base args ds gs before hval hW _ _ _ hL hS _
  rw [MakeChecks.laidMetH_plain _ _ _ (by kernel_rfl)] at hL
  have hΓ := gam_of hS hL (by simp [Rows.tokenTextsRow]) (by simp [Rows.tokenTextsRow]) (by simp [Rows.tokenTextsRow])
  have hW' := hW
  obtain ⟨p, q, hA0, hV, hbefore, hfz, hnd⟩ := hW
  have hA : DataW.TrodAll enc Tryz.prog W 0 (fun _ => true) true Tryz.f7.params.toList args.toList ds p := hA0
  have hA2 := hA
  rw [Tryz.params7] at hA hval
  obtain ⟨v0, vs0, d0, ds0, p0, q0, hargs, hds, hp, h0, r0⟩ := trodAll_cons hA
  obtain ⟨hvsE, hdsE, hpE⟩ := trodAll_nil r0
  obtain rfl : args = #[v0] := by cases args; simp_all
  obtain rfl : ds = [d0] := by simp_all
  obtain ⟨rfl, rfl⟩ := trodVars_none hV
  obtain ⟨x0, hl0, w0⟩ := opens_top_slice Tryz.underlying27 (opens_toks enc W) (fun x => ⟨_, rfl⟩) (hval 0 27 v0 rfl rfl) h0
  have walk := calls_top (args := [.sl (x0.map avI)]) (R := fun r τ => r = boolV true ∧ τ = []) (law_texts x0 (by have := hl0.1; unfold maxLen at this; omega)) (fun _ _ h => h.1) W [v0] hΓ (by unfold RepL; exact ⟨_, _, rfl, w0, by unfold RepL; rfl⟩)
  refine walk.mono fun e W' ⟨he, hb⟩ => ?_
  subst he
  refine ⟨_, rfl, post_of_below (pa := p) (pv := []) hW' (fun _ _ _ => trodAll_cons_mk (shut_bool Tryz.underlying4 _) trodAll_mk0) (fun sp hsp => args_stay laid_out hb ?_ hA2 (fun x hx => hsp x (by rw [hbefore]; exact List.mem_append_left _ hx))) (fun _ _ => rfl) hbefore hb (ok_one (by kernel_rfl) rfl (okWide_bool_mk Tryz.underlying4 _))⟩
  rw [Tryz.params7]
  intro t ht
  obtain rfl : t = 27 := by simpa using ht
  exact ⟨by kernel_rfl, of_decide_eq_true (by kernel_rfl)⟩

theorem said7 : Rows.TokenTextsSaid :=
  OpenClaim.holds_of_cond 7 Tryz.f7 rfl rfl rfl rfl rfl rfl rfl ⟨rfl, rfl, rfl, rfl, rfl⟩ rfl rfl rfl rfl rfl (by kernel_rfl) Tryz.func7 (by kernel_rfl)
    (of_decide_eq_true (by kernel_rfl)) (by unfold Func.isWrapper; first | (rw [if_pos (by decide +kernel)]; kernel_rfl) | (rw [if_neg (by decide +kernel)]; exact ⟨rfl, rfl⟩))
    (fun os started H enc _ F => by rw [OpenClaim.pre_eq_preRow]; exact lifted7 os started H enc F)

theorem plain7 (f : FuncId) (fn : Func) (hf : Tryz.pinned.checked.prog.funcNamed "virgate/virgatelaw01.TokenTexts" = some f) (hfn : Tryz.pinned.checked.prog.funcs[f]? = some fn) :
    true = Tryz.pinned.checked.prog.looks [] ∧ ∀ (j : Nat) t, fn.params[j]? = some t → Tryz.pinned.checked.prog.wantsStandIn t = false := by
  obtain rfl : f = 7 := Option.some.inj ((show Tryz.prog.funcNamed "virgate/virgatelaw01.TokenTexts" = some 7 by kernel_rfl).symm.trans hf) |>.symm
  obtain rfl : fn = Tryz.f7 := (Option.some.inj (Tryz.func7.symm.trans hfn)).symm
  refine ⟨by kernel_rfl, fun j t ht => ?_⟩
  rw [Tryz.params7] at ht
  have ht := Array.mem_of_getElem? ht
  obtain rfl : t = 27 := by have := ht; simp at this; omega
  exact (show Tryz.prog.wantsStandIn 27 = false by kernel_rfl)
theorem card7 : Rows.TokenTextsCardSaid :=
  Claim7.holds_tied_plain_at .later [] _ _ _ _ said7 (fun _ h => by cases h) (by kernel_rfl) (fun _ h => by cases h) tokenTexts_row_tie rfl ⟨rfl, rfl⟩ (by kernel_rfl) rfl plain7 (by kernel_rfl)
#print axioms card7
end Go.Proofs.YtikjefmoclienaaGreatDoor
