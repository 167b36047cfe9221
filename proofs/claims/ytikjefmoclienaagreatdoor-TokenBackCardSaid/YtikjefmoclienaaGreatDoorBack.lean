/- For every text and every list of tokens the law TokenBack returns true and leaves both as they were. Conditions: the listed package-level variables hold what their initialisers lay (the card ties them to the text); no bound on the text or the list. -/
import Derived.Test.YtikjefmoclienaaGreatDoorFnKk
import Derived.Test.YtikjefmoclienaaGreatDoorVmX
import Derived.Test.YtikjefmoclienaaGreatDoorCards
import Derived.Test.YtikjefmoclienaaGreatDoorTie
import Derived.ProofKit
import Derived.OpenShut
import Derived.ChangeMaps5
set_option linter.unusedVariables false
set_option linter.unusedSimpArgs false
set_option maxRecDepth 100000
namespace Go.Proofs.YtikjefmoclienaaGreatDoor
open Go Go.Vm Go.D Go.ChangeMaps Go.ChangeShapes Go.WideShapes Go.ChangeAt Go.RowKit

theorem own : ownKnob Tryz.prog.godebug = none := by kernel_rfl
theorem laid_out : laidOutB Tryz.prog = true := by kernel_rfl
theorem space_tab : Rows.laid_strings_asciiSpace (H := Unit) = Lib.tabData .u8 Lib.asciiSpaceTab := by kernel_rfl

theorem gam_of {W : World} {laid : List (String × DataW Unit)} (hS : W.ShapedOpen Tryz.prog) (hL : laidMet Tryz.prog laid W)
    (h1 : ("strconv.ErrSyntax", Rows.laid_strconv_ErrSyntax) ∈ laid) (h2 : ("strconv.ErrRange", Rows.laid_strconv_ErrRange) ∈ laid) (h3 : ("strings.asciiSpace", Rows.laid_strings_asciiSpace) ∈ laid) : gam W.heap.size W := by
  have e1 := laid_iface hL h1 (g := 3) (by kernel_rfl) (by kernel_rfl) Tryz.underlying55
  have e2 := laid_iface hL h2 (g := 4) (by kernel_rfl) (by kernel_rfl) Tryz.underlying55
  rw [space_tab] at h3
  have e3 := laid_tab hL h3 (g := 0) (t := 76) (m := 256) (by kernel_rfl) (by kernel_rfl) Tryz.underlying76 Tryz.underlying5 (by kernel_rfl) (by kernel_rfl)
  have e0 := shape_int hS (g := 1) (t := 3) (k := .i64) (zero := #[.int .i64 0]) (of_decide_eq_true (by kernel_rfl)) (by kernel_rfl) (by kernel_rfl) (by kernel_rfl) (by kernel_rfl) Tryz.underlying3
  have hb := block_lt e2.choose_spec.choose_spec
  simp only at hb
  exact ⟨by omega, e0, e1, e2, e3⟩

theorem opens_toks {H : Type} (enc : TypeId × Value → H) (W : World) (n : Nat) : Opens enc Tryz.prog ⟨[], [], W, W.heap.size⟩ 27 n (fun xs : List TokI => xs.length ≤ maxLen ∧ ∀ x ∈ xs, x.1.length ≤ maxLen ∧ x.2.1.length ≤ maxLen ∧ (Lit.int .i64 x.2.2).wf = true) (fun xs => .sl (xs.map avI)) :=
  opens_slice (k := 3) (ag := true) Tryz.underlying27 (by kernel_rfl) (by omega) rfl
    (fun m _ => opens_struct3 (fa := AV.str) (fb := AV.str) (fc := fun x => .v (.int .i64 x)) Tryz.underlying32 rfl (by kernel_rfl) (by kernel_rfl) (by kernel_rfl) (fun _ _ => opens_string Tryz.underlying9) (fun _ _ => opens_string Tryz.underlying9) (fun _ _ => opens_int Tryz.underlying3))
    (fun x _ => rfl)

theorem reads5 (os : Os) {H : Type} (enc : TypeId × Value → H) : ∃ places, DataW.whole enc Tryz.prog ((World.laidAll Tryz.prog os Rows.tokenBackRow.laid).forCall (fun _ _ => 0) ⟨#[], #[.string ⟨#[]⟩, .slice none 0 0], []⟩).memory Tryz.f5.params.toList Rows.tokenBackSpec.vars false (#[.string ⟨#[]⟩, .slice none 0 0] : Array Value).toList 8 = some ([.lit (.string []), .nil], [], places) :=
  ⟨[], by kernel_rfl⟩
theorem laid5 (os : Os) : laidMet Tryz.prog Rows.tokenBackRow.laid ((World.laidAll Tryz.prog os Rows.tokenBackRow.laid).forCall (fun _ _ => 0) ⟨#[], #[.string ⟨#[]⟩, .slice none 0 0], []⟩).memory :=
  laidMet_laidAll _ (by kernel_rfl) (by kernel_rfl)
theorem shaped5 (os : Os) : ((World.laidAll Tryz.prog os Rows.tokenBackRow.laid).forCall (fun _ _ => 0) ⟨#[], #[.string ⟨#[]⟩, .slice none 0 0], []⟩).Shaped Tryz.prog :=
  World.shaped_of_ZipB (by kernel_rfl) (by kernel_rfl)

theorem lifted5 (os : Os) (started : os.Started) (H : Type) (enc : TypeId × Value → H) (F : Stop.Interp) :
    ReturnsInHanded {} Tryz.checked os 5 .any ((OpenSpec.ofChange Rows.tokenBackSpec).preRow enc Tryz.prog Tryz.f5 Rows.tokenBackRow.domain false Rows.tokenBackRow.laid) (((OpenSpec.ofChange Rows.tokenBackSpec).at F).post enc Tryz.prog Tryz.f5 false true false false) := by
  obtain ⟨places, hx⟩ := reads5 os enc
  refine returnsInHanded_of_row (C := Tryz.checked) (s := OpenSpec.ofChange Rows.tokenBackSpec) own started (by kernel_rfl) Tryz.func5
    (witness_row (enc := enc) (C := Tryz.checked) (World.laidAll Tryz.prog os Rows.tokenBackRow.laid) #[.string ⟨#[]⟩, .slice none 0 0] (World.laidAll_os _ _ _) (shaped5 os) (by kernel_rfl)
      (OpenSpec.preRow_of_cond 8 hx (by kernel_rfl) (fun k hk => by cases hk) (by kernel_rfl) (by rw [MakeChecks.laidMetH_plain _ _ _ (by kernel_rfl)]; exact laid5 os))) ?_
  intro W base args ds gs before hval hW _ _ _ hL hS _
  rw [MakeChecks.laidMetH_plain _ _ _ (by kernel_rfl)] at hL
  have hΓ := gam_of hS hL (by simp [Rows.tokenBackRow]) (by simp [Rows.tokenBackRow]) (by simp [Rows.tokenBackRow])
  have hW' := hW
  obtain ⟨p, q, hA0, hV, hbefore, hfz, hnd⟩ := hW
  have hA : DataW.TrodAll enc Tryz.prog W 0 (fun _ => true) true Tryz.f5.params.toList args.toList ds p := hA0
  have hA2 := hA
  rw [Tryz.params5] at hA hval
  obtain ⟨v0, vs0, d0, ds0, p0, q0, hargs, hds, hp, h0, r0⟩ := trodAll_cons hA
  obtain ⟨v1, vs1, d1, ds1, p1, q1, hvs1, hds1, hp1, h1, r1⟩ := trodAll_cons r0
  obtain ⟨hvsE, hdsE, hpE⟩ := trodAll_nil r1
  obtain rfl : args = #[v0, v1] := by cases args; simp_all
  obtain rfl : ds = [d0, d1] := by simp_all
  obtain ⟨rfl, rfl⟩ := trodVars_none hV
  obtain ⟨x0, hl0, w0⟩ := opens_top_string Tryz.underlying9 (hval 0 9 v0 rfl rfl) h0
  obtain ⟨x1, hl1, w1⟩ := opens_top_slice Tryz.underlying27 (opens_toks enc W) (fun x => ⟨_, rfl⟩) (hval 1 27 v1 rfl rfl) h1
  have walk := calls_top (args := [.str x0, .sl (x1.map avI)]) (R := fun r τ => r = boolV true ∧ τ = []) (law_back x0 x1 (by have := hl1.1; unfold maxLen at this; omega)) (fun _ _ h => h.1) W [v0, v1] hΓ (by unfold RepL; exact ⟨_, _, rfl, w0, by unfold RepL; exact ⟨_, _, rfl, w1, by unfold RepL; rfl⟩⟩)
  refine walk.mono fun e W' ⟨he, hb⟩ => ?_
  subst he
  refine ⟨_, rfl, post_of_below (pa := p) (pv := []) hW' (fun _ _ _ => trodAll_cons_mk (shut_bool Tryz.underlying4 _) trodAll_mk0) (fun sp hsp => args_stay laid_out hb ?_ hA2 (fun x hx => hsp x (by rw [hbefore]; exact List.mem_append_left _ hx))) (fun _ _ => rfl) hbefore hb (ok_one (by kernel_rfl) rfl (okWide_bool_mk Tryz.underlying4 _))⟩
  rw [Tryz.params5]
  intro t ht
  have hor : t = 9 ∨ t = 27 := by simpa using ht
  rcases hor with rfl | rfl
  · exact ⟨by kernel_rfl, of_decide_eq_true (by kernel_rfl)⟩
  · exact ⟨by kernel_rfl, of_decide_eq_true (by kernel_rfl)⟩

theorem said5 : Rows.TokenBackSaid :=
  OpenClaim.holds_of_cond 5 Tryz.f5 rfl rfl rfl rfl rfl rfl rfl ⟨rfl, rfl, rfl, rfl, rfl⟩ rfl rfl rfl rfl rfl (by kernel_rfl) Tryz.func5 (by kernel_rfl)
    (of_decide_eq_true (by kernel_rfl)) (by unfold Func.isWrapper; first | (rw [if_pos (by decide +kernel)]; kernel_rfl) | (rw [if_neg (by decide +kernel)]; exact ⟨rfl, rfl⟩))
    (fun os started H enc _ F => by rw [OpenClaim.pre_eq_preRow]; exact lifted5 os started H enc F)

theorem plain5 (f : FuncId) (fn : Func) (hf : Tryz.pinned.checked.prog.funcNamed "virgate/virgatelaw01.TokenBack" = some f) (hfn : Tryz.pinned.checked.prog.funcs[f]? = some fn) :
    true = Tryz.pinned.checked.prog.looks [] ∧ ∀ (j : Nat) t, fn.params[j]? = some t → Tryz.pinned.checked.prog.wantsStandIn t = false := by
  obtain rfl : f = 5 := Option.some.inj ((show Tryz.prog.funcNamed "virgate/virgatelaw01.TokenBack" = some 5 by kernel_rfl).symm.trans hf) |>.symm
  obtain rfl : fn = Tryz.f5 := (Option.some.inj (Tryz.func5.symm.trans hfn)).symm
  refine ⟨by kernel_rfl, fun j t ht => ?_⟩
  rw [Tryz.params5] at ht
  have ht := Array.mem_of_getElem? ht
  have hor : t = 9 ∨ t = 27 := by have := ht; simp at this; omega
  rcases hor with rfl | rfl
  · exact (show Tryz.prog.wantsStandIn 9 = false by kernel_rfl)
  · exact (show Tryz.prog.wantsStandIn 27 = false by kernel_rfl)
theorem card5 : Rows.TokenBackCardSaid :=
  Claim7.holds_tied_plain_at .later [] _ _ _ _ said5 (fun _ h => by cases h) (by kernel_rfl) (fun _ h => by cases h) tokenBack_row_tie rfl ⟨rfl, rfl⟩ (by kernel_rfl) rfl plain5 (by kernel_rfl)
#print axioms card5
end Go.Proofs.YtikjefmoclienaaGreatDoor
