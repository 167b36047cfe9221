/- What is told of the types and of what functions hand back, as few. -/
import Derived.Test.YtoobkfjkohadnaaGreatDoorFnB
import Derived.Test.YtoobkfjkohadnaaGreatDoorVmE
import Derived.Test.YtoobkfjkohadnaaGreatDoorFnA
import Derived.Test.YtoobkfjkohadnaaGreatDoorShelf
import Derived.WalkSmall
import Derived.Lib.SmallJoins
import Derived.Lib.SplitLaws
set_option linter.defProp false
namespace Go.D
open Go Go.Vm Go.Proofs
def st1 := And.intro (And.intro (And.intro (And.intro (And.intro (And.intro (@tab_1) (@tab_2)) (And.intro (@tab_3) (@tab_4))) (And.intro (And.intro (@tab_5) (@tab_6)) (And.intro (@tab_7) (@tab_8)))) (And.intro (And.intro (And.intro (@tab_9) (@tab_10)) (And.intro (@tab_11) (@tab_12))) (And.intro (And.intro (@tab_13) (@tab_14)) (And.intro (@tab_15) (And.intro (@tab_16) (@tab_17)))))) (And.intro (And.intro (And.intro (And.intro (@tab_18) (@tab_19)) (And.intro (@tab_20) (@tab_21))) (And.intro (And.intro (@tab_22) (@tab_23)) (And.intro (@tab_24) (And.intro (@tab_25) (@tab_26))))) (And.intro (And.intro (And.intro (@tab_28) (@tab_29)) (And.intro (@tab_31) (@tab_32))) (And.intro (And.intro (@tab_33) (@tab_34)) (And.intro (@tab_35) (And.intro (@tab_37) (@tab_38))))))) (And.intro (And.intro (And.intro (And.intro (And.intro (@tab_39) (@tab_40)) (And.intro (@tab_41) (@tab_42))) (And.intro (And.intro (@tab_43) (@tab_44)) (And.intro (@tab_45) (@tab_46)))) (And.intro (And.intro (And.intro (@tab_47) (@tab_48)) (And.intro (@tab_50) (@tab_52))) (And.intro (And.intro (@tab_53) (@tab_54)) (And.intro (@tab_55) (And.intro (@tab_56) (@tab_57)))))) (And.intro (And.intro (And.intro (And.intro (@tab_58) (@tab_59)) (And.intro (@tab_60) (@tab_61))) (And.intro (And.intro (@tab_62) (@tab_63)) (And.intro (@tab_64) (And.intro (@tab_66) (@tab_67))))) (And.intro (And.intro (And.intro (@tab_68) (@tab_69)) (And.intro (@tab_70) (@tab_71))) (And.intro (And.intro (@tab_72) (@tab_73)) (And.intro (@tab_74) (And.intro (@tab_75) (@tab_76)))))))
def st2 := And.intro (And.intro (And.intro (And.intro (And.intro (And.intro (@tab_77) (@tab_78)) (And.intro (@tab_79) (@tab_80))) (And.intro (And.intro (@tab_81) (@tab_82)) (And.intro (@tab_83) (@tab_84)))) (And.intro (And.intro (And.intro (@tab_85) (@tab_86)) (And.intro (@tab_87) (@tab_88))) (And.intro (And.intro (@tab_89) (@tab_90)) (And.intro (@tab_92) (And.intro (@tab_93) (@tab_95)))))) (And.intro (And.intro (And.intro (And.intro (@tab_96) (@tab_97)) (And.intro (@tab_98) (@tab_99))) (And.intro (And.intro (@tab_100) (@tab_101)) (And.intro (@tab_102) (And.intro (@tab_103) (@tab_104))))) (And.intro (And.intro (And.intro (@tab_105) (@tab_106)) (And.intro (@tab_107) (@tab_109))) (And.intro (And.intro (@tab_110) (@tab_111)) (And.intro (@tab_112) (And.intro (@tab_113) (@tab_114))))))) (And.intro (And.intro (And.intro (And.intro (And.intro (@tab_115) (@tab_116)) (And.intro (@tab_117) (@tab_118))) (And.intro (And.intro (@tab_119) (@tab_120)) (And.intro (@tab_121) (@tab_122)))) (And.intro (And.intro (And.intro (@tab_123) (@tab_124)) (And.intro (@tab_125) (@tab_126))) (And.intro (And.intro (@tab_127) (@tab_128)) (And.intro (@tab_129) (And.intro (@tab_130) (@tab_131)))))) (And.intro (And.intro (And.intro (And.intro (@tab_132) (@tab_133)) (And.intro (@tab_134) (@tab_135))) (And.intro (And.intro (@tab_136) (@tab_137)) (And.intro (@tab_138) (And.intro (@tab_139) (@tab_140))))) (And.intro (And.intro (And.intro (@tab_142) (@tab_143)) (And.intro (@tab_144) (@tab_145))) (And.intro (And.intro (@tab_146) (@tab_148)) (And.intro (@tab_149) (And.intro (@tab_150) (@tab_151)))))))
def st3 := And.intro (And.intro (And.intro (And.intro (And.intro (And.intro (@tab_153) (@tab_154)) (And.intro (@tab_155) (@tab_156))) (And.intro (And.intro (@tab_157) (@tab_158)) (And.intro (@tab_160) (@tab_161)))) (And.intro (And.intro (And.intro (@tab_162) (@tab_163)) (And.intro (@tab_164) (@tab_165))) (And.intro (And.intro (@tab_166) (@tab_167)) (And.intro (@tab_168) (And.intro (@tab_169) (@tab_170)))))) (And.intro (And.intro (And.intro (And.intro (@tab_171) (@tab_172)) (And.intro (@tab_174) (@tab_175))) (And.intro (And.intro (@tab_176) (@tab_177)) (And.intro (@tab_178) (And.intro (@tab_179) (@tab_181))))) (And.intro (And.intro (And.intro (@tab_183) (@tab_184)) (And.intro (@tab_185) (@tab_186))) (And.intro (And.intro (@tab_187) (@tab_188)) (And.intro (@tab_189) (And.intro (@tab_190) (@tab_191))))))) (And.intro (And.intro (And.intro (And.intro (And.intro (@tab_192) (@tab_193)) (And.intro (@tab_195) (@tab_196))) (And.intro (And.intro (@tab_197) (@tab_198)) (And.intro (@tab_199) (@tab_200)))) (And.intro (And.intro (And.intro (@tab_201) (@tab_202)) (And.intro (@tab_203) (@tab_204))) (And.intro (And.intro (@tab_205) (@tab_206)) (And.intro (@tab_207) (And.intro (@tab_208) (@tab_209)))))) (And.intro (And.intro (And.intro (And.intro (@tab_210) (@tab_211)) (And.intro (@tab_212) (@tab_213))) (And.intro (And.intro (@tab_214) (@tab_215)) (And.intro (@tab_216) (And.intro (@tab_217) (@tab_218))))) (And.intro (And.intro (And.intro (@tab_219) (@tab_220)) (And.intro (@tab_221) (@tab_222))) (And.intro (And.intro (@tab_223) (@tab_224)) (And.intro (@tab_225) (And.intro (@tab_226) (@tab_227)))))))
def st4 := And.intro (And.intro (And.intro (And.intro (@tab_228) (And.intro (@tab_230) (@tab_232))) (And.intro (@tab_233) (And.intro (@tab_234) (@tab_235)))) (And.intro (And.intro (@tab_236) (And.intro (@tab_237) (@tab_238))) (And.intro (@tab_240) (And.intro (@tab_241) (@tab_242))))) (And.intro (And.intro (And.intro (@tab_243) (And.intro (@tab_244) (@tab_245))) (And.intro (@tab_249) (And.intro (@tab_250) (@tab_251)))) (And.intro (And.intro (@tab_252) (And.intro (@tab_253) (@tab_254))) (And.intro (@tab_255) (And.intro (@tab_256) (@tab_257)))))
def st5 := And.intro (And.intro (And.intro (And.intro (And.intro (And.intro (@Tryz.results0) (@Tryz.results1)) (And.intro (@Tryz.results2) (And.intro (@Tryz.results3) (@Tryz.results4)))) (And.intro (And.intro (@Tryz.results5) (@Tryz.results6)) (And.intro (@Tryz.results7) (And.intro (@Tryz.results8) (@Tryz.results9))))) (And.intro (And.intro (And.intro (@Tryz.results10) (@Tryz.results11)) (And.intro (@Tryz.results12) (And.intro (@Tryz.results13) (@Tryz.results14)))) (And.intro (And.intro (@Tryz.results15) (@Tryz.results16)) (And.intro (@Tryz.results17) (And.intro (@Tryz.results18) (@Tryz.results19)))))) (And.intro (And.intro (And.intro (And.intro (@Tryz.results20) (@Tryz.results21)) (And.intro (@Tryz.results22) (And.intro (@Tryz.results23) (@Tryz.results24)))) (And.intro (And.intro (@Tryz.results25) (@Tryz.results26)) (And.intro (@Tryz.results27) (And.intro (@Tryz.results28) (@Tryz.results29))))) (And.intro (And.intro (And.intro (@Tryz.results30) (@Tryz.results31)) (And.intro (@Tryz.results32) (And.intro (@Tryz.results33) (@Tryz.results34)))) (And.intro (And.intro (@Tryz.results35) (@Tryz.results36)) (And.intro (@Tryz.results37) (And.intro (@Tryz.results38) (@Tryz.results39))))))) (And.intro (And.intro (And.intro (And.intro (And.intro (@Tryz.results40) (@Tryz.results41)) (And.intro (@Tryz.results42) (And.intro (@Tryz.results43) (@Tryz.results44)))) (And.intro (And.intro (@Tryz.results45) (@Tryz.results46)) (And.intro (@Tryz.results47) (And.intro (@Tryz.results48) (@Tryz.results49))))) (And.intro (And.intro (And.intro (@Tryz.results50) (@Tryz.results51)) (And.intro (@Tryz.results52) (And.intro (@Tryz.results53) (@Tryz.results54)))) (And.intro (And.intro (@Tryz.results55) (@Tryz.results56)) (And.intro (@Tryz.results57) (And.intro (@Tryz.results58) (@Tryz.results59)))))) (And.intro (And.intro (And.intro (And.intro (@Tryz.results60) (@Tryz.results61)) (And.intro (@Tryz.results62) (And.intro (@Tryz.results63) (@Tryz.results64)))) (And.intro (And.intro (@Tryz.results65) (@Tryz.results66)) (And.intro (@Tryz.results67) (And.intro (@Tryz.results68) (@Tryz.results69))))) (And.intro (And.intro (And.intro (@Tryz.results70) (@Tryz.results71)) (And.intro (@Tryz.results72) (And.intro (@Tryz.results73) (@Tryz.results74)))) (And.intro (And.intro (@Tryz.results75) (@Tryz.results76)) (And.intro (@Tryz.results77) (And.intro (@Tryz.results78) (@Tryz.results79)))))))
def st6 := And.intro (And.intro (And.intro (And.intro (And.intro (And.intro (@Tryz.results80) (@Tryz.results81)) (And.intro (@Tryz.results82) (And.intro (@Tryz.results83) (@Tryz.results84)))) (And.intro (And.intro (@Tryz.results85) (@Tryz.results86)) (And.intro (@Tryz.results87) (And.intro (@Tryz.results88) (@Tryz.results89))))) (And.intro (And.intro (And.intro (@Tryz.results90) (@Tryz.results91)) (And.intro (@Tryz.results92) (And.intro (@Tryz.results93) (@Tryz.results94)))) (And.intro (And.intro (@Tryz.results95) (@Tryz.results96)) (And.intro (@Tryz.results97) (And.intro (@Tryz.results98) (@Tryz.results99)))))) (And.intro (And.intro (And.intro (And.intro (@Tryz.results100) (@Tryz.results101)) (And.intro (@Tryz.results102) (And.intro (@Tryz.results103) (@Tryz.results104)))) (And.intro (And.intro (@Tryz.results105) (@Tryz.results106)) (And.intro (@Tryz.results107) (And.intro (@Tryz.results108) (@Tryz.results109))))) (And.intro (And.intro (And.intro (@Tryz.results110) (@Tryz.results111)) (And.intro (@Tryz.results112) (And.intro (@Tryz.results113) (@Tryz.results114)))) (And.intro (And.intro (@Tryz.results115) (@Tryz.results116)) (And.intro (@Tryz.results117) (And.intro (@Tryz.results118) (@Tryz.results119))))))) (And.intro (And.intro (And.intro (And.intro (And.intro (@Tryz.results120) (@Tryz.results121)) (And.intro (@Tryz.results122) (And.intro (@Tryz.results123) (@Tryz.results124)))) (And.intro (And.intro (@Tryz.results125) (@Tryz.results126)) (And.intro (@Tryz.results127) (And.intro (@Tryz.results128) (@Tryz.results129))))) (And.intro (And.intro (And.intro (@Tryz.results130) (@Tryz.results131)) (And.intro (@Tryz.results132) (And.intro (@Tryz.results133) (@Tryz.results134)))) (And.intro (And.intro (@Tryz.results135) (@Tryz.results136)) (And.intro (@Tryz.results137) (And.intro (@Tryz.results138) (@Tryz.results139)))))) (And.intro (And.intro (And.intro (And.intro (@Tryz.results140) (@Tryz.results141)) (And.intro (@Tryz.results142) (And.intro (@Tryz.results143) (@Tryz.results144)))) (And.intro (And.intro (@Tryz.results145) (@Tryz.results146)) (And.intro (@Tryz.results147) (And.intro (@Tryz.results148) (@Tryz.results149))))) (And.intro (And.intro (And.intro (@Tryz.results150) (@Tryz.results151)) (And.intro (@Tryz.results152) (And.intro (@Tryz.results153) (@Tryz.results154)))) (And.intro (And.intro (@Tryz.results155) (@Tryz.results156)) (And.intro (@Tryz.results157) (And.intro (@Tryz.results158) (@Tryz.results159)))))))
def st7 := And.intro (And.intro (And.intro (And.intro (And.intro (And.intro (@Tryz.results160) (@Tryz.results161)) (And.intro (@Tryz.results162) (And.intro (@Tryz.results163) (@Tryz.results164)))) (And.intro (And.intro (@Tryz.results165) (@Tryz.results166)) (And.intro (@Tryz.results167) (And.intro (@Tryz.results168) (@Tryz.results169))))) (And.intro (And.intro (And.intro (@Tryz.results170) (@Tryz.results171)) (And.intro (@Tryz.results172) (And.intro (@Tryz.results173) (@Tryz.results174)))) (And.intro (And.intro (@Tryz.results175) (@Tryz.results176)) (And.intro (@Tryz.results177) (And.intro (@Tryz.results178) (@Tryz.results179)))))) (And.intro (And.intro (And.intro (And.intro (@Tryz.results180) (@Tryz.results181)) (And.intro (@Tryz.results182) (And.intro (@Tryz.results183) (@Tryz.results184)))) (And.intro (And.intro (@Tryz.results185) (@Tryz.results186)) (And.intro (@Tryz.results187) (And.intro (@Tryz.results188) (@Tryz.results189))))) (And.intro (And.intro (And.intro (@Tryz.results190) (@Tryz.results191)) (And.intro (@Tryz.results192) (And.intro (@Tryz.results193) (@Tryz.results194)))) (And.intro (And.intro (@Tryz.results195) (@Tryz.results196)) (And.intro (@Tryz.results197) (And.intro (@Tryz.results198) (@Tryz.results199))))))) (And.intro (And.intro (And.intro (And.intro (And.intro (@Tryz.results200) (@Tryz.results201)) (And.intro (@Tryz.results202) (And.intro (@Tryz.results203) (@Tryz.results204)))) (And.intro (And.intro (@Tryz.results205) (@Tryz.results206)) (And.intro (@Tryz.results207) (And.intro (@Tryz.results208) (@Tryz.results209))))) (And.intro (And.intro (And.intro (@Tryz.results210) (@Tryz.results211)) (And.intro (@Tryz.results212) (And.intro (@Tryz.results213) (@Tryz.results214)))) (And.intro (And.intro (@Tryz.results215) (@Tryz.results216)) (And.intro (@Tryz.results217) (And.intro (@Tryz.results218) (@Tryz.results219)))))) (And.intro (And.intro (And.intro (And.intro (@Tryz.results220) (@Tryz.results221)) (And.intro (@Tryz.results222) (And.intro (@Tryz.results223) (@Tryz.results224)))) (And.intro (And.intro (@Tryz.results225) (@Tryz.results226)) (And.intro (@Tryz.results227) (And.intro (@Tryz.results228) (@Tryz.results229))))) (And.intro (And.intro (And.intro (@Tryz.results230) (@Tryz.results231)) (And.intro (@Tryz.results232) (And.intro (@Tryz.results233) (@Tryz.results234)))) (And.intro (And.intro (@Tryz.results235) (@Tryz.results236)) (And.intro (@Tryz.results237) (And.intro (@Tryz.results238) (@Tryz.results239)))))))
def st8 := And.intro (And.intro (@Tryz.results240) (And.intro (@Tryz.results241) (@Tryz.results242))) (And.intro (And.intro (@Tryz.results243) (@Tryz.results244)) (And.intro (@Tryz.results245) (@Tryz.results246)))
end Go.D

/- This seat's program: the environment, the library's contracts. -/
set_option linter.unusedVariables false
set_option linter.unusedSimpArgs false
set_option maxRecDepth 100000
namespace Go.D
open Go Go.Vm Go.Proofs Go.RowKit

/-- What the package-level variables hold. -/
def gam (B : Nat) (w : World) : Prop :=
  6 ≤ B ∧ (∃ m, w.cell? ⟨4, 0, none⟩ = some (.int .i64 m)) ∧ (∃ te pe, w.cell? ⟨2, 0, none⟩ = some (.iface te pe)) ∧ (∃ te pe, w.cell? ⟨3, 0, none⟩ = some (.iface te pe)) ∧
    Lib.TabIs Tryz.prog w "strings.asciiSpace" .u8 Lib.asciiSpaceTab ∧ Lib.TabIs Tryz.prog w "internal/strconv.uint64pow10" .u64 Lib.pow10Tab

theorem gam_stable (B : Nat) (w w' : World) (h : Below B w w') (hg : gam B w) : gam B w' := by
  obtain ⟨h0, ⟨m, h1⟩, ⟨te, pe, h2⟩, ⟨te', pe', h3⟩, h4, h5⟩ := hg
  refine ⟨h0, ⟨m, (h.cell (p := ⟨4, 0, none⟩) (by simp only; omega)).trans h1⟩, ⟨te, pe, (h.cell (p := ⟨2, 0, none⟩) (by simp only; omega)).trans h2⟩, ⟨te', pe', (h.cell (p := ⟨3, 0, none⟩) (by simp only; omega)).trans h3⟩, ?_, ?_⟩
  · exact var?_below h (g := 0) (by kernel_rfl) (by omega) h4
  · exact var?_below h (g := 5) (by kernel_rfl) (by omega) h5

noncomputable def E : Env := ⟨Tryz.prog, gam, gam_stable⟩
theorem T0 : TabOK E.P tab := tab_ok

abbrev u8 (n : Int) : AV := .v (.int .u8 n)
abbrev i64 (n : Int) : AV := .v (.int .i64 n)

theorem IndexByte_ok (l : List UInt8) (c : Int) (σ : List Ent) : ACalls E 178 [.str l, u8 c] σ fun r τ => r = i64 (Lib.indexByte l c.toNat.toUInt8) ∧ τ = σ := by
  refine acalls_lib ⟨_, Tryz.func178, by kernel_rfl, by kernel_rfl⟩ fun s vs hI hΓ hr => ?_
  obtain ⟨v, w, rfl, hv, hw⟩ := repL2 hr
  rw [rep_str hv, rep_v' hw]
  refine (Tryz.strings_IndexByte ⟨⟨l⟩⟩ c s.w).mono fun e w' ⟨h1, h2⟩ => ⟨_, h1, by rw [h2]; exact Below.refl _ _, by rw [h2]; exact rep_mk_v _ _⟩

theorem HasPrefix_ok (l p : List UInt8) (σ : List Ent) : ACalls E 153 [.str l, .str p] σ fun r τ => r = boolV (Lib.hasPrefix l p) ∧ τ = σ := by
  refine acalls_lib ⟨_, Tryz.func153, by kernel_rfl, by kernel_rfl⟩ fun s vs hI hΓ hr => ?_
  obtain ⟨v, w, rfl, hv, hw⟩ := repL2 hr
  rw [rep_str hv, rep_str hw]
  refine (Tryz.strings_HasPrefix ⟨⟨l⟩⟩ ⟨⟨p⟩⟩ s.w).mono fun e w' ⟨h1, h2⟩ => ⟨_, h1, by rw [h2]; exact Below.refl _ _, by rw [h2]; exact rep_mk_v _ _⟩

theorem Count_ok (l : List UInt8) (c : UInt8) (σ : List Ent) : ACalls E 192 [.str l, .str [c]] σ fun r τ => r = i64 (Lib.countByte l c) ∧ τ = σ := by
  refine acalls_lib ⟨_, Tryz.func192, by kernel_rfl, by kernel_rfl⟩ fun s vs hI hΓ hr => ?_
  obtain ⟨v, w, rfl, hv, hw⟩ := repL2 hr
  rw [rep_str hv, rep_str hw]
  refine (Tryz.strings_Count_one ⟨⟨l⟩⟩ c s.w).mono fun e w' ⟨h1, h2⟩ => ⟨_, h1, by rw [h2]; exact Below.refl _ _, by rw [h2]; exact rep_mk_v _ _⟩

theorem Fields_ok (l : List UInt8) (σ : List Ent) (hl : l.length < 4294967281) (ha : ∀ (j : Nat) b, l[j]? = some b → b.toNat < 128) :
    ACalls E 136 [.str l] σ fun r τ => r = .sl ((Lib.fields l).map .str) ∧ τ = σ := by
  refine acalls_lib ⟨_, Tryz.func136, by kernel_rfl, by kernel_rfl⟩ fun s vs hI hΓ hr => ?_
  obtain ⟨v, rfl, hv⟩ := repL1 hr
  rw [rep_str hv]
  refine (Tryz.strings_Fields_laid ⟨⟨l⟩⟩ s.w (by simpa [ByteArray.size] using hl) ha hΓ.2.2.2.2.1).mono fun e w' ⟨h1, h2⟩ => ⟨_, h1, by rw [h2]; exact below_alloc _ _, by rw [h2]; exact rep_mk_strs hI (Lib.fields l) 9⟩

theorem slicesContains_ok (ss : List (List UInt8)) (x : List UInt8) (σ : List Ent) (hl : ss.length ≤ 9223372036854775807) :
    ACalls E 90 [.sl (ss.map .str), .str x] σ fun r τ => r = boolV (decide (x ∈ ss)) ∧ τ = σ := by
  refine acalls_lib ⟨_, Tryz.func90, by kernel_rfl, by kernel_rfl⟩ fun s vs hI hΓ hr => ?_
  obtain ⟨v, w, rfl, hv, hw⟩ := repL2 hr
  obtain ⟨a, cap, rfl, hc, hh⟩ := strs_at hv
  rw [rep_str hw]
  rcases hh with rfl | ⟨blk, off, rfl, hcell⟩
  · refine (Tryz.slices_Contains_string_empty a cap ⟨⟨x⟩⟩ s.w).mono fun e w' ⟨h1, h2⟩ => ⟨_, h1, by rw [h2]; exact Below.refl _ _, by rw [h2]; exact rep_mk_v _ _⟩
  · refine (Tryz.slices_Contains_string blk off ss.length cap (ss.map fun l => ⟨⟨l⟩⟩) ⟨⟨x⟩⟩ s.w (by simp) hl (fun j hj => ?_)).mono fun e w' ⟨h1, h2⟩ => ⟨_, h1, by rw [h2]; exact Below.refl _ _, by
      have : Lib.containsS ((ss.map fun l => (⟨⟨l⟩⟩ : ByteArray)).take ss.length) ⟨⟨x⟩⟩ = decide (x ∈ ss) := by
        rw [List.take_of_length_le (by simp)]
        rw [Bool.eq_iff_iff, Lib.containsS_iff]
        simp
      rw [this]; exact rep_mk_v _ _⟩
    simp at hj
    rw [hcell j ss[j] (by simp [hj])]
    simp [hj]

theorem ParseInt_ok (l : List UInt8) (v : Int) (hl : l.length ≤ 281474976710656) (h : Lib.parseIntB 64 l = .ok v) (σ : List Ent) :
    ACalls E 148 [.str l, i64 10, i64 64] σ fun r τ => r = .tup [i64 v, .v .nilIface] ∧ τ = σ := by
  refine acalls_lib ⟨_, Tryz.func148, by kernel_rfl, by kernel_rfl⟩ fun s vs hI hΓ hr => ?_
  obtain ⟨x, y, z, rfl, hx, hy, hz⟩ := repL3 hr
  rw [rep_str hx, rep_v' hy, rep_v' hz]
  refine (Tryz.strconv_ParseInt_10_at64_ok ⟨⟨l⟩⟩ (by simp [ByteArray.size]; omega) v h s.w).mono fun e w' ⟨h1, h2⟩ => ⟨_, h1, ?_, rep_mk_tup2 (rep_mk_v _ _) (rep_mk_v _ _)⟩
  rcases h2 with rfl | ⟨t, rfl⟩
  · exact Below.refl _ _
  · exact Joins.below_bytesWorld _ _ _ _ (Nat.le_refl _)

/-- .. of a numeral that no int64 holds: an error. -/
theorem ParseInt_range (l : List UInt8) (hl : l.length ≤ 281474976710656) (h : Lib.parseIntB 64 l = .range) (σ : List Ent) :
    ACalls E 148 [.str l, i64 10, i64 64] σ fun r τ => (∃ x, r = .tup [i64 (Lib.intSat 64 l), .ifc 196 x]) ∧ τ = σ := by
  refine acalls_lib' (R := fun r => ∃ x, r = .tup [i64 (Lib.intSat 64 l), .ifc 196 x]) ⟨_, Tryz.func148, by kernel_rfl, by kernel_rfl⟩ fun s vs hI hΓ hr => ?_
  obtain ⟨x, y, z, rfl, hx, hy, hz⟩ := repL3 hr
  rw [rep_str hx, rep_v' hy, rep_v' hz]
  obtain ⟨te, pe, he⟩ := hΓ.2.2.2.1
  refine (Tryz.strconv_ParseInt_10_at64_range ⟨⟨l⟩⟩ (by simpa [ByteArray.size] using hl) h _ s.w he (.inr ⟨_, _, rfl⟩)).mono fun e w' ⟨N, h1, h2, h3, h4⟩ => ⟨_, .tup [i64 (Lib.intSat 64 l), .ifc 196 (.v (.pointer (some ⟨N, 0, none⟩)))], h1, h4, ?_, _, rfl⟩
  refine rep_mk_tup2 (rep_mk_v _ _) ?_
  unfold Rep
  exact ⟨_, rfl, rep_mk_v _ _⟩
end Go.D

/- Small functions of the token readers. -/
set_option linter.unusedVariables false
set_option linter.unusedSimpArgs false
set_option maxRecDepth 100000
namespace Go.D
open Go Go.Vm Go.Proofs Go.RowKit

theorem toU8 (b : UInt8) : ((b.toNat : Int)).toNat.toUInt8 = b := by simp

theorem indexByte_mem : ∀ (l : List UInt8) (c : UInt8), 0 ≤ Lib.indexByte l c ↔ c ∈ l
  | [], c => by simp [Lib.indexByte]
  | b :: l, c => by
    have ih := indexByte_mem l c
    have hge := Lib.indexByte_ge l c
    unfold Lib.indexByte
    by_cases h : b = c
    · simp [h]
    · have h' : c ≠ b := fun e => h e.symm
      simp only [beq_iff_eq, h, if_false, List.mem_cons, h', false_or, ← ih]
      split <;> omega

theorem between_ok (a b c : Int) (σ : List Ent) : ACalls E 135 [u8 a, u8 b, u8 c] σ fun r τ => r = boolV (btw a b c) ∧ τ = σ := by
  refine xacalls T0 .drop [] Tryz.func135 rfl (by kernel_rfl) (by kernel_rfl) (by simp [Tryz.ntmps135]) ?_
  unfold btw
  by_cases h : a ≤ b <;> (simp only [h, (vm1), (vm2), (vm3), (vm4), aDet, ev, tget, tput, ofC, ofC1, pureR, condR, abin, aun, alen, gslot, Nat.reduceEqDiff, reduceIte, argTs, asliceS, asliceL, bnd, boolV, intV, retQ, aRes, aResV, oneAV, AV.low, AV.low.lows, Nat.reduceAdd, isStringD, isSliceD, isBoolD, setRange, AV.cells, AV.isCell, AV.isAgg, abytes, aconv, aeq, isConst, isByteD, isIfaceD, endQ, Int.reduceToNat, Int.reduceLE, Int.reduceLT, Int.reduceEq, Int.reduceNe, Int.reduceAdd, Int.reduceSub, Int.reduceNeg, Nat.reduceLT, Nat.reduceLeDiff, Ent.ver, Ent.imm, Ent.ty, lits, isEl, newCells, aappend, Nat.reduceBEq, fill, undef, (st1), (st2), (st3), (st4), (st5), (st6), (st7), (st8), aMap, mget, mput, mclock, ksOK, keq, mres, fillA, isArrD, arrE, Nat.reduceMul]; try simp (disch := omega) only [wrapI64, Int.toNat_natCast, ← Int.natCast_add, nat_add_one, nat_add_two, take_drop_all, List.drop_zero, Nat.sub_zero, Nat.add_sub_cancel_left])

theorem isDigit_ok (b : Int) (σ : List Ent) : ACalls E 156 [u8 b] σ fun r τ => r = boolV (btw 48 b 57) ∧ τ = σ := by
  refine xacalls T0 .drop [] Tryz.func156 rfl (by kernel_rfl) (by kernel_rfl) (by simp [Tryz.ntmps156]) ?_
  (simp only [(vm1), (vm2), (vm3), (vm4), aDet, ev, tget, tput, ofC, ofC1, pureR, condR, abin, aun, alen, gslot, Nat.reduceEqDiff, reduceIte, argTs, asliceS, asliceL, bnd, boolV, intV, retQ, aRes, aResV, oneAV, AV.low, AV.low.lows, Nat.reduceAdd, isStringD, isSliceD, isBoolD, setRange, AV.cells, AV.isCell, AV.isAgg, abytes, aconv, aeq, isConst, isByteD, isIfaceD, endQ, Int.reduceToNat, Int.reduceLE, Int.reduceLT, Int.reduceEq, Int.reduceNe, Int.reduceAdd, Int.reduceSub, Int.reduceNeg, Nat.reduceLT, Nat.reduceLeDiff, Ent.ver, Ent.imm, Ent.ty, lits, isEl, newCells, aappend, Nat.reduceBEq, fill, undef, (st1), (st2), (st3), (st4), (st5), (st6), (st7), (st8), aMap, mget, mput, mclock, ksOK, keq, mres, fillA, isArrD, arrE, Nat.reduceMul]; try simp (disch := omega) only [wrapI64, Int.toNat_natCast, ← Int.natCast_add, nat_add_one, nat_add_two, take_drop_all, List.drop_zero, Nat.sub_zero, Nat.add_sub_cancel_left])
  refine xWait.go (between_ok _ _ _ _) ?_
  (simp only [(vm1), (vm2), (vm3), (vm4), aDet, ev, tget, tput, ofC, ofC1, pureR, condR, abin, aun, alen, gslot, Nat.reduceEqDiff, reduceIte, argTs, asliceS, asliceL, bnd, boolV, intV, retQ, aRes, aResV, oneAV, AV.low, AV.low.lows, Nat.reduceAdd, isStringD, isSliceD, isBoolD, setRange, AV.cells, AV.isCell, AV.isAgg, abytes, aconv, aeq, isConst, isByteD, isIfaceD, endQ, Int.reduceToNat, Int.reduceLE, Int.reduceLT, Int.reduceEq, Int.reduceNe, Int.reduceAdd, Int.reduceSub, Int.reduceNeg, Nat.reduceLT, Nat.reduceLeDiff, Ent.ver, Ent.imm, Ent.ty, lits, isEl, newCells, aappend, Nat.reduceBEq, fill, undef, (st1), (st2), (st3), (st4), (st5), (st6), (st7), (st8), aMap, mget, mput, mclock, ksOK, keq, mres, fillA, isArrD, arrE, Nat.reduceMul]; try simp (disch := omega) only [wrapI64, Int.toNat_natCast, ← Int.natCast_add, nat_add_one, nat_add_two, take_drop_all, List.drop_zero, Nat.sub_zero, Nat.add_sub_cancel_left])

theorem isPart_ok (b : Int) (σ : List Ent) : ACalls E 155 [u8 b] σ fun r τ => r = boolV (isPart b) ∧ τ = σ := by
  refine xacalls T0 .drop [] Tryz.func155 rfl (by kernel_rfl) (by kernel_rfl) (by simp [Tryz.ntmps155]) ?_
  unfold isPart
  (simp only [(vm1), (vm2), (vm3), (vm4), aDet, ev, tget, tput, ofC, ofC1, pureR, condR, abin, aun, alen, gslot, Nat.reduceEqDiff, reduceIte, argTs, asliceS, asliceL, bnd, boolV, intV, retQ, aRes, aResV, oneAV, AV.low, AV.low.lows, Nat.reduceAdd, isStringD, isSliceD, isBoolD, setRange, AV.cells, AV.isCell, AV.isAgg, abytes, aconv, aeq, isConst, isByteD, isIfaceD, endQ, Int.reduceToNat, Int.reduceLE, Int.reduceLT, Int.reduceEq, Int.reduceNe, Int.reduceAdd, Int.reduceSub, Int.reduceNeg, Nat.reduceLT, Nat.reduceLeDiff, Ent.ver, Ent.imm, Ent.ty, lits, isEl, newCells, aappend, Nat.reduceBEq, fill, undef, (st1), (st2), (st3), (st4), (st5), (st6), (st7), (st8), aMap, mget, mput, mclock, ksOK, keq, mres, fillA, isArrD, arrE, Nat.reduceMul]; try simp (disch := omega) only [wrapI64, Int.toNat_natCast, ← Int.natCast_add, nat_add_one, nat_add_two, take_drop_all, List.drop_zero, Nat.sub_zero, Nat.add_sub_cancel_left])
  refine xWait.go (between_ok _ _ _ _) ?_
  cases h1 : btw 97 b 122 <;> (simp only [(vm1), (vm2), (vm3), (vm4), aDet, ev, tget, tput, ofC, ofC1, pureR, condR, abin, aun, alen, gslot, Nat.reduceEqDiff, reduceIte, argTs, asliceS, asliceL, bnd, boolV, intV, retQ, aRes, aResV, oneAV, AV.low, AV.low.lows, Nat.reduceAdd, isStringD, isSliceD, isBoolD, setRange, AV.cells, AV.isCell, AV.isAgg, abytes, aconv, aeq, isConst, isByteD, isIfaceD, endQ, Int.reduceToNat, Int.reduceLE, Int.reduceLT, Int.reduceEq, Int.reduceNe, Int.reduceAdd, Int.reduceSub, Int.reduceNeg, Nat.reduceLT, Nat.reduceLeDiff, Ent.ver, Ent.imm, Ent.ty, lits, isEl, newCells, aappend, Nat.reduceBEq, fill, undef, (st1), (st2), (st3), (st4), (st5), (st6), (st7), (st8), aMap, mget, mput, mclock, ksOK, keq, mres, fillA, isArrD, arrE, Nat.reduceMul]; try simp (disch := omega) only [wrapI64, Int.toNat_natCast, ← Int.natCast_add, nat_add_one, nat_add_two, take_drop_all, List.drop_zero, Nat.sub_zero, Nat.add_sub_cancel_left])
  refine xWait.go (between_ok _ _ _ _) ?_
  cases h2 : btw 65 b 90 <;> (simp only [(vm1), (vm2), (vm3), (vm4), aDet, ev, tget, tput, ofC, ofC1, pureR, condR, abin, aun, alen, gslot, Nat.reduceEqDiff, reduceIte, argTs, asliceS, asliceL, bnd, boolV, intV, retQ, aRes, aResV, oneAV, AV.low, AV.low.lows, Nat.reduceAdd, isStringD, isSliceD, isBoolD, setRange, AV.cells, AV.isCell, AV.isAgg, abytes, aconv, aeq, isConst, isByteD, isIfaceD, endQ, Int.reduceToNat, Int.reduceLE, Int.reduceLT, Int.reduceEq, Int.reduceNe, Int.reduceAdd, Int.reduceSub, Int.reduceNeg, Nat.reduceLT, Nat.reduceLeDiff, Ent.ver, Ent.imm, Ent.ty, lits, isEl, newCells, aappend, Nat.reduceBEq, fill, undef, (st1), (st2), (st3), (st4), (st5), (st6), (st7), (st8), aMap, mget, mput, mclock, ksOK, keq, mres, fillA, isArrD, arrE, Nat.reduceMul]; try simp (disch := omega) only [wrapI64, Int.toNat_natCast, ← Int.natCast_add, nat_add_one, nat_add_two, take_drop_all, List.drop_zero, Nat.sub_zero, Nat.add_sub_cancel_left])
  refine xWait.go (isDigit_ok _ _) ?_
  cases h3 : btw 48 b 57 <;> (simp only [(vm1), (vm2), (vm3), (vm4), aDet, ev, tget, tput, ofC, ofC1, pureR, condR, abin, aun, alen, gslot, Nat.reduceEqDiff, reduceIte, argTs, asliceS, asliceL, bnd, boolV, intV, retQ, aRes, aResV, oneAV, AV.low, AV.low.lows, Nat.reduceAdd, isStringD, isSliceD, isBoolD, setRange, AV.cells, AV.isCell, AV.isAgg, abytes, aconv, aeq, isConst, isByteD, isIfaceD, endQ, Int.reduceToNat, Int.reduceLE, Int.reduceLT, Int.reduceEq, Int.reduceNe, Int.reduceAdd, Int.reduceSub, Int.reduceNeg, Nat.reduceLT, Nat.reduceLeDiff, Ent.ver, Ent.imm, Ent.ty, lits, isEl, newCells, aappend, Nat.reduceBEq, fill, undef, (st1), (st2), (st3), (st4), (st5), (st6), (st7), (st8), aMap, mget, mput, mclock, ksOK, keq, mres, fillA, isArrD, arrE, Nat.reduceMul]; try simp (disch := omega) only [wrapI64, Int.toNat_natCast, ← Int.natCast_add, nat_add_one, nat_add_two, take_drop_all, List.drop_zero, Nat.sub_zero, Nat.add_sub_cancel_left])
  by_cases h4 : b = 95 <;> (simp only [h4, (vm1), (vm2), (vm3), (vm4), aDet, ev, tget, tput, ofC, ofC1, pureR, condR, abin, aun, alen, gslot, Nat.reduceEqDiff, reduceIte, argTs, asliceS, asliceL, bnd, boolV, intV, retQ, aRes, aResV, oneAV, AV.low, AV.low.lows, Nat.reduceAdd, isStringD, isSliceD, isBoolD, setRange, AV.cells, AV.isCell, AV.isAgg, abytes, aconv, aeq, isConst, isByteD, isIfaceD, endQ, Int.reduceToNat, Int.reduceLE, Int.reduceLT, Int.reduceEq, Int.reduceNe, Int.reduceAdd, Int.reduceSub, Int.reduceNeg, Nat.reduceLT, Nat.reduceLeDiff, Ent.ver, Ent.imm, Ent.ty, lits, isEl, newCells, aappend, Nat.reduceBEq, fill, undef, (st1), (st2), (st3), (st4), (st5), (st6), (st7), (st8), aMap, mget, mput, mclock, ksOK, keq, mres, fillA, isArrD, arrE, Nat.reduceMul]; try simp (disch := omega) only [wrapI64, Int.toNat_natCast, ← Int.natCast_add, nat_add_one, nat_add_two, take_drop_all, List.drop_zero, Nat.sub_zero, Nat.add_sub_cancel_left])

theorem word_ok (l : List UInt8) (hl : l.length ≤ 9223372036854775807) (σ : List Ent) : ACalls E 145 [.str l] σ fun r τ => r = i64 (word l) ∧ τ = σ := by
  refine xacalls T0 .drop [] Tryz.func145 rfl (by kernel_rfl) (by kernel_rfl) (by simp [Tryz.ntmps145]) ?_
  (simp only [(vm1), (vm2), (vm3), (vm4), aDet, ev, tget, tput, ofC, ofC1, pureR, condR, abin, aun, alen, gslot, Nat.reduceEqDiff, reduceIte, argTs, asliceS, asliceL, bnd, boolV, intV, retQ, aRes, aResV, oneAV, AV.low, AV.low.lows, Nat.reduceAdd, isStringD, isSliceD, isBoolD, setRange, AV.cells, AV.isCell, AV.isAgg, abytes, aconv, aeq, isConst, isByteD, isIfaceD, endQ, Int.reduceToNat, Int.reduceLE, Int.reduceLT, Int.reduceEq, Int.reduceNe, Int.reduceAdd, Int.reduceSub, Int.reduceNeg, Nat.reduceLT, Nat.reduceLeDiff, Ent.ver, Ent.imm, Ent.ty, lits, isEl, newCells, aappend, Nat.reduceBEq, fill, undef, (st1), (st2), (st3), (st4), (st5), (st6), (st7), (st8), aMap, mget, mput, mclock, ksOK, keq, mres, fillA, isArrD, arrE, Nat.reduceMul]; try simp (disch := omega) only [wrapI64, Int.toNat_natCast, ← Int.natCast_add, nat_add_one, nat_add_two, take_drop_all, List.drop_zero, Nat.sub_zero, Nat.add_sub_cancel_left])
  refine xloop (α := Nat) T0 (fun i => [(0, .str l), (3, i64 i)]) (fun _ => σ) (fun _ => []) (fun i => i ≤ l.length ∧ ∀ x ∈ l.take i, pB isPart x = true) (fun i => l.length - i) (by kernel_rfl) ⟨0, by simp, by (simp only [(vm1), (vm2), (vm3), (vm4), aDet, ev, tget, tput, ofC, ofC1, pureR, condR, abin, aun, alen, gslot, Nat.reduceEqDiff, reduceIte, argTs, asliceS, asliceL, bnd, boolV, intV, retQ, aRes, aResV, oneAV, AV.low, AV.low.lows, Nat.reduceAdd, isStringD, isSliceD, isBoolD, setRange, AV.cells, AV.isCell, AV.isAgg, abytes, aconv, aeq, isConst, isByteD, isIfaceD, endQ, Int.reduceToNat, Int.reduceLE, Int.reduceLT, Int.reduceEq, Int.reduceNe, Int.reduceAdd, Int.reduceSub, Int.reduceNeg, Nat.reduceLT, Nat.reduceLeDiff, Ent.ver, Ent.imm, Ent.ty, lits, isEl, newCells, aappend, Nat.reduceBEq, fill, undef, (st1), (st2), (st3), (st4), (st5), (st6), (st7), (st8), aMap, mget, mput, mclock, ksOK, keq, mres, fillA, isArrD, arrE, Nat.reduceMul, Int.natCast_zero]; try simp (disch := omega) only [wrapI64, Int.toNat_natCast, ← Int.natCast_add, nat_add_one, nat_add_two, take_drop_all, List.drop_zero, Nat.sub_zero, Nat.add_sub_cancel_left]), rfl, rfl⟩ ?_
  rintro i ⟨hi, hall⟩
  by_cases h : (i : Int) < l.length
  · (simp only [h, (vm1), (vm2), (vm3), (vm4), aDet, ev, tget, tput, ofC, ofC1, pureR, condR, abin, aun, alen, gslot, Nat.reduceEqDiff, reduceIte, argTs, asliceS, asliceL, bnd, boolV, intV, retQ, aRes, aResV, oneAV, AV.low, AV.low.lows, Nat.reduceAdd, isStringD, isSliceD, isBoolD, setRange, AV.cells, AV.isCell, AV.isAgg, abytes, aconv, aeq, isConst, isByteD, isIfaceD, endQ, Int.reduceToNat, Int.reduceLE, Int.reduceLT, Int.reduceEq, Int.reduceNe, Int.reduceAdd, Int.reduceSub, Int.reduceNeg, Nat.reduceLT, Nat.reduceLeDiff, Ent.ver, Ent.imm, Ent.ty, lits, isEl, newCells, aappend, Nat.reduceBEq, fill, undef, (st1), (st2), (st3), (st4), (st5), (st6), (st7), (st8), aMap, mget, mput, mclock, ksOK, keq, mres, fillA, isArrD, arrE, Nat.reduceMul]; try simp (disch := omega) only [wrapI64, Int.toNat_natCast, ← Int.natCast_add, nat_add_one, nat_add_two, take_drop_all, List.drop_zero, Nat.sub_zero, Nat.add_sub_cancel_left])
    refine xWait.go (isPart_ok _ _) ?_
    cases hp : isPart (l.getD i 0).toNat
    · (simp only [(vm1), (vm2), (vm3), (vm4), aDet, ev, tget, tput, ofC, ofC1, pureR, condR, abin, aun, alen, gslot, Nat.reduceEqDiff, reduceIte, argTs, asliceS, asliceL, bnd, boolV, intV, retQ, aRes, aResV, oneAV, AV.low, AV.low.lows, Nat.reduceAdd, isStringD, isSliceD, isBoolD, setRange, AV.cells, AV.isCell, AV.isAgg, abytes, aconv, aeq, isConst, isByteD, isIfaceD, endQ, Int.reduceToNat, Int.reduceLE, Int.reduceLT, Int.reduceEq, Int.reduceNe, Int.reduceAdd, Int.reduceSub, Int.reduceNeg, Nat.reduceLT, Nat.reduceLeDiff, Ent.ver, Ent.imm, Ent.ty, lits, isEl, newCells, aappend, Nat.reduceBEq, fill, undef, (st1), (st2), (st3), (st4), (st5), (st6), (st7), (st8), aMap, mget, mput, mclock, ksOK, keq, mres, fillA, isArrD, arrE, Nat.reduceMul]; try simp (disch := omega) only [wrapI64, Int.toNat_natCast, ← Int.natCast_add, nat_add_one, nat_add_two, take_drop_all, List.drop_zero, Nat.sub_zero, Nat.add_sub_cancel_left])
      exact congrArg (fun n : Nat => i64 n) (takeWhile_len hi hall fun _ => hp).symm
    · (simp only [(vm1), (vm2), (vm3), (vm4), aDet, ev, tget, tput, ofC, ofC1, pureR, condR, abin, aun, alen, gslot, Nat.reduceEqDiff, reduceIte, argTs, asliceS, asliceL, bnd, boolV, intV, retQ, aRes, aResV, oneAV, AV.low, AV.low.lows, Nat.reduceAdd, isStringD, isSliceD, isBoolD, setRange, AV.cells, AV.isCell, AV.isAgg, abytes, aconv, aeq, isConst, isByteD, isIfaceD, endQ, Int.reduceToNat, Int.reduceLE, Int.reduceLT, Int.reduceEq, Int.reduceNe, Int.reduceAdd, Int.reduceSub, Int.reduceNeg, Nat.reduceLT, Nat.reduceLeDiff, Ent.ver, Ent.imm, Ent.ty, lits, isEl, newCells, aappend, Nat.reduceBEq, fill, undef, (st1), (st2), (st3), (st4), (st5), (st6), (st7), (st8), aMap, mget, mput, mclock, ksOK, keq, mres, fillA, isArrD, arrE, Nat.reduceMul]; try simp (disch := omega) only [wrapI64, Int.toNat_natCast, ← Int.natCast_add, nat_add_one, nat_add_two, take_drop_all, List.drop_zero, Nat.sub_zero, Nat.add_sub_cancel_left])
      exact ⟨i + 1, ⟨by omega, take_succ_all (by omega) hall hp⟩, by omega, rfl⟩
  · (simp only [h, (vm1), (vm2), (vm3), (vm4), aDet, ev, tget, tput, ofC, ofC1, pureR, condR, abin, aun, alen, gslot, Nat.reduceEqDiff, reduceIte, argTs, asliceS, asliceL, bnd, boolV, intV, retQ, aRes, aResV, oneAV, AV.low, AV.low.lows, Nat.reduceAdd, isStringD, isSliceD, isBoolD, setRange, AV.cells, AV.isCell, AV.isAgg, abytes, aconv, aeq, isConst, isByteD, isIfaceD, endQ, Int.reduceToNat, Int.reduceLE, Int.reduceLT, Int.reduceEq, Int.reduceNe, Int.reduceAdd, Int.reduceSub, Int.reduceNeg, Nat.reduceLT, Nat.reduceLeDiff, Ent.ver, Ent.imm, Ent.ty, lits, isEl, newCells, aappend, Nat.reduceBEq, fill, undef, (st1), (st2), (st3), (st4), (st5), (st6), (st7), (st8), aMap, mget, mput, mclock, ksOK, keq, mres, fillA, isArrD, arrE, Nat.reduceMul]; try simp (disch := omega) only [wrapI64, Int.toNat_natCast, ← Int.natCast_add, nat_add_one, nat_add_two, take_drop_all, List.drop_zero, Nat.sub_zero, Nat.add_sub_cancel_left])
    exact congrArg (fun n : Nat => i64 n) (takeWhile_len hi hall fun hh => absurd (by omega) h).symm
end Go.D

/- Digits; names. -/
set_option linter.unusedVariables false
set_option linter.unusedSimpArgs false
set_option maxRecDepth 100000
namespace Go.D
open Go Go.Vm Go.Proofs Go.RowKit

theorem digits_ok (l : List UInt8) (hl : l.length ≤ 9223372036854775807) (σ : List Ent) : ACalls E 147 [.str l] σ fun r τ => r = i64 (digits l) ∧ τ = σ := by
  refine xacalls T0 .drop [] Tryz.func147 rfl (by kernel_rfl) (by kernel_rfl) (by simp [Tryz.ntmps147]) ?_
  (simp only [(vm1), (vm2), (vm3), (vm4), aDet, ev, tget, tput, ofC, ofC1, pureR, condR, abin, aun, alen, gslot, Nat.reduceEqDiff, reduceIte, argTs, asliceS, asliceL, bnd, boolV, intV, retQ, aRes, aResV, oneAV, AV.low, AV.low.lows, Nat.reduceAdd, isStringD, isSliceD, isBoolD, setRange, AV.cells, AV.isCell, AV.isAgg, abytes, aconv, aeq, isConst, isByteD, isIfaceD, endQ, Int.reduceToNat, Int.reduceLE, Int.reduceLT, Int.reduceEq, Int.reduceNe, Int.reduceAdd, Int.reduceSub, Int.reduceNeg, Nat.reduceLT, Nat.reduceLeDiff, Ent.ver, Ent.imm, Ent.ty, lits, isEl, newCells, aappend, Nat.reduceBEq, fill, undef, (st1), (st2), (st3), (st4), (st5), (st6), (st7), (st8), aMap, mget, mput, mclock, ksOK, keq, mres, fillA, isArrD, arrE, Nat.reduceMul]; try simp (disch := omega) only [wrapI64, Int.toNat_natCast, ← Int.natCast_add, nat_add_one, nat_add_two, take_drop_all, List.drop_zero, Nat.sub_zero, Nat.add_sub_cancel_left])
  refine xGuard.cut (.seq (.cut (fun ts g l' => Sub ts [(0, .str l), (3, i64 (negN l))] ∧ g = σ ∧ l' = []) ?_)) ?_
  · rintro ts g l' ⟨hsub, rfl, rfl⟩
    simp only [sub_cons, sub_nil, and_true] at hsub
    obtain ⟨h0, h3⟩ := hsub
    have hn := negN_le l
    by_cases h4 : (negN l : Int) = l.length
    · have : negN l = l.length := by omega
      (simp only [h0, h3, h4, (vm1), (vm2), (vm3), (vm4), aDet, ev, tget, tput, ofC, ofC1, pureR, condR, abin, aun, alen, gslot, Nat.reduceEqDiff, reduceIte, argTs, asliceS, asliceL, bnd, boolV, intV, retQ, aRes, aResV, oneAV, AV.low, AV.low.lows, Nat.reduceAdd, isStringD, isSliceD, isBoolD, setRange, AV.cells, AV.isCell, AV.isAgg, abytes, aconv, aeq, isConst, isByteD, isIfaceD, endQ, Int.reduceToNat, Int.reduceLE, Int.reduceLT, Int.reduceEq, Int.reduceNe, Int.reduceAdd, Int.reduceSub, Int.reduceNeg, Nat.reduceLT, Nat.reduceLeDiff, Ent.ver, Ent.imm, Ent.ty, lits, isEl, newCells, aappend, Nat.reduceBEq, fill, undef, (st1), (st2), (st3), (st4), (st5), (st6), (st7), (st8), aMap, mget, mput, mclock, ksOK, keq, mres, fillA, isArrD, arrE, Nat.reduceMul]; try simp (disch := omega) only [wrapI64, Int.toNat_natCast, ← Int.natCast_add, nat_add_one, nat_add_two, take_drop_all, List.drop_zero, Nat.sub_zero, Nat.add_sub_cancel_left])
      rw [digits, if_pos this]; rfl
    · have h5 : ¬ negN l = l.length := by omega
      (simp only [h0, h3, h4, (vm1), (vm2), (vm3), (vm4), aDet, ev, tget, tput, ofC, ofC1, pureR, condR, abin, aun, alen, gslot, Nat.reduceEqDiff, reduceIte, argTs, asliceS, asliceL, bnd, boolV, intV, retQ, aRes, aResV, oneAV, AV.low, AV.low.lows, Nat.reduceAdd, isStringD, isSliceD, isBoolD, setRange, AV.cells, AV.isCell, AV.isAgg, abytes, aconv, aeq, isConst, isByteD, isIfaceD, endQ, Int.reduceToNat, Int.reduceLE, Int.reduceLT, Int.reduceEq, Int.reduceNe, Int.reduceAdd, Int.reduceSub, Int.reduceNeg, Nat.reduceLT, Nat.reduceLeDiff, Ent.ver, Ent.imm, Ent.ty, lits, isEl, newCells, aappend, Nat.reduceBEq, fill, undef, (st1), (st2), (st3), (st4), (st5), (st6), (st7), (st8), aMap, mget, mput, mclock, ksOK, keq, mres, fillA, isArrD, arrE, Nat.reduceMul]; try simp (disch := omega) only [wrapI64, Int.toNat_natCast, ← Int.natCast_add, nat_add_one, nat_add_two, take_drop_all, List.drop_zero, Nat.sub_zero, Nat.add_sub_cancel_left])
      refine ⟨by omega, ?_⟩
      refine xWait.go (isDigit_ok _ _) ?_
      rw [digits, if_neg h5]
      cases h6 : btw 48 (l.getD (negN l) 0).toNat 57
      · (simp only [h0, h3, (vm1), (vm2), (vm3), (vm4), aDet, ev, tget, tput, ofC, ofC1, pureR, condR, abin, aun, alen, gslot, Nat.reduceEqDiff, reduceIte, argTs, asliceS, asliceL, bnd, boolV, intV, retQ, aRes, aResV, oneAV, AV.low, AV.low.lows, Nat.reduceAdd, isStringD, isSliceD, isBoolD, setRange, AV.cells, AV.isCell, AV.isAgg, abytes, aconv, aeq, isConst, isByteD, isIfaceD, endQ, Int.reduceToNat, Int.reduceLE, Int.reduceLT, Int.reduceEq, Int.reduceNe, Int.reduceAdd, Int.reduceSub, Int.reduceNeg, Nat.reduceLT, Nat.reduceLeDiff, Ent.ver, Ent.imm, Ent.ty, lits, isEl, newCells, aappend, Nat.reduceBEq, fill, undef, (st1), (st2), (st3), (st4), (st5), (st6), (st7), (st8), aMap, mget, mput, mclock, ksOK, keq, mres, fillA, isArrD, arrE, Nat.reduceMul, isDig, h6]; try simp (disch := omega) only [wrapI64, Int.toNat_natCast, ← Int.natCast_add, nat_add_one, nat_add_two, take_drop_all, List.drop_zero, Nat.sub_zero, Nat.add_sub_cancel_left])
      · (simp only [h0, h3, (vm1), (vm2), (vm3), (vm4), aDet, ev, tget, tput, ofC, ofC1, pureR, condR, abin, aun, alen, gslot, Nat.reduceEqDiff, reduceIte, argTs, asliceS, asliceL, bnd, boolV, intV, retQ, aRes, aResV, oneAV, AV.low, AV.low.lows, Nat.reduceAdd, isStringD, isSliceD, isBoolD, setRange, AV.cells, AV.isCell, AV.isAgg, abytes, aconv, aeq, isConst, isByteD, isIfaceD, endQ, Int.reduceToNat, Int.reduceLE, Int.reduceLT, Int.reduceEq, Int.reduceNe, Int.reduceAdd, Int.reduceSub, Int.reduceNeg, Nat.reduceLT, Nat.reduceLeDiff, Ent.ver, Ent.imm, Ent.ty, lits, isEl, newCells, aappend, Nat.reduceBEq, fill, undef, (st1), (st2), (st3), (st4), (st5), (st6), (st7), (st8), aMap, mget, mput, mclock, ksOK, keq, mres, fillA, isArrD, arrE, Nat.reduceMul, isDig, h6]; try simp (disch := omega) only [wrapI64, Int.toNat_natCast, ← Int.natCast_add, nat_add_one, nat_add_two, take_drop_all, List.drop_zero, Nat.sub_zero, Nat.add_sub_cancel_left])
        refine ⟨by omega, ?_⟩
        by_cases h7 : ((l.getD (negN l) 0).toNat : Int) = 48
        · (simp only [h0, h3, h7, (vm1), (vm2), (vm3), (vm4), aDet, ev, tget, tput, ofC, ofC1, pureR, condR, abin, aun, alen, gslot, Nat.reduceEqDiff, reduceIte, argTs, asliceS, asliceL, bnd, boolV, intV, retQ, aRes, aResV, oneAV, AV.low, AV.low.lows, Nat.reduceAdd, isStringD, isSliceD, isBoolD, setRange, AV.cells, AV.isCell, AV.isAgg, abytes, aconv, aeq, isConst, isByteD, isIfaceD, endQ, Int.reduceToNat, Int.reduceLE, Int.reduceLT, Int.reduceEq, Int.reduceNe, Int.reduceAdd, Int.reduceSub, Int.reduceNeg, Nat.reduceLT, Nat.reduceLeDiff, Ent.ver, Ent.imm, Ent.ty, lits, isEl, newCells, aappend, Nat.reduceBEq, fill, undef, (st1), (st2), (st3), (st4), (st5), (st6), (st7), (st8), aMap, mget, mput, mclock, ksOK, keq, mres, fillA, isArrD, arrE, Nat.reduceMul]; try simp (disch := omega) only [wrapI64, Int.toNat_natCast, ← Int.natCast_add, nat_add_one, nat_add_two, take_drop_all, List.drop_zero, Nat.sub_zero, Nat.add_sub_cancel_left])
        · (simp only [h0, h3, h7, (vm1), (vm2), (vm3), (vm4), aDet, ev, tget, tput, ofC, ofC1, pureR, condR, abin, aun, alen, gslot, Nat.reduceEqDiff, reduceIte, argTs, asliceS, asliceL, bnd, boolV, intV, retQ, aRes, aResV, oneAV, AV.low, AV.low.lows, Nat.reduceAdd, isStringD, isSliceD, isBoolD, setRange, AV.cells, AV.isCell, AV.isAgg, abytes, aconv, aeq, isConst, isByteD, isIfaceD, endQ, Int.reduceToNat, Int.reduceLE, Int.reduceLT, Int.reduceEq, Int.reduceNe, Int.reduceAdd, Int.reduceSub, Int.reduceNeg, Nat.reduceLT, Nat.reduceLeDiff, Ent.ver, Ent.imm, Ent.ty, lits, isEl, newCells, aappend, Nat.reduceBEq, fill, undef, (st1), (st2), (st3), (st4), (st5), (st6), (st7), (st8), aMap, mget, mput, mclock, ksOK, keq, mres, fillA, isArrD, arrE, Nat.reduceMul]; try simp (disch := omega) only [wrapI64, Int.toNat_natCast, ← Int.natCast_add, nat_add_one, nat_add_two, take_drop_all, List.drop_zero, Nat.sub_zero, Nat.add_sub_cancel_left])
          refine xloop (α := Nat) T0 (fun i => [(0, .str l), (3, i64 (negN l + i : Nat))]) (fun _ => g) (fun _ => []) (fun i => i ≤ (l.drop (negN l)).length ∧ ∀ x ∈ (l.drop (negN l)).take i, pB isDig x = true) (fun i => l.length - i) (by kernel_rfl)
            ⟨0, by simp, by (simp only [h0, h3, (vm1), (vm2), (vm3), (vm4), aDet, ev, tget, tput, ofC, ofC1, pureR, condR, abin, aun, alen, gslot, Nat.reduceEqDiff, reduceIte, argTs, asliceS, asliceL, bnd, boolV, intV, retQ, aRes, aResV, oneAV, AV.low, AV.low.lows, Nat.reduceAdd, isStringD, isSliceD, isBoolD, setRange, AV.cells, AV.isCell, AV.isAgg, abytes, aconv, aeq, isConst, isByteD, isIfaceD, endQ, Int.reduceToNat, Int.reduceLE, Int.reduceLT, Int.reduceEq, Int.reduceNe, Int.reduceAdd, Int.reduceSub, Int.reduceNeg, Nat.reduceLT, Nat.reduceLeDiff, Ent.ver, Ent.imm, Ent.ty, lits, isEl, newCells, aappend, Nat.reduceBEq, fill, undef, (st1), (st2), (st3), (st4), (st5), (st6), (st7), (st8), aMap, mget, mput, mclock, ksOK, keq, mres, fillA, isArrD, arrE, Nat.reduceMul]; try simp (disch := omega) only [wrapI64, Int.toNat_natCast, ← Int.natCast_add, nat_add_one, nat_add_two, take_drop_all, List.drop_zero, Nat.sub_zero, Nat.add_sub_cancel_left]), rfl, rfl⟩ ?_
          rintro i ⟨hi, hall⟩
          have hd : (l.drop (negN l)).getD i 0 = l.getD (negN l + i) 0 := by simp [List.getD]
          have hlen : (l.drop (negN l)).length = l.length - negN l := List.length_drop
          by_cases h8 : ((negN l + i : Nat) : Int) < l.length
          · (simp only [h8, (vm1), (vm2), (vm3), (vm4), aDet, ev, tget, tput, ofC, ofC1, pureR, condR, abin, aun, alen, gslot, Nat.reduceEqDiff, reduceIte, argTs, asliceS, asliceL, bnd, boolV, intV, retQ, aRes, aResV, oneAV, AV.low, AV.low.lows, Nat.reduceAdd, isStringD, isSliceD, isBoolD, setRange, AV.cells, AV.isCell, AV.isAgg, abytes, aconv, aeq, isConst, isByteD, isIfaceD, endQ, Int.reduceToNat, Int.reduceLE, Int.reduceLT, Int.reduceEq, Int.reduceNe, Int.reduceAdd, Int.reduceSub, Int.reduceNeg, Nat.reduceLT, Nat.reduceLeDiff, Ent.ver, Ent.imm, Ent.ty, lits, isEl, newCells, aappend, Nat.reduceBEq, fill, undef, (st1), (st2), (st3), (st4), (st5), (st6), (st7), (st8), aMap, mget, mput, mclock, ksOK, keq, mres, fillA, isArrD, arrE, Nat.reduceMul]; try simp (disch := omega) only [wrapI64, Int.toNat_natCast, ← Int.natCast_add, nat_add_one, nat_add_two, take_drop_all, List.drop_zero, Nat.sub_zero, Nat.add_sub_cancel_left])
            refine xWait.go (isDigit_ok _ _) ?_
            cases hp : btw 48 (l.getD (negN l + i) 0).toNat 57
            · (simp only [(vm1), (vm2), (vm3), (vm4), aDet, ev, tget, tput, ofC, ofC1, pureR, condR, abin, aun, alen, gslot, Nat.reduceEqDiff, reduceIte, argTs, asliceS, asliceL, bnd, boolV, intV, retQ, aRes, aResV, oneAV, AV.low, AV.low.lows, Nat.reduceAdd, isStringD, isSliceD, isBoolD, setRange, AV.cells, AV.isCell, AV.isAgg, abytes, aconv, aeq, isConst, isByteD, isIfaceD, endQ, Int.reduceToNat, Int.reduceLE, Int.reduceLT, Int.reduceEq, Int.reduceNe, Int.reduceAdd, Int.reduceSub, Int.reduceNeg, Nat.reduceLT, Nat.reduceLeDiff, Ent.ver, Ent.imm, Ent.ty, lits, isEl, newCells, aappend, Nat.reduceBEq, fill, undef, (st1), (st2), (st3), (st4), (st5), (st6), (st7), (st8), aMap, mget, mput, mclock, ksOK, keq, mres, fillA, isArrD, arrE, Nat.reduceMul]; try simp (disch := omega) only [wrapI64, Int.toNat_natCast, ← Int.natCast_add, nat_add_one, nat_add_two, take_drop_all, List.drop_zero, Nat.sub_zero, Nat.add_sub_cancel_left])
              rw [takeWhile_len hi hall fun _ => by rw [hd]; exact hp]
            · (simp only [(vm1), (vm2), (vm3), (vm4), aDet, ev, tget, tput, ofC, ofC1, pureR, condR, abin, aun, alen, gslot, Nat.reduceEqDiff, reduceIte, argTs, asliceS, asliceL, bnd, boolV, intV, retQ, aRes, aResV, oneAV, AV.low, AV.low.lows, Nat.reduceAdd, isStringD, isSliceD, isBoolD, setRange, AV.cells, AV.isCell, AV.isAgg, abytes, aconv, aeq, isConst, isByteD, isIfaceD, endQ, Int.reduceToNat, Int.reduceLE, Int.reduceLT, Int.reduceEq, Int.reduceNe, Int.reduceAdd, Int.reduceSub, Int.reduceNeg, Nat.reduceLT, Nat.reduceLeDiff, Ent.ver, Ent.imm, Ent.ty, lits, isEl, newCells, aappend, Nat.reduceBEq, fill, undef, (st1), (st2), (st3), (st4), (st5), (st6), (st7), (st8), aMap, mget, mput, mclock, ksOK, keq, mres, fillA, isArrD, arrE, Nat.reduceMul]; try simp (disch := omega) only [wrapI64, Int.toNat_natCast, ← Int.natCast_add, nat_add_one, nat_add_two, take_drop_all, List.drop_zero, Nat.sub_zero, Nat.add_sub_cancel_left])
              exact ⟨i + 1, ⟨by omega, take_succ_all (by omega) hall (by rw [hd]; exact hp)⟩, by omega, rfl⟩
          · (simp only [h8, (vm1), (vm2), (vm3), (vm4), aDet, ev, tget, tput, ofC, ofC1, pureR, condR, abin, aun, alen, gslot, Nat.reduceEqDiff, reduceIte, argTs, asliceS, asliceL, bnd, boolV, intV, retQ, aRes, aResV, oneAV, AV.low, AV.low.lows, Nat.reduceAdd, isStringD, isSliceD, isBoolD, setRange, AV.cells, AV.isCell, AV.isAgg, abytes, aconv, aeq, isConst, isByteD, isIfaceD, endQ, Int.reduceToNat, Int.reduceLE, Int.reduceLT, Int.reduceEq, Int.reduceNe, Int.reduceAdd, Int.reduceSub, Int.reduceNeg, Nat.reduceLT, Nat.reduceLeDiff, Ent.ver, Ent.imm, Ent.ty, lits, isEl, newCells, aappend, Nat.reduceBEq, fill, undef, (st1), (st2), (st3), (st4), (st5), (st6), (st7), (st8), aMap, mget, mput, mclock, ksOK, keq, mres, fillA, isArrD, arrE, Nat.reduceMul]; try simp (disch := omega) only [wrapI64, Int.toNat_natCast, ← Int.natCast_add, nat_add_one, nat_add_two, take_drop_all, List.drop_zero, Nat.sub_zero, Nat.add_sub_cancel_left])
            rw [takeWhile_len hi hall fun hh => absurd (by omega) h8]
  · by_cases h1 : (1 : Int) < l.length
    · (simp only [h1, (vm1), (vm2), (vm3), (vm4), aDet, ev, tget, tput, ofC, ofC1, pureR, condR, abin, aun, alen, gslot, Nat.reduceEqDiff, reduceIte, argTs, asliceS, asliceL, bnd, boolV, intV, retQ, aRes, aResV, oneAV, AV.low, AV.low.lows, Nat.reduceAdd, isStringD, isSliceD, isBoolD, setRange, AV.cells, AV.isCell, AV.isAgg, abytes, aconv, aeq, isConst, isByteD, isIfaceD, endQ, Int.reduceToNat, Int.reduceLE, Int.reduceLT, Int.reduceEq, Int.reduceNe, Int.reduceAdd, Int.reduceSub, Int.reduceNeg, Nat.reduceLT, Nat.reduceLeDiff, Ent.ver, Ent.imm, Ent.ty, lits, isEl, newCells, aappend, Nat.reduceBEq, fill, undef, (st1), (st2), (st3), (st4), (st5), (st6), (st7), (st8), aMap, mget, mput, mclock, ksOK, keq, mres, fillA, isArrD, arrE, Nat.reduceMul]; try simp (disch := omega) only [wrapI64, Int.toNat_natCast, ← Int.natCast_add, nat_add_one, nat_add_two, take_drop_all, List.drop_zero, Nat.sub_zero, Nat.add_sub_cancel_left])
      refine ⟨by omega, ?_⟩
      by_cases h2 : ((l.getD 0 0).toNat : Int) = 45
      · (simp only [h2, (vm1), (vm2), (vm3), (vm4), aDet, ev, tget, tput, ofC, ofC1, pureR, condR, abin, aun, alen, gslot, Nat.reduceEqDiff, reduceIte, argTs, asliceS, asliceL, bnd, boolV, intV, retQ, aRes, aResV, oneAV, AV.low, AV.low.lows, Nat.reduceAdd, isStringD, isSliceD, isBoolD, setRange, AV.cells, AV.isCell, AV.isAgg, abytes, aconv, aeq, isConst, isByteD, isIfaceD, endQ, Int.reduceToNat, Int.reduceLE, Int.reduceLT, Int.reduceEq, Int.reduceNe, Int.reduceAdd, Int.reduceSub, Int.reduceNeg, Nat.reduceLT, Nat.reduceLeDiff, Ent.ver, Ent.imm, Ent.ty, lits, isEl, newCells, aappend, Nat.reduceBEq, fill, undef, (st1), (st2), (st3), (st4), (st5), (st6), (st7), (st8), aMap, mget, mput, mclock, ksOK, keq, mres, fillA, isArrD, arrE, Nat.reduceMul]; try simp (disch := omega) only [wrapI64, Int.toNat_natCast, ← Int.natCast_add, nat_add_one, nat_add_two, take_drop_all, List.drop_zero, Nat.sub_zero, Nat.add_sub_cancel_left])
        refine ⟨by omega, ?_⟩
        refine xWait.go (between_ok _ _ _ _) ?_
        cases h3 : btw 49 (l.getD 1 0).toNat 57 <;> (simp only [(vm1), (vm2), (vm3), (vm4), aDet, ev, tget, tput, ofC, ofC1, pureR, condR, abin, aun, alen, gslot, Nat.reduceEqDiff, reduceIte, argTs, asliceS, asliceL, bnd, boolV, intV, retQ, aRes, aResV, oneAV, AV.low, AV.low.lows, Nat.reduceAdd, isStringD, isSliceD, isBoolD, setRange, AV.cells, AV.isCell, AV.isAgg, abytes, aconv, aeq, isConst, isByteD, isIfaceD, endQ, Int.reduceToNat, Int.reduceLE, Int.reduceLT, Int.reduceEq, Int.reduceNe, Int.reduceAdd, Int.reduceSub, Int.reduceNeg, Nat.reduceLT, Nat.reduceLeDiff, Ent.ver, Ent.imm, Ent.ty, lits, isEl, newCells, aappend, Nat.reduceBEq, fill, undef, (st1), (st2), (st3), (st4), (st5), (st6), (st7), (st8), aMap, mget, mput, mclock, ksOK, keq, mres, fillA, isArrD, arrE, Nat.reduceMul]; try simp (disch := omega) only [wrapI64, Int.toNat_natCast, ← Int.natCast_add, nat_add_one, nat_add_two, take_drop_all, List.drop_zero, Nat.sub_zero, Nat.add_sub_cancel_left])
        · have : negN l = 0 := by
            have : negB l = false := by simp only [negB, h3, Bool.and_false]
            simp [negN, this]
          rw [this]; rfl
        · have : negN l = 1 := by
            have : negB l = true := by simp only [negB, h1, h2, h3, decide_true, Bool.and_self]
            simp [negN, this]
          rw [this]; rfl
      · (simp only [h2, (vm1), (vm2), (vm3), (vm4), aDet, ev, tget, tput, ofC, ofC1, pureR, condR, abin, aun, alen, gslot, Nat.reduceEqDiff, reduceIte, argTs, asliceS, asliceL, bnd, boolV, intV, retQ, aRes, aResV, oneAV, AV.low, AV.low.lows, Nat.reduceAdd, isStringD, isSliceD, isBoolD, setRange, AV.cells, AV.isCell, AV.isAgg, abytes, aconv, aeq, isConst, isByteD, isIfaceD, endQ, Int.reduceToNat, Int.reduceLE, Int.reduceLT, Int.reduceEq, Int.reduceNe, Int.reduceAdd, Int.reduceSub, Int.reduceNeg, Nat.reduceLT, Nat.reduceLeDiff, Ent.ver, Ent.imm, Ent.ty, lits, isEl, newCells, aappend, Nat.reduceBEq, fill, undef, (st1), (st2), (st3), (st4), (st5), (st6), (st7), (st8), aMap, mget, mput, mclock, ksOK, keq, mres, fillA, isArrD, arrE, Nat.reduceMul]; try simp (disch := omega) only [wrapI64, Int.toNat_natCast, ← Int.natCast_add, nat_add_one, nat_add_two, take_drop_all, List.drop_zero, Nat.sub_zero, Nat.add_sub_cancel_left])
        have : negN l = 0 := by
          have : negB l = false := by simp only [negB, h2, decide_false, Bool.false_and, Bool.and_false]
          simp [negN, this]
        rw [this]; rfl
    · (simp only [h1, (vm1), (vm2), (vm3), (vm4), aDet, ev, tget, tput, ofC, ofC1, pureR, condR, abin, aun, alen, gslot, Nat.reduceEqDiff, reduceIte, argTs, asliceS, asliceL, bnd, boolV, intV, retQ, aRes, aResV, oneAV, AV.low, AV.low.lows, Nat.reduceAdd, isStringD, isSliceD, isBoolD, setRange, AV.cells, AV.isCell, AV.isAgg, abytes, aconv, aeq, isConst, isByteD, isIfaceD, endQ, Int.reduceToNat, Int.reduceLE, Int.reduceLT, Int.reduceEq, Int.reduceNe, Int.reduceAdd, Int.reduceSub, Int.reduceNeg, Nat.reduceLT, Nat.reduceLeDiff, Ent.ver, Ent.imm, Ent.ty, lits, isEl, newCells, aappend, Nat.reduceBEq, fill, undef, (st1), (st2), (st3), (st4), (st5), (st6), (st7), (st8), aMap, mget, mput, mclock, ksOK, keq, mres, fillA, isArrD, arrE, Nat.reduceMul]; try simp (disch := omega) only [wrapI64, Int.toNat_natCast, ← Int.natCast_add, nat_add_one, nat_add_two, take_drop_all, List.drop_zero, Nat.sub_zero, Nat.add_sub_cancel_left])
      have : negN l = 0 := by
        have : negB l = false := by simp only [negB, h1, decide_false, Bool.false_and, Bool.and_false]
        simp [negN, this]
      rw [this]; rfl
end Go.D

/- Key words; signs. -/
set_option linter.unusedVariables false
set_option linter.unusedSimpArgs false
set_option maxRecDepth 100000
namespace Go.D
open Go Go.Vm Go.Proofs Go.RowKit

theorem fields_keys : Lib.fields keysText = keys := by kernel_rfl
theorem fields_signs : Lib.fields signsText = signs := by kernel_rfl
/-- A text cut at each space. -/
def spl : List UInt8 → List (List UInt8)
  | [] => [[]]
  | b :: l => if b = 32 then [] :: spl l else match spl l with
    | p :: r => (b :: p) :: r
    | [] => [[b]]
theorem index_none : ∀ {s : List UInt8}, (32 : UInt8) ∉ s → Lib.index s [32] = -1
  | [], _ => rfl
  | b :: l, h => by
    have h1 : b ≠ 32 := fun e => h (by simp [e])
    have h2 : (32 : UInt8) ∉ l := fun e => h (by simp [e])
    unfold Lib.index
    rw [index_none h2]
    simp [List.isPrefixOf, Ne.symm h1]
theorem index_some : ∀ {s : List UInt8}, (32 : UInt8) ∈ s → 0 ≤ Lib.index s [32]
  | [], h => by simp at h
  | b :: l, h => by
    unfold Lib.index
    by_cases h1 : b = 32
    · simp [List.isPrefixOf, h1]
    · have h2 : (32 : UInt8) ∈ l := by rcases List.mem_cons.1 h with e | e; exact absurd e.symm h1; exact e
      have := index_some h2
      have h3 : ¬ Lib.index l [32] = -1 := by omega
      simp [List.isPrefixOf, Ne.symm h1, h3]
      omega
theorem splitK_spl : ∀ s : List UInt8, Lib.splitK [32] 0 (s.count 32) s = spl s
  | [] => rfl
  | b :: l => by
    have ih := splitK_spl l
    by_cases h1 : b = 32
    · subst h1
      rw [List.count_cons_self, Lib.splitK, spl, if_pos rfl, ← ih]
      have : Lib.index (32 :: l) [32] = 0 := by unfold Lib.index; simp [List.isPrefixOf]
      simp [this]
    · rw [List.count_cons_of_ne h1, spl, if_neg h1]
      cases hc : l.count 32 with
      | zero => rw [hc] at ih; rw [← ih]; rfl
      | succ k =>
        have hm : (32 : UInt8) ∈ l := List.count_pos_iff.1 (by omega)
        have h0 := index_some hm
        have h3 : ¬ Lib.index l [32] = -1 := by omega
        have hi : Lib.index (b :: l) [32] = Lib.index l [32] + 1 := by
          conv => lhs; unfold Lib.index
          simp [List.isPrefixOf, Ne.symm h1, h3]
        have h4 : ¬ Lib.index l [32] + 1 = -1 := by omega
        have h5 : (Lib.index l [32] + 1).toNat = (Lib.index l [32]).toNat + 1 := by omega
        rw [hc, Lib.splitK] at ih
        rw [Lib.splitK, hi]
        simp only [beq_iff_eq, h3, h4, if_false, h5, List.length_cons, List.length_nil, Nat.add_zero] at ih ⊢
        rw [← ih]
        simp
theorem spl_keys : spl keysText = keys := by kernel_rfl
theorem split_keys : (Lib.splitB ⟨#[32]⟩ 0 (Lib.countB ⟨⟨keysText⟩⟩ ⟨#[32]⟩) ⟨⟨keysText⟩⟩).map (fun b => b.data.toList) = keys := by
  rw [Lib.splitB_data, ← spl_keys, ← splitK_spl]
  have : Lib.countB ⟨⟨keysText⟩⟩ ⟨#[32]⟩ = keysText.count 32 := Lib.count_one 32 keysText
  rw [this]
theorem ascii_keys : ∀ (j : Nat) b, keysText[j]? = some b → b.toNat < 128 := fun j b h => by
  have : keysText.all (fun b => decide (b.toNat < 128)) = true := by kernel_rfl
  simpa using List.all_eq_true.1 this b (List.mem_of_getElem? h)
theorem ascii_signs : ∀ (j : Nat) b, signsText[j]? = some b → b.toNat < 128 := fun j b h => by
  have : signsText.all (fun b => decide (b.toNat < 128)) = true := by kernel_rfl
  simpa using List.all_eq_true.1 this b (List.mem_of_getElem? h)

theorem isKey_ok (l : List UInt8) (hl : l.length ≤ 9223372036854775807) (σ : List Ent) : ACalls E 146 [.str l] σ fun r τ => r = boolV (decide (l ∈ keys)) ∧ τ = σ := by
  refine xacalls T0 .drop [] Tryz.func146 rfl (by kernel_rfl) (by kernel_rfl) (by simp [Tryz.ntmps146]) ?_
  (simp only [(vm1), (vm2), (vm3), (vm4), aDet, ev, tget, tput, ofC, ofC1, pureR, condR, abin, aun, alen, gslot, Nat.reduceEqDiff, reduceIte, argTs, asliceS, asliceL, bnd, boolV, intV, retQ, aRes, aResV, oneAV, AV.low, AV.low.lows, Nat.reduceAdd, isStringD, isSliceD, isBoolD, setRange, AV.cells, AV.isCell, AV.isAgg, abytes, aconv, aeq, isConst, isByteD, isIfaceD, endQ, Int.reduceToNat, Int.reduceLE, Int.reduceLT, Int.reduceEq, Int.reduceNe, Int.reduceAdd, Int.reduceSub, Int.reduceNeg, Nat.reduceLT, Nat.reduceLeDiff, Ent.ver, Ent.imm, Ent.ty, lits, isEl, newCells, aappend, Nat.reduceBEq, fill, undef, (st1), (st2), (st3), (st4), (st5), (st6), (st7), (st8), aMap, mget, mput, mclock, ksOK, keq, mres, fillA, isArrD, arrE, Nat.reduceMul]; try simp (disch := omega) only [wrapI64, Int.toNat_natCast, ← Int.natCast_add, nat_add_one, nat_add_two, take_drop_all, List.drop_zero, Nat.sub_zero, Nat.add_sub_cancel_left])
  refine xWait.go (Fields_ok keysText σ (by decide) ascii_keys) ?_
  rw [fields_keys]
  (simp only [(vm1), (vm2), (vm3), (vm4), aDet, ev, tget, tput, ofC, ofC1, pureR, condR, abin, aun, alen, gslot, Nat.reduceEqDiff, reduceIte, argTs, asliceS, asliceL, bnd, boolV, intV, retQ, aRes, aResV, oneAV, AV.low, AV.low.lows, Nat.reduceAdd, isStringD, isSliceD, isBoolD, setRange, AV.cells, AV.isCell, AV.isAgg, abytes, aconv, aeq, isConst, isByteD, isIfaceD, endQ, Int.reduceToNat, Int.reduceLE, Int.reduceLT, Int.reduceEq, Int.reduceNe, Int.reduceAdd, Int.reduceSub, Int.reduceNeg, Nat.reduceLT, Nat.reduceLeDiff, Ent.ver, Ent.imm, Ent.ty, lits, isEl, newCells, aappend, Nat.reduceBEq, fill, undef, (st1), (st2), (st3), (st4), (st5), (st6), (st7), (st8), aMap, mget, mput, mclock, ksOK, keq, mres, fillA, isArrD, arrE, Nat.reduceMul]; try simp (disch := omega) only [wrapI64, Int.toNat_natCast, ← Int.natCast_add, nat_add_one, nat_add_two, take_drop_all, List.drop_zero, Nat.sub_zero, Nat.add_sub_cancel_left])
  refine xWait.go (slicesContains_ok keys l σ (by decide)) ?_
  (simp only [(vm1), (vm2), (vm3), (vm4), aDet, ev, tget, tput, ofC, ofC1, pureR, condR, abin, aun, alen, gslot, Nat.reduceEqDiff, reduceIte, argTs, asliceS, asliceL, bnd, boolV, intV, retQ, aRes, aResV, oneAV, AV.low, AV.low.lows, Nat.reduceAdd, isStringD, isSliceD, isBoolD, setRange, AV.cells, AV.isCell, AV.isAgg, abytes, aconv, aeq, isConst, isByteD, isIfaceD, endQ, Int.reduceToNat, Int.reduceLE, Int.reduceLT, Int.reduceEq, Int.reduceNe, Int.reduceAdd, Int.reduceSub, Int.reduceNeg, Nat.reduceLT, Nat.reduceLeDiff, Ent.ver, Ent.imm, Ent.ty, lits, isEl, newCells, aappend, Nat.reduceBEq, fill, undef, (st1), (st2), (st3), (st4), (st5), (st6), (st7), (st8), aMap, mget, mput, mclock, ksOK, keq, mres, fillA, isArrD, arrE, Nat.reduceMul]; try simp (disch := omega) only [wrapI64, Int.toNat_natCast, ← Int.natCast_add, nat_add_one, nat_add_two, take_drop_all, List.drop_zero, Nat.sub_zero, Nat.add_sub_cancel_left])

theorem splitKeys_ok (σ : List Ent) : ACalls E 185 [.str keysText, .str [32]] σ fun r τ => r = .sl (keys.map .str) ∧ τ = σ := by
  refine acalls_lib ⟨_, Tryz.func185, by kernel_rfl, by kernel_rfl⟩ fun s vs hI hΓ hr => ?_
  obtain ⟨v, w, rfl, hv, hw⟩ := repL2 hr
  rw [rep_str hv, rep_str hw]
  obtain ⟨m, hm⟩ := hΓ.2.1
  refine (Tryz.strings_Split ⟨⟨keysText⟩⟩ ⟨⟨[32]⟩⟩ m s.w (by decide) hm (by decide)).mono fun e w' ⟨h1, h2⟩ => ⟨_, h1, by rw [h2]; exact below_alloc _ _, ?_⟩
  have hk := split_keys
  have hm2 : ∀ bs : List ByteArray, bs.map Value.string = (bs.map fun b => b.data.toList).map fun l => Value.string ⟨⟨l⟩⟩ := fun bs => by simp
  have hlen : Lib.countB ⟨⟨keysText⟩⟩ ⟨⟨[32]⟩⟩ + 1 = keys.length := by
    have : Lib.countB ⟨⟨keysText⟩⟩ ⟨#[32]⟩ = keysText.count 32 := Lib.count_one 32 keysText
    rw [this]; decide
  rw [h2, hm2, hlen]
  have := rep_mk_strs hI keys 9
  rw [← hk] at this ⊢
  exact this

theorem getD_str {ss : List (List UInt8)} {i : Nat} (h : i < ss.length) : (ss.map AV.str).getD i .un = .str (ss.getD i []) := by
  simp [List.getD, h]

theorem IsKey_ok (l : List UInt8) (hl : l.length ≤ 9223372036854775807) (σ : List Ent) : ACalls E 176 [.str l] σ fun r τ => r = boolV (decide (l ∈ keys)) ∧ τ = σ := by
  refine xacalls T0 .drop [] Tryz.func176 rfl (by kernel_rfl) (by kernel_rfl) (by simp [Tryz.ntmps176]) ?_
  (simp only [(vm1), (vm2), (vm3), (vm4), aDet, ev, tget, tput, ofC, ofC1, pureR, condR, abin, aun, alen, gslot, Nat.reduceEqDiff, reduceIte, argTs, asliceS, asliceL, bnd, boolV, intV, retQ, aRes, aResV, oneAV, AV.low, AV.low.lows, Nat.reduceAdd, isStringD, isSliceD, isBoolD, setRange, AV.cells, AV.isCell, AV.isAgg, abytes, aconv, aeq, isConst, isByteD, isIfaceD, endQ, Int.reduceToNat, Int.reduceLE, Int.reduceLT, Int.reduceEq, Int.reduceNe, Int.reduceAdd, Int.reduceSub, Int.reduceNeg, Nat.reduceLT, Nat.reduceLeDiff, Ent.ver, Ent.imm, Ent.ty, lits, isEl, newCells, aappend, Nat.reduceBEq, fill, undef, (st1), (st2), (st3), (st4), (st5), (st6), (st7), (st8), aMap, mget, mput, mclock, ksOK, keq, mres, fillA, isArrD, arrE, Nat.reduceMul]; try simp (disch := omega) only [wrapI64, Int.toNat_natCast, ← Int.natCast_add, nat_add_one, nat_add_two, take_drop_all, List.drop_zero, Nat.sub_zero, Nat.add_sub_cancel_left])
  refine xWait.go (splitKeys_ok σ) ?_
  have hk : keys.length < 1000 := by decide
  (simp only [(vm1), (vm2), (vm3), (vm4), aDet, ev, tget, tput, ofC, ofC1, pureR, condR, abin, aun, alen, gslot, Nat.reduceEqDiff, reduceIte, argTs, asliceS, asliceL, bnd, boolV, intV, retQ, aRes, aResV, oneAV, AV.low, AV.low.lows, Nat.reduceAdd, isStringD, isSliceD, isBoolD, setRange, AV.cells, AV.isCell, AV.isAgg, abytes, aconv, aeq, isConst, isByteD, isIfaceD, endQ, Int.reduceToNat, Int.reduceLE, Int.reduceLT, Int.reduceEq, Int.reduceNe, Int.reduceAdd, Int.reduceSub, Int.reduceNeg, Nat.reduceLT, Nat.reduceLeDiff, Ent.ver, Ent.imm, Ent.ty, lits, isEl, newCells, aappend, Nat.reduceBEq, fill, undef, (st1), (st2), (st3), (st4), (st5), (st6), (st7), (st8), aMap, mget, mput, mclock, ksOK, keq, mres, fillA, isArrD, arrE, Nat.reduceMul]; try simp (disch := omega) only [wrapI64, Int.toNat_natCast, ← Int.natCast_add, nat_add_one, nat_add_two, take_drop_all, List.drop_zero, Nat.sub_zero, Nat.add_sub_cancel_left])
  refine xloop (α := Nat) T0 (fun i => [(0, .str l), (3, .sl (keys.map .str)), (4, i64 i)]) (fun _ => σ) (fun _ => []) (fun i => i ≤ keys.length ∧ l ∉ keys.take i) (fun i => keys.length - i) (by kernel_rfl) ⟨0, by simp, by (simp only [(vm1), (vm2), (vm3), (vm4), aDet, ev, tget, tput, ofC, ofC1, pureR, condR, abin, aun, alen, gslot, Nat.reduceEqDiff, reduceIte, argTs, asliceS, asliceL, bnd, boolV, intV, retQ, aRes, aResV, oneAV, AV.low, AV.low.lows, Nat.reduceAdd, isStringD, isSliceD, isBoolD, setRange, AV.cells, AV.isCell, AV.isAgg, abytes, aconv, aeq, isConst, isByteD, isIfaceD, endQ, Int.reduceToNat, Int.reduceLE, Int.reduceLT, Int.reduceEq, Int.reduceNe, Int.reduceAdd, Int.reduceSub, Int.reduceNeg, Nat.reduceLT, Nat.reduceLeDiff, Ent.ver, Ent.imm, Ent.ty, lits, isEl, newCells, aappend, Nat.reduceBEq, fill, undef, (st1), (st2), (st3), (st4), (st5), (st6), (st7), (st8), aMap, mget, mput, mclock, ksOK, keq, mres, fillA, isArrD, arrE, Nat.reduceMul, Int.natCast_zero]; try simp (disch := omega) only [wrapI64, Int.toNat_natCast, ← Int.natCast_add, nat_add_one, nat_add_two, take_drop_all, List.drop_zero, Nat.sub_zero, Nat.add_sub_cancel_left]), rfl, rfl⟩ ?_
  rintro i ⟨hi, hall⟩
  by_cases h : (i : Int) < keys.length
  · have hlt : i < keys.length := by omega
    (simp only [h, (vm1), (vm2), (vm3), (vm4), aDet, ev, tget, tput, ofC, ofC1, pureR, condR, abin, aun, alen, gslot, Nat.reduceEqDiff, reduceIte, argTs, asliceS, asliceL, bnd, boolV, intV, retQ, aRes, aResV, oneAV, AV.low, AV.low.lows, Nat.reduceAdd, isStringD, isSliceD, isBoolD, setRange, AV.cells, AV.isCell, AV.isAgg, abytes, aconv, aeq, isConst, isByteD, isIfaceD, endQ, Int.reduceToNat, Int.reduceLE, Int.reduceLT, Int.reduceEq, Int.reduceNe, Int.reduceAdd, Int.reduceSub, Int.reduceNeg, Nat.reduceLT, Nat.reduceLeDiff, Ent.ver, Ent.imm, Ent.ty, lits, isEl, newCells, aappend, Nat.reduceBEq, fill, undef, (st1), (st2), (st3), (st4), (st5), (st6), (st7), (st8), aMap, mget, mput, mclock, ksOK, keq, mres, fillA, isArrD, arrE, Nat.reduceMul, List.length_map, isEl, getD_str hlt]; try simp (disch := omega) only [wrapI64, Int.toNat_natCast, ← Int.natCast_add, nat_add_one, nat_add_two, take_drop_all, List.drop_zero, Nat.sub_zero, Nat.add_sub_cancel_left])
    by_cases h2 : keys.getD i [] = l
    · (simp only [h2, (vm1), (vm2), (vm3), (vm4), aDet, ev, tget, tput, ofC, ofC1, pureR, condR, abin, aun, alen, gslot, Nat.reduceEqDiff, reduceIte, argTs, asliceS, asliceL, bnd, boolV, intV, retQ, aRes, aResV, oneAV, AV.low, AV.low.lows, Nat.reduceAdd, isStringD, isSliceD, isBoolD, setRange, AV.cells, AV.isCell, AV.isAgg, abytes, aconv, aeq, isConst, isByteD, isIfaceD, endQ, Int.reduceToNat, Int.reduceLE, Int.reduceLT, Int.reduceEq, Int.reduceNe, Int.reduceAdd, Int.reduceSub, Int.reduceNeg, Nat.reduceLT, Nat.reduceLeDiff, Ent.ver, Ent.imm, Ent.ty, lits, isEl, newCells, aappend, Nat.reduceBEq, fill, undef, (st1), (st2), (st3), (st4), (st5), (st6), (st7), (st8), aMap, mget, mput, mclock, ksOK, keq, mres, fillA, isArrD, arrE, Nat.reduceMul]; try simp (disch := omega) only [wrapI64, Int.toNat_natCast, ← Int.natCast_add, nat_add_one, nat_add_two, take_drop_all, List.drop_zero, Nat.sub_zero, Nat.add_sub_cancel_left])
      have : l ∈ keys := by rw [← h2]; simp [hlt]
      simp [this]
    · (simp only [h2, (vm1), (vm2), (vm3), (vm4), aDet, ev, tget, tput, ofC, ofC1, pureR, condR, abin, aun, alen, gslot, Nat.reduceEqDiff, reduceIte, argTs, asliceS, asliceL, bnd, boolV, intV, retQ, aRes, aResV, oneAV, AV.low, AV.low.lows, Nat.reduceAdd, isStringD, isSliceD, isBoolD, setRange, AV.cells, AV.isCell, AV.isAgg, abytes, aconv, aeq, isConst, isByteD, isIfaceD, endQ, Int.reduceToNat, Int.reduceLE, Int.reduceLT, Int.reduceEq, Int.reduceNe, Int.reduceAdd, Int.reduceSub, Int.reduceNeg, Nat.reduceLT, Nat.reduceLeDiff, Ent.ver, Ent.imm, Ent.ty, lits, isEl, newCells, aappend, Nat.reduceBEq, fill, undef, (st1), (st2), (st3), (st4), (st5), (st6), (st7), (st8), aMap, mget, mput, mclock, ksOK, keq, mres, fillA, isArrD, arrE, Nat.reduceMul]; try simp (disch := omega) only [wrapI64, Int.toNat_natCast, ← Int.natCast_add, nat_add_one, nat_add_two, take_drop_all, List.drop_zero, Nat.sub_zero, Nat.add_sub_cancel_left])
      refine ⟨i + 1, ⟨by omega, fun hm => ?_⟩, by omega, rfl⟩
      rw [List.take_add_one, List.mem_append] at hm
      rcases hm with hm | hm
      · exact hall hm
      · simp [hlt] at hm; exact h2 (by simp [hlt, hm])
  · (simp only [h, (vm1), (vm2), (vm3), (vm4), aDet, ev, tget, tput, ofC, ofC1, pureR, condR, abin, aun, alen, gslot, Nat.reduceEqDiff, reduceIte, argTs, asliceS, asliceL, bnd, boolV, intV, retQ, aRes, aResV, oneAV, AV.low, AV.low.lows, Nat.reduceAdd, isStringD, isSliceD, isBoolD, setRange, AV.cells, AV.isCell, AV.isAgg, abytes, aconv, aeq, isConst, isByteD, isIfaceD, endQ, Int.reduceToNat, Int.reduceLE, Int.reduceLT, Int.reduceEq, Int.reduceNe, Int.reduceAdd, Int.reduceSub, Int.reduceNeg, Nat.reduceLT, Nat.reduceLeDiff, Ent.ver, Ent.imm, Ent.ty, lits, isEl, newCells, aappend, Nat.reduceBEq, fill, undef, (st1), (st2), (st3), (st4), (st5), (st6), (st7), (st8), aMap, mget, mput, mclock, ksOK, keq, mres, fillA, isArrD, arrE, Nat.reduceMul, List.length_map]; try simp (disch := omega) only [wrapI64, Int.toNat_natCast, ← Int.natCast_add, nat_add_one, nat_add_two, take_drop_all, List.drop_zero, Nat.sub_zero, Nat.add_sub_cancel_left])
    rw [List.take_of_length_le (by omega)] at hall
    simp [hall]
end Go.D

/- Long names; texts; comments; numbers. -/
set_option linter.unusedVariables false
set_option linter.unusedSimpArgs false
set_option maxRecDepth 100000
namespace Go.D
open Go Go.Vm Go.Proofs Go.RowKit

theorem long_ok (l : List UInt8) (hl : l.length ≤ 9223372036854775807) (σ : List Ent) : ACalls E 132 [.str l] σ fun r τ => r = .tup [i64 (long true l).1, .str (long true l).2] ∧ τ = σ := by
  refine xacalls T0 .drop [] Tryz.func132 rfl (by kernel_rfl) (by kernel_rfl) (by simp [Tryz.ntmps132]) ?_
  (simp only [(vm1), (vm2), (vm3), (vm4), aDet, ev, tget, tput, ofC, ofC1, pureR, condR, abin, aun, alen, gslot, Nat.reduceEqDiff, reduceIte, argTs, asliceS, asliceL, bnd, boolV, intV, retQ, aRes, aResV, oneAV, AV.low, AV.low.lows, Nat.reduceAdd, isStringD, isSliceD, isBoolD, setRange, AV.cells, AV.isCell, AV.isAgg, abytes, aconv, aeq, isConst, isByteD, isIfaceD, endQ, Int.reduceToNat, Int.reduceLE, Int.reduceLT, Int.reduceEq, Int.reduceNe, Int.reduceAdd, Int.reduceSub, Int.reduceNeg, Nat.reduceLT, Nat.reduceLeDiff, Ent.ver, Ent.imm, Ent.ty, lits, isEl, newCells, aappend, Nat.reduceBEq, fill, undef, (st1), (st2), (st3), (st4), (st5), (st6), (st7), (st8), aMap, mget, mput, mclock, ksOK, keq, mres, fillA, isArrD, arrE, Nat.reduceMul]; try simp (disch := omega) only [wrapI64, Int.toNat_natCast, ← Int.natCast_add, nat_add_one, nat_add_two, take_drop_all, List.drop_zero, Nat.sub_zero, Nat.add_sub_cancel_left])
  refine xloop (α := Nat) T0 (fun i => [(0, .str l), (4, i64 i)]) (fun _ => σ) (fun _ => []) (fun i => i ≤ l.length ∧ long true l = if (long (decide (i = 0)) (l.drop i)).2 = [] then (0, []) else (i + (long (decide (i = 0)) (l.drop i)).1, (long (decide (i = 0)) (l.drop i)).2)) (fun i => l.length - i) (by kernel_rfl)
    ⟨0, ⟨by omega, ?_⟩, by (simp only [(vm1), (vm2), (vm3), (vm4), aDet, ev, tget, tput, ofC, ofC1, pureR, condR, abin, aun, alen, gslot, Nat.reduceEqDiff, reduceIte, argTs, asliceS, asliceL, bnd, boolV, intV, retQ, aRes, aResV, oneAV, AV.low, AV.low.lows, Nat.reduceAdd, isStringD, isSliceD, isBoolD, setRange, AV.cells, AV.isCell, AV.isAgg, abytes, aconv, aeq, isConst, isByteD, isIfaceD, endQ, Int.reduceToNat, Int.reduceLE, Int.reduceLT, Int.reduceEq, Int.reduceNe, Int.reduceAdd, Int.reduceSub, Int.reduceNeg, Nat.reduceLT, Nat.reduceLeDiff, Ent.ver, Ent.imm, Ent.ty, lits, isEl, newCells, aappend, Nat.reduceBEq, fill, undef, (st1), (st2), (st3), (st4), (st5), (st6), (st7), (st8), aMap, mget, mput, mclock, ksOK, keq, mres, fillA, isArrD, arrE, Nat.reduceMul, Int.natCast_zero]; try simp (disch := omega) only [wrapI64, Int.toNat_natCast, ← Int.natCast_add, nat_add_one, nat_add_two, take_drop_all, List.drop_zero, Nat.sub_zero, Nat.add_sub_cancel_left]), rfl, rfl⟩ ?_
  · simp only [decide_true, List.drop_zero, Nat.zero_add]
    split
    · rename_i h; exact long_none _ _ h
    · rfl
  generalize long true l = R
  rintro i ⟨hi, hall⟩
  have hdl : (l.drop i).length = l.length - i := List.length_drop
  have hg : ∀ j, (l.drop i).getD j 0 = l.getD (i + j) 0 := fun j => by simp [List.getD]
  by_cases h : (i : Int) < l.length
  · (simp only [h, (vm1), (vm2), (vm3), (vm4), aDet, ev, tget, tput, ofC, ofC1, pureR, condR, abin, aun, alen, gslot, Nat.reduceEqDiff, reduceIte, argTs, asliceS, asliceL, bnd, boolV, intV, retQ, aRes, aResV, oneAV, AV.low, AV.low.lows, Nat.reduceAdd, isStringD, isSliceD, isBoolD, setRange, AV.cells, AV.isCell, AV.isAgg, abytes, aconv, aeq, isConst, isByteD, isIfaceD, endQ, Int.reduceToNat, Int.reduceLE, Int.reduceLT, Int.reduceEq, Int.reduceNe, Int.reduceAdd, Int.reduceSub, Int.reduceNeg, Nat.reduceLT, Nat.reduceLeDiff, Ent.ver, Ent.imm, Ent.ty, lits, isEl, newCells, aappend, Nat.reduceBEq, fill, undef, (st1), (st2), (st3), (st4), (st5), (st6), (st7), (st8), aMap, mget, mput, mclock, ksOK, keq, mres, fillA, isArrD, arrE, Nat.reduceMul]; try simp (disch := omega) only [wrapI64, Int.toNat_natCast, ← Int.natCast_add, nat_add_one, nat_add_two, take_drop_all, List.drop_zero, Nat.sub_zero, Nat.add_sub_cancel_left])
    refine ⟨by omega, ?_⟩
    refine xWait.go (word_ok _ (by omega) _) ?_
    have hw := word_le (l.drop i)
    have e := long.eq_def (decide (i = 0)) (l.drop i)
    rw [if_neg (by omega), hg, hg, Nat.add_zero, hdl] at e
    (simp only [(vm1), (vm2), (vm3), (vm4), aDet, ev, tget, tput, ofC, ofC1, pureR, condR, abin, aun, alen, gslot, Nat.reduceEqDiff, reduceIte, argTs, asliceS, asliceL, bnd, boolV, intV, retQ, aRes, aResV, oneAV, AV.low, AV.low.lows, Nat.reduceAdd, isStringD, isSliceD, isBoolD, setRange, AV.cells, AV.isCell, AV.isAgg, abytes, aconv, aeq, isConst, isByteD, isIfaceD, endQ, Int.reduceToNat, Int.reduceLE, Int.reduceLT, Int.reduceEq, Int.reduceNe, Int.reduceAdd, Int.reduceSub, Int.reduceNeg, Nat.reduceLT, Nat.reduceLeDiff, Ent.ver, Ent.imm, Ent.ty, lits, isEl, newCells, aappend, Nat.reduceBEq, fill, undef, (st1), (st2), (st3), (st4), (st5), (st6), (st7), (st8), aMap, mget, mput, mclock, ksOK, keq, mres, fillA, isArrD, arrE, Nat.reduceMul]; try simp (disch := omega) only [wrapI64, Int.toNat_natCast, ← Int.natCast_add, nat_add_one, nat_add_two, take_drop_all, List.drop_zero, Nat.sub_zero, Nat.add_sub_cancel_left])
    refine ⟨by omega, ?_⟩
    refine xWait.go (between_ok _ _ _ _) ?_
    cases h1 : btw 97 (l.getD i 0).toNat 122
    · rw [if_neg (by rw [h1]; simp)] at e
      (simp only [(vm1), (vm2), (vm3), (vm4), aDet, ev, tget, tput, ofC, ofC1, pureR, condR, abin, aun, alen, gslot, Nat.reduceEqDiff, reduceIte, argTs, asliceS, asliceL, bnd, boolV, intV, retQ, aRes, aResV, oneAV, AV.low, AV.low.lows, Nat.reduceAdd, isStringD, isSliceD, isBoolD, setRange, AV.cells, AV.isCell, AV.isAgg, abytes, aconv, aeq, isConst, isByteD, isIfaceD, endQ, Int.reduceToNat, Int.reduceLE, Int.reduceLT, Int.reduceEq, Int.reduceNe, Int.reduceAdd, Int.reduceSub, Int.reduceNeg, Nat.reduceLT, Nat.reduceLeDiff, Ent.ver, Ent.imm, Ent.ty, lits, isEl, newCells, aappend, Nat.reduceBEq, fill, undef, (st1), (st2), (st3), (st4), (st5), (st6), (st7), (st8), aMap, mget, mput, mclock, ksOK, keq, mres, fillA, isArrD, arrE, Nat.reduceMul]; try simp (disch := omega) only [wrapI64, Int.toNat_natCast, ← Int.natCast_add, nat_add_one, nat_add_two, take_drop_all, List.drop_zero, Nat.sub_zero, Nat.add_sub_cancel_left])
      refine ⟨by omega, ?_⟩
      refine xWait.go (between_ok _ _ _ _) ?_
      cases h2 : btw 65 (l.getD i 0).toNat 90
      · rw [if_neg (by rw [h2]; simp)] at e
        rw [e] at hall
        (simp only [(vm1), (vm2), (vm3), (vm4), aDet, ev, tget, tput, ofC, ofC1, pureR, condR, abin, aun, alen, gslot, Nat.reduceEqDiff, reduceIte, argTs, asliceS, asliceL, bnd, boolV, intV, retQ, aRes, aResV, oneAV, AV.low, AV.low.lows, Nat.reduceAdd, isStringD, isSliceD, isBoolD, setRange, AV.cells, AV.isCell, AV.isAgg, abytes, aconv, aeq, isConst, isByteD, isIfaceD, endQ, Int.reduceToNat, Int.reduceLE, Int.reduceLT, Int.reduceEq, Int.reduceNe, Int.reduceAdd, Int.reduceSub, Int.reduceNeg, Nat.reduceLT, Nat.reduceLeDiff, Ent.ver, Ent.imm, Ent.ty, lits, isEl, newCells, aappend, Nat.reduceBEq, fill, undef, (st1), (st2), (st3), (st4), (st5), (st6), (st7), (st8), aMap, mget, mput, mclock, ksOK, keq, mres, fillA, isArrD, arrE, Nat.reduceMul]; try simp (disch := omega) only [wrapI64, Int.toNat_natCast, ← Int.natCast_add, nat_add_one, nat_add_two, take_drop_all, List.drop_zero, Nat.sub_zero, Nat.add_sub_cancel_left])
        rw [hall]; rfl
      · rw [if_pos h2] at e
        (simp only [(vm1), (vm2), (vm3), (vm4), aDet, ev, tget, tput, ofC, ofC1, pureR, condR, abin, aun, alen, gslot, Nat.reduceEqDiff, reduceIte, argTs, asliceS, asliceL, bnd, boolV, intV, retQ, aRes, aResV, oneAV, AV.low, AV.low.lows, Nat.reduceAdd, isStringD, isSliceD, isBoolD, setRange, AV.cells, AV.isCell, AV.isAgg, abytes, aconv, aeq, isConst, isByteD, isIfaceD, endQ, Int.reduceToNat, Int.reduceLE, Int.reduceLT, Int.reduceEq, Int.reduceNe, Int.reduceAdd, Int.reduceSub, Int.reduceNeg, Nat.reduceLT, Nat.reduceLeDiff, Ent.ver, Ent.imm, Ent.ty, lits, isEl, newCells, aappend, Nat.reduceBEq, fill, undef, (st1), (st2), (st3), (st4), (st5), (st6), (st7), (st8), aMap, mget, mput, mclock, ksOK, keq, mres, fillA, isArrD, arrE, Nat.reduceMul]; try simp (disch := omega) only [wrapI64, Int.toNat_natCast, ← Int.natCast_add, nat_add_one, nat_add_two, take_drop_all, List.drop_zero, Nat.sub_zero, Nat.add_sub_cancel_left])
        by_cases h3 : ((i + word (l.drop i) : Nat) : Int) = l.length
        · rw [if_pos (.inl (by omega))] at e
          rw [e, if_neg (by simp [kCon])] at hall
          (simp only [h3, (vm1), (vm2), (vm3), (vm4), aDet, ev, tget, tput, ofC, ofC1, pureR, condR, abin, aun, alen, gslot, Nat.reduceEqDiff, reduceIte, argTs, asliceS, asliceL, bnd, boolV, intV, retQ, aRes, aResV, oneAV, AV.low, AV.low.lows, Nat.reduceAdd, isStringD, isSliceD, isBoolD, setRange, AV.cells, AV.isCell, AV.isAgg, abytes, aconv, aeq, isConst, isByteD, isIfaceD, endQ, Int.reduceToNat, Int.reduceLE, Int.reduceLT, Int.reduceEq, Int.reduceNe, Int.reduceAdd, Int.reduceSub, Int.reduceNeg, Nat.reduceLT, Nat.reduceLeDiff, Ent.ver, Ent.imm, Ent.ty, lits, isEl, newCells, aappend, Nat.reduceBEq, fill, undef, (st1), (st2), (st3), (st4), (st5), (st6), (st7), (st8), aMap, mget, mput, mclock, ksOK, keq, mres, fillA, isArrD, arrE, Nat.reduceMul]; try simp (disch := omega) only [wrapI64, Int.toNat_natCast, ← Int.natCast_add, nat_add_one, nat_add_two, take_drop_all, List.drop_zero, Nat.sub_zero, Nat.add_sub_cancel_left])
          rw [hall, ← h3]; rfl
        · (simp only [h3, (vm1), (vm2), (vm3), (vm4), aDet, ev, tget, tput, ofC, ofC1, pureR, condR, abin, aun, alen, gslot, Nat.reduceEqDiff, reduceIte, argTs, asliceS, asliceL, bnd, boolV, intV, retQ, aRes, aResV, oneAV, AV.low, AV.low.lows, Nat.reduceAdd, isStringD, isSliceD, isBoolD, setRange, AV.cells, AV.isCell, AV.isAgg, abytes, aconv, aeq, isConst, isByteD, isIfaceD, endQ, Int.reduceToNat, Int.reduceLE, Int.reduceLT, Int.reduceEq, Int.reduceNe, Int.reduceAdd, Int.reduceSub, Int.reduceNeg, Nat.reduceLT, Nat.reduceLeDiff, Ent.ver, Ent.imm, Ent.ty, lits, isEl, newCells, aappend, Nat.reduceBEq, fill, undef, (st1), (st2), (st3), (st4), (st5), (st6), (st7), (st8), aMap, mget, mput, mclock, ksOK, keq, mres, fillA, isArrD, arrE, Nat.reduceMul]; try simp (disch := omega) only [wrapI64, Int.toNat_natCast, ← Int.natCast_add, nat_add_one, nat_add_two, take_drop_all, List.drop_zero, Nat.sub_zero, Nat.add_sub_cancel_left])
          (simp only [(vm1), (vm2), (vm3), (vm4), aDet, ev, tget, tput, ofC, ofC1, pureR, condR, abin, aun, alen, gslot, Nat.reduceEqDiff, reduceIte, argTs, asliceS, asliceL, bnd, boolV, intV, retQ, aRes, aResV, oneAV, AV.low, AV.low.lows, Nat.reduceAdd, isStringD, isSliceD, isBoolD, setRange, AV.cells, AV.isCell, AV.isAgg, abytes, aconv, aeq, isConst, isByteD, isIfaceD, endQ, Int.reduceToNat, Int.reduceLE, Int.reduceLT, Int.reduceEq, Int.reduceNe, Int.reduceAdd, Int.reduceSub, Int.reduceNeg, Nat.reduceLT, Nat.reduceLeDiff, Ent.ver, Ent.imm, Ent.ty, lits, isEl, newCells, aappend, Nat.reduceBEq, fill, undef, (st1), (st2), (st3), (st4), (st5), (st6), (st7), (st8), aMap, mget, mput, mclock, ksOK, keq, mres, fillA, isArrD, arrE, Nat.reduceMul]; try simp (disch := omega) only [wrapI64, Int.toNat_natCast, ← Int.natCast_add, nat_add_one, nat_add_two, take_drop_all, List.drop_zero, Nat.sub_zero, Nat.add_sub_cancel_left])
          refine ⟨by omega, ?_⟩
          by_cases h5 : ((l.getD (i + word (l.drop i)) 0).toNat : Int) = 46
          · rw [if_neg (by omega)] at e
            (simp only [h5, (vm1), (vm2), (vm3), (vm4), aDet, ev, tget, tput, ofC, ofC1, pureR, condR, abin, aun, alen, gslot, Nat.reduceEqDiff, reduceIte, argTs, asliceS, asliceL, bnd, boolV, intV, retQ, aRes, aResV, oneAV, AV.low, AV.low.lows, Nat.reduceAdd, isStringD, isSliceD, isBoolD, setRange, AV.cells, AV.isCell, AV.isAgg, abytes, aconv, aeq, isConst, isByteD, isIfaceD, endQ, Int.reduceToNat, Int.reduceLE, Int.reduceLT, Int.reduceEq, Int.reduceNe, Int.reduceAdd, Int.reduceSub, Int.reduceNeg, Nat.reduceLT, Nat.reduceLeDiff, Ent.ver, Ent.imm, Ent.ty, lits, isEl, newCells, aappend, Nat.reduceBEq, fill, undef, (st1), (st2), (st3), (st4), (st5), (st6), (st7), (st8), aMap, mget, mput, mclock, ksOK, keq, mres, fillA, isArrD, arrE, Nat.reduceMul]; try simp (disch := omega) only [wrapI64, Int.toNat_natCast, ← Int.natCast_add, nat_add_one, nat_add_two, take_drop_all, List.drop_zero, Nat.sub_zero, Nat.add_sub_cancel_left])
            refine ⟨i + (word (l.drop i) + 1), ⟨by omega, ?_⟩, by omega, rfl⟩
            rw [e] at hall
            rw [hall, List.drop_drop]
            have : i + (word (l.drop i) + 1) ≠ 0 := by omega
            simp only [this, decide_false]
            by_cases h6 : (long false (l.drop (i + (word (l.drop i) + 1)))).2 = []
            · simp [h6]
            · simp [h6]; omega
          · rw [if_pos (.inr (by omega))] at e
            rw [e, if_neg (by simp [kCon])] at hall
            (simp only [h5, (vm1), (vm2), (vm3), (vm4), aDet, ev, tget, tput, ofC, ofC1, pureR, condR, abin, aun, alen, gslot, Nat.reduceEqDiff, reduceIte, argTs, asliceS, asliceL, bnd, boolV, intV, retQ, aRes, aResV, oneAV, AV.low, AV.low.lows, Nat.reduceAdd, isStringD, isSliceD, isBoolD, setRange, AV.cells, AV.isCell, AV.isAgg, abytes, aconv, aeq, isConst, isByteD, isIfaceD, endQ, Int.reduceToNat, Int.reduceLE, Int.reduceLT, Int.reduceEq, Int.reduceNe, Int.reduceAdd, Int.reduceSub, Int.reduceNeg, Nat.reduceLT, Nat.reduceLeDiff, Ent.ver, Ent.imm, Ent.ty, lits, isEl, newCells, aappend, Nat.reduceBEq, fill, undef, (st1), (st2), (st3), (st4), (st5), (st6), (st7), (st8), aMap, mget, mput, mclock, ksOK, keq, mres, fillA, isArrD, arrE, Nat.reduceMul]; try simp (disch := omega) only [wrapI64, Int.toNat_natCast, ← Int.natCast_add, nat_add_one, nat_add_two, take_drop_all, List.drop_zero, Nat.sub_zero, Nat.add_sub_cancel_left])
            rw [hall]; rfl
    · rw [if_pos h1] at e
      (simp only [(vm1), (vm2), (vm3), (vm4), aDet, ev, tget, tput, ofC, ofC1, pureR, condR, abin, aun, alen, gslot, Nat.reduceEqDiff, reduceIte, argTs, asliceS, asliceL, bnd, boolV, intV, retQ, aRes, aResV, oneAV, AV.low, AV.low.lows, Nat.reduceAdd, isStringD, isSliceD, isBoolD, setRange, AV.cells, AV.isCell, AV.isAgg, abytes, aconv, aeq, isConst, isByteD, isIfaceD, endQ, Int.reduceToNat, Int.reduceLE, Int.reduceLT, Int.reduceEq, Int.reduceNe, Int.reduceAdd, Int.reduceSub, Int.reduceNeg, Nat.reduceLT, Nat.reduceLeDiff, Ent.ver, Ent.imm, Ent.ty, lits, isEl, newCells, aappend, Nat.reduceBEq, fill, undef, (st1), (st2), (st3), (st4), (st5), (st6), (st7), (st8), aMap, mget, mput, mclock, ksOK, keq, mres, fillA, isArrD, arrE, Nat.reduceMul]; try simp (disch := omega) only [wrapI64, Int.toNat_natCast, ← Int.natCast_add, nat_add_one, nat_add_two, take_drop_all, List.drop_zero, Nat.sub_zero, Nat.add_sub_cancel_left])
      by_cases h3 : (i : Int) = 0
      · (simp only [h3, (vm1), (vm2), (vm3), (vm4), aDet, ev, tget, tput, ofC, ofC1, pureR, condR, abin, aun, alen, gslot, Nat.reduceEqDiff, reduceIte, argTs, asliceS, asliceL, bnd, boolV, intV, retQ, aRes, aResV, oneAV, AV.low, AV.low.lows, Nat.reduceAdd, isStringD, isSliceD, isBoolD, setRange, AV.cells, AV.isCell, AV.isAgg, abytes, aconv, aeq, isConst, isByteD, isIfaceD, endQ, Int.reduceToNat, Int.reduceLE, Int.reduceLT, Int.reduceEq, Int.reduceNe, Int.reduceAdd, Int.reduceSub, Int.reduceNeg, Nat.reduceLT, Nat.reduceLeDiff, Ent.ver, Ent.imm, Ent.ty, lits, isEl, newCells, aappend, Nat.reduceBEq, fill, undef, (st1), (st2), (st3), (st4), (st5), (st6), (st7), (st8), aMap, mget, mput, mclock, ksOK, keq, mres, fillA, isArrD, arrE, Nat.reduceMul]; try simp (disch := omega) only [wrapI64, Int.toNat_natCast, ← Int.natCast_add, nat_add_one, nat_add_two, take_drop_all, List.drop_zero, Nat.sub_zero, Nat.add_sub_cancel_left])
        have hi0 : i = 0 := by omega
        subst hi0
        refine ⟨by omega, ?_⟩
        refine xWait.go (isKey_ok _ (by simp; omega) _) ?_
        simp only [List.drop_zero] at e hall hw
        by_cases h4 : l.take (word l) ∈ keys
        · rw [if_pos (by simpa using h4)] at e
          rw [e, if_neg (by simp [kKey])] at hall
          (simp only [h4, (vm1), (vm2), (vm3), (vm4), aDet, ev, tget, tput, ofC, ofC1, pureR, condR, abin, aun, alen, gslot, Nat.reduceEqDiff, reduceIte, argTs, asliceS, asliceL, bnd, boolV, intV, retQ, aRes, aResV, oneAV, AV.low, AV.low.lows, Nat.reduceAdd, isStringD, isSliceD, isBoolD, setRange, AV.cells, AV.isCell, AV.isAgg, abytes, aconv, aeq, isConst, isByteD, isIfaceD, endQ, Int.reduceToNat, Int.reduceLE, Int.reduceLT, Int.reduceEq, Int.reduceNe, Int.reduceAdd, Int.reduceSub, Int.reduceNeg, Nat.reduceLT, Nat.reduceLeDiff, Ent.ver, Ent.imm, Ent.ty, lits, isEl, newCells, aappend, Nat.reduceBEq, fill, undef, (st1), (st2), (st3), (st4), (st5), (st6), (st7), (st8), aMap, mget, mput, mclock, ksOK, keq, mres, fillA, isArrD, arrE, Nat.reduceMul]; try simp (disch := omega) only [wrapI64, Int.toNat_natCast, ← Int.natCast_add, nat_add_one, nat_add_two, take_drop_all, List.drop_zero, Nat.sub_zero, Nat.add_sub_cancel_left])
          rw [hall, Nat.zero_add]; rfl
        · rw [if_neg (by simpa using h4)] at e
          rw [e, if_neg (by simp [kName])] at hall
          (simp only [h4, (vm1), (vm2), (vm3), (vm4), aDet, ev, tget, tput, ofC, ofC1, pureR, condR, abin, aun, alen, gslot, Nat.reduceEqDiff, reduceIte, argTs, asliceS, asliceL, bnd, boolV, intV, retQ, aRes, aResV, oneAV, AV.low, AV.low.lows, Nat.reduceAdd, isStringD, isSliceD, isBoolD, setRange, AV.cells, AV.isCell, AV.isAgg, abytes, aconv, aeq, isConst, isByteD, isIfaceD, endQ, Int.reduceToNat, Int.reduceLE, Int.reduceLT, Int.reduceEq, Int.reduceNe, Int.reduceAdd, Int.reduceSub, Int.reduceNeg, Nat.reduceLT, Nat.reduceLeDiff, Ent.ver, Ent.imm, Ent.ty, lits, isEl, newCells, aappend, Nat.reduceBEq, fill, undef, (st1), (st2), (st3), (st4), (st5), (st6), (st7), (st8), aMap, mget, mput, mclock, ksOK, keq, mres, fillA, isArrD, arrE, Nat.reduceMul]; try simp (disch := omega) only [wrapI64, Int.toNat_natCast, ← Int.natCast_add, nat_add_one, nat_add_two, take_drop_all, List.drop_zero, Nat.sub_zero, Nat.add_sub_cancel_left])
          rw [hall, Nat.zero_add]; rfl
      · (simp only [h3, (vm1), (vm2), (vm3), (vm4), aDet, ev, tget, tput, ofC, ofC1, pureR, condR, abin, aun, alen, gslot, Nat.reduceEqDiff, reduceIte, argTs, asliceS, asliceL, bnd, boolV, intV, retQ, aRes, aResV, oneAV, AV.low, AV.low.lows, Nat.reduceAdd, isStringD, isSliceD, isBoolD, setRange, AV.cells, AV.isCell, AV.isAgg, abytes, aconv, aeq, isConst, isByteD, isIfaceD, endQ, Int.reduceToNat, Int.reduceLE, Int.reduceLT, Int.reduceEq, Int.reduceNe, Int.reduceAdd, Int.reduceSub, Int.reduceNeg, Nat.reduceLT, Nat.reduceLeDiff, Ent.ver, Ent.imm, Ent.ty, lits, isEl, newCells, aappend, Nat.reduceBEq, fill, undef, (st1), (st2), (st3), (st4), (st5), (st6), (st7), (st8), aMap, mget, mput, mclock, ksOK, keq, mres, fillA, isArrD, arrE, Nat.reduceMul]; try simp (disch := omega) only [wrapI64, Int.toNat_natCast, ← Int.natCast_add, nat_add_one, nat_add_two, take_drop_all, List.drop_zero, Nat.sub_zero, Nat.add_sub_cancel_left])
        have : i ≠ 0 := by omega
        simp only [this, decide_false] at e hall
        rw [if_neg (by simp)] at e
        rw [e, if_neg (by simp [kName])] at hall
        rw [hall]; rfl
  · have : i = l.length := by omega
    (simp only [h, (vm1), (vm2), (vm3), (vm4), aDet, ev, tget, tput, ofC, ofC1, pureR, condR, abin, aun, alen, gslot, Nat.reduceEqDiff, reduceIte, argTs, asliceS, asliceL, bnd, boolV, intV, retQ, aRes, aResV, oneAV, AV.low, AV.low.lows, Nat.reduceAdd, isStringD, isSliceD, isBoolD, setRange, AV.cells, AV.isCell, AV.isAgg, abytes, aconv, aeq, isConst, isByteD, isIfaceD, endQ, Int.reduceToNat, Int.reduceLE, Int.reduceLT, Int.reduceEq, Int.reduceNe, Int.reduceAdd, Int.reduceSub, Int.reduceNeg, Nat.reduceLT, Nat.reduceLeDiff, Ent.ver, Ent.imm, Ent.ty, lits, isEl, newCells, aappend, Nat.reduceBEq, fill, undef, (st1), (st2), (st3), (st4), (st5), (st6), (st7), (st8), aMap, mget, mput, mclock, ksOK, keq, mres, fillA, isArrD, arrE, Nat.reduceMul]; try simp (disch := omega) only [wrapI64, Int.toNat_natCast, ← Int.natCast_add, nat_add_one, nat_add_two, take_drop_all, List.drop_zero, Nat.sub_zero, Nat.add_sub_cancel_left])
    rw [this, List.drop_length, long] at hall
    simp at hall
    rw [hall]; rfl
end Go.D
