/- What is told of the types and of what functions hand back, as few. -/
import Derived.Test.YtcgcmehohibnoaaGreatDoorFnB
import Derived.Test.YtcgcmehohibnoaaGreatDoorVmE
import Derived.Test.YtcgcmehohibnoaaGreatDoorFnA
import Derived.Test.YtcgcmehohibnoaaGreatDoorShelf
import Derived.WalkSmall
import Derived.Lib.SmallJoins
import Derived.Lib.RowBridge
set_option linter.defProp false
namespace Go.D
open Go Go.Vm Go.Proofs
def st1 := And.intro (And.intro (And.intro (And.intro (And.intro (And.intro (@tab_1) (@tab_2)) (And.intro (@tab_3) (@tab_4))) (And.intro (And.intro (@tab_5) (@tab_6)) (And.intro (@tab_7) (@tab_8)))) (And.intro (And.intro (And.intro (@tab_9) (@tab_10)) (And.intro (@tab_11) (@tab_12))) (And.intro (And.intro (@tab_13) (@tab_14)) (And.intro (@tab_15) (And.intro (@tab_16) (@tab_17)))))) (And.intro (And.intro (And.intro (And.intro (@tab_18) (@tab_19)) (And.intro (@tab_20) (@tab_21))) (And.intro (And.intro (@tab_22) (@tab_23)) (And.intro (@tab_25) (And.intro (@tab_26) (@tab_27))))) (And.intro (And.intro (And.intro (@tab_28) (@tab_29)) (And.intro (@tab_30) (@tab_31))) (And.intro (And.intro (@tab_32) (@tab_34)) (And.intro (@tab_35) (And.intro (@tab_36) (@tab_37))))))) (And.intro (And.intro (And.intro (And.intro (And.intro (@tab_38) (@tab_40)) (And.intro (@tab_41) (@tab_42))) (And.intro (And.intro (@tab_43) (@tab_44)) (And.intro (@tab_45) (@tab_46)))) (And.intro (And.intro (And.intro (@tab_47) (@tab_48)) (And.intro (@tab_49) (@tab_50))) (And.intro (And.intro (@tab_51) (@tab_52)) (And.intro (@tab_53) (And.intro (@tab_54) (@tab_55)))))) (And.intro (And.intro (And.intro (And.intro (@tab_57) (@tab_58)) (And.intro (@tab_59) (@tab_60))) (And.intro (And.intro (@tab_61) (@tab_62)) (And.intro (@tab_64) (And.intro (@tab_65) (@tab_66))))) (And.intro (And.intro (And.intro (@tab_67) (@tab_68)) (And.intro (@tab_69) (@tab_70))) (And.intro (And.intro (@tab_71) (@tab_72)) (And.intro (@tab_73) (And.intro (@tab_74) (@tab_76)))))))
def st2 := And.intro (And.intro (And.intro (And.intro (And.intro (And.intro (@tab_77) (@tab_78)) (And.intro (@tab_79) (@tab_80))) (And.intro (And.intro (@tab_81) (@tab_82)) (And.intro (@tab_83) (@tab_84)))) (And.intro (And.intro (And.intro (@tab_85) (@tab_86)) (And.intro (@tab_87) (@tab_88))) (And.intro (And.intro (@tab_89) (@tab_90)) (And.intro (@tab_92) (And.intro (@tab_93) (@tab_94)))))) (And.intro (And.intro (And.intro (And.intro (@tab_95) (@tab_96)) (And.intro (@tab_97) (@tab_98))) (And.intro (And.intro (@tab_99) (@tab_100)) (And.intro (@tab_101) (And.intro (@tab_102) (@tab_103))))) (And.intro (And.intro (And.intro (@tab_104) (@tab_105)) (And.intro (@tab_106) (@tab_109))) (And.intro (And.intro (@tab_110) (@tab_111)) (And.intro (@tab_112) (And.intro (@tab_113) (@tab_114))))))) (And.intro (And.intro (And.intro (And.intro (And.intro (@tab_115) (@tab_116)) (And.intro (@tab_118) (@tab_119))) (And.intro (And.intro (@tab_120) (@tab_122)) (And.intro (@tab_123) (@tab_124)))) (And.intro (And.intro (And.intro (@tab_125) (@tab_126)) (And.intro (@tab_127) (@tab_128))) (And.intro (And.intro (@tab_129) (@tab_130)) (And.intro (@tab_131) (And.intro (@tab_132) (@tab_134)))))) (And.intro (And.intro (And.intro (And.intro (@tab_135) (@tab_139)) (And.intro (@tab_140) (@tab_141))) (And.intro (And.intro (@tab_142) (@tab_143)) (And.intro (@tab_144) (And.intro (@tab_145) (@tab_146))))) (And.intro (And.intro (And.intro (@tab_147) (@tab_148)) (And.intro (@tab_149) (@tab_150))) (And.intro (And.intro (@tab_151) (@tab_153)) (And.intro (@tab_154) (And.intro (@tab_155) (@tab_156)))))))
def st3 := And.intro (And.intro (And.intro (And.intro (And.intro (And.intro (@tab_157) (@tab_158)) (And.intro (@tab_159) (@tab_160))) (And.intro (And.intro (@tab_161) (@tab_162)) (And.intro (@tab_163) (@tab_165)))) (And.intro (And.intro (And.intro (@tab_166) (@tab_167)) (And.intro (@tab_168) (@tab_170))) (And.intro (And.intro (@tab_171) (@tab_172)) (And.intro (@tab_173) (And.intro (@tab_174) (@tab_175)))))) (And.intro (And.intro (And.intro (And.intro (@tab_176) (@tab_177)) (And.intro (@tab_178) (@tab_179))) (And.intro (And.intro (@tab_181) (@tab_182)) (And.intro (@tab_183) (And.intro (@tab_184) (@tab_185))))) (And.intro (And.intro (And.intro (@tab_186) (@tab_187)) (And.intro (@tab_188) (@tab_189))) (And.intro (And.intro (@tab_190) (@tab_191)) (And.intro (@tab_193) (And.intro (@tab_194) (@tab_195))))))) (And.intro (And.intro (And.intro (And.intro (And.intro (@tab_196) (@tab_197)) (And.intro (@tab_198) (@tab_199))) (And.intro (And.intro (@tab_200) (@tab_201)) (And.intro (@tab_202) (@tab_203)))) (And.intro (And.intro (And.intro (@tab_204) (@tab_205)) (And.intro (@tab_206) (@tab_207))) (And.intro (And.intro (@tab_208) (@tab_209)) (And.intro (@tab_210) (And.intro (@tab_211) (@tab_212)))))) (And.intro (And.intro (And.intro (And.intro (@tab_213) (@tab_214)) (And.intro (@tab_215) (@tab_216))) (And.intro (And.intro (@tab_217) (@tab_218)) (And.intro (@tab_219) (And.intro (@tab_220) (@tab_221))))) (And.intro (And.intro (And.intro (@tab_222) (@tab_224)) (And.intro (@tab_225) (@tab_226))) (And.intro (And.intro (@tab_227) (@tab_229)) (And.intro (@tab_230) (And.intro (@tab_231) (@tab_235)))))))
def st4 := And.intro (And.intro (@tab_236) (And.intro (@tab_237) (@tab_238))) (And.intro (@tab_239) (And.intro (@tab_240) (@tab_241)))
def st5 := And.intro (And.intro (And.intro (And.intro (And.intro (And.intro (@Tryz.results0) (@Tryz.results1)) (And.intro (@Tryz.results2) (And.intro (@Tryz.results3) (@Tryz.results4)))) (And.intro (And.intro (@Tryz.results5) (@Tryz.results6)) (And.intro (@Tryz.results7) (And.intro (@Tryz.results8) (@Tryz.results9))))) (And.intro (And.intro (And.intro (@Tryz.results10) (@Tryz.results11)) (And.intro (@Tryz.results12) (And.intro (@Tryz.results13) (@Tryz.results14)))) (And.intro (And.intro (@Tryz.results15) (@Tryz.results16)) (And.intro (@Tryz.results17) (And.intro (@Tryz.results18) (@Tryz.results19)))))) (And.intro (And.intro (And.intro (And.intro (@Tryz.results20) (@Tryz.results21)) (And.intro (@Tryz.results22) (And.intro (@Tryz.results23) (@Tryz.results24)))) (And.intro (And.intro (@Tryz.results25) (@Tryz.results26)) (And.intro (@Tryz.results27) (And.intro (@Tryz.results28) (@Tryz.results29))))) (And.intro (And.intro (And.intro (@Tryz.results30) (@Tryz.results31)) (And.intro (@Tryz.results32) (And.intro (@Tryz.results33) (@Tryz.results34)))) (And.intro (And.intro (@Tryz.results35) (@Tryz.results36)) (And.intro (@Tryz.results37) (And.intro (@Tryz.results38) (@Tryz.results39))))))) (And.intro (And.intro (And.intro (And.intro (And.intro (@Tryz.results40) (@Tryz.results41)) (And.intro (@Tryz.results42) (And.intro (@Tryz.results43) (@Tryz.results44)))) (And.intro (And.intro (@Tryz.results45) (@Tryz.results46)) (And.intro (@Tryz.results47) (And.intro (@Tryz.results48) (@Tryz.results49))))) (And.intro (And.intro (And.intro (@Tryz.results50) (@Tryz.results51)) (And.intro (@Tryz.results52) (And.intro (@Tryz.results53) (@Tryz.results54)))) (And.intro (And.intro (@Tryz.results55) (@Tryz.results56)) (And.intro (@Tryz.results57) (And.intro (@Tryz.results58) (@Tryz.results59)))))) (And.intro (And.intro (And.intro (And.intro (@Tryz.results60) (@Tryz.results61)) (And.intro (@Tryz.results62) (And.intro (@Tryz.results63) (@Tryz.results64)))) (And.intro (And.intro (@Tryz.results65) (@Tryz.results66)) (And.intro (@Tryz.results67) (And.intro (@Tryz.results68) (@Tryz.results69))))) (And.intro (And.intro (And.intro (@Tryz.results70) (@Tryz.results71)) (And.intro (@Tryz.results72) (And.intro (@Tryz.results73) (@Tryz.results74)))) (And.intro (And.intro (@Tryz.results75) (@Tryz.results76)) (And.intro (@Tryz.results77) (And.intro (@Tryz.results78) (@Tryz.results79)))))))
def st6 := And.intro (And.intro (And.intro (And.intro (And.intro (And.intro (@Tryz.results80) (@Tryz.results81)) (And.intro (@Tryz.results82) (And.intro (@Tryz.results83) (@Tryz.results84)))) (And.intro (And.intro (@Tryz.results85) (@Tryz.results86)) (And.intro (@Tryz.results87) (And.intro (@Tryz.results88) (@Tryz.results89))))) (And.intro (And.intro (And.intro (@Tryz.results90) (@Tryz.results91)) (And.intro (@Tryz.results92) (And.intro (@Tryz.results93) (@Tryz.results94)))) (And.intro (And.intro (@Tryz.results95) (@Tryz.results96)) (And.intro (@Tryz.results97) (And.intro (@Tryz.results98) (@Tryz.results99)))))) (And.intro (And.intro (And.intro (And.intro (@Tryz.results100) (@Tryz.results101)) (And.intro (@Tryz.results102) (And.intro (@Tryz.results103) (@Tryz.results104)))) (And.intro (And.intro (@Tryz.results105) (@Tryz.results106)) (And.intro (@Tryz.results107) (And.intro (@Tryz.results108) (@Tryz.results109))))) (And.intro (And.intro (And.intro (@Tryz.results110) (@Tryz.results111)) (And.intro (@Tryz.results112) (And.intro (@Tryz.results113) (@Tryz.results114)))) (And.intro (And.intro (@Tryz.results115) (@Tryz.results116)) (And.intro (@Tryz.results117) (And.intro (@Tryz.results118) (@Tryz.results119))))))) (And.intro (And.intro (And.intro (And.intro (And.intro (@Tryz.results120) (@Tryz.results121)) (And.intro (@Tryz.results122) (And.intro (@Tryz.results123) (@Tryz.results124)))) (And.intro (And.intro (@Tryz.results125) (@Tryz.results126)) (And.intro (@Tryz.results127) (And.intro (@Tryz.results128) (@Tryz.results129))))) (And.intro (And.intro (And.intro (@Tryz.results130) (@Tryz.results131)) (And.intro (@Tryz.results132) (And.intro (@Tryz.results133) (@Tryz.results134)))) (And.intro (And.intro (@Tryz.results135) (@Tryz.results136)) (And.intro (@Tryz.results137) (And.intro (@Tryz.results138) (@Tryz.results139)))))) (And.intro (And.intro (And.intro (And.intro (@Tryz.results140) (@Tryz.results141)) (And.intro (@Tryz.results142) (And.intro (@Tryz.results143) (@Tryz.results144)))) (And.intro (And.intro (@Tryz.results145) (@Tryz.results146)) (And.intro (@Tryz.results147) (And.intro (@Tryz.results148) (@Tryz.results149))))) (And.intro (And.intro (And.intro (@Tryz.results150) (@Tryz.results151)) (And.intro (@Tryz.results152) (And.intro (@Tryz.results153) (@Tryz.results154)))) (And.intro (And.intro (@Tryz.results155) (@Tryz.results156)) (And.intro (@Tryz.results157) (And.intro (@Tryz.results158) (@Tryz.results159)))))))
def st7 := And.intro (And.intro (And.intro (And.intro (And.intro (And.intro (@Tryz.results160) (@Tryz.results161)) (And.intro (@Tryz.results162) (And.intro (@Tryz.results163) (@Tryz.results164)))) (And.intro (And.intro (@Tryz.results165) (@Tryz.results166)) (And.intro (@Tryz.results167) (And.intro (@Tryz.results168) (@Tryz.results169))))) (And.intro (And.intro (And.intro (@Tryz.results170) (@Tryz.results171)) (And.intro (@Tryz.results172) (And.intro (@Tryz.results173) (@Tryz.results174)))) (And.intro (And.intro (@Tryz.results175) (@Tryz.results176)) (And.intro (@Tryz.results177) (And.intro (@Tryz.results178) (@Tryz.results179)))))) (And.intro (And.intro (And.intro (And.intro (@Tryz.results180) (@Tryz.results181)) (And.intro (@Tryz.results182) (And.intro (@Tryz.results183) (@Tryz.results184)))) (And.intro (And.intro (@Tryz.results185) (@Tryz.results186)) (And.intro (@Tryz.results187) (And.intro (@Tryz.results188) (@Tryz.results189))))) (And.intro (And.intro (And.intro (@Tryz.results190) (@Tryz.results191)) (And.intro (@Tryz.results192) (And.intro (@Tryz.results193) (@Tryz.results194)))) (And.intro (And.intro (@Tryz.results195) (@Tryz.results196)) (And.intro (@Tryz.results197) (And.intro (@Tryz.results198) (@Tryz.results199))))))) (And.intro (And.intro (And.intro (And.intro (And.intro (@Tryz.results200) (@Tryz.results201)) (And.intro (@Tryz.results202) (And.intro (@Tryz.results203) (@Tryz.results204)))) (And.intro (And.intro (@Tryz.results205) (@Tryz.results206)) (And.intro (@Tryz.results207) (And.intro (@Tryz.results208) (@Tryz.results209))))) (And.intro (And.intro (And.intro (@Tryz.results210) (@Tryz.results211)) (And.intro (@Tryz.results212) (And.intro (@Tryz.results213) (@Tryz.results214)))) (And.intro (And.intro (@Tryz.results215) (@Tryz.results216)) (And.intro (@Tryz.results217) (And.intro (@Tryz.results218) (@Tryz.results219)))))) (And.intro (And.intro (And.intro (And.intro (@Tryz.results220) (@Tryz.results221)) (And.intro (@Tryz.results222) (And.intro (@Tryz.results223) (@Tryz.results224)))) (And.intro (And.intro (@Tryz.results225) (@Tryz.results226)) (And.intro (@Tryz.results227) (And.intro (@Tryz.results228) (@Tryz.results229))))) (And.intro (And.intro (And.intro (@Tryz.results230) (@Tryz.results231)) (And.intro (@Tryz.results232) (And.intro (@Tryz.results233) (@Tryz.results234)))) (And.intro (And.intro (@Tryz.results235) (@Tryz.results236)) (And.intro (@Tryz.results237) (And.intro (@Tryz.results238) (@Tryz.results239)))))))
def st8 := And.intro (And.intro (And.intro (@Tryz.results240) (And.intro (@Tryz.results241) (@Tryz.results242))) (And.intro (@Tryz.results243) (And.intro (@Tryz.results244) (@Tryz.results245)))) (And.intro (And.intro (@Tryz.results246) (And.intro (@Tryz.results247) (@Tryz.results248))) (And.intro (And.intro (@Tryz.results249) (@Tryz.results250)) (And.intro (@Tryz.results251) (@Tryz.results252))))
end Go.D

/- This seat's program: the environment, the library's contracts. -/
set_option linter.unusedVariables false
set_option linter.unusedSimpArgs false
set_option maxRecDepth 100000
namespace Go.D
open Go Go.Vm Go.Proofs Go.RowKit

/-- What the package-level variables hold. -/
def gam (B : Nat) (w : World) : Prop :=
  6 ≤ B ∧ (∃ m, w.cell? ⟨1, 0, none⟩ = some (.int .i64 m)) ∧ (∃ te pe, w.cell? ⟨3, 0, none⟩ = some (.iface te pe)) ∧ (∃ te pe, w.cell? ⟨4, 0, none⟩ = some (.iface te pe)) ∧
    Lib.TabIs Tryz.prog w "strings.asciiSpace" .u8 Lib.asciiSpaceTab ∧ Lib.TabIs Tryz.prog w "internal/strconv.uint64pow10" .u64 Lib.pow10Tab

theorem gam_stable (B : Nat) (w w' : World) (h : Below B w w') (hg : gam B w) : gam B w' := by
  obtain ⟨h0, ⟨m, h1⟩, ⟨te, pe, h2⟩, ⟨te', pe', h3⟩, h4, h5⟩ := hg
  refine ⟨h0, ⟨m, (h.cell (p := ⟨1, 0, none⟩) (by simp only; omega)).trans h1⟩, ⟨te, pe, (h.cell (p := ⟨3, 0, none⟩) (by simp only; omega)).trans h2⟩, ⟨te', pe', (h.cell (p := ⟨4, 0, none⟩) (by simp only; omega)).trans h3⟩, ?_, ?_⟩
  · exact var?_below h (g := 0) (by kernel_rfl) (by omega) h4
  · exact var?_below h (g := 5) (by kernel_rfl) (by omega) h5

noncomputable def E : Env := ⟨Tryz.prog, gam, gam_stable⟩
theorem T0 : TabOK E.P tab := tab_ok

abbrev u8 (n : Int) : AV := .v (.int .u8 n)
abbrev i64 (n : Int) : AV := .v (.int .i64 n)

theorem IndexByte_ok (l : List UInt8) (c : Int) (σ : List Ent) : ACalls E 105 [.str l, u8 c] σ fun r τ => r = i64 (Lib.indexByte l c.toNat.toUInt8) ∧ τ = σ := by
  refine acalls_lib ⟨_, Tryz.func105, by kernel_rfl, by kernel_rfl⟩ fun s vs hI hΓ hr => ?_
  obtain ⟨v, w, rfl, hv, hw⟩ := repL2 hr
  rw [rep_str hv, rep_v' hw]
  refine (Tryz.strings_IndexByte ⟨⟨l⟩⟩ c s.w).mono fun e w' ⟨h1, h2⟩ => ⟨_, h1, by rw [h2]; exact Below.refl _ _, by rw [h2]; exact rep_mk_v _ _⟩

theorem HasPrefix_ok (l p : List UInt8) (σ : List Ent) : ACalls E 103 [.str l, .str p] σ fun r τ => r = boolV (Lib.hasPrefix l p) ∧ τ = σ := by
  refine acalls_lib ⟨_, Tryz.func103, by kernel_rfl, by kernel_rfl⟩ fun s vs hI hΓ hr => ?_
  obtain ⟨v, w, rfl, hv, hw⟩ := repL2 hr
  rw [rep_str hv, rep_str hw]
  refine (Tryz.strings_HasPrefix ⟨⟨l⟩⟩ ⟨⟨p⟩⟩ s.w).mono fun e w' ⟨h1, h2⟩ => ⟨_, h1, by rw [h2]; exact Below.refl _ _, by rw [h2]; exact rep_mk_v _ _⟩

theorem Count_ok (l : List UInt8) (c : UInt8) (σ : List Ent) : ACalls E 209 [.str l, .str [c]] σ fun r τ => r = i64 (Lib.countByte l c) ∧ τ = σ := by
  refine acalls_lib ⟨_, Tryz.func209, by kernel_rfl, by kernel_rfl⟩ fun s vs hI hΓ hr => ?_
  obtain ⟨v, w, rfl, hv, hw⟩ := repL2 hr
  rw [rep_str hv, rep_str hw]
  refine (Tryz.strings_Count_one ⟨⟨l⟩⟩ c s.w).mono fun e w' ⟨h1, h2⟩ => ⟨_, h1, by rw [h2]; exact Below.refl _ _, by rw [h2]; exact rep_mk_v _ _⟩

theorem Fields_ok (l : List UInt8) (σ : List Ent) (hl : l.length < 4294967281) (ha : ∀ (j : Nat) b, l[j]? = some b → b.toNat < 128) :
    ACalls E 148 [.str l] σ fun r τ => r = .sl ((Lib.fields l).map .str) ∧ τ = σ := by
  refine acalls_lib ⟨_, Tryz.func148, by kernel_rfl, by kernel_rfl⟩ fun s vs hI hΓ hr => ?_
  obtain ⟨v, rfl, hv⟩ := repL1 hr
  rw [rep_str hv]
  refine (Tryz.strings_Fields_laid ⟨⟨l⟩⟩ s.w (by simpa [ByteArray.size] using hl) ha hΓ.2.2.2.2.1).mono fun e w' ⟨h1, h2⟩ => ⟨_, h1, by rw [h2]; exact below_alloc _ _, by rw [h2]; exact rep_mk_strs hI (Lib.fields l) 9⟩

theorem slicesContains_ok (ss : List (List UInt8)) (x : List UInt8) (σ : List Ent) (hl : ss.length ≤ 9223372036854775807) :
    ACalls E 147 [.sl (ss.map .str), .str x] σ fun r τ => r = boolV (decide (x ∈ ss)) ∧ τ = σ := by
  refine acalls_lib ⟨_, Tryz.func147, by kernel_rfl, by kernel_rfl⟩ fun s vs hI hΓ hr => ?_
  obtain ⟨v, w, rfl, hv, hw⟩ := repL2 hr
  obtain ⟨a, cap, rfl, hc, hh⟩ := strs_at hv
  rw [rep_str hw]
  rcases hh with rfl | ⟨blk, off, rfl, hcell⟩
  · refine (Tryz.slices_Contains_string_empty a cap ⟨⟨x⟩⟩ s.w).mono fun e w' ⟨h1, h2⟩ => ⟨_, h1, by rw [h2]; exact Below.refl _ _, by rw [h2]; exact rep_mk_v _ _⟩
  · refine (Tryz.slices_Contains_string blk off ss.length cap (ss.map fun l => ⟨⟨l⟩⟩) ⟨⟨x⟩⟩ s.w (by simp) hl (fun j hj => ?_)).mono fun e w' ⟨h1, h2⟩ => ⟨_, h1, by rw [h2]; exact Below.refl _ _, by
      have : Lib.containsS ((ss.map fun l => (⟨⟨l⟩⟩ : ByteArray)).take ss.length) ⟨⟨x⟩⟩ = decide (x ∈ ss) := by
        rw [List.take_of_length_le (by simp)]
        rw [Bool.eq_iff_iff, Lib.containsS_iff]
        simp
      rw [this]; exact rep_mk_v _ _⟩
    simp at hj
    rw [hcell j ss[j] (by simp [hj])]
    simp [hj]

theorem ParseInt_ok (l : List UInt8) (v : Int) (hl : l.length ≤ 281474976710656) (h : Lib.parseIntB 64 l = .ok v) (σ : List Ent) :
    ACalls E 164 [.str l, i64 10, i64 64] σ fun r τ => r = .tup [i64 v, .v .nilIface] ∧ τ = σ := by
  refine acalls_lib ⟨_, Tryz.func164, by kernel_rfl, by kernel_rfl⟩ fun s vs hI hΓ hr => ?_
  obtain ⟨x, y, z, rfl, hx, hy, hz⟩ := repL3 hr
  rw [rep_str hx, rep_v' hy, rep_v' hz]
  refine (Tryz.strconv_ParseInt_10_at64_ok ⟨⟨l⟩⟩ (by simp [ByteArray.size]; omega) v h s.w).mono fun e w' ⟨h1, h2⟩ => ⟨_, h1, ?_, rep_mk_tup2 (rep_mk_v _ _) (rep_mk_v _ _)⟩
  rcases h2 with rfl | ⟨t, rfl⟩
  · exact Below.refl _ _
  · exact Joins.below_bytesWorld _ _ _ _ (Nat.le_refl _)

/-- .. of a numeral that no int64 holds: an error. -/
theorem ParseInt_range (l : List UInt8) (hl : l.length ≤ 281474976710656) (h : Lib.parseIntB 64 l = .range) (σ : List Ent) :
    ACalls E 164 [.str l, i64 10, i64 64] σ fun r τ => (∃ x, r = .tup [i64 (Lib.intSat 64 l), .ifc 175 x]) ∧ τ = σ := by
  refine acalls_lib' (R := fun r => ∃ x, r = .tup [i64 (Lib.intSat 64 l), .ifc 175 x]) ⟨_, Tryz.func164, by kernel_rfl, by kernel_rfl⟩ fun s vs hI hΓ hr => ?_
  obtain ⟨x, y, z, rfl, hx, hy, hz⟩ := repL3 hr
  rw [rep_str hx, rep_v' hy, rep_v' hz]
  obtain ⟨te, pe, he⟩ := hΓ.2.2.2.1
  refine (Tryz.strconv_ParseInt_10_at64_range ⟨⟨l⟩⟩ (by simpa [ByteArray.size] using hl) h _ s.w he (.inr ⟨_, _, rfl⟩)).mono fun e w' ⟨N, h1, h2, h3, h4⟩ => ⟨_, .tup [i64 (Lib.intSat 64 l), .ifc 175 (.v (.pointer (some ⟨N, 0, none⟩)))], h1, h4, ?_, _, rfl⟩
  refine rep_mk_tup2 (rep_mk_v _ _) ?_
  unfold Rep
  exact ⟨_, rfl, rep_mk_v _ _⟩
end Go.D

/- Effects: numbers, strictly ascending. Plain lists. -/
set_option linter.unusedVariables false
set_option linter.unusedSimpArgs false
set_option maxRecDepth 100000
namespace Go.D
open Go

/-- Whether a place of a list is right: of the kind, and greater than the one before. -/
def isAt (p : Int → Bool) (l : List Int) (i : Nat) : Bool := p (l.getD i 0) && (decide (i = 0) || decide (l.getD (i - 1) 0 < l.getD i 0))
def ascP (p : Int → Bool) (l : List Int) : Bool := (List.range l.length).all (isAt p l)
theorem ascP_of {p : Int → Bool} {l : List Int} (h : ∀ i, i < l.length → isAt p l i = true) : ascP p l = true := List.all_eq_true.2 fun i hi => h i (List.mem_range.1 hi)
theorem ascP_not {p : Int → Bool} {l : List Int} {i : Nat} (hi : i < l.length) (h : isAt p l i = false) : ascP p l = false := by
  rw [← Bool.not_eq_true]
  intro hh
  have := List.all_eq_true.1 hh i (List.mem_range.2 hi)
  rw [h] at this; cases this

def adj : List Int → Bool
  | [] => true
  | [_] => true
  | a :: b :: r => decide (a < b) && adj (b :: r)
theorem adj_pair : ∀ l : List Int, adj l = true ↔ l.Pairwise (· < ·)
  | [] => by simp [adj]
  | [a] => by simp [adj]
  | a :: b :: r => by
    rw [adj, Bool.and_eq_true, decide_eq_true_eq, adj_pair (b :: r)]
    constructor
    · rintro ⟨h1, h2⟩
      refine List.pairwise_cons.2 ⟨fun x hx => ?_, h2⟩
      rcases List.mem_cons.1 hx with rfl | hx
      · exact h1
      · have := (List.pairwise_cons.1 h2).1 x hx; omega
    · intro h
      obtain ⟨h1, h2⟩ := List.pairwise_cons.1 h
      exact ⟨h1 b (by simp), h2⟩
theorem adj_at : ∀ l : List Int, adj l = true ↔ ∀ i, i < l.length → (i = 0 ∨ l.getD (i - 1) 0 < l.getD i 0)
  | [] => by simp [adj]
  | [a] => by
    simp only [adj, true_iff]
    intro i hi
    simp at hi; exact .inl hi
  | a :: b :: r => by
    rw [adj, Bool.and_eq_true, decide_eq_true_eq, adj_at (b :: r)]
    constructor
    · rintro ⟨h1, h2⟩ i hi
      rcases i with _ | _ | i
      · exact .inl rfl
      · right; simpa using h1
      · right
        rcases h2 (i + 1) (by simpa using hi) with h | h
        · omega
        · simpa using h
    · intro h
      refine ⟨?_, fun i hi => ?_⟩
      · rcases h 1 (by simp) with h | h
        · omega
        · simpa using h
      · rcases i with _ | i
        · exact .inl rfl
        · right
          rcases h (i + 2) (by simpa using hi) with h | h
          · omega
          · simpa using h
theorem getD_memI {l : List Int} {i : Nat} (h : i < l.length) : l.getD i 0 ∈ l := by simp [List.getD, h]
theorem ascP_iff (p : Int → Bool) (l : List Int) : ascP p l = true ↔ (∀ x ∈ l, p x = true) ∧ l.Pairwise (· < ·) := by
  rw [← adj_pair, adj_at]
  unfold ascP
  rw [List.all_eq_true]
  constructor
  · intro h
    have h' : ∀ i, i < l.length → p (l.getD i 0) = true ∧ (i = 0 ∨ l.getD (i - 1) 0 < l.getD i 0) := fun i hi => by
      have := h i (List.mem_range.2 hi)
      unfold isAt at this
      simpa only [Bool.and_eq_true, Bool.or_eq_true, decide_eq_true_eq] using this
    refine ⟨fun x hx => ?_, fun i hi => (h' i hi).2⟩
    obtain ⟨i, hi, rfl⟩ := List.getElem_of_mem hx
    have := (h' i hi).1
    simpa [List.getD, hi] using this
  · rintro ⟨h1, h2⟩ i hi
    have hi := List.mem_range.1 hi
    unfold isAt
    simp only [Bool.and_eq_true, Bool.or_eq_true, decide_eq_true_eq]
    exact ⟨h1 _ (getD_memI hi), h2 i hi⟩

/-- Ascending lists with the same numbers are one. -/
theorem asc_ext : ∀ {a b : List Int}, a.Pairwise (· < ·) → b.Pairwise (· < ·) → (∀ x, x ∈ a ↔ x ∈ b) → a = b
  | [], [], _, _, _ => rfl
  | [], y :: b, _, _, h => by have := (h y).2 (by simp); cases this
  | x :: a, [], _, _, h => by have := (h x).1 (by simp); cases this
  | x :: a, y :: b, ha, hb, h => by
    obtain ⟨ha1, ha2⟩ := List.pairwise_cons.1 ha
    obtain ⟨hb1, hb2⟩ := List.pairwise_cons.1 hb
    have hxy : x = y := by
      have h1 := (h x).1 (by simp)
      have h2 := (h y).2 (by simp)
      rcases List.mem_cons.1 h1 with h1 | h1
      · exact h1
      · rcases List.mem_cons.1 h2 with h2 | h2
        · exact h2.symm
        · have := ha1 y h2; have := hb1 x h1; omega
    subst hxy
    rw [asc_ext ha2 hb2 fun z => ?_]
    constructor
    · intro hz
      have := ha1 z hz
      rcases List.mem_cons.1 ((h z).1 (by simp [hz])) with h1 | h1
      · omega
      · exact h1
    · intro hz
      have := hb1 z hz
      rcases List.mem_cons.1 ((h z).2 (by simp [hz])) with h1 | h1
      · omega
      · exact h1

/-- A number put into an ascending list. -/
def putI : List Int → Int → List Int
  | [], n => [n]
  | a :: r, n => if a < n then a :: putI r n else if a = n then a :: r else n :: a :: r
theorem putI_mem : ∀ (l : List Int) (n x : Int), x ∈ putI l n ↔ x = n ∨ x ∈ l
  | [], n, x => by simp [putI]
  | a :: r, n, x => by
    unfold putI
    split
    · rw [List.mem_cons, putI_mem r n x, List.mem_cons]
      constructor
      · rintro (h | h | h)
        · exact .inr (.inl h)
        · exact .inl h
        · exact .inr (.inr h)
      · rintro (h | h | h)
        · exact .inr (.inl h)
        · exact .inl h
        · exact .inr (.inr h)
    · split
      · rename_i h; subst h
        simp
      · simp
theorem putI_asc : ∀ (l : List Int) (n : Int), l.Pairwise (· < ·) → (putI l n).Pairwise (· < ·)
  | [], n, _ => by simp [putI]
  | a :: r, n, h => by
    obtain ⟨h1, h2⟩ := List.pairwise_cons.1 h
    unfold putI
    split
    · rename_i hl
      refine List.pairwise_cons.2 ⟨fun x hx => ?_, putI_asc r n h2⟩
      rcases (putI_mem r n x).1 hx with rfl | hx
      · exact hl
      · exact h1 x hx
    · split
      · exact h
      · refine List.pairwise_cons.2 ⟨fun x hx => ?_, h⟩
        rcases List.mem_cons.1 hx with rfl | hx
        · omega
        · have := h1 x hx; omega
/-- By its place. -/
theorem putI_at : ∀ (l : List Int) (n : Int) (k : Nat), k ≤ l.length → (∀ x ∈ l.take k, x < n) → (k < l.length → ¬ l.getD k 0 < n) →
    putI l n = if k < l.length ∧ l.getD k 0 = n then l else l.take k ++ (n :: l.drop k)
  | [], n, k, hk, _, _ => by
    obtain rfl : k = 0 := by simpa using hk
    simp [putI]
  | a :: r, n, 0, hk, _, h2 => by
    have h := h2 (by simp)
    simp only [List.getD_cons_zero] at h
    unfold putI
    rw [if_neg h]
    by_cases he : a = n
    · rw [if_pos he, if_pos ⟨by simp, by simpa using he⟩]
    · rw [if_neg he, if_neg (by rintro ⟨_, h⟩; exact he (by simpa using h))]; rfl
  | a :: r, n, k + 1, hk, h1, h2 => by
    have ha : a < n := h1 a (by simp)
    have ih := putI_at r n k (by simpa using hk) (fun x hx => h1 x (by simp [hx])) (fun hh => by simpa using h2 (by simpa using hh))
    unfold putI
    rw [if_pos ha, ih]
    by_cases hc : k < r.length ∧ r.getD k 0 = n
    · rw [if_pos hc, if_pos ⟨by simpa using hc.1, by simpa using hc.2⟩]
    · rw [if_neg hc, if_neg (by rintro ⟨q1, q2⟩; exact hc ⟨by simpa using q1, by simpa using q2⟩)]; rfl

def joinI (a b : List Int) : List Int := b.foldl putI a
theorem joinI_mem : ∀ (b a : List Int) (x : Int), x ∈ joinI a b ↔ x ∈ a ∨ x ∈ b
  | [], a, x => by simp [joinI]
  | n :: b, a, x => by
    have := joinI_mem b (putI a n) x
    unfold joinI at this ⊢
    rw [List.foldl_cons, this, putI_mem]
    simp only [List.mem_cons]
    constructor
    · rintro ((h | h) | h)
      · exact .inr (.inl h)
      · exact .inl h
      · exact .inr (.inr h)
    · rintro (h | h | h)
      · exact .inl (.inr h)
      · exact .inl (.inl h)
      · exact .inr h
theorem joinI_asc : ∀ (b a : List Int), a.Pairwise (· < ·) → (joinI a b).Pairwise (· < ·)
  | [], a, h => h
  | n :: b, a, h => by
    unfold joinI
    rw [List.foldl_cons]
    exact joinI_asc b _ (putI_asc a n h)

/-- Equal ones behind each other, once. -/
def dedup : List Int → List Int
  | [] => []
  | [a] => [a]
  | a :: b :: r => if a = b then dedup (b :: r) else a :: dedup (b :: r)
theorem dedup_mem : ∀ (l : List Int) (x : Int), x ∈ dedup l ↔ x ∈ l
  | [], x => by simp [dedup]
  | [a], x => by simp [dedup]
  | a :: b :: r, x => by
    unfold dedup
    split
    · rename_i h; subst h
      rw [dedup_mem (a :: r) x]; simp
    · rw [List.mem_cons, dedup_mem (b :: r) x, List.mem_cons, List.mem_cons, List.mem_cons]
theorem dedup_asc : ∀ (l : List Int), l.Pairwise (· ≤ ·) → (dedup l).Pairwise (· < ·)
  | [], _ => by simp [dedup]
  | [a], _ => by simp [dedup]
  | a :: b :: r, h => by
    obtain ⟨h1, h2⟩ := List.pairwise_cons.1 h
    unfold dedup
    split
    · exact dedup_asc (b :: r) h2
    · rename_i hne
      refine List.pairwise_cons.2 ⟨fun x hx => ?_, dedup_asc (b :: r) h2⟩
      have hx' := (dedup_mem (b :: r) x).1 hx
      have hb := h1 b (by simp)
      rcases List.mem_cons.1 hx' with rfl | hx'
      · omega
      · have := (List.pairwise_cons.1 h2).1 x hx'; omega

/-- The library's compact, one by one. -/
theorem compact_mem (l : List Int) (x : Int) : x ∈ Lib.compact l ↔ x ∈ l := by
  unfold Lib.compact Lib.compactUpTo
  simp only [List.mem_map, List.mem_filter, List.mem_range]
  constructor
  · rintro ⟨i, ⟨hi, _⟩, rfl⟩
    have : (l.toArray)[i]! = l[i] := by simp [hi]
    rw [this]; exact List.getElem_mem hi
  · intro hx
    obtain ⟨i, hi, rfl⟩ := List.getElem_of_mem hx
    -- the first place of the run
    suffices h : ∀ i (hi : i < l.length), ∃ j, (j < l.length ∧ Lib.keeps l.toArray j = true) ∧ l.toArray[j]! = l[i] by exact h i hi
    intro i
    induction i with
    | zero => intro hi; exact ⟨0, ⟨hi, by simp [Lib.keeps]⟩, by simp [hi]⟩
    | succ i ih =>
      intro hi
      have hi' : i < l.length := by omega
      by_cases he : l[i + 1] = l[i]
      · obtain ⟨j, h1, h2⟩ := ih hi'
        exact ⟨j, h1, by rw [h2, he]⟩
      · refine ⟨i + 1, ⟨hi, Lib.keeps_pos ?_⟩, by simp [hi]⟩
        simp only [Nat.add_sub_cancel]
        simpa [hi, hi'] using he
theorem compact_asc (l : List Int) (h : l.Pairwise (· ≤ ·)) : (Lib.compact l).Pairwise (· < ·) := by
  have hle : ∀ i j (hi : i < l.length) (hj : j < l.length), i ≤ j → l[i] ≤ l[j] := fun i j hi hj hij => by
    rcases Nat.lt_or_ge i j with hlt | hge
    · exact List.pairwise_iff_getElem.1 h i j hi hj hlt
    · have : i = j := by omega
      subst this; exact Int.le_refl _
  unfold Lib.compact Lib.compactUpTo
  rw [List.pairwise_map]
  have hr : ((List.range l.length).filter (Lib.keeps l.toArray)).Pairwise (· < ·) := List.Pairwise.filter _ List.pairwise_lt_range
  refine hr.imp_of_mem fun {i j} hi hj hij => ?_
  simp only [List.mem_filter, List.mem_range] at hi hj
  have e1 : l.toArray[i]! = l[i] := by simp [hi.1]
  have e2 : l.toArray[j]! = l[j] := by simp [hj.1]
  rw [e1, e2]
  have h1 := hle i (j - 1) hi.1 (by omega) (by omega)
  have h2 := hle (j - 1) j (by omega) hj.1 (by omega)
  have hk := hj.2
  unfold Lib.keeps at hk
  have e3 : l.toArray[j - 1]! = l[j - 1] := by
    have : j - 1 < l.length := by omega
    simp [this]
  have hne : l[j] ≠ l[j - 1] := by
    intro he
    rw [e2, e3] at hk
    simp [he] at hk
    omega
  omega
def uniteI (a b : List Int) : List Int := Lib.compact ((a ++ b).mergeSort fun x y => decide (x ≤ y))
theorem sort_le (l : List Int) : (l.mergeSort fun x y => decide (x ≤ y)).Pairwise (· ≤ ·) := by
  have := List.pairwise_mergeSort (le := fun x y : Int => decide (x ≤ y)) (fun a b c => by simp; omega) (fun a b => by simp; omega) l
  exact this.imp fun {a b} h => by simpa using h
theorem uniteI_mem (a b : List Int) (x : Int) : x ∈ uniteI a b ↔ x ∈ a ∨ x ∈ b := by
  unfold uniteI
  rw [compact_mem, List.mem_mergeSort, List.mem_append]
theorem uniteI_asc (a b : List Int) : (uniteI a b).Pairwise (· < ·) := compact_asc _ (sort_le _)
theorem unite_join (a b : List Int) (ha : a.Pairwise (· < ·)) : uniteI a b = joinI a b :=
  asc_ext (uniteI_asc a b) (joinI_asc b a ha) fun x => by rw [uniteI_mem, joinI_mem]
end Go.D

/- The library's contracts over lists of numbers. -/
set_option linter.unusedVariables false
set_option linter.unusedSimpArgs false
set_option linter.unnecessarySimpa false
set_option maxRecDepth 100000
namespace Go.D
open Go Go.Vm Go.Proofs Go.RowKit Go.Sort

def ivs (zs : List Int) : List AV := zs.map fun z => i64 z
theorem ivs_get {zs : List Int} {j : Nat} (h : j < zs.length) : (ivs zs)[j]? = some (i64 (zs.getD j 0)) := by simp [ivs, h]
theorem ivs_len (zs : List Int) : (ivs zs).length = zs.length := by simp [ivs]
theorem ivs_rep {s : S} {zs : List Int} {i : Nat} {c : AV} {y : Value} (hc : (ivs zs)[i]? = some c) (hy : (zs.map (Value.int .i64))[i]? = some y) : Rep s c y ∧ cellV y := by
  simp only [ivs, List.getElem?_map, Option.map_eq_some_iff] at hc hy
  obtain ⟨z, h1, rfl⟩ := hc
  obtain ⟨z', h2, rfl⟩ := hy
  rw [h1] at h2; cases h2
  exact ⟨rep_mk_v _ _, by simp [cellV]⟩
theorem holds_ivs {s : S} {zs : List Int} {blk ext : Nat} (hx : zs.length ≤ ext) (hc : ∀ (j : Nat) c, (ivs zs)[j]? = some c → ∃ y, s.w.cell? ⟨blk, j, none⟩ = some y ∧ Rep s c y ∧ cellV y)
    (hf : ∀ j, j < ext → s.w.frozen? ⟨blk, j, none⟩ = false) : Holds (Value.int .i64) s.w blk 0 zs.toArray := by
  intro j hj
  have hj' : j < zs.length := by simpa using hj
  obtain ⟨y, h1, h2, _⟩ := hc j _ (ivs_get hj')
  rw [rep_v' h2] at h1
  rw [Nat.zero_add]
  refine ⟨?_, hf j (by omega)⟩
  rw [h1]
  simp [hj']

theorem sortI_ok (zs : List Int) (hz : zs.length ≤ 1099511627776) (σ : List Ent) (id ty ver : Nat) (hσ : σ[id]? = some (.arr ty (ivs zs) ver 0)) :
    ACalls E 59 [.rsl id ver 0 zs.length 1] σ fun r τ => r = .tup [] ∧ τ = σ.set id (.arr ty (ivs (zs.mergeSort fun x y => decide (x ≤ y))) ver 0) := by
  refine .inl ⟨⟨_, Tryz.func59, by kernel_rfl, by kernel_rfl⟩, fun s vs hs hI hΓ hr => ?_⟩
  obtain ⟨v, rfl, hv⟩ := repL1 hr
  rw [← hs] at hσ ⊢
  obtain ⟨ab, ao, cap, b, rfl, hb, hb0, h1, h2, h3, h4, h5, hc, hf⟩ := row_at hI hσ hv
  rcases Nat.eq_zero_or_pos zs.length with h0 | h0
  · obtain rfl : zs = [] := List.length_eq_zero_iff.1 h0
    refine (Tryz.slices_Sort_int_none _ cap s.w).mono fun e w' ⟨q1, q2⟩ => ⟨_, .tup [], s, q1, q2.symm, hI, Ext.refl s, by unfold Rep RepL; exact ⟨#[], rfl, rfl⟩, rfl, ?_⟩
    rw [List.mergeSort_nil]; exact (list_set_self hσ).symm
  · obtain ⟨rfl, rfl⟩ := h4 (by omega)
    have hH := holds_ivs (by rw [ivs_len] at h3; exact h3) hc hf
    refine (Tryz.slices_Sort_int b.blk 0 cap zs s.w hH h5 (by omega)).mono fun e w' ⟨q1, n, os, q2⟩ => ?_
    have hls : (zs.mergeSort fun x y => decide (x ≤ y)).length = zs.length := List.length_mergeSort _
    rw [Lib.putRow_eq_setCells _ _ _ _ _ _ _ hH (by simpa using hls)] at q2
    obtain ⟨s', a1, a2, a3, a4⟩ := row_written (cs := ivs (zs.mergeSort fun x y => decide (x ≤ y))) (ys := (zs.mergeSort fun x y => decide (x ≤ y)).map (Value.int .i64)) hI hσ hb hb0 (by rw [ivs_len, ivs_len, hls]) (by rw [ivs_len]; simp) h3 (fun i c y => ivs_rep) n os
    exact ⟨_, .tup [], s', q1, by rw [a1, q2], a3, a4, by unfold Rep RepL; exact ⟨#[], rfl, rfl⟩, rfl, a2⟩

/-- A shorter row over the same cells. -/
theorem rep_shorter {s : S} {id ver n m sz ab ao cap : Nat} (h : Rep s (.rsl id ver 0 n sz) (.slice (some ⟨ab, ao, none⟩) n cap)) (hm : m ≤ n) : Rep s (.rsl id ver 0 m sz) (.slice (some ⟨ab, ao, none⟩) m cap) := by
  unfold Rep at h ⊢
  obtain ⟨e, b, h1, h2, h3, ab', ao', cap', h4, h5⟩ := h
  simp only [Value.slice.injEq, Option.some.injEq, Addr.mk.injEq, and_true, true_and] at h4
  obtain ⟨⟨rfl, rfl⟩, rfl⟩ := h4
  exact ⟨e, b, h1, h2, h3, _, _, _, rfl, fun hv => ⟨(h5 hv).1, by have := (h5 hv).2.1; omega, (h5 hv).2.2⟩⟩

def padI (zs : List Int) : List Int := Lib.compact zs ++ List.replicate (zs.length - (Lib.compact zs).length) 0
theorem padI_len (zs : List Int) : (padI zs).length = zs.length := by
  have := Lib.compact_length_le zs
  unfold padI; simp; omega
theorem compactI_ok (zs : List Int) (hz : zs.length ≤ 1099511627776) (σ : List Ent) (id ty ver : Nat) (hσ : σ[id]? = some (.arr ty (ivs zs) ver 0)) :
    ACalls E 60 [.rsl id ver 0 zs.length 1] σ fun r τ => r = .rsl id ver 0 (Lib.compact zs).length 1 ∧ τ = σ.set id (.arr ty (ivs (padI zs)) ver 0) := by
  refine .inl ⟨⟨_, Tryz.func60, by kernel_rfl, by kernel_rfl⟩, fun s vs hs hI hΓ hr => ?_⟩
  obtain ⟨v, rfl, hv⟩ := repL1 hr
  rw [← hs] at hσ ⊢
  have hv' := hv
  obtain ⟨ab, ao, cap, b, rfl, hb, hb0, h1, h2, h3, h4, h5, hc, hf⟩ := row_at hI hσ hv
  rcases Nat.eq_zero_or_pos zs.length with h0 | h0
  · obtain rfl : zs = [] := List.length_eq_zero_iff.1 h0
    refine (Tryz.slices_Compact_int_empty _ cap s.w).mono fun e w' ⟨q1, q2⟩ => ⟨_, .rsl id ver 0 0 1, s, q1, q2.symm, hI, Ext.refl s, hv', rfl, ?_⟩
    exact (list_set_self hσ).symm
  · obtain ⟨rfl, rfl⟩ := h4 (by omega)
    have hH := holds_ivs (by rw [ivs_len] at h3; exact h3) hc hf
    refine (Tryz.slices_Compact_int b.blk 0 cap zs s.w hH (by omega) h1).mono fun e w' ⟨q1, n, q2⟩ => ?_
    have hpl := padI_len zs
    unfold padI at hpl
    rw [Lib.putRow_eq_setCells _ _ _ _ _ _ _ hH (by simpa using hpl)] at q2
    obtain ⟨s', a1, a2, a3, a4⟩ := row_written (cs := ivs (padI zs)) (ys := (padI zs).map (Value.int .i64)) hI hσ hb hb0 (by rw [ivs_len, ivs_len, padI_len]) (by rw [ivs_len]; simp) h3 (fun i c y => ivs_rep) n #[]
    have hgrow : ∀ w : World, grow w #[] = w := fun w => by simp [grow]
    rw [hgrow] at a1
    exact ⟨_, _, s', q1, by rw [a1, q2]; rfl, a3, a4, Rep.ext a4 (rep_shorter hv' (Lib.compact_length_le zs)), rfl, a2⟩

/-- What a slice of numbers is. -/
theorem ints_at' {s : S} {zs : List Int} {v : Value} (h : Rep s (.sl (ivs zs)) v) :
    ∃ a cap, v = .slice a zs.length cap ∧ zs.length ≤ cap ∧ (zs = [] ∨ ∃ blk off, a = some ⟨blk, off, none⟩ ∧ ∀ j, j < zs.length → s.w.cell? ⟨blk, off + j, none⟩ = some (.int .i64 (zs.getD j 0))) := by
  unfold Rep at h
  obtain ⟨a, cap, rfl, hc, hh⟩ := h
  rw [ivs_len] at *
  refine ⟨a, cap, rfl, hc, ?_⟩
  rcases hh with hh | ⟨blk, off, k, rfl, hk, hrow⟩
  · left; simpa [ivs] using hh
  · right
    refine ⟨blk, off, rfl, fun j hj => ?_⟩
    obtain ⟨y, h1, h2⟩ := hrow.get (ivs_get hj)
    have h3 := h1.cell
    have := rep_v' h2
    subst this
    obtain ⟨rfl, h4, _⟩ := h3
    simpa using h4

theorem cloneI_ok (zs : List Int) (hz : zs.length ≤ 1099511627776) (σ : List Ent) :
    ACalls E 30 [.sl (ivs zs)] σ fun r τ => (zs = [] ∧ r = .v (.slice none 0 0) ∧ τ = σ) ∨ (r = .rsl σ.length 0 0 zs.length 1 ∧ τ = σ ++ [.arr 3 (ivs zs) 0 0]) := by
  refine .inl ⟨⟨_, Tryz.func30, by kernel_rfl, by kernel_rfl⟩, fun s vs hs hI hΓ hr => ?_⟩
  obtain ⟨v, rfl, hv⟩ := repL1 hr
  rw [← hs]
  obtain ⟨a, cap, rfl, hcap, hh⟩ := ints_at' hv
  have fin : ∀ {v' : Value} {w' : World}, w'.ownsRow s.w.heap.size 3 1 v' zs.length (zs.map (Value.int .i64)) → v' ≠ .slice none 0 0 → Below s.w.heap.size s.w w' →
      ∃ v r s', Ending.returned v' = .returned v ∧ s'.w = w' ∧ HInv s' ∧ Ext s s' ∧ Rep s' r v ∧ ((zs = [] ∧ r = .v (.slice none 0 0) ∧ s'.σ = s.σ) ∨ (r = .rsl s.σ.length 0 0 zs.length 1 ∧ s'.σ = s.σ ++ [.arr 3 (ivs zs) 0 0])) := by
    intro v' w' ho hne hbw
    rcases ho.2 with ⟨h, _⟩ | ⟨g, cp, cur, rfl, hg, hheap, hn, _, hsz, htake⟩
    · exact absurd h hne
    · rw [Nat.mul_one] at hsz htake
      obtain ⟨s', a1, a2, a3, a4, a5⟩ := HInv.adopt (k := 1) (cells := ivs zs) hI hbw hg hheap hn (by omega) (by rw [ivs_len]; omega) (fun j c hj => by
        have hj' := lt_of_get hj
        rw [ivs_len] at hj'
        have hcur : cur[j]? = (zs.map (Value.int .i64))[j]? := by
          rw [← htake, List.getElem?_take, if_pos hj', ← Array.getElem?_toList]
        refine ⟨.int .i64 (zs.getD j 0), by rw [hcur]; simp [hj'], ?_⟩
        rw [ivs_get hj'] at hj; cases hj
        exact ⟨rep_mk_v _ _, by simp [cellV]⟩)
      exact ⟨_, _, s', rfl, a1, a3, a4, a5, .inr ⟨rfl, a2⟩⟩
  rcases hh with rfl | ⟨blk, off, rfl, hcell⟩
  · cases a with
    | none => exact (Tryz.slices_Clone_int_nil 0 cap s.w).mono fun e w' ⟨q1, q2⟩ => ⟨_, .v (.slice none 0 0), s, q1, q2.symm, hI, Ext.refl s, rep_mk_v _ _, .inl ⟨rfl, rfl, rfl⟩⟩
    | some a => exact (Tryz.slices_Clone_int_zero a cap s.w).mono fun e w' ⟨v', q1, q2, q3, q4⟩ => by subst q1; exact fin q2 q3 q4
  · refine (Tryz.slices_Clone_int blk off zs.length cap zs s.w (Nat.le_refl _) (by omega) hcell).mono fun e w' ⟨v', q1, q2, q3, q4⟩ => ?_
    subst q1
    rw [List.take_of_length_le (Nat.le_refl _)] at q2
    exact fin q2 q3 q4
end Go.D

/- Effects: the functions that look at lists of numbers. -/
set_option linter.unusedVariables false
set_option linter.unusedSimpArgs false
set_option maxRecDepth 100000
namespace Go.D
open Go Go.Vm Go.Proofs Go.RowKit

theorem ivs_getD {l : List Int} {i : Nat} (h : i < l.length) : (ivs l).getD i .un = i64 (l.getD i 0) := by simp [ivs, h, List.getD]
def atomP (x : Int) : Bool := decide (-9999 ≤ x) && decide (x ≤ 9999)
def effB (l : List Int) : Bool := ascP atomP l

theorem plbetween_ok (a b c : Int) (σ : List Ent) : ACalls E 36 [i64 a, i64 b, i64 c] σ fun r τ => r = boolV (decide (a ≤ b) && decide (b ≤ c)) ∧ τ = σ := by
  refine xacalls T0 .drop [] Tryz.func36 rfl (by kernel_rfl) (by kernel_rfl) (by simp [Tryz.ntmps36]) ?_
  by_cases h : a ≤ b <;> (simp only [h, (vm1), (vm2), (vm3), (vm4), aDet, ev, tget, tput, ofC, ofC1, pureR, condR, abin, aun, alen, gslot, Nat.reduceEqDiff, reduceIte, argTs, asliceS, asliceL, bnd, boolV, intV, retQ, aRes, aResV, oneAV, AV.low, AV.low.lows, Nat.reduceAdd, isStringD, isSliceD, isBoolD, setRange, AV.cells, AV.isCell, AV.isAgg, abytes, aconv, aeq, isConst, isByteD, isIfaceD, endQ, Int.reduceToNat, Int.reduceLE, Int.reduceLT, Int.reduceEq, Int.reduceNe, Int.reduceAdd, Int.reduceSub, Int.reduceNeg, Nat.reduceLT, Nat.reduceLeDiff, Ent.ver, Ent.imm, Ent.ty, lits, isEl, newCells, aappend, Nat.reduceBEq, fill, undef, (st1), (st2), (st3), (st4), (st5), (st6), (st7), (st8)]; try simp (disch := omega) only [wrapI64, Int.toNat_natCast, ← Int.natCast_add, nat_add_one, nat_add_two, take_drop_all, List.drop_zero, Nat.sub_zero, Nat.add_sub_cancel_left])

theorem plIsRegion_ok (b : Int) (σ : List Ent) : ACalls E 53 [i64 b] σ fun r τ => r = boolV (decide (0 ≤ b) && decide (b ≤ 9999)) ∧ τ = σ := by
  refine xacalls T0 .drop [] Tryz.func53 rfl (by kernel_rfl) (by kernel_rfl) (by simp [Tryz.ntmps53]) ?_
  (simp only [(vm1), (vm2), (vm3), (vm4), aDet, ev, tget, tput, ofC, ofC1, pureR, condR, abin, aun, alen, gslot, Nat.reduceEqDiff, reduceIte, argTs, asliceS, asliceL, bnd, boolV, intV, retQ, aRes, aResV, oneAV, AV.low, AV.low.lows, Nat.reduceAdd, isStringD, isSliceD, isBoolD, setRange, AV.cells, AV.isCell, AV.isAgg, abytes, aconv, aeq, isConst, isByteD, isIfaceD, endQ, Int.reduceToNat, Int.reduceLE, Int.reduceLT, Int.reduceEq, Int.reduceNe, Int.reduceAdd, Int.reduceSub, Int.reduceNeg, Nat.reduceLT, Nat.reduceLeDiff, Ent.ver, Ent.imm, Ent.ty, lits, isEl, newCells, aappend, Nat.reduceBEq, fill, undef, (st1), (st2), (st3), (st4), (st5), (st6), (st7), (st8)]; try simp (disch := omega) only [wrapI64, Int.toNat_natCast, ← Int.natCast_add, nat_add_one, nat_add_two, take_drop_all, List.drop_zero, Nat.sub_zero, Nat.add_sub_cancel_left])
  refine xWait.go (plbetween_ok _ _ _ _) ?_
  (simp only [(vm1), (vm2), (vm3), (vm4), aDet, ev, tget, tput, ofC, ofC1, pureR, condR, abin, aun, alen, gslot, Nat.reduceEqDiff, reduceIte, argTs, asliceS, asliceL, bnd, boolV, intV, retQ, aRes, aResV, oneAV, AV.low, AV.low.lows, Nat.reduceAdd, isStringD, isSliceD, isBoolD, setRange, AV.cells, AV.isCell, AV.isAgg, abytes, aconv, aeq, isConst, isByteD, isIfaceD, endQ, Int.reduceToNat, Int.reduceLE, Int.reduceLT, Int.reduceEq, Int.reduceNe, Int.reduceAdd, Int.reduceSub, Int.reduceNeg, Nat.reduceLT, Nat.reduceLeDiff, Ent.ver, Ent.imm, Ent.ty, lits, isEl, newCells, aappend, Nat.reduceBEq, fill, undef, (st1), (st2), (st3), (st4), (st5), (st6), (st7), (st8)]; try simp (disch := omega) only [wrapI64, Int.toNat_natCast, ← Int.natCast_add, nat_add_one, nat_add_two, take_drop_all, List.drop_zero, Nat.sub_zero, Nat.add_sub_cancel_left])

theorem plIsEffect1_ok (b : Int) (σ : List Ent) : ACalls E 35 [i64 b] σ fun r τ => r = boolV (atomP b) ∧ τ = σ := by
  refine xacalls T0 .drop [] Tryz.func35 rfl (by kernel_rfl) (by kernel_rfl) (by simp [Tryz.ntmps35]) ?_
  (simp only [(vm1), (vm2), (vm3), (vm4), aDet, ev, tget, tput, ofC, ofC1, pureR, condR, abin, aun, alen, gslot, Nat.reduceEqDiff, reduceIte, argTs, asliceS, asliceL, bnd, boolV, intV, retQ, aRes, aResV, oneAV, AV.low, AV.low.lows, Nat.reduceAdd, isStringD, isSliceD, isBoolD, setRange, AV.cells, AV.isCell, AV.isAgg, abytes, aconv, aeq, isConst, isByteD, isIfaceD, endQ, Int.reduceToNat, Int.reduceLE, Int.reduceLT, Int.reduceEq, Int.reduceNe, Int.reduceAdd, Int.reduceSub, Int.reduceNeg, Nat.reduceLT, Nat.reduceLeDiff, Ent.ver, Ent.imm, Ent.ty, lits, isEl, newCells, aappend, Nat.reduceBEq, fill, undef, (st1), (st2), (st3), (st4), (st5), (st6), (st7), (st8)]; try simp (disch := omega) only [wrapI64, Int.toNat_natCast, ← Int.natCast_add, nat_add_one, nat_add_two, take_drop_all, List.drop_zero, Nat.sub_zero, Nat.add_sub_cancel_left])
  refine xWait.go (plbetween_ok _ _ _ _) ?_
  (simp only [(vm1), (vm2), (vm3), (vm4), aDet, ev, tget, tput, ofC, ofC1, pureR, condR, abin, aun, alen, gslot, Nat.reduceEqDiff, reduceIte, argTs, asliceS, asliceL, bnd, boolV, intV, retQ, aRes, aResV, oneAV, AV.low, AV.low.lows, Nat.reduceAdd, isStringD, isSliceD, isBoolD, setRange, AV.cells, AV.isCell, AV.isAgg, abytes, aconv, aeq, isConst, isByteD, isIfaceD, endQ, Int.reduceToNat, Int.reduceLE, Int.reduceLT, Int.reduceEq, Int.reduceNe, Int.reduceAdd, Int.reduceSub, Int.reduceNeg, Nat.reduceLT, Nat.reduceLeDiff, Ent.ver, Ent.imm, Ent.ty, lits, isEl, newCells, aappend, Nat.reduceBEq, fill, undef, (st1), (st2), (st3), (st4), (st5), (st6), (st7), (st8)]; try simp (disch := omega) only [wrapI64, Int.toNat_natCast, ← Int.natCast_add, nat_add_one, nat_add_two, take_drop_all, List.drop_zero, Nat.sub_zero, Nat.add_sub_cancel_left])
  rfl

theorem ascP_take {p : Int → Bool} {l : List Int} {i : Nat} (h : ∀ j, j < i → isAt p l j = true) (hi : i = l.length) : ascP p l = true := ascP_of fun j hj => h j (by omega)

theorem plascending_ok (f : FuncId) (p : Int → Bool) (l : List Int) (hl : l.length ≤ 9223372036854775807) (σ : List Ent) (hf : ∀ x, ACalls E f [i64 x] σ fun r τ => r = boolV (p x) ∧ τ = σ) :
    ACalls E 34 [.sl (ivs l), .fn f [] []] σ fun r τ => r = boolV (ascP p l) ∧ τ = σ := by
  refine xacalls T0 .drop [] Tryz.func34 rfl (by kernel_rfl) (by kernel_rfl) (by simp [Tryz.ntmps34]) ?_
  (simp only [ivs_len, (vm1), (vm2), (vm3), (vm4), aDet, ev, tget, tput, ofC, ofC1, pureR, condR, abin, aun, alen, gslot, Nat.reduceEqDiff, reduceIte, argTs, asliceS, asliceL, bnd, boolV, intV, retQ, aRes, aResV, oneAV, AV.low, AV.low.lows, Nat.reduceAdd, isStringD, isSliceD, isBoolD, setRange, AV.cells, AV.isCell, AV.isAgg, abytes, aconv, aeq, isConst, isByteD, isIfaceD, endQ, Int.reduceToNat, Int.reduceLE, Int.reduceLT, Int.reduceEq, Int.reduceNe, Int.reduceAdd, Int.reduceSub, Int.reduceNeg, Nat.reduceLT, Nat.reduceLeDiff, Ent.ver, Ent.imm, Ent.ty, lits, isEl, newCells, aappend, Nat.reduceBEq, fill, undef, (st1), (st2), (st3), (st4), (st5), (st6), (st7), (st8)]; try simp (disch := omega) only [wrapI64, Int.toNat_natCast, ← Int.natCast_add, nat_add_one, nat_add_two, take_drop_all, List.drop_zero, Nat.sub_zero, Nat.add_sub_cancel_left])
  refine xloop (α := Nat) T0 (fun i => [(0, .sl (ivs l)), (1, .fn f [] []), (7, .sl (ivs l)), (8, i64 l.length), (9, i64 i)]) (fun _ => σ) (fun _ => []) (fun i => i ≤ l.length ∧ ∀ j, j < i → isAt p l j = true) (fun i => l.length - i) (by kernel_rfl)
    ⟨0, by simp, by (simp only [(vm1), (vm2), (vm3), (vm4), aDet, ev, tget, tput, ofC, ofC1, pureR, condR, abin, aun, alen, gslot, Nat.reduceEqDiff, reduceIte, argTs, asliceS, asliceL, bnd, boolV, intV, retQ, aRes, aResV, oneAV, AV.low, AV.low.lows, Nat.reduceAdd, isStringD, isSliceD, isBoolD, setRange, AV.cells, AV.isCell, AV.isAgg, abytes, aconv, aeq, isConst, isByteD, isIfaceD, endQ, Int.reduceToNat, Int.reduceLE, Int.reduceLT, Int.reduceEq, Int.reduceNe, Int.reduceAdd, Int.reduceSub, Int.reduceNeg, Nat.reduceLT, Nat.reduceLeDiff, Ent.ver, Ent.imm, Ent.ty, lits, isEl, newCells, aappend, Nat.reduceBEq, fill, undef, (st1), (st2), (st3), (st4), (st5), (st6), (st7), (st8), Int.natCast_zero]; try simp (disch := omega) only [wrapI64, Int.toNat_natCast, ← Int.natCast_add, nat_add_one, nat_add_two, take_drop_all, List.drop_zero, Nat.sub_zero, Nat.add_sub_cancel_left]), rfl, rfl⟩ ?_
  rintro i ⟨hi, hall⟩
  by_cases h : (i : Int) < l.length
  · have hi' : i < l.length := by omega
    (simp only [h, ivs_len, ivs_getD hi', (vm1), (vm2), (vm3), (vm4), aDet, ev, tget, tput, ofC, ofC1, pureR, condR, abin, aun, alen, gslot, Nat.reduceEqDiff, reduceIte, argTs, asliceS, asliceL, bnd, boolV, intV, retQ, aRes, aResV, oneAV, AV.low, AV.low.lows, Nat.reduceAdd, isStringD, isSliceD, isBoolD, setRange, AV.cells, AV.isCell, AV.isAgg, abytes, aconv, aeq, isConst, isByteD, isIfaceD, endQ, Int.reduceToNat, Int.reduceLE, Int.reduceLT, Int.reduceEq, Int.reduceNe, Int.reduceAdd, Int.reduceSub, Int.reduceNeg, Nat.reduceLT, Nat.reduceLeDiff, Ent.ver, Ent.imm, Ent.ty, lits, isEl, newCells, aappend, Nat.reduceBEq, fill, undef, (st1), (st2), (st3), (st4), (st5), (st6), (st7), (st8)]; try simp (disch := omega) only [wrapI64, Int.toNat_natCast, ← Int.natCast_add, nat_add_one, nat_add_two, take_drop_all, List.drop_zero, Nat.sub_zero, Nat.add_sub_cancel_left])
    refine xWait.go (hf _) ?_
    have hat : isAt p l i = (p (l.getD i 0) && (decide (i = 0) || decide (l.getD (i - 1) 0 < l.getD i 0))) := rfl
    have next : isAt p l i = true → ∀ j, j < i + 1 → isAt p l j = true := fun h j hj => by
      rcases Nat.lt_or_ge j i with q | q
      · exact hall j q
      · have : j = i := by omega
        rw [this]; exact h
    cases hp : p (l.getD i 0)
    · rw [hp] at hat
      (simp only [(vm1), (vm2), (vm3), (vm4), aDet, ev, tget, tput, ofC, ofC1, pureR, condR, abin, aun, alen, gslot, Nat.reduceEqDiff, reduceIte, argTs, asliceS, asliceL, bnd, boolV, intV, retQ, aRes, aResV, oneAV, AV.low, AV.low.lows, Nat.reduceAdd, isStringD, isSliceD, isBoolD, setRange, AV.cells, AV.isCell, AV.isAgg, abytes, aconv, aeq, isConst, isByteD, isIfaceD, endQ, Int.reduceToNat, Int.reduceLE, Int.reduceLT, Int.reduceEq, Int.reduceNe, Int.reduceAdd, Int.reduceSub, Int.reduceNeg, Nat.reduceLT, Nat.reduceLeDiff, Ent.ver, Ent.imm, Ent.ty, lits, isEl, newCells, aappend, Nat.reduceBEq, fill, undef, (st1), (st2), (st3), (st4), (st5), (st6), (st7), (st8)]; try simp (disch := omega) only [wrapI64, Int.toNat_natCast, ← Int.natCast_add, nat_add_one, nat_add_two, take_drop_all, List.drop_zero, Nat.sub_zero, Nat.add_sub_cancel_left])
      rw [ascP_not hi' (by simpa using hat)]
    · rw [hp] at hat
      (simp only [(vm1), (vm2), (vm3), (vm4), aDet, ev, tget, tput, ofC, ofC1, pureR, condR, abin, aun, alen, gslot, Nat.reduceEqDiff, reduceIte, argTs, asliceS, asliceL, bnd, boolV, intV, retQ, aRes, aResV, oneAV, AV.low, AV.low.lows, Nat.reduceAdd, isStringD, isSliceD, isBoolD, setRange, AV.cells, AV.isCell, AV.isAgg, abytes, aconv, aeq, isConst, isByteD, isIfaceD, endQ, Int.reduceToNat, Int.reduceLE, Int.reduceLT, Int.reduceEq, Int.reduceNe, Int.reduceAdd, Int.reduceSub, Int.reduceNeg, Nat.reduceLT, Nat.reduceLeDiff, Ent.ver, Ent.imm, Ent.ty, lits, isEl, newCells, aappend, Nat.reduceBEq, fill, undef, (st1), (st2), (st3), (st4), (st5), (st6), (st7), (st8)]; try simp (disch := omega) only [wrapI64, Int.toNat_natCast, ← Int.natCast_add, nat_add_one, nat_add_two, take_drop_all, List.drop_zero, Nat.sub_zero, Nat.add_sub_cancel_left])
      by_cases h0 : (0 : Int) < i
      · have hi1 : i - 1 < l.length := by omega
        have hw : IntKind.i64.wrap ((i : Int) - 1) = ((i - 1 : Nat) : Int) := by rw [wrapI64 (by omega) (by omega)]; omega
        (simp only [h0, ivs_len, hw, Int.toNat_natCast, ivs_getD hi1, (vm1), (vm2), (vm3), (vm4), aDet, ev, tget, tput, ofC, ofC1, pureR, condR, abin, aun, alen, gslot, Nat.reduceEqDiff, reduceIte, argTs, asliceS, asliceL, bnd, boolV, intV, retQ, aRes, aResV, oneAV, AV.low, AV.low.lows, Nat.reduceAdd, isStringD, isSliceD, isBoolD, setRange, AV.cells, AV.isCell, AV.isAgg, abytes, aconv, aeq, isConst, isByteD, isIfaceD, endQ, Int.reduceToNat, Int.reduceLE, Int.reduceLT, Int.reduceEq, Int.reduceNe, Int.reduceAdd, Int.reduceSub, Int.reduceNeg, Nat.reduceLT, Nat.reduceLeDiff, Ent.ver, Ent.imm, Ent.ty, lits, isEl, newCells, aappend, Nat.reduceBEq, fill, undef, (st1), (st2), (st3), (st4), (st5), (st6), (st7), (st8)]; try simp (disch := omega) only [wrapI64, Int.toNat_natCast, ← Int.natCast_add, nat_add_one, nat_add_two, take_drop_all, List.drop_zero, Nat.sub_zero, Nat.add_sub_cancel_left])
        refine ⟨by omega, ?_⟩
        by_cases h1 : l.getD i 0 ≤ l.getD (i - 1) 0
        · (simp only [h1, (vm1), (vm2), (vm3), (vm4), aDet, ev, tget, tput, ofC, ofC1, pureR, condR, abin, aun, alen, gslot, Nat.reduceEqDiff, reduceIte, argTs, asliceS, asliceL, bnd, boolV, intV, retQ, aRes, aResV, oneAV, AV.low, AV.low.lows, Nat.reduceAdd, isStringD, isSliceD, isBoolD, setRange, AV.cells, AV.isCell, AV.isAgg, abytes, aconv, aeq, isConst, isByteD, isIfaceD, endQ, Int.reduceToNat, Int.reduceLE, Int.reduceLT, Int.reduceEq, Int.reduceNe, Int.reduceAdd, Int.reduceSub, Int.reduceNeg, Nat.reduceLT, Nat.reduceLeDiff, Ent.ver, Ent.imm, Ent.ty, lits, isEl, newCells, aappend, Nat.reduceBEq, fill, undef, (st1), (st2), (st3), (st4), (st5), (st6), (st7), (st8)]; try simp (disch := omega) only [wrapI64, Int.toNat_natCast, ← Int.natCast_add, nat_add_one, nat_add_two, take_drop_all, List.drop_zero, Nat.sub_zero, Nat.add_sub_cancel_left])
          rw [ascP_not hi' (by rw [hat]; simp only [Bool.true_and, Bool.or_eq_false_iff, decide_eq_false_iff_not]; omega)]
        · (simp only [h1, (vm1), (vm2), (vm3), (vm4), aDet, ev, tget, tput, ofC, ofC1, pureR, condR, abin, aun, alen, gslot, Nat.reduceEqDiff, reduceIte, argTs, asliceS, asliceL, bnd, boolV, intV, retQ, aRes, aResV, oneAV, AV.low, AV.low.lows, Nat.reduceAdd, isStringD, isSliceD, isBoolD, setRange, AV.cells, AV.isCell, AV.isAgg, abytes, aconv, aeq, isConst, isByteD, isIfaceD, endQ, Int.reduceToNat, Int.reduceLE, Int.reduceLT, Int.reduceEq, Int.reduceNe, Int.reduceAdd, Int.reduceSub, Int.reduceNeg, Nat.reduceLT, Nat.reduceLeDiff, Ent.ver, Ent.imm, Ent.ty, lits, isEl, newCells, aappend, Nat.reduceBEq, fill, undef, (st1), (st2), (st3), (st4), (st5), (st6), (st7), (st8)]; try simp (disch := omega) only [wrapI64, Int.toNat_natCast, ← Int.natCast_add, nat_add_one, nat_add_two, take_drop_all, List.drop_zero, Nat.sub_zero, Nat.add_sub_cancel_left])
          exact ⟨i + 1, ⟨by omega, next (by rw [hat]; simp only [Bool.true_and, Bool.or_eq_true, decide_eq_true_eq]; omega)⟩, by omega, rfl⟩
      · have h00 : i = 0 := by omega
        (simp only [h0, (vm1), (vm2), (vm3), (vm4), aDet, ev, tget, tput, ofC, ofC1, pureR, condR, abin, aun, alen, gslot, Nat.reduceEqDiff, reduceIte, argTs, asliceS, asliceL, bnd, boolV, intV, retQ, aRes, aResV, oneAV, AV.low, AV.low.lows, Nat.reduceAdd, isStringD, isSliceD, isBoolD, setRange, AV.cells, AV.isCell, AV.isAgg, abytes, aconv, aeq, isConst, isByteD, isIfaceD, endQ, Int.reduceToNat, Int.reduceLE, Int.reduceLT, Int.reduceEq, Int.reduceNe, Int.reduceAdd, Int.reduceSub, Int.reduceNeg, Nat.reduceLT, Nat.reduceLeDiff, Ent.ver, Ent.imm, Ent.ty, lits, isEl, newCells, aappend, Nat.reduceBEq, fill, undef, (st1), (st2), (st3), (st4), (st5), (st6), (st7), (st8)]; try simp (disch := omega) only [wrapI64, Int.toNat_natCast, ← Int.natCast_add, nat_add_one, nat_add_two, take_drop_all, List.drop_zero, Nat.sub_zero, Nat.add_sub_cancel_left])
        exact ⟨i + 1, ⟨by omega, next (by rw [hat]; simp only [Bool.true_and, Bool.or_eq_true, decide_eq_true_eq]; omega)⟩, by omega, rfl⟩
  · (simp only [h, (vm1), (vm2), (vm3), (vm4), aDet, ev, tget, tput, ofC, ofC1, pureR, condR, abin, aun, alen, gslot, Nat.reduceEqDiff, reduceIte, argTs, asliceS, asliceL, bnd, boolV, intV, retQ, aRes, aResV, oneAV, AV.low, AV.low.lows, Nat.reduceAdd, isStringD, isSliceD, isBoolD, setRange, AV.cells, AV.isCell, AV.isAgg, abytes, aconv, aeq, isConst, isByteD, isIfaceD, endQ, Int.reduceToNat, Int.reduceLE, Int.reduceLT, Int.reduceEq, Int.reduceNe, Int.reduceAdd, Int.reduceSub, Int.reduceNeg, Nat.reduceLT, Nat.reduceLeDiff, Ent.ver, Ent.imm, Ent.ty, lits, isEl, newCells, aappend, Nat.reduceBEq, fill, undef, (st1), (st2), (st3), (st4), (st5), (st6), (st7), (st8)]; try simp (disch := omega) only [wrapI64, Int.toNat_natCast, ← Int.natCast_add, nat_add_one, nat_add_two, take_drop_all, List.drop_zero, Nat.sub_zero, Nat.add_sub_cancel_left])
    rw [ascP_take hall (by omega)]

theorem plIsEffect_ok (l : List Int) (hl : l.length ≤ 9223372036854775807) (σ : List Ent) : ACalls E 12 [.sl (ivs l)] σ fun r τ => r = boolV (effB l) ∧ τ = σ := by
  refine xacalls T0 .drop [] Tryz.func12 rfl (by kernel_rfl) (by kernel_rfl) (by simp [Tryz.ntmps12]) ?_
  (simp only [(vm1), (vm2), (vm3), (vm4), aDet, ev, tget, tput, ofC, ofC1, pureR, condR, abin, aun, alen, gslot, Nat.reduceEqDiff, reduceIte, argTs, asliceS, asliceL, bnd, boolV, intV, retQ, aRes, aResV, oneAV, AV.low, AV.low.lows, Nat.reduceAdd, isStringD, isSliceD, isBoolD, setRange, AV.cells, AV.isCell, AV.isAgg, abytes, aconv, aeq, isConst, isByteD, isIfaceD, endQ, Int.reduceToNat, Int.reduceLE, Int.reduceLT, Int.reduceEq, Int.reduceNe, Int.reduceAdd, Int.reduceSub, Int.reduceNeg, Nat.reduceLT, Nat.reduceLeDiff, Ent.ver, Ent.imm, Ent.ty, lits, isEl, newCells, aappend, Nat.reduceBEq, fill, undef, (st1), (st2), (st3), (st4), (st5), (st6), (st7), (st8)]; try simp (disch := omega) only [wrapI64, Int.toNat_natCast, ← Int.natCast_add, nat_add_one, nat_add_two, take_drop_all, List.drop_zero, Nat.sub_zero, Nat.add_sub_cancel_left])
  refine xWait.go (plascending_ok _ atomP l hl _ fun x => plIsEffect1_ok x _) ?_
  (simp only [(vm1), (vm2), (vm3), (vm4), aDet, ev, tget, tput, ofC, ofC1, pureR, condR, abin, aun, alen, gslot, Nat.reduceEqDiff, reduceIte, argTs, asliceS, asliceL, bnd, boolV, intV, retQ, aRes, aResV, oneAV, AV.low, AV.low.lows, Nat.reduceAdd, isStringD, isSliceD, isBoolD, setRange, AV.cells, AV.isCell, AV.isAgg, abytes, aconv, aeq, isConst, isByteD, isIfaceD, endQ, Int.reduceToNat, Int.reduceLE, Int.reduceLT, Int.reduceEq, Int.reduceNe, Int.reduceAdd, Int.reduceSub, Int.reduceNeg, Nat.reduceLT, Nat.reduceLeDiff, Ent.ver, Ent.imm, Ent.ty, lits, isEl, newCells, aappend, Nat.reduceBEq, fill, undef, (st1), (st2), (st3), (st4), (st5), (st6), (st7), (st8)]; try simp (disch := omega) only [wrapI64, Int.toNat_natCast, ← Int.natCast_add, nat_add_one, nat_add_two, take_drop_all, List.drop_zero, Nat.sub_zero, Nat.add_sub_cancel_left])
  rfl

-- The document's.
theorem rIsRegion_ok (b : Int) (σ : List Ent) : ACalls E 37 [i64 b] σ fun r τ => r = boolV (decide (0 ≤ b) && decide (b ≤ 9999)) ∧ τ = σ := by
  refine xacalls T0 .drop [] Tryz.func37 rfl (by kernel_rfl) (by kernel_rfl) (by simp [Tryz.ntmps37]) ?_
  by_cases h : 0 ≤ b <;> (simp only [h, (vm1), (vm2), (vm3), (vm4), aDet, ev, tget, tput, ofC, ofC1, pureR, condR, abin, aun, alen, gslot, Nat.reduceEqDiff, reduceIte, argTs, asliceS, asliceL, bnd, boolV, intV, retQ, aRes, aResV, oneAV, AV.low, AV.low.lows, Nat.reduceAdd, isStringD, isSliceD, isBoolD, setRange, AV.cells, AV.isCell, AV.isAgg, abytes, aconv, aeq, isConst, isByteD, isIfaceD, endQ, Int.reduceToNat, Int.reduceLE, Int.reduceLT, Int.reduceEq, Int.reduceNe, Int.reduceAdd, Int.reduceSub, Int.reduceNeg, Nat.reduceLT, Nat.reduceLeDiff, Ent.ver, Ent.imm, Ent.ty, lits, isEl, newCells, aappend, Nat.reduceBEq, fill, undef, (st1), (st2), (st3), (st4), (st5), (st6), (st7), (st8)]; try simp (disch := omega) only [wrapI64, Int.toNat_natCast, ← Int.natCast_add, nat_add_one, nat_add_two, take_drop_all, List.drop_zero, Nat.sub_zero, Nat.add_sub_cancel_left])
theorem rIsEffVar_ok (b : Int) (σ : List Ent) : ACalls E 38 [i64 b] σ fun r τ => r = boolV (decide (b < 0) && decide (-9999 ≤ b)) ∧ τ = σ := by
  refine xacalls T0 .drop [] Tryz.func38 rfl (by kernel_rfl) (by kernel_rfl) (by simp [Tryz.ntmps38]) ?_
  by_cases h : b < 0 <;> (simp only [h, (vm1), (vm2), (vm3), (vm4), aDet, ev, tget, tput, ofC, ofC1, pureR, condR, abin, aun, alen, gslot, Nat.reduceEqDiff, reduceIte, argTs, asliceS, asliceL, bnd, boolV, intV, retQ, aRes, aResV, oneAV, AV.low, AV.low.lows, Nat.reduceAdd, isStringD, isSliceD, isBoolD, setRange, AV.cells, AV.isCell, AV.isAgg, abytes, aconv, aeq, isConst, isByteD, isIfaceD, endQ, Int.reduceToNat, Int.reduceLE, Int.reduceLT, Int.reduceEq, Int.reduceNe, Int.reduceAdd, Int.reduceSub, Int.reduceNeg, Nat.reduceLT, Nat.reduceLeDiff, Ent.ver, Ent.imm, Ent.ty, lits, isEl, newCells, aappend, Nat.reduceBEq, fill, undef, (st1), (st2), (st3), (st4), (st5), (st6), (st7), (st8)]; try simp (disch := omega) only [wrapI64, Int.toNat_natCast, ← Int.natCast_add, nat_add_one, nat_add_two, take_drop_all, List.drop_zero, Nat.sub_zero, Nat.add_sub_cancel_left])

theorem rHas_ok (l : List Int) (x : Int) (hl : l.length ≤ 1099511627776) (σ : List Ent) : ACalls E 18 [.sl (ivs l), i64 x] σ fun r τ => r = boolV (decide (x ∈ l)) ∧ τ = σ := by
  refine xacalls T0 .drop [] Tryz.func18 rfl (by kernel_rfl) (by kernel_rfl) (by simp [Tryz.ntmps18]) ?_
  (simp only [ivs_len, (vm1), (vm2), (vm3), (vm4), aDet, ev, tget, tput, ofC, ofC1, pureR, condR, abin, aun, alen, gslot, Nat.reduceEqDiff, reduceIte, argTs, asliceS, asliceL, bnd, boolV, intV, retQ, aRes, aResV, oneAV, AV.low, AV.low.lows, Nat.reduceAdd, isStringD, isSliceD, isBoolD, setRange, AV.cells, AV.isCell, AV.isAgg, abytes, aconv, aeq, isConst, isByteD, isIfaceD, endQ, Int.reduceToNat, Int.reduceLE, Int.reduceLT, Int.reduceEq, Int.reduceNe, Int.reduceAdd, Int.reduceSub, Int.reduceNeg, Nat.reduceLT, Nat.reduceLeDiff, Ent.ver, Ent.imm, Ent.ty, lits, isEl, newCells, aappend, Nat.reduceBEq, fill, undef, (st1), (st2), (st3), (st4), (st5), (st6), (st7), (st8)]; try simp (disch := omega) only [wrapI64, Int.toNat_natCast, ← Int.natCast_add, nat_add_one, nat_add_two, take_drop_all, List.drop_zero, Nat.sub_zero, Nat.add_sub_cancel_left])
  refine xloop (α := Nat) T0 (fun i => [(0, .sl (ivs l)), (1, i64 x), (7, .sl (ivs l)), (8, i64 l.length), (9, i64 i)]) (fun _ => σ) (fun _ => []) (fun i => i ≤ l.length ∧ x ∉ l.take i) (fun i => l.length - i) (by kernel_rfl)
    ⟨0, by simp, by (simp only [(vm1), (vm2), (vm3), (vm4), aDet, ev, tget, tput, ofC, ofC1, pureR, condR, abin, aun, alen, gslot, Nat.reduceEqDiff, reduceIte, argTs, asliceS, asliceL, bnd, boolV, intV, retQ, aRes, aResV, oneAV, AV.low, AV.low.lows, Nat.reduceAdd, isStringD, isSliceD, isBoolD, setRange, AV.cells, AV.isCell, AV.isAgg, abytes, aconv, aeq, isConst, isByteD, isIfaceD, endQ, Int.reduceToNat, Int.reduceLE, Int.reduceLT, Int.reduceEq, Int.reduceNe, Int.reduceAdd, Int.reduceSub, Int.reduceNeg, Nat.reduceLT, Nat.reduceLeDiff, Ent.ver, Ent.imm, Ent.ty, lits, isEl, newCells, aappend, Nat.reduceBEq, fill, undef, (st1), (st2), (st3), (st4), (st5), (st6), (st7), (st8), Int.natCast_zero]; try simp (disch := omega) only [wrapI64, Int.toNat_natCast, ← Int.natCast_add, nat_add_one, nat_add_two, take_drop_all, List.drop_zero, Nat.sub_zero, Nat.add_sub_cancel_left]), rfl, rfl⟩ ?_
  rintro i ⟨hi, hall⟩
  by_cases h : (i : Int) < l.length
  · have hi' : i < l.length := by omega
    have ht : l.take (i + 1) = l.take i ++ [l.getD i 0] := by rw [List.take_add_one, List.getD, List.getElem?_eq_getElem hi']; rfl
    (simp only [h, ivs_len, ivs_getD hi', (vm1), (vm2), (vm3), (vm4), aDet, ev, tget, tput, ofC, ofC1, pureR, condR, abin, aun, alen, gslot, Nat.reduceEqDiff, reduceIte, argTs, asliceS, asliceL, bnd, boolV, intV, retQ, aRes, aResV, oneAV, AV.low, AV.low.lows, Nat.reduceAdd, isStringD, isSliceD, isBoolD, setRange, AV.cells, AV.isCell, AV.isAgg, abytes, aconv, aeq, isConst, isByteD, isIfaceD, endQ, Int.reduceToNat, Int.reduceLE, Int.reduceLT, Int.reduceEq, Int.reduceNe, Int.reduceAdd, Int.reduceSub, Int.reduceNeg, Nat.reduceLT, Nat.reduceLeDiff, Ent.ver, Ent.imm, Ent.ty, lits, isEl, newCells, aappend, Nat.reduceBEq, fill, undef, (st1), (st2), (st3), (st4), (st5), (st6), (st7), (st8)]; try simp (disch := omega) only [wrapI64, Int.toNat_natCast, ← Int.natCast_add, nat_add_one, nat_add_two, take_drop_all, List.drop_zero, Nat.sub_zero, Nat.add_sub_cancel_left])
    by_cases hx : l.getD i 0 = x
    · (simp only [hx, (vm1), (vm2), (vm3), (vm4), aDet, ev, tget, tput, ofC, ofC1, pureR, condR, abin, aun, alen, gslot, Nat.reduceEqDiff, reduceIte, argTs, asliceS, asliceL, bnd, boolV, intV, retQ, aRes, aResV, oneAV, AV.low, AV.low.lows, Nat.reduceAdd, isStringD, isSliceD, isBoolD, setRange, AV.cells, AV.isCell, AV.isAgg, abytes, aconv, aeq, isConst, isByteD, isIfaceD, endQ, Int.reduceToNat, Int.reduceLE, Int.reduceLT, Int.reduceEq, Int.reduceNe, Int.reduceAdd, Int.reduceSub, Int.reduceNeg, Nat.reduceLT, Nat.reduceLeDiff, Ent.ver, Ent.imm, Ent.ty, lits, isEl, newCells, aappend, Nat.reduceBEq, fill, undef, (st1), (st2), (st3), (st4), (st5), (st6), (st7), (st8)]; try simp (disch := omega) only [wrapI64, Int.toNat_natCast, ← Int.natCast_add, nat_add_one, nat_add_two, take_drop_all, List.drop_zero, Nat.sub_zero, Nat.add_sub_cancel_left])
      rw [decide_eq_true (by rw [← hx]; exact getD_memI hi')]
    · (simp only [hx, (vm1), (vm2), (vm3), (vm4), aDet, ev, tget, tput, ofC, ofC1, pureR, condR, abin, aun, alen, gslot, Nat.reduceEqDiff, reduceIte, argTs, asliceS, asliceL, bnd, boolV, intV, retQ, aRes, aResV, oneAV, AV.low, AV.low.lows, Nat.reduceAdd, isStringD, isSliceD, isBoolD, setRange, AV.cells, AV.isCell, AV.isAgg, abytes, aconv, aeq, isConst, isByteD, isIfaceD, endQ, Int.reduceToNat, Int.reduceLE, Int.reduceLT, Int.reduceEq, Int.reduceNe, Int.reduceAdd, Int.reduceSub, Int.reduceNeg, Nat.reduceLT, Nat.reduceLeDiff, Ent.ver, Ent.imm, Ent.ty, lits, isEl, newCells, aappend, Nat.reduceBEq, fill, undef, (st1), (st2), (st3), (st4), (st5), (st6), (st7), (st8)]; try simp (disch := omega) only [wrapI64, Int.toNat_natCast, ← Int.natCast_add, nat_add_one, nat_add_two, take_drop_all, List.drop_zero, Nat.sub_zero, Nat.add_sub_cancel_left])
      exact ⟨i + 1, ⟨by omega, by rw [ht, List.mem_append]; rintro (h | h); exact hall h; exact hx (List.mem_singleton.1 h).symm⟩, by omega, rfl⟩
  · (simp only [h, (vm1), (vm2), (vm3), (vm4), aDet, ev, tget, tput, ofC, ofC1, pureR, condR, abin, aun, alen, gslot, Nat.reduceEqDiff, reduceIte, argTs, asliceS, asliceL, bnd, boolV, intV, retQ, aRes, aResV, oneAV, AV.low, AV.low.lows, Nat.reduceAdd, isStringD, isSliceD, isBoolD, setRange, AV.cells, AV.isCell, AV.isAgg, abytes, aconv, aeq, isConst, isByteD, isIfaceD, endQ, Int.reduceToNat, Int.reduceLE, Int.reduceLT, Int.reduceEq, Int.reduceNe, Int.reduceAdd, Int.reduceSub, Int.reduceNeg, Nat.reduceLT, Nat.reduceLeDiff, Ent.ver, Ent.imm, Ent.ty, lits, isEl, newCells, aappend, Nat.reduceBEq, fill, undef, (st1), (st2), (st3), (st4), (st5), (st6), (st7), (st8)]; try simp (disch := omega) only [wrapI64, Int.toNat_natCast, ← Int.natCast_add, nat_add_one, nat_add_two, take_drop_all, List.drop_zero, Nat.sub_zero, Nat.add_sub_cancel_left])
    rw [List.take_of_length_le (by omega)] at hall
    rw [decide_eq_false hall]
end Go.D

/- Effects: the document's lists. -/
set_option linter.unusedVariables false
set_option linter.unusedSimpArgs false
set_option maxRecDepth 100000
namespace Go.D
open Go Go.Vm Go.Proofs Go.RowKit

theorem ivs_el {l : List Int} {x : AV} (h : x ∈ ivs l) : isEl 1 false x = true := by obtain ⟨z, _, rfl⟩ := List.mem_map.1 h; rfl
theorem ivs_cells : ∀ l : List Int, (ivs l).flatMap AV.cells = ivs l
  | [] => rfl
  | x :: l => by
    have := ivs_cells l
    simp only [ivs, List.map_cons, List.flatMap_cons, AV.cells] at *
    rw [this]; rfl
theorem ivs_app (a b : List Int) : ivs a ++ ivs b = ivs (a ++ b) := by simp [ivs]
theorem ivs_drop (a : List Int) (n : Nat) : (ivs a).drop n = ivs (a.drop n) := by simp [ivs]
theorem ivs_take (a : List Int) (n : Nat) : (ivs a).take n = ivs (a.take n) := by simp [ivs]
theorem ivs_low (n : Nat) : ∀ l : List Int, AV.low.lows n (ivs l) = true
  | [] => rfl
  | x :: l => by
    have := ivs_low n l
    simp only [ivs, List.map_cons, AV.low.lows, AV.low] at *
    rw [this]; rfl
theorem frz_ints {n0 id ver imm ty : Nat} {l : List Ent} {zs : List Int} (hid : n0 ≤ id) (h : l[id - n0]? = some (.arr ty (ivs zs) ver imm)) : Frz n0 l (.rsl id ver 0 zs.length 1) (.sl (ivs zs)) :=
  .rsl (imm := imm) (ag := false) (cells := ivs zs) (es := ivs zs) hid h (by rw [List.drop_zero, ivs_cells]) (by omega) (by rw [ivs_len]) (by omega) (fun e he => ivs_el he) FrzL.refl
theorem frz_intsp {n0 id ver imm ty n : Nat} {l : List Ent} {zs us : List Int} (hid : n0 ≤ id) (h : l[id - n0]? = some (.arr ty (ivs (zs ++ us)) ver imm)) (hn : n = zs.length) : Frz n0 l (.rsl id ver 0 n 1) (.sl (ivs zs)) :=
  .rslp (imm := imm) (ag := false) (cells := ivs (zs ++ us)) (tail := ivs us) (es := ivs zs) hid h (by rw [List.drop_zero, ivs_cells, ivs_app]) (by omega) (by rw [ivs_len, hn]) (by omega) (fun e he => ivs_el he) FrzL.refl

theorem frz_ints' {n0 id ver imm ty n : Nat} {l : List Ent} {zs : List Int} {cs : List AV} (hid : n0 ≤ id) (h : l[id - n0]? = some (.arr ty cs ver imm)) (hc : cs = ivs zs) (hn : n = zs.length) : Frz n0 l (.rsl id ver 0 n 1) (.sl (ivs zs)) := by
  subst hn; subst hc; exact frz_ints hid h

def ascB (l : List Int) : Bool := ascP (fun _ => true) l
theorem rAscends_ok (l : List Int) (hl : l.length ≤ 9223372036854775807) (σ : List Ent) : ACalls E 39 [.sl (ivs l)] σ fun r τ => r = boolV (ascB l) ∧ τ = σ := by
  refine xacalls T0 .drop [] Tryz.func39 rfl (by kernel_rfl) (by kernel_rfl) (by simp [Tryz.ntmps39]) ?_
  (simp only [ivs_len, (vm1), (vm2), (vm3), (vm4), aDet, ev, tget, tput, ofC, ofC1, pureR, condR, abin, aun, alen, gslot, Nat.reduceEqDiff, reduceIte, argTs, asliceS, asliceL, bnd, boolV, intV, retQ, aRes, aResV, oneAV, AV.low, AV.low.lows, Nat.reduceAdd, isStringD, isSliceD, isBoolD, setRange, AV.cells, AV.isCell, AV.isAgg, abytes, aconv, aeq, isConst, isByteD, isIfaceD, endQ, Int.reduceToNat, Int.reduceLE, Int.reduceLT, Int.reduceEq, Int.reduceNe, Int.reduceAdd, Int.reduceSub, Int.reduceNeg, Nat.reduceLT, Nat.reduceLeDiff, Ent.ver, Ent.imm, Ent.ty, lits, isEl, newCells, aappend, Nat.reduceBEq, fill, undef, (st1), (st2), (st3), (st4), (st5), (st6), (st7), (st8)]; try simp (disch := omega) only [wrapI64, Int.toNat_natCast, ← Int.natCast_add, nat_add_one, nat_add_two, take_drop_all, List.drop_zero, Nat.sub_zero, Nat.add_sub_cancel_left])
  refine xloop (α := Nat) T0 (fun i => [(0, .sl (ivs l)), (4, .sl (ivs l)), (5, i64 l.length), (6, i64 i)]) (fun _ => σ) (fun _ => []) (fun i => i ≤ l.length ∧ ∀ j, j < i → isAt (fun _ => true) l j = true) (fun i => l.length - i) (by kernel_rfl)
    ⟨0, by simp, by (simp only [(vm1), (vm2), (vm3), (vm4), aDet, ev, tget, tput, ofC, ofC1, pureR, condR, abin, aun, alen, gslot, Nat.reduceEqDiff, reduceIte, argTs, asliceS, asliceL, bnd, boolV, intV, retQ, aRes, aResV, oneAV, AV.low, AV.low.lows, Nat.reduceAdd, isStringD, isSliceD, isBoolD, setRange, AV.cells, AV.isCell, AV.isAgg, abytes, aconv, aeq, isConst, isByteD, isIfaceD, endQ, Int.reduceToNat, Int.reduceLE, Int.reduceLT, Int.reduceEq, Int.reduceNe, Int.reduceAdd, Int.reduceSub, Int.reduceNeg, Nat.reduceLT, Nat.reduceLeDiff, Ent.ver, Ent.imm, Ent.ty, lits, isEl, newCells, aappend, Nat.reduceBEq, fill, undef, (st1), (st2), (st3), (st4), (st5), (st6), (st7), (st8), Int.natCast_zero]; try simp (disch := omega) only [wrapI64, Int.toNat_natCast, ← Int.natCast_add, nat_add_one, nat_add_two, take_drop_all, List.drop_zero, Nat.sub_zero, Nat.add_sub_cancel_left]), rfl, rfl⟩ ?_
  rintro i ⟨hi, hall⟩
  by_cases h : (i : Int) < l.length
  · have hi' : i < l.length := by omega
    have hat : isAt (fun _ => true) l i = (true && (decide (i = 0) || decide (l.getD (i - 1) 0 < l.getD i 0))) := rfl
    have next : isAt (fun _ => true) l i = true → ∀ j, j < i + 1 → isAt (fun _ => true) l j = true := fun h j hj => by
      rcases Nat.lt_or_ge j i with q | q
      · exact hall j q
      · have : j = i := by omega
        rw [this]; exact h
    (simp only [h, (vm1), (vm2), (vm3), (vm4), aDet, ev, tget, tput, ofC, ofC1, pureR, condR, abin, aun, alen, gslot, Nat.reduceEqDiff, reduceIte, argTs, asliceS, asliceL, bnd, boolV, intV, retQ, aRes, aResV, oneAV, AV.low, AV.low.lows, Nat.reduceAdd, isStringD, isSliceD, isBoolD, setRange, AV.cells, AV.isCell, AV.isAgg, abytes, aconv, aeq, isConst, isByteD, isIfaceD, endQ, Int.reduceToNat, Int.reduceLE, Int.reduceLT, Int.reduceEq, Int.reduceNe, Int.reduceAdd, Int.reduceSub, Int.reduceNeg, Nat.reduceLT, Nat.reduceLeDiff, Ent.ver, Ent.imm, Ent.ty, lits, isEl, newCells, aappend, Nat.reduceBEq, fill, undef, (st1), (st2), (st3), (st4), (st5), (st6), (st7), (st8)]; try simp (disch := omega) only [wrapI64, Int.toNat_natCast, ← Int.natCast_add, nat_add_one, nat_add_two, take_drop_all, List.drop_zero, Nat.sub_zero, Nat.add_sub_cancel_left])
    refine ydraw T0 [] (by kernel_rfl) (by kernel_rfl) (by kernel_rfl) (by kernel_rfl) ?_
    by_cases h0 : (0 : Int) < i
    · have hi1 : i - 1 < l.length := by omega
      have hw : IntKind.i64.wrap ((i : Int) - 1) = ((i - 1 : Nat) : Int) := by rw [wrapI64 (by omega) (by omega)]; omega
      by_cases h1 : l.getD i 0 ≤ l.getD (i - 1) 0
      · (simp only [h, h0, h1, ivs_len, hw, Int.toNat_natCast, ivs_getD hi1, ivs_getD hi', (vm1), (vm2), (vm3), (vm4), aDet, ev, tget, tput, ofC, ofC1, pureR, condR, abin, aun, alen, gslot, Nat.reduceEqDiff, reduceIte, argTs, asliceS, asliceL, bnd, boolV, intV, retQ, aRes, aResV, oneAV, AV.low, AV.low.lows, Nat.reduceAdd, isStringD, isSliceD, isBoolD, setRange, AV.cells, AV.isCell, AV.isAgg, abytes, aconv, aeq, isConst, isByteD, isIfaceD, endQ, Int.reduceToNat, Int.reduceLE, Int.reduceLT, Int.reduceEq, Int.reduceNe, Int.reduceAdd, Int.reduceSub, Int.reduceNeg, Nat.reduceLT, Nat.reduceLeDiff, Ent.ver, Ent.imm, Ent.ty, lits, isEl, newCells, aappend, Nat.reduceBEq, fill, undef, (st1), (st2), (st3), (st4), (st5), (st6), (st7), (st8)]; try simp (disch := omega) only [wrapI64, Int.toNat_natCast, ← Int.natCast_add, nat_add_one, nat_add_two, take_drop_all, List.drop_zero, Nat.sub_zero, Nat.add_sub_cancel_left])
        refine ⟨by omega, ?_⟩
        rw [ascB, ascP_not hi' (by rw [hat]; simp only [Bool.true_and, Bool.or_eq_false_iff, decide_eq_false_iff_not]; omega)]
      · (simp only [h, h0, h1, ivs_len, hw, Int.toNat_natCast, ivs_getD hi1, ivs_getD hi', (vm1), (vm2), (vm3), (vm4), aDet, ev, tget, tput, ofC, ofC1, pureR, condR, abin, aun, alen, gslot, Nat.reduceEqDiff, reduceIte, argTs, asliceS, asliceL, bnd, boolV, intV, retQ, aRes, aResV, oneAV, AV.low, AV.low.lows, Nat.reduceAdd, isStringD, isSliceD, isBoolD, setRange, AV.cells, AV.isCell, AV.isAgg, abytes, aconv, aeq, isConst, isByteD, isIfaceD, endQ, Int.reduceToNat, Int.reduceLE, Int.reduceLT, Int.reduceEq, Int.reduceNe, Int.reduceAdd, Int.reduceSub, Int.reduceNeg, Nat.reduceLT, Nat.reduceLeDiff, Ent.ver, Ent.imm, Ent.ty, lits, isEl, newCells, aappend, Nat.reduceBEq, fill, undef, (st1), (st2), (st3), (st4), (st5), (st6), (st7), (st8)]; try simp (disch := omega) only [wrapI64, Int.toNat_natCast, ← Int.natCast_add, nat_add_one, nat_add_two, take_drop_all, List.drop_zero, Nat.sub_zero, Nat.add_sub_cancel_left])
        exact ⟨by omega, i + 1, ⟨by omega, next (by rw [hat]; simp only [Bool.true_and, Bool.or_eq_true, decide_eq_true_eq]; omega)⟩, by omega, rfl⟩
    · (simp only [h0, (vm1), (vm2), (vm3), (vm4), aDet, ev, tget, tput, ofC, ofC1, pureR, condR, abin, aun, alen, gslot, Nat.reduceEqDiff, reduceIte, argTs, asliceS, asliceL, bnd, boolV, intV, retQ, aRes, aResV, oneAV, AV.low, AV.low.lows, Nat.reduceAdd, isStringD, isSliceD, isBoolD, setRange, AV.cells, AV.isCell, AV.isAgg, abytes, aconv, aeq, isConst, isByteD, isIfaceD, endQ, Int.reduceToNat, Int.reduceLE, Int.reduceLT, Int.reduceEq, Int.reduceNe, Int.reduceAdd, Int.reduceSub, Int.reduceNeg, Nat.reduceLT, Nat.reduceLeDiff, Ent.ver, Ent.imm, Ent.ty, lits, isEl, newCells, aappend, Nat.reduceBEq, fill, undef, (st1), (st2), (st3), (st4), (st5), (st6), (st7), (st8)]; try simp (disch := omega) only [wrapI64, Int.toNat_natCast, ← Int.natCast_add, nat_add_one, nat_add_two, take_drop_all, List.drop_zero, Nat.sub_zero, Nat.add_sub_cancel_left])
      exact ⟨i + 1, ⟨by omega, next (by rw [hat]; simp only [Bool.true_and, Bool.or_eq_true, decide_eq_true_eq]; omega)⟩, by omega, rfl⟩
  · (simp only [h, (vm1), (vm2), (vm3), (vm4), aDet, ev, tget, tput, ofC, ofC1, pureR, condR, abin, aun, alen, gslot, Nat.reduceEqDiff, reduceIte, argTs, asliceS, asliceL, bnd, boolV, intV, retQ, aRes, aResV, oneAV, AV.low, AV.low.lows, Nat.reduceAdd, isStringD, isSliceD, isBoolD, setRange, AV.cells, AV.isCell, AV.isAgg, abytes, aconv, aeq, isConst, isByteD, isIfaceD, endQ, Int.reduceToNat, Int.reduceLE, Int.reduceLT, Int.reduceEq, Int.reduceNe, Int.reduceAdd, Int.reduceSub, Int.reduceNeg, Nat.reduceLT, Nat.reduceLeDiff, Ent.ver, Ent.imm, Ent.ty, lits, isEl, newCells, aappend, Nat.reduceBEq, fill, undef, (st1), (st2), (st3), (st4), (st5), (st6), (st7), (st8)]; try simp (disch := omega) only [wrapI64, Int.toNat_natCast, ← Int.natCast_add, nat_add_one, nat_add_two, take_drop_all, List.drop_zero, Nat.sub_zero, Nat.add_sub_cancel_left])
    rw [ascB, ascP_take hall (by omega)]

theorem effB_eq (l : List Int) : effB l = (l.all atomP && ascB l) := by
  rw [Bool.eq_iff_iff, effB, ascP_iff, Bool.and_eq_true, ascB, ascP_iff, List.all_eq_true]
  simp
theorem rIsEffect_ok (l : List Int) (hl : l.length ≤ 9223372036854775807) (σ : List Ent) : ACalls E 13 [.sl (ivs l)] σ fun r τ => r = boolV (effB l) ∧ τ = σ := by
  refine xacalls T0 .drop [] Tryz.func13 rfl (by kernel_rfl) (by kernel_rfl) (by simp [Tryz.ntmps13]) ?_
  (simp only [ivs_len, (vm1), (vm2), (vm3), (vm4), aDet, ev, tget, tput, ofC, ofC1, pureR, condR, abin, aun, alen, gslot, Nat.reduceEqDiff, reduceIte, argTs, asliceS, asliceL, bnd, boolV, intV, retQ, aRes, aResV, oneAV, AV.low, AV.low.lows, Nat.reduceAdd, isStringD, isSliceD, isBoolD, setRange, AV.cells, AV.isCell, AV.isAgg, abytes, aconv, aeq, isConst, isByteD, isIfaceD, endQ, Int.reduceToNat, Int.reduceLE, Int.reduceLT, Int.reduceEq, Int.reduceNe, Int.reduceAdd, Int.reduceSub, Int.reduceNeg, Nat.reduceLT, Nat.reduceLeDiff, Ent.ver, Ent.imm, Ent.ty, lits, isEl, newCells, aappend, Nat.reduceBEq, fill, undef, (st1), (st2), (st3), (st4), (st5), (st6), (st7), (st8)]; try simp (disch := omega) only [wrapI64, Int.toNat_natCast, ← Int.natCast_add, nat_add_one, nat_add_two, take_drop_all, List.drop_zero, Nat.sub_zero, Nat.add_sub_cancel_left])
  refine xloop (α := Nat) T0 (fun i => [(0, .sl (ivs l)), (5, .sl (ivs l)), (6, i64 l.length), (7, i64 i)]) (fun _ => σ) (fun _ => []) (fun i => i ≤ l.length ∧ (l.take i).all atomP = true) (fun i => l.length - i) (by kernel_rfl)
    ⟨0, by simp, by (simp only [(vm1), (vm2), (vm3), (vm4), aDet, ev, tget, tput, ofC, ofC1, pureR, condR, abin, aun, alen, gslot, Nat.reduceEqDiff, reduceIte, argTs, asliceS, asliceL, bnd, boolV, intV, retQ, aRes, aResV, oneAV, AV.low, AV.low.lows, Nat.reduceAdd, isStringD, isSliceD, isBoolD, setRange, AV.cells, AV.isCell, AV.isAgg, abytes, aconv, aeq, isConst, isByteD, isIfaceD, endQ, Int.reduceToNat, Int.reduceLE, Int.reduceLT, Int.reduceEq, Int.reduceNe, Int.reduceAdd, Int.reduceSub, Int.reduceNeg, Nat.reduceLT, Nat.reduceLeDiff, Ent.ver, Ent.imm, Ent.ty, lits, isEl, newCells, aappend, Nat.reduceBEq, fill, undef, (st1), (st2), (st3), (st4), (st5), (st6), (st7), (st8), Int.natCast_zero]; try simp (disch := omega) only [wrapI64, Int.toNat_natCast, ← Int.natCast_add, nat_add_one, nat_add_two, take_drop_all, List.drop_zero, Nat.sub_zero, Nat.add_sub_cancel_left]), rfl, rfl⟩ ?_
  rintro i ⟨hi, hall⟩
  by_cases h : (i : Int) < l.length
  · have hi' : i < l.length := by omega
    have ht : l.take (i + 1) = l.take i ++ [l.getD i 0] := by rw [List.take_add_one, List.getD, List.getElem?_eq_getElem hi']; rfl
    have hno : atomP (l.getD i 0) = false → effB l = false := fun hp => by
      rw [effB_eq, List.all_eq_false.2 ⟨_, getD_memI hi', by rw [hp]; simp⟩]; rfl
    have hyes : atomP (l.getD i 0) = true → (l.take (i + 1)).all atomP = true := fun hp => by rw [ht, List.all_append, hall]; simp only [List.all_cons, List.all_nil, hp]; rfl
    generalize hx : l.getD i 0 = x at *
    (simp only [h, hx, ivs_len, ivs_getD hi', (vm1), (vm2), (vm3), (vm4), aDet, ev, tget, tput, ofC, ofC1, pureR, condR, abin, aun, alen, gslot, Nat.reduceEqDiff, reduceIte, argTs, asliceS, asliceL, bnd, boolV, intV, retQ, aRes, aResV, oneAV, AV.low, AV.low.lows, Nat.reduceAdd, isStringD, isSliceD, isBoolD, setRange, AV.cells, AV.isCell, AV.isAgg, abytes, aconv, aeq, isConst, isByteD, isIfaceD, endQ, Int.reduceToNat, Int.reduceLE, Int.reduceLT, Int.reduceEq, Int.reduceNe, Int.reduceAdd, Int.reduceSub, Int.reduceNeg, Nat.reduceLT, Nat.reduceLeDiff, Ent.ver, Ent.imm, Ent.ty, lits, isEl, newCells, aappend, Nat.reduceBEq, fill, undef, (st1), (st2), (st3), (st4), (st5), (st6), (st7), (st8)]; try simp (disch := omega) only [wrapI64, Int.toNat_natCast, ← Int.natCast_add, nat_add_one, nat_add_two, take_drop_all, List.drop_zero, Nat.sub_zero, Nat.add_sub_cancel_left])
    refine xWait.go (rIsRegion_ok _ _) ?_
    cases hp : (decide (0 ≤ x) && decide (x ≤ 9999))
    · (simp only [(vm1), (vm2), (vm3), (vm4), aDet, ev, tget, tput, ofC, ofC1, pureR, condR, abin, aun, alen, gslot, Nat.reduceEqDiff, reduceIte, argTs, asliceS, asliceL, bnd, boolV, intV, retQ, aRes, aResV, oneAV, AV.low, AV.low.lows, Nat.reduceAdd, isStringD, isSliceD, isBoolD, setRange, AV.cells, AV.isCell, AV.isAgg, abytes, aconv, aeq, isConst, isByteD, isIfaceD, endQ, Int.reduceToNat, Int.reduceLE, Int.reduceLT, Int.reduceEq, Int.reduceNe, Int.reduceAdd, Int.reduceSub, Int.reduceNeg, Nat.reduceLT, Nat.reduceLeDiff, Ent.ver, Ent.imm, Ent.ty, lits, isEl, newCells, aappend, Nat.reduceBEq, fill, undef, (st1), (st2), (st3), (st4), (st5), (st6), (st7), (st8)]; try simp (disch := omega) only [wrapI64, Int.toNat_natCast, ← Int.natCast_add, nat_add_one, nat_add_two, take_drop_all, List.drop_zero, Nat.sub_zero, Nat.add_sub_cancel_left])
      refine xWait.go (rIsEffVar_ok _ _) ?_
      cases hq : (decide (x < 0) && decide (-9999 ≤ x))
      · (simp only [(vm1), (vm2), (vm3), (vm4), aDet, ev, tget, tput, ofC, ofC1, pureR, condR, abin, aun, alen, gslot, Nat.reduceEqDiff, reduceIte, argTs, asliceS, asliceL, bnd, boolV, intV, retQ, aRes, aResV, oneAV, AV.low, AV.low.lows, Nat.reduceAdd, isStringD, isSliceD, isBoolD, setRange, AV.cells, AV.isCell, AV.isAgg, abytes, aconv, aeq, isConst, isByteD, isIfaceD, endQ, Int.reduceToNat, Int.reduceLE, Int.reduceLT, Int.reduceEq, Int.reduceNe, Int.reduceAdd, Int.reduceSub, Int.reduceNeg, Nat.reduceLT, Nat.reduceLeDiff, Ent.ver, Ent.imm, Ent.ty, lits, isEl, newCells, aappend, Nat.reduceBEq, fill, undef, (st1), (st2), (st3), (st4), (st5), (st6), (st7), (st8)]; try simp (disch := omega) only [wrapI64, Int.toNat_natCast, ← Int.natCast_add, nat_add_one, nat_add_two, take_drop_all, List.drop_zero, Nat.sub_zero, Nat.add_sub_cancel_left])
        rw [hno (by
          unfold atomP
          rw [← Bool.not_eq_true] at hp hq ⊢
          simp only [Bool.and_eq_true, decide_eq_true_eq] at *
          omega)]
      · (simp only [(vm1), (vm2), (vm3), (vm4), aDet, ev, tget, tput, ofC, ofC1, pureR, condR, abin, aun, alen, gslot, Nat.reduceEqDiff, reduceIte, argTs, asliceS, asliceL, bnd, boolV, intV, retQ, aRes, aResV, oneAV, AV.low, AV.low.lows, Nat.reduceAdd, isStringD, isSliceD, isBoolD, setRange, AV.cells, AV.isCell, AV.isAgg, abytes, aconv, aeq, isConst, isByteD, isIfaceD, endQ, Int.reduceToNat, Int.reduceLE, Int.reduceLT, Int.reduceEq, Int.reduceNe, Int.reduceAdd, Int.reduceSub, Int.reduceNeg, Nat.reduceLT, Nat.reduceLeDiff, Ent.ver, Ent.imm, Ent.ty, lits, isEl, newCells, aappend, Nat.reduceBEq, fill, undef, (st1), (st2), (st3), (st4), (st5), (st6), (st7), (st8)]; try simp (disch := omega) only [wrapI64, Int.toNat_natCast, ← Int.natCast_add, nat_add_one, nat_add_two, take_drop_all, List.drop_zero, Nat.sub_zero, Nat.add_sub_cancel_left])
        exact ⟨i + 1, ⟨by omega, hyes (by
          unfold atomP
          simp only [Bool.and_eq_true, decide_eq_true_eq] at *
          omega)⟩, by omega, rfl⟩
    · (simp only [(vm1), (vm2), (vm3), (vm4), aDet, ev, tget, tput, ofC, ofC1, pureR, condR, abin, aun, alen, gslot, Nat.reduceEqDiff, reduceIte, argTs, asliceS, asliceL, bnd, boolV, intV, retQ, aRes, aResV, oneAV, AV.low, AV.low.lows, Nat.reduceAdd, isStringD, isSliceD, isBoolD, setRange, AV.cells, AV.isCell, AV.isAgg, abytes, aconv, aeq, isConst, isByteD, isIfaceD, endQ, Int.reduceToNat, Int.reduceLE, Int.reduceLT, Int.reduceEq, Int.reduceNe, Int.reduceAdd, Int.reduceSub, Int.reduceNeg, Nat.reduceLT, Nat.reduceLeDiff, Ent.ver, Ent.imm, Ent.ty, lits, isEl, newCells, aappend, Nat.reduceBEq, fill, undef, (st1), (st2), (st3), (st4), (st5), (st6), (st7), (st8)]; try simp (disch := omega) only [wrapI64, Int.toNat_natCast, ← Int.natCast_add, nat_add_one, nat_add_two, take_drop_all, List.drop_zero, Nat.sub_zero, Nat.add_sub_cancel_left])
      exact ⟨i + 1, ⟨by omega, hyes (by
        unfold atomP
        simp only [Bool.and_eq_true, decide_eq_true_eq] at *
        omega)⟩, by omega, rfl⟩
  · rw [List.take_of_length_le (by omega)] at hall
    (simp only [h, (vm1), (vm2), (vm3), (vm4), aDet, ev, tget, tput, ofC, ofC1, pureR, condR, abin, aun, alen, gslot, Nat.reduceEqDiff, reduceIte, argTs, asliceS, asliceL, bnd, boolV, intV, retQ, aRes, aResV, oneAV, AV.low, AV.low.lows, Nat.reduceAdd, isStringD, isSliceD, isBoolD, setRange, AV.cells, AV.isCell, AV.isAgg, abytes, aconv, aeq, isConst, isByteD, isIfaceD, endQ, Int.reduceToNat, Int.reduceLE, Int.reduceLT, Int.reduceEq, Int.reduceNe, Int.reduceAdd, Int.reduceSub, Int.reduceNeg, Nat.reduceLT, Nat.reduceLeDiff, Ent.ver, Ent.imm, Ent.ty, lits, isEl, newCells, aappend, Nat.reduceBEq, fill, undef, (st1), (st2), (st3), (st4), (st5), (st6), (st7), (st8)]; try simp (disch := omega) only [wrapI64, Int.toNat_natCast, ← Int.natCast_add, nat_add_one, nat_add_two, take_drop_all, List.drop_zero, Nat.sub_zero, Nat.add_sub_cancel_left])
    refine xWait.go (rAscends_ok l hl _) ?_
    (simp only [(vm1), (vm2), (vm3), (vm4), aDet, ev, tget, tput, ofC, ofC1, pureR, condR, abin, aun, alen, gslot, Nat.reduceEqDiff, reduceIte, argTs, asliceS, asliceL, bnd, boolV, intV, retQ, aRes, aResV, oneAV, AV.low, AV.low.lows, Nat.reduceAdd, isStringD, isSliceD, isBoolD, setRange, AV.cells, AV.isCell, AV.isAgg, abytes, aconv, aeq, isConst, isByteD, isIfaceD, endQ, Int.reduceToNat, Int.reduceLE, Int.reduceLT, Int.reduceEq, Int.reduceNe, Int.reduceAdd, Int.reduceSub, Int.reduceNeg, Nat.reduceLT, Nat.reduceLeDiff, Ent.ver, Ent.imm, Ent.ty, lits, isEl, newCells, aappend, Nat.reduceBEq, fill, undef, (st1), (st2), (st3), (st4), (st5), (st6), (st7), (st8)]; try simp (disch := omega) only [wrapI64, Int.toNat_natCast, ← Int.natCast_add, nat_add_one, nat_add_two, take_drop_all, List.drop_zero, Nat.sub_zero, Nat.add_sub_cancel_left])
    rw [effB_eq, hall, Bool.true_and]
end Go.D

/- Effects: numbers put into lists, taken away, compared. -/
set_option linter.unusedVariables false
set_option linter.unusedSimpArgs false
set_option maxRecDepth 100000
namespace Go.D
open Go Go.Vm Go.Proofs Go.RowKit

theorem rSameInts_ok (l m : List Int) (hl : l.length ≤ 1099511627776) (hm : m.length ≤ 1099511627776) (σ : List Ent) :
    ACalls E 14 [.sl (ivs l), .sl (ivs m)] σ fun r τ => r = boolV (decide (l = m)) ∧ τ = σ := by
  refine xacalls T0 .drop [] Tryz.func14 rfl (by kernel_rfl) (by kernel_rfl) (by simp [Tryz.ntmps14]) ?_
  by_cases hn : (l.length : Int) = m.length
  · have hn' : l.length = m.length := by omega
    (simp only [ivs_len, hn, (vm1), (vm2), (vm3), (vm4), aDet, ev, tget, tput, ofC, ofC1, pureR, condR, abin, aun, alen, gslot, Nat.reduceEqDiff, reduceIte, argTs, asliceS, asliceL, bnd, boolV, intV, retQ, aRes, aResV, oneAV, AV.low, AV.low.lows, Nat.reduceAdd, isStringD, isSliceD, isBoolD, setRange, AV.cells, AV.isCell, AV.isAgg, abytes, aconv, aeq, isConst, isByteD, isIfaceD, endQ, Int.reduceToNat, Int.reduceLE, Int.reduceLT, Int.reduceEq, Int.reduceNe, Int.reduceAdd, Int.reduceSub, Int.reduceNeg, Nat.reduceLT, Nat.reduceLeDiff, Ent.ver, Ent.imm, Ent.ty, lits, isEl, newCells, aappend, Nat.reduceBEq, fill, undef, (st1), (st2), (st3), (st4), (st5), (st6), (st7), (st8)]; try simp (disch := omega) only [wrapI64, Int.toNat_natCast, ← Int.natCast_add, nat_add_one, nat_add_two, take_drop_all, List.drop_zero, Nat.sub_zero, Nat.add_sub_cancel_left])
    refine xloop (α := Nat) T0 (fun i => [(0, .sl (ivs l)), (1, .sl (ivs m)), (12, i64 m.length), (13, i64 i)]) (fun _ => σ) (fun _ => []) (fun i => i ≤ l.length ∧ l.take i = m.take i) (fun i => l.length - i) (by kernel_rfl)
      ⟨0, by simp, by (simp only [(vm1), (vm2), (vm3), (vm4), aDet, ev, tget, tput, ofC, ofC1, pureR, condR, abin, aun, alen, gslot, Nat.reduceEqDiff, reduceIte, argTs, asliceS, asliceL, bnd, boolV, intV, retQ, aRes, aResV, oneAV, AV.low, AV.low.lows, Nat.reduceAdd, isStringD, isSliceD, isBoolD, setRange, AV.cells, AV.isCell, AV.isAgg, abytes, aconv, aeq, isConst, isByteD, isIfaceD, endQ, Int.reduceToNat, Int.reduceLE, Int.reduceLT, Int.reduceEq, Int.reduceNe, Int.reduceAdd, Int.reduceSub, Int.reduceNeg, Nat.reduceLT, Nat.reduceLeDiff, Ent.ver, Ent.imm, Ent.ty, lits, isEl, newCells, aappend, Nat.reduceBEq, fill, undef, (st1), (st2), (st3), (st4), (st5), (st6), (st7), (st8), Int.natCast_zero]; try simp (disch := omega) only [wrapI64, Int.toNat_natCast, ← Int.natCast_add, nat_add_one, nat_add_two, take_drop_all, List.drop_zero, Nat.sub_zero, Nat.add_sub_cancel_left]), rfl, rfl⟩ ?_
    rintro i ⟨hi, hall⟩
    by_cases h : (i : Int) < m.length
    · have hi' : i < l.length := by omega
      have hi2 : i < m.length := by omega
      have ht : l.take (i + 1) = l.take i ++ [l.getD i 0] := by rw [List.take_add_one, List.getD, List.getElem?_eq_getElem hi']; rfl
      have ht2 : m.take (i + 1) = m.take i ++ [m.getD i 0] := by rw [List.take_add_one, List.getD, List.getElem?_eq_getElem hi2]; rfl
      have h2 : (i : Int) < l.length := by omega
      (simp only [h, (vm1), (vm2), (vm3), (vm4), aDet, ev, tget, tput, ofC, ofC1, pureR, condR, abin, aun, alen, gslot, Nat.reduceEqDiff, reduceIte, argTs, asliceS, asliceL, bnd, boolV, intV, retQ, aRes, aResV, oneAV, AV.low, AV.low.lows, Nat.reduceAdd, isStringD, isSliceD, isBoolD, setRange, AV.cells, AV.isCell, AV.isAgg, abytes, aconv, aeq, isConst, isByteD, isIfaceD, endQ, Int.reduceToNat, Int.reduceLE, Int.reduceLT, Int.reduceEq, Int.reduceNe, Int.reduceAdd, Int.reduceSub, Int.reduceNeg, Nat.reduceLT, Nat.reduceLeDiff, Ent.ver, Ent.imm, Ent.ty, lits, isEl, newCells, aappend, Nat.reduceBEq, fill, undef, (st1), (st2), (st3), (st4), (st5), (st6), (st7), (st8)]; try simp (disch := omega) only [wrapI64, Int.toNat_natCast, ← Int.natCast_add, nat_add_one, nat_add_two, take_drop_all, List.drop_zero, Nat.sub_zero, Nat.add_sub_cancel_left])
      refine ydraw T0 [] (by kernel_rfl) (by kernel_rfl) (by kernel_rfl) (by kernel_rfl) ?_
      by_cases hx : l.getD i 0 = m.getD i 0
      · (simp only [h, h2, hx, ivs_len, ivs_getD hi', ivs_getD hi2, (vm1), (vm2), (vm3), (vm4), aDet, ev, tget, tput, ofC, ofC1, pureR, condR, abin, aun, alen, gslot, Nat.reduceEqDiff, reduceIte, argTs, asliceS, asliceL, bnd, boolV, intV, retQ, aRes, aResV, oneAV, AV.low, AV.low.lows, Nat.reduceAdd, isStringD, isSliceD, isBoolD, setRange, AV.cells, AV.isCell, AV.isAgg, abytes, aconv, aeq, isConst, isByteD, isIfaceD, endQ, Int.reduceToNat, Int.reduceLE, Int.reduceLT, Int.reduceEq, Int.reduceNe, Int.reduceAdd, Int.reduceSub, Int.reduceNeg, Nat.reduceLT, Nat.reduceLeDiff, Ent.ver, Ent.imm, Ent.ty, lits, isEl, newCells, aappend, Nat.reduceBEq, fill, undef, (st1), (st2), (st3), (st4), (st5), (st6), (st7), (st8)]; try simp (disch := omega) only [wrapI64, Int.toNat_natCast, ← Int.natCast_add, nat_add_one, nat_add_two, take_drop_all, List.drop_zero, Nat.sub_zero, Nat.add_sub_cancel_left])
        exact ⟨i + 1, ⟨by omega, by rw [ht, ht2, hall, hx]⟩, by omega, rfl⟩
      · (simp only [h, h2, hx, ivs_len, ivs_getD hi', ivs_getD hi2, (vm1), (vm2), (vm3), (vm4), aDet, ev, tget, tput, ofC, ofC1, pureR, condR, abin, aun, alen, gslot, Nat.reduceEqDiff, reduceIte, argTs, asliceS, asliceL, bnd, boolV, intV, retQ, aRes, aResV, oneAV, AV.low, AV.low.lows, Nat.reduceAdd, isStringD, isSliceD, isBoolD, setRange, AV.cells, AV.isCell, AV.isAgg, abytes, aconv, aeq, isConst, isByteD, isIfaceD, endQ, Int.reduceToNat, Int.reduceLE, Int.reduceLT, Int.reduceEq, Int.reduceNe, Int.reduceAdd, Int.reduceSub, Int.reduceNeg, Nat.reduceLT, Nat.reduceLeDiff, Ent.ver, Ent.imm, Ent.ty, lits, isEl, newCells, aappend, Nat.reduceBEq, fill, undef, (st1), (st2), (st3), (st4), (st5), (st6), (st7), (st8)]; try simp (disch := omega) only [wrapI64, Int.toNat_natCast, ← Int.natCast_add, nat_add_one, nat_add_two, take_drop_all, List.drop_zero, Nat.sub_zero, Nat.add_sub_cancel_left])
        rw [decide_eq_false (fun e => hx (by rw [e]))]
    · (simp only [h, (vm1), (vm2), (vm3), (vm4), aDet, ev, tget, tput, ofC, ofC1, pureR, condR, abin, aun, alen, gslot, Nat.reduceEqDiff, reduceIte, argTs, asliceS, asliceL, bnd, boolV, intV, retQ, aRes, aResV, oneAV, AV.low, AV.low.lows, Nat.reduceAdd, isStringD, isSliceD, isBoolD, setRange, AV.cells, AV.isCell, AV.isAgg, abytes, aconv, aeq, isConst, isByteD, isIfaceD, endQ, Int.reduceToNat, Int.reduceLE, Int.reduceLT, Int.reduceEq, Int.reduceNe, Int.reduceAdd, Int.reduceSub, Int.reduceNeg, Nat.reduceLT, Nat.reduceLeDiff, Ent.ver, Ent.imm, Ent.ty, lits, isEl, newCells, aappend, Nat.reduceBEq, fill, undef, (st1), (st2), (st3), (st4), (st5), (st6), (st7), (st8)]; try simp (disch := omega) only [wrapI64, Int.toNat_natCast, ← Int.natCast_add, nat_add_one, nat_add_two, take_drop_all, List.drop_zero, Nat.sub_zero, Nat.add_sub_cancel_left])
      rw [List.take_of_length_le (by omega), List.take_of_length_le (by omega)] at hall
      rw [decide_eq_true hall]
  · (simp only [ivs_len, hn, (vm1), (vm2), (vm3), (vm4), aDet, ev, tget, tput, ofC, ofC1, pureR, condR, abin, aun, alen, gslot, Nat.reduceEqDiff, reduceIte, argTs, asliceS, asliceL, bnd, boolV, intV, retQ, aRes, aResV, oneAV, AV.low, AV.low.lows, Nat.reduceAdd, isStringD, isSliceD, isBoolD, setRange, AV.cells, AV.isCell, AV.isAgg, abytes, aconv, aeq, isConst, isByteD, isIfaceD, endQ, Int.reduceToNat, Int.reduceLE, Int.reduceLT, Int.reduceEq, Int.reduceNe, Int.reduceAdd, Int.reduceSub, Int.reduceNeg, Nat.reduceLT, Nat.reduceLeDiff, Ent.ver, Ent.imm, Ent.ty, lits, isEl, newCells, aappend, Nat.reduceBEq, fill, undef, (st1), (st2), (st3), (st4), (st5), (st6), (st7), (st8)]; try simp (disch := omega) only [wrapI64, Int.toNat_natCast, ← Int.natCast_add, nat_add_one, nat_add_two, take_drop_all, List.drop_zero, Nat.sub_zero, Nat.add_sub_cancel_left])
    rw [decide_eq_false (fun e => hn (by rw [e]))]

theorem rPut_ok (l : List Int) (x : Int) (hl : l.length ≤ 1099511627776) (σ : List Ent) :
    ACalls E 61 [.sl (ivs l), i64 x] σ fun r τ => r = .sl (ivs (putI l x)) ∧ τ = σ := by
  refine xacalls T0 .freeze [34] Tryz.func61 rfl (by kernel_rfl) (by kernel_rfl) (by simp [Tryz.ntmps61]) ?_
  (simp only [(vm1), (vm2), (vm3), (vm4), aDet, ev, tget, tput, ofC, ofC1, pureR, condR, abin, aun, alen, gslot, Nat.reduceEqDiff, reduceIte, argTs, asliceS, asliceL, bnd, boolV, intV, retQ, aRes, aResV, oneAV, AV.low, AV.low.lows, Nat.reduceAdd, isStringD, isSliceD, isBoolD, setRange, AV.cells, AV.isCell, AV.isAgg, abytes, aconv, aeq, isConst, isByteD, isIfaceD, endQ, Int.reduceToNat, Int.reduceLE, Int.reduceLT, Int.reduceEq, Int.reduceNe, Int.reduceAdd, Int.reduceSub, Int.reduceNeg, Nat.reduceLT, Nat.reduceLeDiff, Ent.ver, Ent.imm, Ent.ty, lits, isEl, newCells, aappend, Nat.reduceBEq, fill, undef, (st1), (st2), (st3), (st4), (st5), (st6), (st7), (st8)]; try simp (disch := omega) only [wrapI64, Int.toNat_natCast, ← Int.natCast_add, nat_add_one, nat_add_two, take_drop_all, List.drop_zero, Nat.sub_zero, Nat.add_sub_cancel_left])
  refine xloop (α := Nat) T0 (fun i => [(0, .sl (ivs l)), (1, i64 x), (5, i64 i)]) (fun _ => σ) (fun _ => []) (fun i => i ≤ l.length ∧ ∀ y ∈ l.take i, y < x) (fun i => l.length - i) (by kernel_rfl)
    ⟨0, by simp, by (simp only [(vm1), (vm2), (vm3), (vm4), aDet, ev, tget, tput, ofC, ofC1, pureR, condR, abin, aun, alen, gslot, Nat.reduceEqDiff, reduceIte, argTs, asliceS, asliceL, bnd, boolV, intV, retQ, aRes, aResV, oneAV, AV.low, AV.low.lows, Nat.reduceAdd, isStringD, isSliceD, isBoolD, setRange, AV.cells, AV.isCell, AV.isAgg, abytes, aconv, aeq, isConst, isByteD, isIfaceD, endQ, Int.reduceToNat, Int.reduceLE, Int.reduceLT, Int.reduceEq, Int.reduceNe, Int.reduceAdd, Int.reduceSub, Int.reduceNeg, Nat.reduceLT, Nat.reduceLeDiff, Ent.ver, Ent.imm, Ent.ty, lits, isEl, newCells, aappend, Nat.reduceBEq, fill, undef, (st1), (st2), (st3), (st4), (st5), (st6), (st7), (st8), Int.natCast_zero]; try simp (disch := omega) only [wrapI64, Int.toNat_natCast, ← Int.natCast_add, nat_add_one, nat_add_two, take_drop_all, List.drop_zero, Nat.sub_zero, Nat.add_sub_cancel_left]), rfl, rfl⟩ ?_
  rintro i ⟨hi, hall⟩
  have hp := putI_at l x i hi hall
  have hlt : (l.take i).length = i := by rw [List.length_take]; omega
  have hld : (l.drop i).length = l.length - i := List.length_drop
  by_cases h : (i : Int) < l.length
  · have hi' : i < l.length := by omega
    have ht : l.take (i + 1) = l.take i ++ [l.getD i 0] := by rw [List.take_add_one, List.getD, List.getElem?_eq_getElem hi']; rfl
    by_cases hx : l.getD i 0 < x
    · (simp only [h, hx, ivs_len, ivs_getD hi', (vm1), (vm2), (vm3), (vm4), aDet, ev, tget, tput, ofC, ofC1, pureR, condR, abin, aun, alen, gslot, Nat.reduceEqDiff, reduceIte, argTs, asliceS, asliceL, bnd, boolV, intV, retQ, aRes, aResV, oneAV, AV.low, AV.low.lows, Nat.reduceAdd, isStringD, isSliceD, isBoolD, setRange, AV.cells, AV.isCell, AV.isAgg, abytes, aconv, aeq, isConst, isByteD, isIfaceD, endQ, Int.reduceToNat, Int.reduceLE, Int.reduceLT, Int.reduceEq, Int.reduceNe, Int.reduceAdd, Int.reduceSub, Int.reduceNeg, Nat.reduceLT, Nat.reduceLeDiff, Ent.ver, Ent.imm, Ent.ty, lits, isEl, newCells, aappend, Nat.reduceBEq, fill, undef, (st1), (st2), (st3), (st4), (st5), (st6), (st7), (st8)]; try simp (disch := omega) only [wrapI64, Int.toNat_natCast, ← Int.natCast_add, nat_add_one, nat_add_two, take_drop_all, List.drop_zero, Nat.sub_zero, Nat.add_sub_cancel_left])
      exact ⟨i + 1, ⟨by omega, fun y hy => by
        rw [ht, List.mem_append] at hy
        rcases hy with hy | hy
        · exact hall y hy
        · rw [List.mem_singleton.1 hy]; exact hx⟩, by omega, rfl⟩
    · have hp := hp fun _ => hx
      by_cases he : l.getD i 0 = x
      · rw [if_pos ⟨hi', he⟩] at hp
        (simp only [h, he, Int.lt_irrefl, ivs_len, ivs_getD hi', (vm1), (vm2), (vm3), (vm4), aDet, ev, tget, tput, ofC, ofC1, pureR, condR, abin, aun, alen, gslot, Nat.reduceEqDiff, reduceIte, argTs, asliceS, asliceL, bnd, boolV, intV, retQ, aRes, aResV, oneAV, AV.low, AV.low.lows, Nat.reduceAdd, isStringD, isSliceD, isBoolD, setRange, AV.cells, AV.isCell, AV.isAgg, abytes, aconv, aeq, isConst, isByteD, isIfaceD, endQ, Int.reduceToNat, Int.reduceLE, Int.reduceLT, Int.reduceEq, Int.reduceNe, Int.reduceAdd, Int.reduceSub, Int.reduceNeg, Nat.reduceLT, Nat.reduceLeDiff, Ent.ver, Ent.imm, Ent.ty, lits, isEl, newCells, aappend, Nat.reduceBEq, fill, undef, (st1), (st2), (st3), (st4), (st5), (st6), (st7), (st8)]; try simp (disch := omega) only [wrapI64, Int.toNat_natCast, ← Int.natCast_add, nat_add_one, nat_add_two, take_drop_all, List.drop_zero, Nat.sub_zero, Nat.add_sub_cancel_left])
        rw [hp]
        exact ⟨_, .refl _, by simp only [AV.low]; exact ivs_low _ _, rfl⟩
      · rw [if_neg (fun e => he e.2)] at hp
        (simp only [h, hx, he, ivs_len, ivs_getD hi', Option.getD_some, ivs_take, ivs_drop, ivs_cells, ivs_app, (vm1), (vm2), (vm3), (vm4), aDet, ev, tget, tput, ofC, ofC1, pureR, condR, abin, aun, alen, gslot, Nat.reduceEqDiff, reduceIte, argTs, asliceS, asliceL, bnd, boolV, intV, retQ, aRes, aResV, oneAV, AV.low, AV.low.lows, Nat.reduceAdd, isStringD, isSliceD, isBoolD, setRange, AV.cells, AV.isCell, AV.isAgg, abytes, aconv, aeq, isConst, isByteD, isIfaceD, endQ, Int.reduceToNat, Int.reduceLE, Int.reduceLT, Int.reduceEq, Int.reduceNe, Int.reduceAdd, Int.reduceSub, Int.reduceNeg, Nat.reduceLT, Nat.reduceLeDiff, Ent.ver, Ent.imm, Ent.ty, lits, isEl, newCells, aappend, Nat.reduceBEq, fill, undef, (st1), (st2), (st3), (st4), (st5), (st6), (st7), (st8)]; try simp (disch := omega) only [wrapI64, Int.toNat_natCast, ← Int.natCast_add, nat_add_one, nat_add_two, take_drop_all, List.drop_zero, Nat.sub_zero, Nat.add_sub_cancel_left])
        rw [hp]
        exact ⟨⟨by omega, fun e he => ivs_el he⟩, ⟨fun e he => ivs_el he, by unfold maxRoom; omega, by unfold maxRoom; omega⟩, ⟨by omega, by unfold maxRoom; omega, by unfold maxRoom; omega⟩, ⟨by omega, fun e he => ivs_el he⟩,
          ⟨fun e he => ivs_el he, by unfold maxRoom; omega, by unfold maxRoom; omega⟩, _, frz_ints' (Nat.le_refl _) (by rw [Nat.sub_self]; rfl) (by simp [ivs]) (by simp; omega), ivs_low _ _, rfl⟩
  · have hp := hp fun hh => absurd hh (by omega)
    rw [if_neg (fun e => absurd e.1 (by omega))] at hp
    (simp only [h, ivs_len, Option.getD_some, ivs_take, ivs_drop, ivs_cells, ivs_app, (vm1), (vm2), (vm3), (vm4), aDet, ev, tget, tput, ofC, ofC1, pureR, condR, abin, aun, alen, gslot, Nat.reduceEqDiff, reduceIte, argTs, asliceS, asliceL, bnd, boolV, intV, retQ, aRes, aResV, oneAV, AV.low, AV.low.lows, Nat.reduceAdd, isStringD, isSliceD, isBoolD, setRange, AV.cells, AV.isCell, AV.isAgg, abytes, aconv, aeq, isConst, isByteD, isIfaceD, endQ, Int.reduceToNat, Int.reduceLE, Int.reduceLT, Int.reduceEq, Int.reduceNe, Int.reduceAdd, Int.reduceSub, Int.reduceNeg, Nat.reduceLT, Nat.reduceLeDiff, Ent.ver, Ent.imm, Ent.ty, lits, isEl, newCells, aappend, Nat.reduceBEq, fill, undef, (st1), (st2), (st3), (st4), (st5), (st6), (st7), (st8)]; try simp (disch := omega) only [wrapI64, Int.toNat_natCast, ← Int.natCast_add, nat_add_one, nat_add_two, take_drop_all, List.drop_zero, Nat.sub_zero, Nat.add_sub_cancel_left])
    rw [hp]
    exact ⟨⟨by omega, fun e he => ivs_el he⟩, ⟨fun e he => ivs_el he, by unfold maxRoom; omega, by unfold maxRoom; omega⟩, ⟨by omega, by unfold maxRoom; omega, by unfold maxRoom; omega⟩, ⟨by omega, fun e he => ivs_el he⟩,
      ⟨fun e he => ivs_el he, by unfold maxRoom; omega, by unfold maxRoom; omega⟩, _, frz_ints' (Nat.le_refl _) (by rw [Nat.sub_self]; rfl) (by simp [ivs]) (by simp; omega), ivs_low _ _, rfl⟩

theorem putI_len : ∀ (l : List Int) (x : Int), (putI l x).length ≤ l.length + 1
  | [], x => by simp [putI]
  | a :: r, x => by
    have := putI_len r x
    unfold putI
    split
    · simp; omega
    · split <;> simp
theorem joinI_len : ∀ (b a : List Int), (joinI a b).length ≤ a.length + b.length
  | [], a => by simp [joinI]
  | n :: b, a => by
    have h := joinI_len b (putI a n)
    have := putI_len a n
    unfold joinI at *
    simp only [List.foldl_cons, List.length_cons]; omega

theorem rJoin_ok (a b : List Int) (hl : a.length + b.length ≤ 1099511627776) (σ : List Ent) :
    ACalls E 28 [.sl (ivs a), .sl (ivs b)] σ fun r τ => r = .sl (ivs (joinI a b)) ∧ τ = σ := by
  refine xacalls T0 .freeze [] Tryz.func28 rfl (by kernel_rfl) (by kernel_rfl) (by simp [Tryz.ntmps28]) ?_
  (simp only [ivs_len, (vm1), (vm2), (vm3), (vm4), aDet, ev, tget, tput, ofC, ofC1, pureR, condR, abin, aun, alen, gslot, Nat.reduceEqDiff, reduceIte, argTs, asliceS, asliceL, bnd, boolV, intV, retQ, aRes, aResV, oneAV, AV.low, AV.low.lows, Nat.reduceAdd, isStringD, isSliceD, isBoolD, setRange, AV.cells, AV.isCell, AV.isAgg, abytes, aconv, aeq, isConst, isByteD, isIfaceD, endQ, Int.reduceToNat, Int.reduceLE, Int.reduceLT, Int.reduceEq, Int.reduceNe, Int.reduceAdd, Int.reduceSub, Int.reduceNeg, Nat.reduceLT, Nat.reduceLeDiff, Ent.ver, Ent.imm, Ent.ty, lits, isEl, newCells, aappend, Nat.reduceBEq, fill, undef, (st1), (st2), (st3), (st4), (st5), (st6), (st7), (st8)]; try simp (disch := omega) only [wrapI64, Int.toNat_natCast, ← Int.natCast_add, nat_add_one, nat_add_two, take_drop_all, List.drop_zero, Nat.sub_zero, Nat.add_sub_cancel_left])
  refine xloop (α := Nat) T0 (fun i => [(0, .sl (ivs (joinI a (b.take i)))), (7, .sl (ivs b)), (8, i64 b.length), (9, i64 i)]) (fun _ => σ) (fun _ => []) (fun i => i ≤ b.length) (fun i => b.length - i) (by kernel_rfl)
    ⟨0, by simp, by (simp only [(vm1), (vm2), (vm3), (vm4), aDet, ev, tget, tput, ofC, ofC1, pureR, condR, abin, aun, alen, gslot, Nat.reduceEqDiff, reduceIte, argTs, asliceS, asliceL, bnd, boolV, intV, retQ, aRes, aResV, oneAV, AV.low, AV.low.lows, Nat.reduceAdd, isStringD, isSliceD, isBoolD, setRange, AV.cells, AV.isCell, AV.isAgg, abytes, aconv, aeq, isConst, isByteD, isIfaceD, endQ, Int.reduceToNat, Int.reduceLE, Int.reduceLT, Int.reduceEq, Int.reduceNe, Int.reduceAdd, Int.reduceSub, Int.reduceNeg, Nat.reduceLT, Nat.reduceLeDiff, Ent.ver, Ent.imm, Ent.ty, lits, isEl, newCells, aappend, Nat.reduceBEq, fill, undef, (st1), (st2), (st3), (st4), (st5), (st6), (st7), (st8), Int.natCast_zero, List.take_zero, joinI, List.foldl_nil]; try simp (disch := omega) only [wrapI64, Int.toNat_natCast, ← Int.natCast_add, nat_add_one, nat_add_two, take_drop_all, List.drop_zero, Nat.sub_zero, Nat.add_sub_cancel_left]), rfl, rfl⟩ ?_
  rintro i hi
  by_cases h : (i : Int) < b.length
  · have hi' : i < b.length := by omega
    have ht : b.take (i + 1) = b.take i ++ [b.getD i 0] := by rw [List.take_add_one, List.getD, List.getElem?_eq_getElem hi']; rfl
    have hj : joinI a (b.take (i + 1)) = putI (joinI a (b.take i)) (b.getD i 0) := by rw [ht, joinI, List.foldl_append]; rfl
    have hjl := joinI_len (b.take i) a
    have htl : (b.take i).length ≤ i := by rw [List.length_take]; omega
    (simp only [h, ivs_len, ivs_getD hi', (vm1), (vm2), (vm3), (vm4), aDet, ev, tget, tput, ofC, ofC1, pureR, condR, abin, aun, alen, gslot, Nat.reduceEqDiff, reduceIte, argTs, asliceS, asliceL, bnd, boolV, intV, retQ, aRes, aResV, oneAV, AV.low, AV.low.lows, Nat.reduceAdd, isStringD, isSliceD, isBoolD, setRange, AV.cells, AV.isCell, AV.isAgg, abytes, aconv, aeq, isConst, isByteD, isIfaceD, endQ, Int.reduceToNat, Int.reduceLE, Int.reduceLT, Int.reduceEq, Int.reduceNe, Int.reduceAdd, Int.reduceSub, Int.reduceNeg, Nat.reduceLT, Nat.reduceLeDiff, Ent.ver, Ent.imm, Ent.ty, lits, isEl, newCells, aappend, Nat.reduceBEq, fill, undef, (st1), (st2), (st3), (st4), (st5), (st6), (st7), (st8)]; try simp (disch := omega) only [wrapI64, Int.toNat_natCast, ← Int.natCast_add, nat_add_one, nat_add_two, take_drop_all, List.drop_zero, Nat.sub_zero, Nat.add_sub_cancel_left])
    refine xWait.go (rPut_ok _ _ (by omega) _) ?_
    (simp only [(vm1), (vm2), (vm3), (vm4), aDet, ev, tget, tput, ofC, ofC1, pureR, condR, abin, aun, alen, gslot, Nat.reduceEqDiff, reduceIte, argTs, asliceS, asliceL, bnd, boolV, intV, retQ, aRes, aResV, oneAV, AV.low, AV.low.lows, Nat.reduceAdd, isStringD, isSliceD, isBoolD, setRange, AV.cells, AV.isCell, AV.isAgg, abytes, aconv, aeq, isConst, isByteD, isIfaceD, endQ, Int.reduceToNat, Int.reduceLE, Int.reduceLT, Int.reduceEq, Int.reduceNe, Int.reduceAdd, Int.reduceSub, Int.reduceNeg, Nat.reduceLT, Nat.reduceLeDiff, Ent.ver, Ent.imm, Ent.ty, lits, isEl, newCells, aappend, Nat.reduceBEq, fill, undef, (st1), (st2), (st3), (st4), (st5), (st6), (st7), (st8)]; try simp (disch := omega) only [wrapI64, Int.toNat_natCast, ← Int.natCast_add, nat_add_one, nat_add_two, take_drop_all, List.drop_zero, Nat.sub_zero, Nat.add_sub_cancel_left])
    exact ⟨i + 1, by omega, by omega, by rw [hj]; exact ⟨rfl, rfl⟩⟩
  · (simp only [h, (vm1), (vm2), (vm3), (vm4), aDet, ev, tget, tput, ofC, ofC1, pureR, condR, abin, aun, alen, gslot, Nat.reduceEqDiff, reduceIte, argTs, asliceS, asliceL, bnd, boolV, intV, retQ, aRes, aResV, oneAV, AV.low, AV.low.lows, Nat.reduceAdd, isStringD, isSliceD, isBoolD, setRange, AV.cells, AV.isCell, AV.isAgg, abytes, aconv, aeq, isConst, isByteD, isIfaceD, endQ, Int.reduceToNat, Int.reduceLE, Int.reduceLT, Int.reduceEq, Int.reduceNe, Int.reduceAdd, Int.reduceSub, Int.reduceNeg, Nat.reduceLT, Nat.reduceLeDiff, Ent.ver, Ent.imm, Ent.ty, lits, isEl, newCells, aappend, Nat.reduceBEq, fill, undef, (st1), (st2), (st3), (st4), (st5), (st6), (st7), (st8)]; try simp (disch := omega) only [wrapI64, Int.toNat_natCast, ← Int.natCast_add, nat_add_one, nat_add_two, take_drop_all, List.drop_zero, Nat.sub_zero, Nat.add_sub_cancel_left])
    rw [List.take_of_length_le (by omega)]
    exact ⟨_, .refl _, by simp only [AV.low]; exact ivs_low _ _, rfl⟩
end Go.D
