/- What is known of this translation's types, printed by program (tab.py). -/
import Derived.Test.YtikjefmoclienaaDoorProg
import Derived.Test.YtikjefmoclienaaDoorVmF
set_option linter.unusedVariables false
namespace Go.D
open Go Go.Vm
def tab : Nat → TI
  | 1 => { ok := true, desc := (TypeDesc.func #[] #[] false), size := 1, bytes := 8, isAgg := false, zero := (.v .nilFunc), flds := [], elem := 0 }
  | 2 => { ok := true, desc := (TypeDesc.int IntKind.i64), size := 1, bytes := 8, isAgg := false, zero := (.v (.int IntKind.i64 0)), flds := [], elem := 0 }
  | 3 => { ok := true, desc := (TypeDesc.int IntKind.i64), size := 1, bytes := 8, isAgg := false, zero := (.v (.int IntKind.i64 0)), flds := [], elem := 0 }
  | 4 => { ok := true, desc := TypeDesc.bool, size := 1, bytes := 1, isAgg := false, zero := (.v (.bool false)), flds := [], elem := 0 }
  | 5 => { ok := true, desc := (TypeDesc.int IntKind.u8), size := 1, bytes := 1, isAgg := false, zero := (.v (.int IntKind.u8 0)), flds := [], elem := 0 }
  | 6 => { ok := true, desc := (TypeDesc.int IntKind.u8), size := 1, bytes := 1, isAgg := false, zero := (.v (.int IntKind.u8 0)), flds := [], elem := 0 }
  | 7 => { ok := true, desc := (TypeDesc.struct #[{ name := "x", type := 2, offset := 0, embedded := false, tag := "", pkgPath := "runtime", byteOffset := 0 }, { name := "y", type := 3, offset := 1, embedded := false, tag := "", pkgPath := "runtime", byteOffset := 8 }, { name := "signed", type := 4, offset := 2, embedded := false, tag := "", pkgPath := "runtime", byteOffset := 16 }, { name := "code", type := 6, offset := 3, embedded := false, tag := "", pkgPath := "runtime", byteOffset := 17 }]), size := 4, bytes := 24, isAgg := true, zero := (.agg [(.v (.int IntKind.i64 0)), (.v (.int IntKind.i64 0)), (.v (.bool false)), (.v (.int IntKind.u8 0))]), flds := [(0, 1, false), (1, 1, false), (2, 1, false), (3, 1, false)], elem := 0 }
  | 8 => { ok := true, desc := (TypeDesc.struct #[{ name := "x", type := 2, offset := 0, embedded := false, tag := "", pkgPath := "runtime", byteOffset := 0 }, { name := "y", type := 3, offset := 1, embedded := false, tag := "", pkgPath := "runtime", byteOffset := 8 }, { name := "signed", type := 4, offset := 2, embedded := false, tag := "", pkgPath := "runtime", byteOffset := 16 }, { name := "code", type := 6, offset := 3, embedded := false, tag := "", pkgPath := "runtime", byteOffset := 17 }]), size := 4, bytes := 24, isAgg := true, zero := (.agg [(.v (.int IntKind.i64 0)), (.v (.int IntKind.i64 0)), (.v (.bool false)), (.v (.int IntKind.u8 0))]), flds := [(0, 1, false), (1, 1, false), (2, 1, false), (3, 1, false)], elem := 0 }
  | 9 => { ok := true, desc := TypeDesc.string, size := 1, bytes := 16, isAgg := false, zero := (.str []), flds := [], elem := 0 }
  | 10 => { ok := true, desc := TypeDesc.string, size := 1, bytes := 16, isAgg := false, zero := (.str []), flds := [], elem := 0 }
  | 11 => { ok := true, desc := TypeDesc.string, size := 1, bytes := 16, isAgg := false, zero := (.str []), flds := [], elem := 0 }
  | 12 => { ok := true, desc := (TypeDesc.int IntKind.u64), size := 1, bytes := 8, isAgg := false, zero := (.v (.int IntKind.u64 0)), flds := [], elem := 0 }
  | 13 => { ok := true, desc := (TypeDesc.struct #[{ name := "msg", type := 9, offset := 0, embedded := false, tag := "", pkgPath := "runtime", byteOffset := 0 }, { name := "addr", type := 12, offset := 1, embedded := false, tag := "", pkgPath := "runtime", byteOffset := 16 }]), size := 2, bytes := 24, isAgg := true, zero := (.agg [(.str []), (.v (.int IntKind.u64 0))]), flds := [(0, 1, false), (1, 1, false)], elem := 0 }
  | 14 => { ok := true, desc := (TypeDesc.struct #[{ name := "msg", type := 9, offset := 0, embedded := false, tag := "", pkgPath := "runtime", byteOffset := 0 }, { name := "addr", type := 12, offset := 1, embedded := false, tag := "", pkgPath := "runtime", byteOffset := 16 }]), size := 2, bytes := 24, isAgg := true, zero := (.agg [(.str []), (.v (.int IntKind.u64 0))]), flds := [(0, 1, false), (1, 1, false)], elem := 0 }
  | 15 => { ok := true, desc := (TypeDesc.pointer 133), size := 1, bytes := 8, isAgg := false, zero := (.v (.pointer none)), flds := [], elem := 0 }
  | 16 => { ok := true, desc := (TypeDesc.pointer 136), size := 1, bytes := 8, isAgg := false, zero := (.v (.pointer none)), flds := [], elem := 0 }
  | 17 => { ok := true, desc := (TypeDesc.pointer 144), size := 1, bytes := 8, isAgg := false, zero := (.v (.pointer none)), flds := [], elem := 0 }
  | 18 => { ok := true, desc := (TypeDesc.struct #[{ name := "typ", type := 17, offset := 0, embedded := false, tag := "", pkgPath := "internal/runtime/maps", byteOffset := 0 }]), size := 1, bytes := 8, isAgg := true, zero := (.agg [(.v (.pointer none))]), flds := [(0, 1, false)], elem := 0 }
  | 19 => { ok := true, desc := (TypeDesc.struct #[{ name := "typ", type := 17, offset := 0, embedded := false, tag := "", pkgPath := "internal/runtime/maps", byteOffset := 0 }]), size := 1, bytes := 8, isAgg := true, zero := (.agg [(.v (.pointer none))]), flds := [(0, 1, false)], elem := 0 }
  | 20 => { ok := true, desc := (TypeDesc.interface #[]), size := 1, bytes := 16, isAgg := false, zero := (.v .nilIface), flds := [], elem := 0 }
  | 21 => { ok := true, desc := (TypeDesc.int IntKind.i32), size := 1, bytes := 4, isAgg := false, zero := (.v (.int IntKind.i32 0)), flds := [], elem := 0 }
  | 22 => { ok := true, desc := (TypeDesc.func #[] #[4] false), size := 1, bytes := 8, isAgg := false, zero := (.v .nilFunc), flds := [], elem := 0 }
  | 23 => { ok := true, desc := (TypeDesc.int IntKind.i64), size := 1, bytes := 8, isAgg := false, zero := (.v (.int IntKind.i64 0)), flds := [], elem := 0 }
  | 25 => { ok := true, desc := (TypeDesc.func #[9, 3] #[3, 3, 23] false), size := 1, bytes := 8, isAgg := false, zero := (.v .nilFunc), flds := [], elem := 0 }
  | 26 => { ok := true, desc := (TypeDesc.func #[9, 3] #[4] false), size := 1, bytes := 8, isAgg := false, zero := (.v .nilFunc), flds := [], elem := 0 }
  | 27 => { ok := true, desc := (TypeDesc.slice 33), size := 1, bytes := 24, isAgg := false, zero := (.v (.slice none 0 0)), flds := [], elem := 33 }
  | 29 => { ok := true, desc := (TypeDesc.func #[9] #[27, 23] false), size := 1, bytes := 8, isAgg := false, zero := (.v .nilFunc), flds := [], elem := 0 }
  | 30 => { ok := true, desc := (TypeDesc.func #[27, 27, 4] #[4] false), size := 1, bytes := 8, isAgg := false, zero := (.v .nilFunc), flds := [], elem := 0 }
  | 31 => { ok := true, desc := (TypeDesc.func #[9] #[4] false), size := 1, bytes := 8, isAgg := false, zero := (.v .nilFunc), flds := [], elem := 0 }
  | 32 => { ok := true, desc := (TypeDesc.struct #[{ name := "Kind", type := 9, offset := 0, embedded := false, tag := "", pkgPath := "", byteOffset := 0 }, { name := "Text", type := 9, offset := 1, embedded := false, tag := "", pkgPath := "", byteOffset := 16 }, { name := "At", type := 3, offset := 2, embedded := false, tag := "", pkgPath := "", byteOffset := 32 }]), size := 3, bytes := 40, isAgg := true, zero := (.agg [(.str []), (.str []), (.v (.int IntKind.i64 0))]), flds := [(0, 1, false), (1, 1, false), (2, 1, false)], elem := 0 }
  | 33 => { ok := true, desc := (TypeDesc.struct #[{ name := "Kind", type := 9, offset := 0, embedded := false, tag := "", pkgPath := "", byteOffset := 0 }, { name := "Text", type := 9, offset := 1, embedded := false, tag := "", pkgPath := "", byteOffset := 16 }, { name := "At", type := 3, offset := 2, embedded := false, tag := "", pkgPath := "", byteOffset := 32 }]), size := 3, bytes := 40, isAgg := true, zero := (.agg [(.str []), (.str []), (.v (.int IntKind.i64 0))]), flds := [(0, 1, false), (1, 1, false), (2, 1, false)], elem := 0 }
  | 34 => { ok := true, desc := (TypeDesc.func #[9, 9] #[3] false), size := 1, bytes := 8, isAgg := false, zero := (.v .nilFunc), flds := [], elem := 0 }
  | 35 => { ok := true, desc := (TypeDesc.func #[9, 5] #[3] false), size := 1, bytes := 8, isAgg := false, zero := (.v .nilFunc), flds := [], elem := 0 }
  | 36 => { ok := true, desc := (TypeDesc.func #[9, 9] #[4] false), size := 1, bytes := 8, isAgg := false, zero := (.v .nilFunc), flds := [], elem := 0 }
  | 38 => { ok := true, desc := (TypeDesc.func #[9] #[3, 4] false), size := 1, bytes := 8, isAgg := false, zero := (.v .nilFunc), flds := [], elem := 0 }
  | 40 => { ok := true, desc := (TypeDesc.func #[9] #[33, 3, 4] false), size := 1, bytes := 8, isAgg := false, zero := (.v .nilFunc), flds := [], elem := 0 }
  | 41 => { ok := true, desc := (TypeDesc.func #[9, 3] #[3] false), size := 1, bytes := 8, isAgg := false, zero := (.v .nilFunc), flds := [], elem := 0 }
  | 43 => { ok := true, desc := (TypeDesc.func #[9, 3] #[33, 3] false), size := 1, bytes := 8, isAgg := false, zero := (.v .nilFunc), flds := [], elem := 0 }
  | 44 => { ok := true, desc := (TypeDesc.func #[9] #[3] false), size := 1, bytes := 8, isAgg := false, zero := (.v .nilFunc), flds := [], elem := 0 }
  | 46 => { ok := true, desc := (TypeDesc.func #[9] #[3, 9] false), size := 1, bytes := 8, isAgg := false, zero := (.v .nilFunc), flds := [], elem := 0 }
  | 47 => { ok := true, desc := (TypeDesc.func #[5, 5, 5] #[4] false), size := 1, bytes := 8, isAgg := false, zero := (.v .nilFunc), flds := [], elem := 0 }
  | 48 => { ok := true, desc := (TypeDesc.func #[9] #[9] false), size := 1, bytes := 8, isAgg := false, zero := (.v .nilFunc), flds := [], elem := 0 }
  | 49 => { ok := true, desc := (TypeDesc.func #[5] #[4] false), size := 1, bytes := 8, isAgg := false, zero := (.v .nilFunc), flds := [], elem := 0 }
  | 50 => { ok := true, desc := (TypeDesc.func #[9, 3] #[3, 9] false), size := 1, bytes := 8, isAgg := false, zero := (.v .nilFunc), flds := [], elem := 0 }
  | 51 => { ok := true, desc := (TypeDesc.interface #[("Error", 59)]), size := 1, bytes := 16, isAgg := false, zero := (.v .nilIface), flds := [], elem := 0 }
  | 52 => { ok := true, desc := (TypeDesc.interface #[("Error", 59)]), size := 1, bytes := 16, isAgg := false, zero := (.v .nilIface), flds := [], elem := 0 }
  | 54 => { ok := true, desc := (TypeDesc.func #[9, 3, 3] #[2, 52] false), size := 1, bytes := 8, isAgg := false, zero := (.v .nilFunc), flds := [], elem := 0 }
  | 55 => { ok := true, desc := (TypeDesc.pointer 58), size := 1, bytes := 8, isAgg := false, zero := (.v (.pointer none)), flds := [], elem := 0 }
  | 56 => { ok := true, desc := (TypeDesc.slice 5), size := 1, bytes := 24, isAgg := false, zero := (.v (.slice none 0 0)), flds := [], elem := 5 }
  | 57 => { ok := true, desc := (TypeDesc.struct #[{ name := "addr", type := 55, offset := 0, embedded := false, tag := "", pkgPath := "strings", byteOffset := 0 }, { name := "buf", type := 56, offset := 1, embedded := false, tag := "", pkgPath := "strings", byteOffset := 8 }]), size := 2, bytes := 32, isAgg := true, zero := (.agg [(.v (.pointer none)), (.v (.slice none 0 0))]), flds := [(0, 1, false), (1, 1, false)], elem := 0 }
  | 58 => { ok := true, desc := (TypeDesc.struct #[{ name := "addr", type := 55, offset := 0, embedded := false, tag := "", pkgPath := "strings", byteOffset := 0 }, { name := "buf", type := 56, offset := 1, embedded := false, tag := "", pkgPath := "strings", byteOffset := 8 }]), size := 2, bytes := 32, isAgg := true, zero := (.agg [(.v (.pointer none)), (.v (.slice none 0 0))]), flds := [(0, 1, false), (1, 1, false)], elem := 0 }
  | 59 => { ok := true, desc := (TypeDesc.func #[] #[9] false), size := 1, bytes := 8, isAgg := false, zero := (.v .nilFunc), flds := [], elem := 0 }
  | 60 => { ok := true, desc := (TypeDesc.func #[5] #[52] false), size := 1, bytes := 8, isAgg := false, zero := (.v .nilFunc), flds := [], elem := 0 }
  | 61 => { ok := true, desc := (TypeDesc.slice 9), size := 1, bytes := 24, isAgg := false, zero := (.v (.slice none 0 0)), flds := [], elem := 9 }
  | 62 => { ok := true, desc := (TypeDesc.func #[9] #[61] false), size := 1, bytes := 8, isAgg := false, zero := (.v .nilFunc), flds := [], elem := 0 }
  | 63 => { ok := true, desc := (TypeDesc.func #[3] #[3] false), size := 1, bytes := 8, isAgg := false, zero := (.v .nilFunc), flds := [], elem := 0 }
  | 64 => { ok := true, desc := (TypeDesc.int IntKind.u64), size := 1, bytes := 8, isAgg := false, zero := (.v (.int IntKind.u64 0)), flds := [], elem := 0 }
  | 65 => { ok := true, desc := (TypeDesc.func #[61, 9] #[4] false), size := 1, bytes := 8, isAgg := false, zero := (.v .nilFunc), flds := [], elem := 0 }
  | 66 => { ok := true, desc := (TypeDesc.func #[9, 9, 3, 3, 52] #[52] false), size := 1, bytes := 8, isAgg := false, zero := (.v .nilFunc), flds := [], elem := 0 }
  | 67 => { ok := true, desc := (TypeDesc.pointer 5), size := 1, bytes := 8, isAgg := false, zero := (.v (.pointer none)), flds := [], elem := 0 }
  | 69 => { ok := true, desc := (TypeDesc.func #[9, 70] #[61] false), size := 1, bytes := 8, isAgg := false, zero := (.v .nilFunc), flds := [], elem := 0 }
  | 70 => { ok := true, desc := (TypeDesc.func #[21] #[4] false), size := 1, bytes := 8, isAgg := false, zero := (.v .nilFunc), flds := [], elem := 0 }
  | 71 => { ok := true, desc := (TypeDesc.func #[9, 9] #[61] false), size := 1, bytes := 8, isAgg := false, zero := (.v .nilFunc), flds := [], elem := 0 }
  | 72 => { ok := true, desc := (TypeDesc.int IntKind.u32), size := 1, bytes := 4, isAgg := false, zero := (.v (.int IntKind.u32 0)), flds := [], elem := 0 }
  | 74 => { ok := true, desc := (TypeDesc.func #[9] #[72, 72] false), size := 1, bytes := 8, isAgg := false, zero := (.v .nilFunc), flds := [], elem := 0 }
  | 75 => { ok := true, desc := (TypeDesc.func #[61, 9] #[3] false), size := 1, bytes := 8, isAgg := false, zero := (.v .nilFunc), flds := [], elem := 0 }
  | 76 => { ok := true, desc := (TypeDesc.int IntKind.i64), size := 1, bytes := 8, isAgg := false, zero := (.v (.int IntKind.i64 0)), flds := [], elem := 0 }
  | 77 => { ok := true, desc := (TypeDesc.int IntKind.u64), size := 1, bytes := 8, isAgg := false, zero := (.v (.int IntKind.u64 0)), flds := [], elem := 0 }
  | 79 => { ok := true, desc := (TypeDesc.func #[9, 3, 3] #[77, 52] false), size := 1, bytes := 8, isAgg := false, zero := (.v .nilFunc), flds := [], elem := 0 }
  | 80 => { ok := true, desc := (TypeDesc.pointer 93), size := 1, bytes := 8, isAgg := false, zero := (.v (.pointer none)), flds := [], elem := 0 }
  | 81 => { ok := true, desc := (TypeDesc.func #[9, 9] #[80] false), size := 1, bytes := 8, isAgg := false, zero := (.v .nilFunc), flds := [], elem := 0 }
  | 82 => { ok := true, desc := (TypeDesc.func #[9, 9, 3] #[80] false), size := 1, bytes := 8, isAgg := false, zero := (.v .nilFunc), flds := [], elem := 0 }
  | 83 => { ok := true, desc := TypeDesc.unsafePointer, size := 1, bytes := 8, isAgg := false, zero := (.v (.pointer none)), flds := [], elem := 0 }
  | 84 => { ok := true, desc := (TypeDesc.func #[83] #[83] false), size := 1, bytes := 8, isAgg := false, zero := (.v .nilFunc), flds := [], elem := 0 }
  | 85 => { ok := true, desc := (TypeDesc.slice 87), size := 1, bytes := 24, isAgg := false, zero := (.v (.slice none 0 0)), flds := [], elem := 87 }
  | 86 => { ok := true, desc := (TypeDesc.struct #[{ name := "start", type := 3, offset := 0, embedded := false, tag := "", pkgPath := "strings", byteOffset := 0 }, { name := "end", type := 3, offset := 1, embedded := false, tag := "", pkgPath := "strings", byteOffset := 8 }]), size := 2, bytes := 16, isAgg := true, zero := (.agg [(.v (.int IntKind.i64 0)), (.v (.int IntKind.i64 0))]), flds := [(0, 1, false), (1, 1, false)], elem := 0 }
  | 87 => { ok := true, desc := (TypeDesc.struct #[{ name := "start", type := 3, offset := 0, embedded := false, tag := "", pkgPath := "strings", byteOffset := 0 }, { name := "end", type := 3, offset := 1, embedded := false, tag := "", pkgPath := "strings", byteOffset := 8 }]), size := 2, bytes := 16, isAgg := true, zero := (.agg [(.v (.int IntKind.i64 0)), (.v (.int IntKind.i64 0))]), flds := [(0, 1, false), (1, 1, false)], elem := 0 }
  | 88 => { ok := true, desc := (TypeDesc.func #[89, 21] #[4] false), size := 1, bytes := 8, isAgg := false, zero := (.v .nilFunc), flds := [], elem := 0 }
  | 89 => { ok := true, desc := (TypeDesc.pointer 99), size := 1, bytes := 8, isAgg := false, zero := (.v (.pointer none)), flds := [], elem := 0 }
  | 90 => { ok := true, desc := (TypeDesc.func #[9, 9, 3, 3] #[61] false), size := 1, bytes := 8, isAgg := false, zero := (.v .nilFunc), flds := [], elem := 0 }
  | 91 => { ok := true, desc := (TypeDesc.func #[5] #[5] false), size := 1, bytes := 8, isAgg := false, zero := (.v .nilFunc), flds := [], elem := 0 }
  | 92 => { ok := true, desc := (TypeDesc.struct #[{ name := "Func", type := 9, offset := 0, embedded := false, tag := "", pkgPath := "", byteOffset := 0 }, { name := "Num", type := 9, offset := 1, embedded := false, tag := "", pkgPath := "", byteOffset := 16 }, { name := "Err", type := 52, offset := 2, embedded := false, tag := "", pkgPath := "", byteOffset := 32 }]), size := 3, bytes := 48, isAgg := true, zero := (.agg [(.str []), (.str []), (.v .nilIface)]), flds := [(0, 1, false), (1, 1, false), (2, 1, false)], elem := 0 }
  | 93 => { ok := true, desc := (TypeDesc.struct #[{ name := "Func", type := 9, offset := 0, embedded := false, tag := "", pkgPath := "", byteOffset := 0 }, { name := "Num", type := 9, offset := 1, embedded := false, tag := "", pkgPath := "", byteOffset := 16 }, { name := "Err", type := 52, offset := 2, embedded := false, tag := "", pkgPath := "", byteOffset := 32 }]), size := 3, bytes := 48, isAgg := true, zero := (.agg [(.str []), (.str []), (.v .nilIface)]), flds := [(0, 1, false), (1, 1, false), (2, 1, false)], elem := 0 }
  | 94 => { ok := true, desc := (TypeDesc.func #[9] #[52] false), size := 1, bytes := 8, isAgg := false, zero := (.v .nilFunc), flds := [], elem := 0 }
  | 95 => { ok := true, desc := (TypeDesc.func #[3] #[9] false), size := 1, bytes := 8, isAgg := false, zero := (.v .nilFunc), flds := [], elem := 0 }
  | 96 => { ok := true, desc := (TypeDesc.slice 102), size := 1, bytes := 24, isAgg := false, zero := (.v (.slice none 0 0)), flds := [], elem := 102 }
  | 97 => { ok := true, desc := (TypeDesc.slice 105), size := 1, bytes := 24, isAgg := false, zero := (.v (.slice none 0 0)), flds := [], elem := 105 }
  | 98 => { ok := true, desc := (TypeDesc.struct #[{ name := "R16", type := 96, offset := 0, embedded := false, tag := "", pkgPath := "", byteOffset := 0 }, { name := "R32", type := 97, offset := 1, embedded := false, tag := "", pkgPath := "", byteOffset := 24 }, { name := "LatinOffset", type := 3, offset := 2, embedded := false, tag := "", pkgPath := "", byteOffset := 48 }]), size := 3, bytes := 56, isAgg := true, zero := (.agg [(.v (.slice none 0 0)), (.v (.slice none 0 0)), (.v (.int IntKind.i64 0))]), flds := [(0, 1, false), (1, 1, false), (2, 1, false)], elem := 0 }
  | 99 => { ok := true, desc := (TypeDesc.struct #[{ name := "R16", type := 96, offset := 0, embedded := false, tag := "", pkgPath := "", byteOffset := 0 }, { name := "R32", type := 97, offset := 1, embedded := false, tag := "", pkgPath := "", byteOffset := 24 }, { name := "LatinOffset", type := 3, offset := 2, embedded := false, tag := "", pkgPath := "", byteOffset := 48 }]), size := 3, bytes := 56, isAgg := true, zero := (.agg [(.v (.slice none 0 0)), (.v (.slice none 0 0)), (.v (.int IntKind.i64 0))]), flds := [(0, 1, false), (1, 1, false), (2, 1, false)], elem := 0 }
  | 100 => { ok := true, desc := (TypeDesc.int IntKind.u16), size := 1, bytes := 2, isAgg := false, zero := (.v (.int IntKind.u16 0)), flds := [], elem := 0 }
  | 101 => { ok := true, desc := (TypeDesc.struct #[{ name := "Lo", type := 100, offset := 0, embedded := false, tag := "", pkgPath := "", byteOffset := 0 }, { name := "Hi", type := 100, offset := 1, embedded := false, tag := "", pkgPath := "", byteOffset := 2 }, { name := "Stride", type := 100, offset := 2, embedded := false, tag := "", pkgPath := "", byteOffset := 4 }]), size := 3, bytes := 6, isAgg := true, zero := (.agg [(.v (.int IntKind.u16 0)), (.v (.int IntKind.u16 0)), (.v (.int IntKind.u16 0))]), flds := [(0, 1, false), (1, 1, false), (2, 1, false)], elem := 0 }
  | 102 => { ok := true, desc := (TypeDesc.struct #[{ name := "Lo", type := 100, offset := 0, embedded := false, tag := "", pkgPath := "", byteOffset := 0 }, { name := "Hi", type := 100, offset := 1, embedded := false, tag := "", pkgPath := "", byteOffset := 2 }, { name := "Stride", type := 100, offset := 2, embedded := false, tag := "", pkgPath := "", byteOffset := 4 }]), size := 3, bytes := 6, isAgg := true, zero := (.agg [(.v (.int IntKind.u16 0)), (.v (.int IntKind.u16 0)), (.v (.int IntKind.u16 0))]), flds := [(0, 1, false), (1, 1, false), (2, 1, false)], elem := 0 }
  | 103 => { ok := true, desc := (TypeDesc.func #[96, 100] #[4] false), size := 1, bytes := 8, isAgg := false, zero := (.v .nilFunc), flds := [], elem := 0 }
  | 104 => { ok := true, desc := (TypeDesc.struct #[{ name := "Lo", type := 72, offset := 0, embedded := false, tag := "", pkgPath := "", byteOffset := 0 }, { name := "Hi", type := 72, offset := 1, embedded := false, tag := "", pkgPath := "", byteOffset := 4 }, { name := "Stride", type := 72, offset := 2, embedded := false, tag := "", pkgPath := "", byteOffset := 8 }]), size := 3, bytes := 12, isAgg := true, zero := (.agg [(.v (.int IntKind.u32 0)), (.v (.int IntKind.u32 0)), (.v (.int IntKind.u32 0))]), flds := [(0, 1, false), (1, 1, false), (2, 1, false)], elem := 0 }
  | 105 => { ok := true, desc := (TypeDesc.struct #[{ name := "Lo", type := 72, offset := 0, embedded := false, tag := "", pkgPath := "", byteOffset := 0 }, { name := "Hi", type := 72, offset := 1, embedded := false, tag := "", pkgPath := "", byteOffset := 4 }, { name := "Stride", type := 72, offset := 2, embedded := false, tag := "", pkgPath := "", byteOffset := 8 }]), size := 3, bytes := 12, isAgg := true, zero := (.agg [(.v (.int IntKind.u32 0)), (.v (.int IntKind.u32 0)), (.v (.int IntKind.u32 0))]), flds := [(0, 1, false), (1, 1, false), (2, 1, false)], elem := 0 }
  | 106 => { ok := true, desc := (TypeDesc.func #[97, 72] #[4] false), size := 1, bytes := 8, isAgg := false, zero := (.v .nilFunc), flds := [], elem := 0 }
  | 107 => { ok := true, desc := (TypeDesc.func #[9, 3] #[61] false), size := 1, bytes := 8, isAgg := false, zero := (.v .nilFunc), flds := [], elem := 0 }
  | 108 => { ok := true, desc := (TypeDesc.pointer 110), size := 1, bytes := 8, isAgg := false, zero := (.v (.pointer none)), flds := [], elem := 0 }
  | 109 => { ok := true, desc := (TypeDesc.struct #[{ name := "s", type := 9, offset := 0, embedded := false, tag := "", pkgPath := "errors", byteOffset := 0 }]), size := 1, bytes := 16, isAgg := true, zero := (.agg [(.str [])]), flds := [(0, 1, false)], elem := 0 }
  | 110 => { ok := true, desc := (TypeDesc.struct #[{ name := "s", type := 9, offset := 0, embedded := false, tag := "", pkgPath := "errors", byteOffset := 0 }]), size := 1, bytes := 16, isAgg := true, zero := (.agg [(.str [])]), flds := [(0, 1, false)], elem := 0 }
  | 111 => { ok := true, desc := (TypeDesc.pointer 102), size := 1, bytes := 8, isAgg := false, zero := (.v (.pointer none)), flds := [], elem := 0 }
  | 112 => { ok := true, desc := (TypeDesc.pointer 105), size := 1, bytes := 8, isAgg := false, zero := (.v (.pointer none)), flds := [], elem := 0 }
  | 114 => { ok := true, desc := (TypeDesc.func #[9] #[21, 3] false), size := 1, bytes := 8, isAgg := false, zero := (.v .nilFunc), flds := [], elem := 0 }
  | 115 => { ok := true, desc := (TypeDesc.func #[2, 3] #[9] false), size := 1, bytes := 8, isAgg := false, zero := (.v .nilFunc), flds := [], elem := 0 }
  | 117 => { ok := true, desc := (TypeDesc.func #[77] #[3] false), size := 1, bytes := 8, isAgg := false, zero := (.v .nilFunc), flds := [], elem := 0 }
  | 118 => { ok := true, desc := (TypeDesc.func #[56, 77] #[] false), size := 1, bytes := 8, isAgg := false, zero := (.v .nilFunc), flds := [], elem := 0 }
  | 120 => { ok := true, desc := (TypeDesc.func #[56, 77, 3, 4, 4] #[56, 9] false), size := 1, bytes := 8, isAgg := false, zero := (.v .nilFunc), flds := [], elem := 0 }
  | 121 => { ok := true, desc := (TypeDesc.struct #[{ name := "lo", type := 5, offset := 0, embedded := false, tag := "", pkgPath := "unicode/utf8", byteOffset := 0 }, { name := "hi", type := 5, offset := 1, embedded := false, tag := "", pkgPath := "unicode/utf8", byteOffset := 1 }]), size := 2, bytes := 2, isAgg := true, zero := (.agg [(.v (.int IntKind.u8 0)), (.v (.int IntKind.u8 0))]), flds := [(0, 1, false), (1, 1, false)], elem := 0 }
  | 122 => { ok := true, desc := (TypeDesc.struct #[{ name := "lo", type := 5, offset := 0, embedded := false, tag := "", pkgPath := "unicode/utf8", byteOffset := 0 }, { name := "hi", type := 5, offset := 1, embedded := false, tag := "", pkgPath := "unicode/utf8", byteOffset := 1 }]), size := 2, bytes := 2, isAgg := true, zero := (.agg [(.v (.int IntKind.u8 0)), (.v (.int IntKind.u8 0))]), flds := [(0, 1, false), (1, 1, false)], elem := 0 }
  | 124 => { ok := true, desc := (TypeDesc.func #[4] #[3] false), size := 1, bytes := 8, isAgg := false, zero := (.v .nilFunc), flds := [], elem := 0 }
  | 127 => { ok := true, desc := (TypeDesc.func #[3] #[4] false), size := 1, bytes := 8, isAgg := false, zero := (.v .nilFunc), flds := [], elem := 0 }
  | 128 => { ok := true, desc := (TypeDesc.func #[64] #[3] false), size := 1, bytes := 8, isAgg := false, zero := (.v .nilFunc), flds := [], elem := 0 }
  | 129 => { ok := true, desc := (TypeDesc.func #[72] #[3] false), size := 1, bytes := 8, isAgg := false, zero := (.v .nilFunc), flds := [], elem := 0 }
  | 132 => { ok := true, desc := (TypeDesc.struct #[{ name := "_interface", type := 17, offset := 0, embedded := false, tag := "", pkgPath := "runtime", byteOffset := 0 }, { name := "concrete", type := 17, offset := 1, embedded := false, tag := "", pkgPath := "runtime", byteOffset := 8 }, { name := "asserted", type := 17, offset := 2, embedded := false, tag := "", pkgPath := "runtime", byteOffset := 16 }, { name := "missingMethod", type := 9, offset := 3, embedded := false, tag := "", pkgPath := "runtime", byteOffset := 24 }]), size := 4, bytes := 40, isAgg := true, zero := (.agg [(.v (.pointer none)), (.v (.pointer none)), (.v (.pointer none)), (.str [])]), flds := [(0, 1, false), (1, 1, false), (2, 1, false), (3, 1, false)], elem := 0 }
  | 133 => { ok := true, desc := (TypeDesc.struct #[{ name := "_interface", type := 17, offset := 0, embedded := false, tag := "", pkgPath := "runtime", byteOffset := 0 }, { name := "concrete", type := 17, offset := 1, embedded := false, tag := "", pkgPath := "runtime", byteOffset := 8 }, { name := "asserted", type := 17, offset := 2, embedded := false, tag := "", pkgPath := "runtime", byteOffset := 16 }, { name := "missingMethod", type := 9, offset := 3, embedded := false, tag := "", pkgPath := "runtime", byteOffset := 24 }]), size := 4, bytes := 40, isAgg := true, zero := (.agg [(.v (.pointer none)), (.v (.pointer none)), (.v (.pointer none)), (.str [])]), flds := [(0, 1, false), (1, 1, false), (2, 1, false), (3, 1, false)], elem := 0 }
  | 137 => { ok := true, desc := (TypeDesc.func #[] #[3] false), size := 1, bytes := 8, isAgg := false, zero := (.v .nilFunc), flds := [], elem := 0 }
  | 138 => { ok := true, desc := (TypeDesc.int IntKind.u8), size := 1, bytes := 1, isAgg := false, zero := (.v (.int IntKind.u8 0)), flds := [], elem := 0 }
  | 139 => { ok := true, desc := (TypeDesc.int IntKind.u8), size := 1, bytes := 1, isAgg := false, zero := (.v (.int IntKind.u8 0)), flds := [], elem := 0 }
  | 140 => { ok := true, desc := (TypeDesc.func #[83, 83] #[4] false), size := 1, bytes := 8, isAgg := false, zero := (.v .nilFunc), flds := [], elem := 0 }
  | 141 => { ok := true, desc := (TypeDesc.int IntKind.i32), size := 1, bytes := 4, isAgg := false, zero := (.v (.int IntKind.i32 0)), flds := [], elem := 0 }
  | 142 => { ok := true, desc := (TypeDesc.int IntKind.i32), size := 1, bytes := 4, isAgg := false, zero := (.v (.int IntKind.i32 0)), flds := [], elem := 0 }
  | 143 => { ok := true, desc := (TypeDesc.struct #[{ name := "Size_", type := 12, offset := 0, embedded := false, tag := "", pkgPath := "", byteOffset := 0 }, { name := "PtrBytes", type := 12, offset := 1, embedded := false, tag := "", pkgPath := "", byteOffset := 8 }, { name := "Hash", type := 72, offset := 2, embedded := false, tag := "", pkgPath := "", byteOffset := 16 }, { name := "TFlag", type := 138, offset := 3, embedded := false, tag := "", pkgPath := "", byteOffset := 20 }, { name := "Align_", type := 5, offset := 4, embedded := false, tag := "", pkgPath := "", byteOffset := 21 }, { name := "FieldAlign_", type := 5, offset := 5, embedded := false, tag := "", pkgPath := "", byteOffset := 22 }, { name := "Kind_", type := 139, offset := 6, embedded := false, tag := "", pkgPath := "", byteOffset := 23 }, { name := "Equal", type := 140, offset := 7, embedded := false, tag := "", pkgPath := "", byteOffset := 24 }, { name := "GCData", type := 67, offset := 8, embedded := false, tag := "", pkgPath := "", byteOffset := 32 }, { name := "Str", type := 141, offset := 9, embedded := false, tag := "", pkgPath := "", byteOffset := 40 }, { name := "PtrToThis", type := 142, offset := 10, embedded := false, tag := "", pkgPath := "", byteOffset := 44 }]), size := 11, bytes := 48, isAgg := true, zero := (.agg [(.v (.int IntKind.u64 0)), (.v (.int IntKind.u64 0)), (.v (.int IntKind.u32 0)), (.v (.int IntKind.u8 0)), (.v (.int IntKind.u8 0)), (.v (.int IntKind.u8 0)), (.v (.int IntKind.u8 0)), (.v .nilFunc), (.v (.pointer none)), (.v (.int IntKind.i32 0)), (.v (.int IntKind.i32 0))]), flds := [(0, 1, false), (1, 1, false), (2, 1, false), (3, 1, false), (4, 1, false), (5, 1, false), (6, 1, false), (7, 1, false), (8, 1, false), (9, 1, false), (10, 1, false)], elem := 0 }
  | 144 => { ok := true, desc := (TypeDesc.struct #[{ name := "Size_", type := 12, offset := 0, embedded := false, tag := "", pkgPath := "", byteOffset := 0 }, { name := "PtrBytes", type := 12, offset := 1, embedded := false, tag := "", pkgPath := "", byteOffset := 8 }, { name := "Hash", type := 72, offset := 2, embedded := false, tag := "", pkgPath := "", byteOffset := 16 }, { name := "TFlag", type := 138, offset := 3, embedded := false, tag := "", pkgPath := "", byteOffset := 20 }, { name := "Align_", type := 5, offset := 4, embedded := false, tag := "", pkgPath := "", byteOffset := 21 }, { name := "FieldAlign_", type := 5, offset := 5, embedded := false, tag := "", pkgPath := "", byteOffset := 22 }, { name := "Kind_", type := 139, offset := 6, embedded := false, tag := "", pkgPath := "", byteOffset := 23 }, { name := "Equal", type := 140, offset := 7, embedded := false, tag := "", pkgPath := "", byteOffset := 24 }, { name := "GCData", type := 67, offset := 8, embedded := false, tag := "", pkgPath := "", byteOffset := 32 }, { name := "Str", type := 141, offset := 9, embedded := false, tag := "", pkgPath := "", byteOffset := 40 }, { name := "PtrToThis", type := 142, offset := 10, embedded := false, tag := "", pkgPath := "", byteOffset := 44 }]), size := 11, bytes := 48, isAgg := true, zero := (.agg [(.v (.int IntKind.u64 0)), (.v (.int IntKind.u64 0)), (.v (.int IntKind.u32 0)), (.v (.int IntKind.u8 0)), (.v (.int IntKind.u8 0)), (.v (.int IntKind.u8 0)), (.v (.int IntKind.u8 0)), (.v .nilFunc), (.v (.pointer none)), (.v (.int IntKind.i32 0)), (.v (.int IntKind.i32 0))]), flds := [(0, 1, false), (1, 1, false), (2, 1, false), (3, 1, false), (4, 1, false), (5, 1, false), (6, 1, false), (7, 1, false), (8, 1, false), (9, 1, false), (10, 1, false)], elem := 0 }
  | _ => {}
theorem tab_1 : tab 1 = { ok := true, desc := (TypeDesc.func #[] #[] false), size := 1, bytes := 8, isAgg := false, zero := (.v .nilFunc), flds := [], elem := 0 } := rfl
theorem tab_2 : tab 2 = { ok := true, desc := (TypeDesc.int IntKind.i64), size := 1, bytes := 8, isAgg := false, zero := (.v (.int IntKind.i64 0)), flds := [], elem := 0 } := rfl
theorem tab_3 : tab 3 = { ok := true, desc := (TypeDesc.int IntKind.i64), size := 1, bytes := 8, isAgg := false, zero := (.v (.int IntKind.i64 0)), flds := [], elem := 0 } := rfl
theorem tab_4 : tab 4 = { ok := true, desc := TypeDesc.bool, size := 1, bytes := 1, isAgg := false, zero := (.v (.bool false)), flds := [], elem := 0 } := rfl
theorem tab_5 : tab 5 = { ok := true, desc := (TypeDesc.int IntKind.u8), size := 1, bytes := 1, isAgg := false, zero := (.v (.int IntKind.u8 0)), flds := [], elem := 0 } := rfl
theorem tab_6 : tab 6 = { ok := true, desc := (TypeDesc.int IntKind.u8), size := 1, bytes := 1, isAgg := false, zero := (.v (.int IntKind.u8 0)), flds := [], elem := 0 } := rfl
theorem tab_7 : tab 7 = { ok := true, desc := (TypeDesc.struct #[{ name := "x", type := 2, offset := 0, embedded := false, tag := "", pkgPath := "runtime", byteOffset := 0 }, { name := "y", type := 3, offset := 1, embedded := false, tag := "", pkgPath := "runtime", byteOffset := 8 }, { name := "signed", type := 4, offset := 2, embedded := false, tag := "", pkgPath := "runtime", byteOffset := 16 }, { name := "code", type := 6, offset := 3, embedded := false, tag := "", pkgPath := "runtime", byteOffset := 17 }]), size := 4, bytes := 24, isAgg := true, zero := (.agg [(.v (.int IntKind.i64 0)), (.v (.int IntKind.i64 0)), (.v (.bool false)), (.v (.int IntKind.u8 0))]), flds := [(0, 1, false), (1, 1, false), (2, 1, false), (3, 1, false)], elem := 0 } := rfl
theorem tab_8 : tab 8 = { ok := true, desc := (TypeDesc.struct #[{ name := "x", type := 2, offset := 0, embedded := false, tag := "", pkgPath := "runtime", byteOffset := 0 }, { name := "y", type := 3, offset := 1, embedded := false, tag := "", pkgPath := "runtime", byteOffset := 8 }, { name := "signed", type := 4, offset := 2, embedded := false, tag := "", pkgPath := "runtime", byteOffset := 16 }, { name := "code", type := 6, offset := 3, embedded := false, tag := "", pkgPath := "runtime", byteOffset := 17 }]), size := 4, bytes := 24, isAgg := true, zero := (.agg [(.v (.int IntKind.i64 0)), (.v (.int IntKind.i64 0)), (.v (.bool false)), (.v (.int IntKind.u8 0))]), flds := [(0, 1, false), (1, 1, false), (2, 1, false), (3, 1, false)], elem := 0 } := rfl
theorem tab_9 : tab 9 = { ok := true, desc := TypeDesc.string, size := 1, bytes := 16, isAgg := false, zero := (.str []), flds := [], elem := 0 } := rfl
theorem tab_10 : tab 10 = { ok := true, desc := TypeDesc.string, size := 1, bytes := 16, isAgg := false, zero := (.str []), flds := [], elem := 0 } := rfl
theorem tab_11 : tab 11 = { ok := true, desc := TypeDesc.string, size := 1, bytes := 16, isAgg := false, zero := (.str []), flds := [], elem := 0 } := rfl
theorem tab_12 : tab 12 = { ok := true, desc := (TypeDesc.int IntKind.u64), size := 1, bytes := 8, isAgg := false, zero := (.v (.int IntKind.u64 0)), flds := [], elem := 0 } := rfl
theorem tab_13 : tab 13 = { ok := true, desc := (TypeDesc.struct #[{ name := "msg", type := 9, offset := 0, embedded := false, tag := "", pkgPath := "runtime", byteOffset := 0 }, { name := "addr", type := 12, offset := 1, embedded := false, tag := "", pkgPath := "runtime", byteOffset := 16 }]), size := 2, bytes := 24, isAgg := true, zero := (.agg [(.str []), (.v (.int IntKind.u64 0))]), flds := [(0, 1, false), (1, 1, false)], elem := 0 } := rfl
theorem tab_14 : tab 14 = { ok := true, desc := (TypeDesc.struct #[{ name := "msg", type := 9, offset := 0, embedded := false, tag := "", pkgPath := "runtime", byteOffset := 0 }, { name := "addr", type := 12, offset := 1, embedded := false, tag := "", pkgPath := "runtime", byteOffset := 16 }]), size := 2, bytes := 24, isAgg := true, zero := (.agg [(.str []), (.v (.int IntKind.u64 0))]), flds := [(0, 1, false), (1, 1, false)], elem := 0 } := rfl
theorem tab_15 : tab 15 = { ok := true, desc := (TypeDesc.pointer 133), size := 1, bytes := 8, isAgg := false, zero := (.v (.pointer none)), flds := [], elem := 0 } := rfl
theorem tab_16 : tab 16 = { ok := true, desc := (TypeDesc.pointer 136), size := 1, bytes := 8, isAgg := false, zero := (.v (.pointer none)), flds := [], elem := 0 } := rfl
theorem tab_17 : tab 17 = { ok := true, desc := (TypeDesc.pointer 144), size := 1, bytes := 8, isAgg := false, zero := (.v (.pointer none)), flds := [], elem := 0 } := rfl
theorem tab_18 : tab 18 = { ok := true, desc := (TypeDesc.struct #[{ name := "typ", type := 17, offset := 0, embedded := false, tag := "", pkgPath := "internal/runtime/maps", byteOffset := 0 }]), size := 1, bytes := 8, isAgg := true, zero := (.agg [(.v (.pointer none))]), flds := [(0, 1, false)], elem := 0 } := rfl
theorem tab_19 : tab 19 = { ok := true, desc := (TypeDesc.struct #[{ name := "typ", type := 17, offset := 0, embedded := false, tag := "", pkgPath := "internal/runtime/maps", byteOffset := 0 }]), size := 1, bytes := 8, isAgg := true, zero := (.agg [(.v (.pointer none))]), flds := [(0, 1, false)], elem := 0 } := rfl
theorem tab_20 : tab 20 = { ok := true, desc := (TypeDesc.interface #[]), size := 1, bytes := 16, isAgg := false, zero := (.v .nilIface), flds := [], elem := 0 } := rfl
theorem tab_21 : tab 21 = { ok := true, desc := (TypeDesc.int IntKind.i32), size := 1, bytes := 4, isAgg := false, zero := (.v (.int IntKind.i32 0)), flds := [], elem := 0 } := rfl
theorem tab_22 : tab 22 = { ok := true, desc := (TypeDesc.func #[] #[4] false), size := 1, bytes := 8, isAgg := false, zero := (.v .nilFunc), flds := [], elem := 0 } := rfl
theorem tab_23 : tab 23 = { ok := true, desc := (TypeDesc.int IntKind.i64), size := 1, bytes := 8, isAgg := false, zero := (.v (.int IntKind.i64 0)), flds := [], elem := 0 } := rfl
theorem tab_25 : tab 25 = { ok := true, desc := (TypeDesc.func #[9, 3] #[3, 3, 23] false), size := 1, bytes := 8, isAgg := false, zero := (.v .nilFunc), flds := [], elem := 0 } := rfl
theorem tab_26 : tab 26 = { ok := true, desc := (TypeDesc.func #[9, 3] #[4] false), size := 1, bytes := 8, isAgg := false, zero := (.v .nilFunc), flds := [], elem := 0 } := rfl
theorem tab_27 : tab 27 = { ok := true, desc := (TypeDesc.slice 33), size := 1, bytes := 24, isAgg := false, zero := (.v (.slice none 0 0)), flds := [], elem := 33 } := rfl
theorem tab_29 : tab 29 = { ok := true, desc := (TypeDesc.func #[9] #[27, 23] false), size := 1, bytes := 8, isAgg := false, zero := (.v .nilFunc), flds := [], elem := 0 } := rfl
theorem tab_30 : tab 30 = { ok := true, desc := (TypeDesc.func #[27, 27, 4] #[4] false), size := 1, bytes := 8, isAgg := false, zero := (.v .nilFunc), flds := [], elem := 0 } := rfl
theorem tab_31 : tab 31 = { ok := true, desc := (TypeDesc.func #[9] #[4] false), size := 1, bytes := 8, isAgg := false, zero := (.v .nilFunc), flds := [], elem := 0 } := rfl
theorem tab_32 : tab 32 = { ok := true, desc := (TypeDesc.struct #[{ name := "Kind", type := 9, offset := 0, embedded := false, tag := "", pkgPath := "", byteOffset := 0 }, { name := "Text", type := 9, offset := 1, embedded := false, tag := "", pkgPath := "", byteOffset := 16 }, { name := "At", type := 3, offset := 2, embedded := false, tag := "", pkgPath := "", byteOffset := 32 }]), size := 3, bytes := 40, isAgg := true, zero := (.agg [(.str []), (.str []), (.v (.int IntKind.i64 0))]), flds := [(0, 1, false), (1, 1, false), (2, 1, false)], elem := 0 } := rfl
theorem tab_33 : tab 33 = { ok := true, desc := (TypeDesc.struct #[{ name := "Kind", type := 9, offset := 0, embedded := false, tag := "", pkgPath := "", byteOffset := 0 }, { name := "Text", type := 9, offset := 1, embedded := false, tag := "", pkgPath := "", byteOffset := 16 }, { name := "At", type := 3, offset := 2, embedded := false, tag := "", pkgPath := "", byteOffset := 32 }]), size := 3, bytes := 40, isAgg := true, zero := (.agg [(.str []), (.str []), (.v (.int IntKind.i64 0))]), flds := [(0, 1, false), (1, 1, false), (2, 1, false)], elem := 0 } := rfl
theorem tab_34 : tab 34 = { ok := true, desc := (TypeDesc.func #[9, 9] #[3] false), size := 1, bytes := 8, isAgg := false, zero := (.v .nilFunc), flds := [], elem := 0 } := rfl
theorem tab_35 : tab 35 = { ok := true, desc := (TypeDesc.func #[9, 5] #[3] false), size := 1, bytes := 8, isAgg := false, zero := (.v .nilFunc), flds := [], elem := 0 } := rfl
theorem tab_36 : tab 36 = { ok := true, desc := (TypeDesc.func #[9, 9] #[4] false), size := 1, bytes := 8, isAgg := false, zero := (.v .nilFunc), flds := [], elem := 0 } := rfl
theorem tab_38 : tab 38 = { ok := true, desc := (TypeDesc.func #[9] #[3, 4] false), size := 1, bytes := 8, isAgg := false, zero := (.v .nilFunc), flds := [], elem := 0 } := rfl
theorem tab_40 : tab 40 = { ok := true, desc := (TypeDesc.func #[9] #[33, 3, 4] false), size := 1, bytes := 8, isAgg := false, zero := (.v .nilFunc), flds := [], elem := 0 } := rfl
theorem tab_41 : tab 41 = { ok := true, desc := (TypeDesc.func #[9, 3] #[3] false), size := 1, bytes := 8, isAgg := false, zero := (.v .nilFunc), flds := [], elem := 0 } := rfl
theorem tab_43 : tab 43 = { ok := true, desc := (TypeDesc.func #[9, 3] #[33, 3] false), size := 1, bytes := 8, isAgg := false, zero := (.v .nilFunc), flds := [], elem := 0 } := rfl
theorem tab_44 : tab 44 = { ok := true, desc := (TypeDesc.func #[9] #[3] false), size := 1, bytes := 8, isAgg := false, zero := (.v .nilFunc), flds := [], elem := 0 } := rfl
theorem tab_46 : tab 46 = { ok := true, desc := (TypeDesc.func #[9] #[3, 9] false), size := 1, bytes := 8, isAgg := false, zero := (.v .nilFunc), flds := [], elem := 0 } := rfl
theorem tab_47 : tab 47 = { ok := true, desc := (TypeDesc.func #[5, 5, 5] #[4] false), size := 1, bytes := 8, isAgg := false, zero := (.v .nilFunc), flds := [], elem := 0 } := rfl
theorem tab_48 : tab 48 = { ok := true, desc := (TypeDesc.func #[9] #[9] false), size := 1, bytes := 8, isAgg := false, zero := (.v .nilFunc), flds := [], elem := 0 } := rfl
theorem tab_49 : tab 49 = { ok := true, desc := (TypeDesc.func #[5] #[4] false), size := 1, bytes := 8, isAgg := false, zero := (.v .nilFunc), flds := [], elem := 0 } := rfl
theorem tab_50 : tab 50 = { ok := true, desc := (TypeDesc.func #[9, 3] #[3, 9] false), size := 1, bytes := 8, isAgg := false, zero := (.v .nilFunc), flds := [], elem := 0 } := rfl
theorem tab_51 : tab 51 = { ok := true, desc := (TypeDesc.interface #[("Error", 59)]), size := 1, bytes := 16, isAgg := false, zero := (.v .nilIface), flds := [], elem := 0 } := rfl
theorem tab_52 : tab 52 = { ok := true, desc := (TypeDesc.interface #[("Error", 59)]), size := 1, bytes := 16, isAgg := false, zero := (.v .nilIface), flds := [], elem := 0 } := rfl
theorem tab_54 : tab 54 = { ok := true, desc := (TypeDesc.func #[9, 3, 3] #[2, 52] false), size := 1, bytes := 8, isAgg := false, zero := (.v .nilFunc), flds := [], elem := 0 } := rfl
theorem tab_55 : tab 55 = { ok := true, desc := (TypeDesc.pointer 58), size := 1, bytes := 8, isAgg := false, zero := (.v (.pointer none)), flds := [], elem := 0 } := rfl
theorem tab_56 : tab 56 = { ok := true, desc := (TypeDesc.slice 5), size := 1, bytes := 24, isAgg := false, zero := (.v (.slice none 0 0)), flds := [], elem := 5 } := rfl
theorem tab_57 : tab 57 = { ok := true, desc := (TypeDesc.struct #[{ name := "addr", type := 55, offset := 0, embedded := false, tag := "", pkgPath := "strings", byteOffset := 0 }, { name := "buf", type := 56, offset := 1, embedded := false, tag := "", pkgPath := "strings", byteOffset := 8 }]), size := 2, bytes := 32, isAgg := true, zero := (.agg [(.v (.pointer none)), (.v (.slice none 0 0))]), flds := [(0, 1, false), (1, 1, false)], elem := 0 } := rfl
theorem tab_58 : tab 58 = { ok := true, desc := (TypeDesc.struct #[{ name := "addr", type := 55, offset := 0, embedded := false, tag := "", pkgPath := "strings", byteOffset := 0 }, { name := "buf", type := 56, offset := 1, embedded := false, tag := "", pkgPath := "strings", byteOffset := 8 }]), size := 2, bytes := 32, isAgg := true, zero := (.agg [(.v (.pointer none)), (.v (.slice none 0 0))]), flds := [(0, 1, false), (1, 1, false)], elem := 0 } := rfl
theorem tab_59 : tab 59 = { ok := true, desc := (TypeDesc.func #[] #[9] false), size := 1, bytes := 8, isAgg := false, zero := (.v .nilFunc), flds := [], elem := 0 } := rfl
theorem tab_60 : tab 60 = { ok := true, desc := (TypeDesc.func #[5] #[52] false), size := 1, bytes := 8, isAgg := false, zero := (.v .nilFunc), flds := [], elem := 0 } := rfl
theorem tab_61 : tab 61 = { ok := true, desc := (TypeDesc.slice 9), size := 1, bytes := 24, isAgg := false, zero := (.v (.slice none 0 0)), flds := [], elem := 9 } := rfl
theorem tab_62 : tab 62 = { ok := true, desc := (TypeDesc.func #[9] #[61] false), size := 1, bytes := 8, isAgg := false, zero := (.v .nilFunc), flds := [], elem := 0 } := rfl
theorem tab_63 : tab 63 = { ok := true, desc := (TypeDesc.func #[3] #[3] false), size := 1, bytes := 8, isAgg := false, zero := (.v .nilFunc), flds := [], elem := 0 } := rfl
theorem tab_64 : tab 64 = { ok := true, desc := (TypeDesc.int IntKind.u64), size := 1, bytes := 8, isAgg := false, zero := (.v (.int IntKind.u64 0)), flds := [], elem := 0 } := rfl
theorem tab_65 : tab 65 = { ok := true, desc := (TypeDesc.func #[61, 9] #[4] false), size := 1, bytes := 8, isAgg := false, zero := (.v .nilFunc), flds := [], elem := 0 } := rfl
theorem tab_66 : tab 66 = { ok := true, desc := (TypeDesc.func #[9, 9, 3, 3, 52] #[52] false), size := 1, bytes := 8, isAgg := false, zero := (.v .nilFunc), flds := [], elem := 0 } := rfl
theorem tab_67 : tab 67 = { ok := true, desc := (TypeDesc.pointer 5), size := 1, bytes := 8, isAgg := false, zero := (.v (.pointer none)), flds := [], elem := 0 } := rfl
theorem tab_69 : tab 69 = { ok := true, desc := (TypeDesc.func #[9, 70] #[61] false), size := 1, bytes := 8, isAgg := false, zero := (.v .nilFunc), flds := [], elem := 0 } := rfl
theorem tab_70 : tab 70 = { ok := true, desc := (TypeDesc.func #[21] #[4] false), size := 1, bytes := 8, isAgg := false, zero := (.v .nilFunc), flds := [], elem := 0 } := rfl
theorem tab_71 : tab 71 = { ok := true, desc := (TypeDesc.func #[9, 9] #[61] false), size := 1, bytes := 8, isAgg := false, zero := (.v .nilFunc), flds := [], elem := 0 } := rfl
theorem tab_72 : tab 72 = { ok := true, desc := (TypeDesc.int IntKind.u32), size := 1, bytes := 4, isAgg := false, zero := (.v (.int IntKind.u32 0)), flds := [], elem := 0 } := rfl
theorem tab_74 : tab 74 = { ok := true, desc := (TypeDesc.func #[9] #[72, 72] false), size := 1, bytes := 8, isAgg := false, zero := (.v .nilFunc), flds := [], elem := 0 } := rfl
theorem tab_75 : tab 75 = { ok := true, desc := (TypeDesc.func #[61, 9] #[3] false), size := 1, bytes := 8, isAgg := false, zero := (.v .nilFunc), flds := [], elem := 0 } := rfl
theorem tab_76 : tab 76 = { ok := true, desc := (TypeDesc.int IntKind.i64), size := 1, bytes := 8, isAgg := false, zero := (.v (.int IntKind.i64 0)), flds := [], elem := 0 } := rfl
theorem tab_77 : tab 77 = { ok := true, desc := (TypeDesc.int IntKind.u64), size := 1, bytes := 8, isAgg := false, zero := (.v (.int IntKind.u64 0)), flds := [], elem := 0 } := rfl
theorem tab_79 : tab 79 = { ok := true, desc := (TypeDesc.func #[9, 3, 3] #[77, 52] false), size := 1, bytes := 8, isAgg := false, zero := (.v .nilFunc), flds := [], elem := 0 } := rfl
theorem tab_80 : tab 80 = { ok := true, desc := (TypeDesc.pointer 93), size := 1, bytes := 8, isAgg := false, zero := (.v (.pointer none)), flds := [], elem := 0 } := rfl
theorem tab_81 : tab 81 = { ok := true, desc := (TypeDesc.func #[9, 9] #[80] false), size := 1, bytes := 8, isAgg := false, zero := (.v .nilFunc), flds := [], elem := 0 } := rfl
theorem tab_82 : tab 82 = { ok := true, desc := (TypeDesc.func #[9, 9, 3] #[80] false), size := 1, bytes := 8, isAgg := false, zero := (.v .nilFunc), flds := [], elem := 0 } := rfl
theorem tab_83 : tab 83 = { ok := true, desc := TypeDesc.unsafePointer, size := 1, bytes := 8, isAgg := false, zero := (.v (.pointer none)), flds := [], elem := 0 } := rfl
theorem tab_84 : tab 84 = { ok := true, desc := (TypeDesc.func #[83] #[83] false), size := 1, bytes := 8, isAgg := false, zero := (.v .nilFunc), flds := [], elem := 0 } := rfl
theorem tab_85 : tab 85 = { ok := true, desc := (TypeDesc.slice 87), size := 1, bytes := 24, isAgg := false, zero := (.v (.slice none 0 0)), flds := [], elem := 87 } := rfl
theorem tab_86 : tab 86 = { ok := true, desc := (TypeDesc.struct #[{ name := "start", type := 3, offset := 0, embedded := false, tag := "", pkgPath := "strings", byteOffset := 0 }, { name := "end", type := 3, offset := 1, embedded := false, tag := "", pkgPath := "strings", byteOffset := 8 }]), size := 2, bytes := 16, isAgg := true, zero := (.agg [(.v (.int IntKind.i64 0)), (.v (.int IntKind.i64 0))]), flds := [(0, 1, false), (1, 1, false)], elem := 0 } := rfl
theorem tab_87 : tab 87 = { ok := true, desc := (TypeDesc.struct #[{ name := "start", type := 3, offset := 0, embedded := false, tag := "", pkgPath := "strings", byteOffset := 0 }, { name := "end", type := 3, offset := 1, embedded := false, tag := "", pkgPath := "strings", byteOffset := 8 }]), size := 2, bytes := 16, isAgg := true, zero := (.agg [(.v (.int IntKind.i64 0)), (.v (.int IntKind.i64 0))]), flds := [(0, 1, false), (1, 1, false)], elem := 0 } := rfl
theorem tab_88 : tab 88 = { ok := true, desc := (TypeDesc.func #[89, 21] #[4] false), size := 1, bytes := 8, isAgg := false, zero := (.v .nilFunc), flds := [], elem := 0 } := rfl
theorem tab_89 : tab 89 = { ok := true, desc := (TypeDesc.pointer 99), size := 1, bytes := 8, isAgg := false, zero := (.v (.pointer none)), flds := [], elem := 0 } := rfl
theorem tab_90 : tab 90 = { ok := true, desc := (TypeDesc.func #[9, 9, 3, 3] #[61] false), size := 1, bytes := 8, isAgg := false, zero := (.v .nilFunc), flds := [], elem := 0 } := rfl
theorem tab_91 : tab 91 = { ok := true, desc := (TypeDesc.func #[5] #[5] false), size := 1, bytes := 8, isAgg := false, zero := (.v .nilFunc), flds := [], elem := 0 } := rfl
theorem tab_92 : tab 92 = { ok := true, desc := (TypeDesc.struct #[{ name := "Func", type := 9, offset := 0, embedded := false, tag := "", pkgPath := "", byteOffset := 0 }, { name := "Num", type := 9, offset := 1, embedded := false, tag := "", pkgPath := "", byteOffset := 16 }, { name := "Err", type := 52, offset := 2, embedded := false, tag := "", pkgPath := "", byteOffset := 32 }]), size := 3, bytes := 48, isAgg := true, zero := (.agg [(.str []), (.str []), (.v .nilIface)]), flds := [(0, 1, false), (1, 1, false), (2, 1, false)], elem := 0 } := rfl
theorem tab_93 : tab 93 = { ok := true, desc := (TypeDesc.struct #[{ name := "Func", type := 9, offset := 0, embedded := false, tag := "", pkgPath := "", byteOffset := 0 }, { name := "Num", type := 9, offset := 1, embedded := false, tag := "", pkgPath := "", byteOffset := 16 }, { name := "Err", type := 52, offset := 2, embedded := false, tag := "", pkgPath := "", byteOffset := 32 }]), size := 3, bytes := 48, isAgg := true, zero := (.agg [(.str []), (.str []), (.v .nilIface)]), flds := [(0, 1, false), (1, 1, false), (2, 1, false)], elem := 0 } := rfl
theorem tab_94 : tab 94 = { ok := true, desc := (TypeDesc.func #[9] #[52] false), size := 1, bytes := 8, isAgg := false, zero := (.v .nilFunc), flds := [], elem := 0 } := rfl
theorem tab_95 : tab 95 = { ok := true, desc := (TypeDesc.func #[3] #[9] false), size := 1, bytes := 8, isAgg := false, zero := (.v .nilFunc), flds := [], elem := 0 } := rfl
theorem tab_96 : tab 96 = { ok := true, desc := (TypeDesc.slice 102), size := 1, bytes := 24, isAgg := false, zero := (.v (.slice none 0 0)), flds := [], elem := 102 } := rfl
theorem tab_97 : tab 97 = { ok := true, desc := (TypeDesc.slice 105), size := 1, bytes := 24, isAgg := false, zero := (.v (.slice none 0 0)), flds := [], elem := 105 } := rfl
theorem tab_98 : tab 98 = { ok := true, desc := (TypeDesc.struct #[{ name := "R16", type := 96, offset := 0, embedded := false, tag := "", pkgPath := "", byteOffset := 0 }, { name := "R32", type := 97, offset := 1, embedded := false, tag := "", pkgPath := "", byteOffset := 24 }, { name := "LatinOffset", type := 3, offset := 2, embedded := false, tag := "", pkgPath := "", byteOffset := 48 }]), size := 3, bytes := 56, isAgg := true, zero := (.agg [(.v (.slice none 0 0)), (.v (.slice none 0 0)), (.v (.int IntKind.i64 0))]), flds := [(0, 1, false), (1, 1, false), (2, 1, false)], elem := 0 } := rfl
theorem tab_99 : tab 99 = { ok := true, desc := (TypeDesc.struct #[{ name := "R16", type := 96, offset := 0, embedded := false, tag := "", pkgPath := "", byteOffset := 0 }, { name := "R32", type := 97, offset := 1, embedded := false, tag := "", pkgPath := "", byteOffset := 24 }, { name := "LatinOffset", type := 3, offset := 2, embedded := false, tag := "", pkgPath := "", byteOffset := 48 }]), size := 3, bytes := 56, isAgg := true, zero := (.agg [(.v (.slice none 0 0)), (.v (.slice none 0 0)), (.v (.int IntKind.i64 0))]), flds := [(0, 1, false), (1, 1, false), (2, 1, false)], elem := 0 } := rfl
theorem tab_100 : tab 100 = { ok := true, desc := (TypeDesc.int IntKind.u16), size := 1, bytes := 2, isAgg := false, zero := (.v (.int IntKind.u16 0)), flds := [], elem := 0 } := rfl
theorem tab_101 : tab 101 = { ok := true, desc := (TypeDesc.struct #[{ name := "Lo", type := 100, offset := 0, embedded := false, tag := "", pkgPath := "", byteOffset := 0 }, { name := "Hi", type := 100, offset := 1, embedded := false, tag := "", pkgPath := "", byteOffset := 2 }, { name := "Stride", type := 100, offset := 2, embedded := false, tag := "", pkgPath := "", byteOffset := 4 }]), size := 3, bytes := 6, isAgg := true, zero := (.agg [(.v (.int IntKind.u16 0)), (.v (.int IntKind.u16 0)), (.v (.int IntKind.u16 0))]), flds := [(0, 1, false), (1, 1, false), (2, 1, false)], elem := 0 } := rfl
theorem tab_102 : tab 102 = { ok := true, desc := (TypeDesc.struct #[{ name := "Lo", type := 100, offset := 0, embedded := false, tag := "", pkgPath := "", byteOffset := 0 }, { name := "Hi", type := 100, offset := 1, embedded := false, tag := "", pkgPath := "", byteOffset := 2 }, { name := "Stride", type := 100, offset := 2, embedded := false, tag := "", pkgPath := "", byteOffset := 4 }]), size := 3, bytes := 6, isAgg := true, zero := (.agg [(.v (.int IntKind.u16 0)), (.v (.int IntKind.u16 0)), (.v (.int IntKind.u16 0))]), flds := [(0, 1, false), (1, 1, false), (2, 1, false)], elem := 0 } := rfl
theorem tab_103 : tab 103 = { ok := true, desc := (TypeDesc.func #[96, 100] #[4] false), size := 1, bytes := 8, isAgg := false, zero := (.v .nilFunc), flds := [], elem := 0 } := rfl
theorem tab_104 : tab 104 = { ok := true, desc := (TypeDesc.struct #[{ name := "Lo", type := 72, offset := 0, embedded := false, tag := "", pkgPath := "", byteOffset := 0 }, { name := "Hi", type := 72, offset := 1, embedded := false, tag := "", pkgPath := "", byteOffset := 4 }, { name := "Stride", type := 72, offset := 2, embedded := false, tag := "", pkgPath := "", byteOffset := 8 }]), size := 3, bytes := 12, isAgg := true, zero := (.agg [(.v (.int IntKind.u32 0)), (.v (.int IntKind.u32 0)), (.v (.int IntKind.u32 0))]), flds := [(0, 1, false), (1, 1, false), (2, 1, false)], elem := 0 } := rfl
theorem tab_105 : tab 105 = { ok := true, desc := (TypeDesc.struct #[{ name := "Lo", type := 72, offset := 0, embedded := false, tag := "", pkgPath := "", byteOffset := 0 }, { name := "Hi", type := 72, offset := 1, embedded := false, tag := "", pkgPath := "", byteOffset := 4 }, { name := "Stride", type := 72, offset := 2, embedded := false, tag := "", pkgPath := "", byteOffset := 8 }]), size := 3, bytes := 12, isAgg := true, zero := (.agg [(.v (.int IntKind.u32 0)), (.v (.int IntKind.u32 0)), (.v (.int IntKind.u32 0))]), flds := [(0, 1, false), (1, 1, false), (2, 1, false)], elem := 0 } := rfl
theorem tab_106 : tab 106 = { ok := true, desc := (TypeDesc.func #[97, 72] #[4] false), size := 1, bytes := 8, isAgg := false, zero := (.v .nilFunc), flds := [], elem := 0 } := rfl
theorem tab_107 : tab 107 = { ok := true, desc := (TypeDesc.func #[9, 3] #[61] false), size := 1, bytes := 8, isAgg := false, zero := (.v .nilFunc), flds := [], elem := 0 } := rfl
theorem tab_108 : tab 108 = { ok := true, desc := (TypeDesc.pointer 110), size := 1, bytes := 8, isAgg := false, zero := (.v (.pointer none)), flds := [], elem := 0 } := rfl
theorem tab_109 : tab 109 = { ok := true, desc := (TypeDesc.struct #[{ name := "s", type := 9, offset := 0, embedded := false, tag := "", pkgPath := "errors", byteOffset := 0 }]), size := 1, bytes := 16, isAgg := true, zero := (.agg [(.str [])]), flds := [(0, 1, false)], elem := 0 } := rfl
theorem tab_110 : tab 110 = { ok := true, desc := (TypeDesc.struct #[{ name := "s", type := 9, offset := 0, embedded := false, tag := "", pkgPath := "errors", byteOffset := 0 }]), size := 1, bytes := 16, isAgg := true, zero := (.agg [(.str [])]), flds := [(0, 1, false)], elem := 0 } := rfl
theorem tab_111 : tab 111 = { ok := true, desc := (TypeDesc.pointer 102), size := 1, bytes := 8, isAgg := false, zero := (.v (.pointer none)), flds := [], elem := 0 } := rfl
theorem tab_112 : tab 112 = { ok := true, desc := (TypeDesc.pointer 105), size := 1, bytes := 8, isAgg := false, zero := (.v (.pointer none)), flds := [], elem := 0 } := rfl
theorem tab_114 : tab 114 = { ok := true, desc := (TypeDesc.func #[9] #[21, 3] false), size := 1, bytes := 8, isAgg := false, zero := (.v .nilFunc), flds := [], elem := 0 } := rfl
theorem tab_115 : tab 115 = { ok := true, desc := (TypeDesc.func #[2, 3] #[9] false), size := 1, bytes := 8, isAgg := false, zero := (.v .nilFunc), flds := [], elem := 0 } := rfl
theorem tab_117 : tab 117 = { ok := true, desc := (TypeDesc.func #[77] #[3] false), size := 1, bytes := 8, isAgg := false, zero := (.v .nilFunc), flds := [], elem := 0 } := rfl
theorem tab_118 : tab 118 = { ok := true, desc := (TypeDesc.func #[56, 77] #[] false), size := 1, bytes := 8, isAgg := false, zero := (.v .nilFunc), flds := [], elem := 0 } := rfl
theorem tab_120 : tab 120 = { ok := true, desc := (TypeDesc.func #[56, 77, 3, 4, 4] #[56, 9] false), size := 1, bytes := 8, isAgg := false, zero := (.v .nilFunc), flds := [], elem := 0 } := rfl
theorem tab_121 : tab 121 = { ok := true, desc := (TypeDesc.struct #[{ name := "lo", type := 5, offset := 0, embedded := false, tag := "", pkgPath := "unicode/utf8", byteOffset := 0 }, { name := "hi", type := 5, offset := 1, embedded := false, tag := "", pkgPath := "unicode/utf8", byteOffset := 1 }]), size := 2, bytes := 2, isAgg := true, zero := (.agg [(.v (.int IntKind.u8 0)), (.v (.int IntKind.u8 0))]), flds := [(0, 1, false), (1, 1, false)], elem := 0 } := rfl
theorem tab_122 : tab 122 = { ok := true, desc := (TypeDesc.struct #[{ name := "lo", type := 5, offset := 0, embedded := false, tag := "", pkgPath := "unicode/utf8", byteOffset := 0 }, { name := "hi", type := 5, offset := 1, embedded := false, tag := "", pkgPath := "unicode/utf8", byteOffset := 1 }]), size := 2, bytes := 2, isAgg := true, zero := (.agg [(.v (.int IntKind.u8 0)), (.v (.int IntKind.u8 0))]), flds := [(0, 1, false), (1, 1, false)], elem := 0 } := rfl
theorem tab_124 : tab 124 = { ok := true, desc := (TypeDesc.func #[4] #[3] false), size := 1, bytes := 8, isAgg := false, zero := (.v .nilFunc), flds := [], elem := 0 } := rfl
theorem tab_127 : tab 127 = { ok := true, desc := (TypeDesc.func #[3] #[4] false), size := 1, bytes := 8, isAgg := false, zero := (.v .nilFunc), flds := [], elem := 0 } := rfl
theorem tab_128 : tab 128 = { ok := true, desc := (TypeDesc.func #[64] #[3] false), size := 1, bytes := 8, isAgg := false, zero := (.v .nilFunc), flds := [], elem := 0 } := rfl
theorem tab_129 : tab 129 = { ok := true, desc := (TypeDesc.func #[72] #[3] false), size := 1, bytes := 8, isAgg := false, zero := (.v .nilFunc), flds := [], elem := 0 } := rfl
theorem tab_132 : tab 132 = { ok := true, desc := (TypeDesc.struct #[{ name := "_interface", type := 17, offset := 0, embedded := false, tag := "", pkgPath := "runtime", byteOffset := 0 }, { name := "concrete", type := 17, offset := 1, embedded := false, tag := "", pkgPath := "runtime", byteOffset := 8 }, { name := "asserted", type := 17, offset := 2, embedded := false, tag := "", pkgPath := "runtime", byteOffset := 16 }, { name := "missingMethod", type := 9, offset := 3, embedded := false, tag := "", pkgPath := "runtime", byteOffset := 24 }]), size := 4, bytes := 40, isAgg := true, zero := (.agg [(.v (.pointer none)), (.v (.pointer none)), (.v (.pointer none)), (.str [])]), flds := [(0, 1, false), (1, 1, false), (2, 1, false), (3, 1, false)], elem := 0 } := rfl
theorem tab_133 : tab 133 = { ok := true, desc := (TypeDesc.struct #[{ name := "_interface", type := 17, offset := 0, embedded := false, tag := "", pkgPath := "runtime", byteOffset := 0 }, { name := "concrete", type := 17, offset := 1, embedded := false, tag := "", pkgPath := "runtime", byteOffset := 8 }, { name := "asserted", type := 17, offset := 2, embedded := false, tag := "", pkgPath := "runtime", byteOffset := 16 }, { name := "missingMethod", type := 9, offset := 3, embedded := false, tag := "", pkgPath := "runtime", byteOffset := 24 }]), size := 4, bytes := 40, isAgg := true, zero := (.agg [(.v (.pointer none)), (.v (.pointer none)), (.v (.pointer none)), (.str [])]), flds := [(0, 1, false), (1, 1, false), (2, 1, false), (3, 1, false)], elem := 0 } := rfl
theorem tab_137 : tab 137 = { ok := true, desc := (TypeDesc.func #[] #[3] false), size := 1, bytes := 8, isAgg := false, zero := (.v .nilFunc), flds := [], elem := 0 } := rfl
theorem tab_138 : tab 138 = { ok := true, desc := (TypeDesc.int IntKind.u8), size := 1, bytes := 1, isAgg := false, zero := (.v (.int IntKind.u8 0)), flds := [], elem := 0 } := rfl
theorem tab_139 : tab 139 = { ok := true, desc := (TypeDesc.int IntKind.u8), size := 1, bytes := 1, isAgg := false, zero := (.v (.int IntKind.u8 0)), flds := [], elem := 0 } := rfl
theorem tab_140 : tab 140 = { ok := true, desc := (TypeDesc.func #[83, 83] #[4] false), size := 1, bytes := 8, isAgg := false, zero := (.v .nilFunc), flds := [], elem := 0 } := rfl
theorem tab_141 : tab 141 = { ok := true, desc := (TypeDesc.int IntKind.i32), size := 1, bytes := 4, isAgg := false, zero := (.v (.int IntKind.i32 0)), flds := [], elem := 0 } := rfl
theorem tab_142 : tab 142 = { ok := true, desc := (TypeDesc.int IntKind.i32), size := 1, bytes := 4, isAgg := false, zero := (.v (.int IntKind.i32 0)), flds := [], elem := 0 } := rfl
theorem tab_143 : tab 143 = { ok := true, desc := (TypeDesc.struct #[{ name := "Size_", type := 12, offset := 0, embedded := false, tag := "", pkgPath := "", byteOffset := 0 }, { name := "PtrBytes", type := 12, offset := 1, embedded := false, tag := "", pkgPath := "", byteOffset := 8 }, { name := "Hash", type := 72, offset := 2, embedded := false, tag := "", pkgPath := "", byteOffset := 16 }, { name := "TFlag", type := 138, offset := 3, embedded := false, tag := "", pkgPath := "", byteOffset := 20 }, { name := "Align_", type := 5, offset := 4, embedded := false, tag := "", pkgPath := "", byteOffset := 21 }, { name := "FieldAlign_", type := 5, offset := 5, embedded := false, tag := "", pkgPath := "", byteOffset := 22 }, { name := "Kind_", type := 139, offset := 6, embedded := false, tag := "", pkgPath := "", byteOffset := 23 }, { name := "Equal", type := 140, offset := 7, embedded := false, tag := "", pkgPath := "", byteOffset := 24 }, { name := "GCData", type := 67, offset := 8, embedded := false, tag := "", pkgPath := "", byteOffset := 32 }, { name := "Str", type := 141, offset := 9, embedded := false, tag := "", pkgPath := "", byteOffset := 40 }, { name := "PtrToThis", type := 142, offset := 10, embedded := false, tag := "", pkgPath := "", byteOffset := 44 }]), size := 11, bytes := 48, isAgg := true, zero := (.agg [(.v (.int IntKind.u64 0)), (.v (.int IntKind.u64 0)), (.v (.int IntKind.u32 0)), (.v (.int IntKind.u8 0)), (.v (.int IntKind.u8 0)), (.v (.int IntKind.u8 0)), (.v (.int IntKind.u8 0)), (.v .nilFunc), (.v (.pointer none)), (.v (.int IntKind.i32 0)), (.v (.int IntKind.i32 0))]), flds := [(0, 1, false), (1, 1, false), (2, 1, false), (3, 1, false), (4, 1, false), (5, 1, false), (6, 1, false), (7, 1, false), (8, 1, false), (9, 1, false), (10, 1, false)], elem := 0 } := rfl
theorem tab_144 : tab 144 = { ok := true, desc := (TypeDesc.struct #[{ name := "Size_", type := 12, offset := 0, embedded := false, tag := "", pkgPath := "", byteOffset := 0 }, { name := "PtrBytes", type := 12, offset := 1, embedded := false, tag := "", pkgPath := "", byteOffset := 8 }, { name := "Hash", type := 72, offset := 2, embedded := false, tag := "", pkgPath := "", byteOffset := 16 }, { name := "TFlag", type := 138, offset := 3, embedded := false, tag := "", pkgPath := "", byteOffset := 20 }, { name := "Align_", type := 5, offset := 4, embedded := false, tag := "", pkgPath := "", byteOffset := 21 }, { name := "FieldAlign_", type := 5, offset := 5, embedded := false, tag := "", pkgPath := "", byteOffset := 22 }, { name := "Kind_", type := 139, offset := 6, embedded := false, tag := "", pkgPath := "", byteOffset := 23 }, { name := "Equal", type := 140, offset := 7, embedded := false, tag := "", pkgPath := "", byteOffset := 24 }, { name := "GCData", type := 67, offset := 8, embedded := false, tag := "", pkgPath := "", byteOffset := 32 }, { name := "Str", type := 141, offset := 9, embedded := false, tag := "", pkgPath := "", byteOffset := 40 }, { name := "PtrToThis", type := 142, offset := 10, embedded := false, tag := "", pkgPath := "", byteOffset := 44 }]), size := 11, bytes := 48, isAgg := true, zero := (.agg [(.v (.int IntKind.u64 0)), (.v (.int IntKind.u64 0)), (.v (.int IntKind.u32 0)), (.v (.int IntKind.u8 0)), (.v (.int IntKind.u8 0)), (.v (.int IntKind.u8 0)), (.v (.int IntKind.u8 0)), (.v .nilFunc), (.v (.pointer none)), (.v (.int IntKind.i32 0)), (.v (.int IntKind.i32 0))]), flds := [(0, 1, false), (1, 1, false), (2, 1, false), (3, 1, false), (4, 1, false), (5, 1, false), (6, 1, false), (7, 1, false), (8, 1, false), (9, 1, false), (10, 1, false)], elem := 0 } := rfl
theorem ty_1 : TyOK Go.Proofs.Tryd.prog 1 (tab 1) := TyOK.of (inf := Go.Proofs.Tryd.t1) (z := Value.nilFunc) Go.Proofs.Tryd.underlying1 (by kernel_rfl) rfl (by kernel_rfl)
theorem ty_2 : TyOK Go.Proofs.Tryd.prog 2 (tab 2) := TyOK.of (inf := Go.Proofs.Tryd.t2) (z := (Value.int IntKind.i64 0)) Go.Proofs.Tryd.underlying2 (by kernel_rfl) rfl (by kernel_rfl)
theorem ty_3 : TyOK Go.Proofs.Tryd.prog 3 (tab 3) := TyOK.of (inf := Go.Proofs.Tryd.t3) (z := (Value.int IntKind.i64 0)) Go.Proofs.Tryd.underlying3 (by kernel_rfl) rfl (by kernel_rfl)
theorem ty_4 : TyOK Go.Proofs.Tryd.prog 4 (tab 4) := TyOK.of (inf := Go.Proofs.Tryd.t4) (z := (Value.bool false)) Go.Proofs.Tryd.underlying4 (by kernel_rfl) rfl (by kernel_rfl)
theorem ty_5 : TyOK Go.Proofs.Tryd.prog 5 (tab 5) := TyOK.of (inf := Go.Proofs.Tryd.t5) (z := (Value.int IntKind.u8 0)) Go.Proofs.Tryd.underlying5 (by kernel_rfl) rfl (by kernel_rfl)
theorem ty_6 : TyOK Go.Proofs.Tryd.prog 6 (tab 6) := TyOK.of (inf := Go.Proofs.Tryd.t6) (z := (Value.int IntKind.u8 0)) Go.Proofs.Tryd.underlying6 (by kernel_rfl) rfl (by kernel_rfl)
theorem ty_7 : TyOK Go.Proofs.Tryd.prog 7 (tab 7) := TyOK.of (inf := Go.Proofs.Tryd.t7) (z := (Value.agg #[(Value.int IntKind.i64 0), (Value.int IntKind.i64 0), (Value.bool false), (Value.int IntKind.u8 0)])) Go.Proofs.Tryd.underlying7 (by kernel_rfl) rfl (by kernel_rfl)
theorem ty_8 : TyOK Go.Proofs.Tryd.prog 8 (tab 8) := TyOK.of (inf := Go.Proofs.Tryd.t8) (z := (Value.agg #[(Value.int IntKind.i64 0), (Value.int IntKind.i64 0), (Value.bool false), (Value.int IntKind.u8 0)])) Go.Proofs.Tryd.underlying8 (by kernel_rfl) rfl (by kernel_rfl)
theorem ty_9 : TyOK Go.Proofs.Tryd.prog 9 (tab 9) := TyOK.of (inf := Go.Proofs.Tryd.t9) (z := (Value.string { data := #[] })) Go.Proofs.Tryd.underlying9 (by kernel_rfl) rfl (by kernel_rfl)
theorem ty_10 : TyOK Go.Proofs.Tryd.prog 10 (tab 10) := TyOK.of (inf := Go.Proofs.Tryd.t10) (z := (Value.string { data := #[] })) Go.Proofs.Tryd.underlying10 (by kernel_rfl) rfl (by kernel_rfl)
theorem ty_11 : TyOK Go.Proofs.Tryd.prog 11 (tab 11) := TyOK.of (inf := Go.Proofs.Tryd.t11) (z := (Value.string { data := #[] })) Go.Proofs.Tryd.underlying11 (by kernel_rfl) rfl (by kernel_rfl)
theorem ty_12 : TyOK Go.Proofs.Tryd.prog 12 (tab 12) := TyOK.of (inf := Go.Proofs.Tryd.t12) (z := (Value.int IntKind.u64 0)) Go.Proofs.Tryd.underlying12 (by kernel_rfl) rfl (by kernel_rfl)
theorem ty_13 : TyOK Go.Proofs.Tryd.prog 13 (tab 13) := TyOK.of (inf := Go.Proofs.Tryd.t13) (z := (Value.agg #[(Value.string { data := #[] }), (Value.int IntKind.u64 0)])) Go.Proofs.Tryd.underlying13 (by kernel_rfl) rfl (by kernel_rfl)
theorem ty_14 : TyOK Go.Proofs.Tryd.prog 14 (tab 14) := TyOK.of (inf := Go.Proofs.Tryd.t14) (z := (Value.agg #[(Value.string { data := #[] }), (Value.int IntKind.u64 0)])) Go.Proofs.Tryd.underlying14 (by kernel_rfl) rfl (by kernel_rfl)
theorem ty_15 : TyOK Go.Proofs.Tryd.prog 15 (tab 15) := TyOK.of (inf := Go.Proofs.Tryd.t15) (z := (Value.pointer none)) Go.Proofs.Tryd.underlying15 (by kernel_rfl) rfl (by kernel_rfl)
theorem ty_16 : TyOK Go.Proofs.Tryd.prog 16 (tab 16) := TyOK.of (inf := Go.Proofs.Tryd.t16) (z := (Value.pointer none)) Go.Proofs.Tryd.underlying16 (by kernel_rfl) rfl (by kernel_rfl)
theorem ty_17 : TyOK Go.Proofs.Tryd.prog 17 (tab 17) := TyOK.of (inf := Go.Proofs.Tryd.t17) (z := (Value.pointer none)) Go.Proofs.Tryd.underlying17 (by kernel_rfl) rfl (by kernel_rfl)
theorem ty_18 : TyOK Go.Proofs.Tryd.prog 18 (tab 18) := TyOK.of (inf := Go.Proofs.Tryd.t18) (z := (Value.agg #[(Value.pointer none)])) Go.Proofs.Tryd.underlying18 (by kernel_rfl) rfl (by kernel_rfl)
theorem ty_19 : TyOK Go.Proofs.Tryd.prog 19 (tab 19) := TyOK.of (inf := Go.Proofs.Tryd.t19) (z := (Value.agg #[(Value.pointer none)])) Go.Proofs.Tryd.underlying19 (by kernel_rfl) rfl (by kernel_rfl)
theorem ty_20 : TyOK Go.Proofs.Tryd.prog 20 (tab 20) := TyOK.of (inf := Go.Proofs.Tryd.t20) (z := Value.nilIface) Go.Proofs.Tryd.underlying20 (by kernel_rfl) rfl (by kernel_rfl)
theorem ty_21 : TyOK Go.Proofs.Tryd.prog 21 (tab 21) := TyOK.of (inf := Go.Proofs.Tryd.t21) (z := (Value.int IntKind.i32 0)) Go.Proofs.Tryd.underlying21 (by kernel_rfl) rfl (by kernel_rfl)
theorem ty_22 : TyOK Go.Proofs.Tryd.prog 22 (tab 22) := TyOK.of (inf := Go.Proofs.Tryd.t22) (z := Value.nilFunc) Go.Proofs.Tryd.underlying22 (by kernel_rfl) rfl (by kernel_rfl)
theorem ty_23 : TyOK Go.Proofs.Tryd.prog 23 (tab 23) := TyOK.of (inf := Go.Proofs.Tryd.t23) (z := (Value.int IntKind.i64 0)) Go.Proofs.Tryd.underlying23 (by kernel_rfl) rfl (by kernel_rfl)
theorem ty_25 : TyOK Go.Proofs.Tryd.prog 25 (tab 25) := TyOK.of (inf := Go.Proofs.Tryd.t25) (z := Value.nilFunc) Go.Proofs.Tryd.underlying25 (by kernel_rfl) rfl (by kernel_rfl)
theorem ty_26 : TyOK Go.Proofs.Tryd.prog 26 (tab 26) := TyOK.of (inf := Go.Proofs.Tryd.t26) (z := Value.nilFunc) Go.Proofs.Tryd.underlying26 (by kernel_rfl) rfl (by kernel_rfl)
theorem ty_27 : TyOK Go.Proofs.Tryd.prog 27 (tab 27) := TyOK.of (inf := Go.Proofs.Tryd.t27) (z := (Value.slice none 0 0)) Go.Proofs.Tryd.underlying27 (by kernel_rfl) rfl (by kernel_rfl)
theorem ty_29 : TyOK Go.Proofs.Tryd.prog 29 (tab 29) := TyOK.of (inf := Go.Proofs.Tryd.t29) (z := Value.nilFunc) Go.Proofs.Tryd.underlying29 (by kernel_rfl) rfl (by kernel_rfl)
theorem ty_30 : TyOK Go.Proofs.Tryd.prog 30 (tab 30) := TyOK.of (inf := Go.Proofs.Tryd.t30) (z := Value.nilFunc) Go.Proofs.Tryd.underlying30 (by kernel_rfl) rfl (by kernel_rfl)
theorem ty_31 : TyOK Go.Proofs.Tryd.prog 31 (tab 31) := TyOK.of (inf := Go.Proofs.Tryd.t31) (z := Value.nilFunc) Go.Proofs.Tryd.underlying31 (by kernel_rfl) rfl (by kernel_rfl)
theorem ty_32 : TyOK Go.Proofs.Tryd.prog 32 (tab 32) := TyOK.of (inf := Go.Proofs.Tryd.t32) (z := (Value.agg #[(Value.string { data := #[] }), (Value.string { data := #[] }), (Value.int IntKind.i64 0)])) Go.Proofs.Tryd.underlying32 (by kernel_rfl) rfl (by kernel_rfl)
theorem ty_33 : TyOK Go.Proofs.Tryd.prog 33 (tab 33) := TyOK.of (inf := Go.Proofs.Tryd.t33) (z := (Value.agg #[(Value.string { data := #[] }), (Value.string { data := #[] }), (Value.int IntKind.i64 0)])) Go.Proofs.Tryd.underlying33 (by kernel_rfl) rfl (by kernel_rfl)
theorem ty_34 : TyOK Go.Proofs.Tryd.prog 34 (tab 34) := TyOK.of (inf := Go.Proofs.Tryd.t34) (z := Value.nilFunc) Go.Proofs.Tryd.underlying34 (by kernel_rfl) rfl (by kernel_rfl)
theorem ty_35 : TyOK Go.Proofs.Tryd.prog 35 (tab 35) := TyOK.of (inf := Go.Proofs.Tryd.t35) (z := Value.nilFunc) Go.Proofs.Tryd.underlying35 (by kernel_rfl) rfl (by kernel_rfl)
theorem ty_36 : TyOK Go.Proofs.Tryd.prog 36 (tab 36) := TyOK.of (inf := Go.Proofs.Tryd.t36) (z := Value.nilFunc) Go.Proofs.Tryd.underlying36 (by kernel_rfl) rfl (by kernel_rfl)
theorem ty_38 : TyOK Go.Proofs.Tryd.prog 38 (tab 38) := TyOK.of (inf := Go.Proofs.Tryd.t38) (z := Value.nilFunc) Go.Proofs.Tryd.underlying38 (by kernel_rfl) rfl (by kernel_rfl)
theorem ty_40 : TyOK Go.Proofs.Tryd.prog 40 (tab 40) := TyOK.of (inf := Go.Proofs.Tryd.t40) (z := Value.nilFunc) Go.Proofs.Tryd.underlying40 (by kernel_rfl) rfl (by kernel_rfl)
theorem ty_41 : TyOK Go.Proofs.Tryd.prog 41 (tab 41) := TyOK.of (inf := Go.Proofs.Tryd.t41) (z := Value.nilFunc) Go.Proofs.Tryd.underlying41 (by kernel_rfl) rfl (by kernel_rfl)
theorem ty_43 : TyOK Go.Proofs.Tryd.prog 43 (tab 43) := TyOK.of (inf := Go.Proofs.Tryd.t43) (z := Value.nilFunc) Go.Proofs.Tryd.underlying43 (by kernel_rfl) rfl (by kernel_rfl)
theorem ty_44 : TyOK Go.Proofs.Tryd.prog 44 (tab 44) := TyOK.of (inf := Go.Proofs.Tryd.t44) (z := Value.nilFunc) Go.Proofs.Tryd.underlying44 (by kernel_rfl) rfl (by kernel_rfl)
theorem ty_46 : TyOK Go.Proofs.Tryd.prog 46 (tab 46) := TyOK.of (inf := Go.Proofs.Tryd.t46) (z := Value.nilFunc) Go.Proofs.Tryd.underlying46 (by kernel_rfl) rfl (by kernel_rfl)
theorem ty_47 : TyOK Go.Proofs.Tryd.prog 47 (tab 47) := TyOK.of (inf := Go.Proofs.Tryd.t47) (z := Value.nilFunc) Go.Proofs.Tryd.underlying47 (by kernel_rfl) rfl (by kernel_rfl)
theorem ty_48 : TyOK Go.Proofs.Tryd.prog 48 (tab 48) := TyOK.of (inf := Go.Proofs.Tryd.t48) (z := Value.nilFunc) Go.Proofs.Tryd.underlying48 (by kernel_rfl) rfl (by kernel_rfl)
theorem ty_49 : TyOK Go.Proofs.Tryd.prog 49 (tab 49) := TyOK.of (inf := Go.Proofs.Tryd.t49) (z := Value.nilFunc) Go.Proofs.Tryd.underlying49 (by kernel_rfl) rfl (by kernel_rfl)
theorem ty_50 : TyOK Go.Proofs.Tryd.prog 50 (tab 50) := TyOK.of (inf := Go.Proofs.Tryd.t50) (z := Value.nilFunc) Go.Proofs.Tryd.underlying50 (by kernel_rfl) rfl (by kernel_rfl)
theorem ty_51 : TyOK Go.Proofs.Tryd.prog 51 (tab 51) := TyOK.of (inf := Go.Proofs.Tryd.t51) (z := Value.nilIface) Go.Proofs.Tryd.underlying51 (by kernel_rfl) rfl (by kernel_rfl)
theorem ty_52 : TyOK Go.Proofs.Tryd.prog 52 (tab 52) := TyOK.of (inf := Go.Proofs.Tryd.t52) (z := Value.nilIface) Go.Proofs.Tryd.underlying52 (by kernel_rfl) rfl (by kernel_rfl)
theorem ty_54 : TyOK Go.Proofs.Tryd.prog 54 (tab 54) := TyOK.of (inf := Go.Proofs.Tryd.t54) (z := Value.nilFunc) Go.Proofs.Tryd.underlying54 (by kernel_rfl) rfl (by kernel_rfl)
theorem ty_55 : TyOK Go.Proofs.Tryd.prog 55 (tab 55) := TyOK.of (inf := Go.Proofs.Tryd.t55) (z := (Value.pointer none)) Go.Proofs.Tryd.underlying55 (by kernel_rfl) rfl (by kernel_rfl)
theorem ty_56 : TyOK Go.Proofs.Tryd.prog 56 (tab 56) := TyOK.of (inf := Go.Proofs.Tryd.t56) (z := (Value.slice none 0 0)) Go.Proofs.Tryd.underlying56 (by kernel_rfl) rfl (by kernel_rfl)
theorem ty_57 : TyOK Go.Proofs.Tryd.prog 57 (tab 57) := TyOK.of (inf := Go.Proofs.Tryd.t57) (z := (Value.agg #[(Value.pointer none), (Value.slice none 0 0)])) Go.Proofs.Tryd.underlying57 (by kernel_rfl) rfl (by kernel_rfl)
theorem ty_58 : TyOK Go.Proofs.Tryd.prog 58 (tab 58) := TyOK.of (inf := Go.Proofs.Tryd.t58) (z := (Value.agg #[(Value.pointer none), (Value.slice none 0 0)])) Go.Proofs.Tryd.underlying58 (by kernel_rfl) rfl (by kernel_rfl)
theorem ty_59 : TyOK Go.Proofs.Tryd.prog 59 (tab 59) := TyOK.of (inf := Go.Proofs.Tryd.t59) (z := Value.nilFunc) Go.Proofs.Tryd.underlying59 (by kernel_rfl) rfl (by kernel_rfl)
theorem ty_60 : TyOK Go.Proofs.Tryd.prog 60 (tab 60) := TyOK.of (inf := Go.Proofs.Tryd.t60) (z := Value.nilFunc) Go.Proofs.Tryd.underlying60 (by kernel_rfl) rfl (by kernel_rfl)
theorem ty_61 : TyOK Go.Proofs.Tryd.prog 61 (tab 61) := TyOK.of (inf := Go.Proofs.Tryd.t61) (z := (Value.slice none 0 0)) Go.Proofs.Tryd.underlying61 (by kernel_rfl) rfl (by kernel_rfl)
theorem ty_62 : TyOK Go.Proofs.Tryd.prog 62 (tab 62) := TyOK.of (inf := Go.Proofs.Tryd.t62) (z := Value.nilFunc) Go.Proofs.Tryd.underlying62 (by kernel_rfl) rfl (by kernel_rfl)
theorem ty_63 : TyOK Go.Proofs.Tryd.prog 63 (tab 63) := TyOK.of (inf := Go.Proofs.Tryd.t63) (z := Value.nilFunc) Go.Proofs.Tryd.underlying63 (by kernel_rfl) rfl (by kernel_rfl)
theorem ty_64 : TyOK Go.Proofs.Tryd.prog 64 (tab 64) := TyOK.of (inf := Go.Proofs.Tryd.t64) (z := (Value.int IntKind.u64 0)) Go.Proofs.Tryd.underlying64 (by kernel_rfl) rfl (by kernel_rfl)
theorem ty_65 : TyOK Go.Proofs.Tryd.prog 65 (tab 65) := TyOK.of (inf := Go.Proofs.Tryd.t65) (z := Value.nilFunc) Go.Proofs.Tryd.underlying65 (by kernel_rfl) rfl (by kernel_rfl)
theorem ty_66 : TyOK Go.Proofs.Tryd.prog 66 (tab 66) := TyOK.of (inf := Go.Proofs.Tryd.t66) (z := Value.nilFunc) Go.Proofs.Tryd.underlying66 (by kernel_rfl) rfl (by kernel_rfl)
theorem ty_67 : TyOK Go.Proofs.Tryd.prog 67 (tab 67) := TyOK.of (inf := Go.Proofs.Tryd.t67) (z := (Value.pointer none)) Go.Proofs.Tryd.underlying67 (by kernel_rfl) rfl (by kernel_rfl)
theorem ty_69 : TyOK Go.Proofs.Tryd.prog 69 (tab 69) := TyOK.of (inf := Go.Proofs.Tryd.t69) (z := Value.nilFunc) Go.Proofs.Tryd.underlying69 (by kernel_rfl) rfl (by kernel_rfl)
theorem ty_70 : TyOK Go.Proofs.Tryd.prog 70 (tab 70) := TyOK.of (inf := Go.Proofs.Tryd.t70) (z := Value.nilFunc) Go.Proofs.Tryd.underlying70 (by kernel_rfl) rfl (by kernel_rfl)
theorem ty_71 : TyOK Go.Proofs.Tryd.prog 71 (tab 71) := TyOK.of (inf := Go.Proofs.Tryd.t71) (z := Value.nilFunc) Go.Proofs.Tryd.underlying71 (by kernel_rfl) rfl (by kernel_rfl)
theorem ty_72 : TyOK Go.Proofs.Tryd.prog 72 (tab 72) := TyOK.of (inf := Go.Proofs.Tryd.t72) (z := (Value.int IntKind.u32 0)) Go.Proofs.Tryd.underlying72 (by kernel_rfl) rfl (by kernel_rfl)
theorem ty_74 : TyOK Go.Proofs.Tryd.prog 74 (tab 74) := TyOK.of (inf := Go.Proofs.Tryd.t74) (z := Value.nilFunc) Go.Proofs.Tryd.underlying74 (by kernel_rfl) rfl (by kernel_rfl)
theorem ty_75 : TyOK Go.Proofs.Tryd.prog 75 (tab 75) := TyOK.of (inf := Go.Proofs.Tryd.t75) (z := Value.nilFunc) Go.Proofs.Tryd.underlying75 (by kernel_rfl) rfl (by kernel_rfl)
theorem ty_76 : TyOK Go.Proofs.Tryd.prog 76 (tab 76) := TyOK.of (inf := Go.Proofs.Tryd.t76) (z := (Value.int IntKind.i64 0)) Go.Proofs.Tryd.underlying76 (by kernel_rfl) rfl (by kernel_rfl)
theorem ty_77 : TyOK Go.Proofs.Tryd.prog 77 (tab 77) := TyOK.of (inf := Go.Proofs.Tryd.t77) (z := (Value.int IntKind.u64 0)) Go.Proofs.Tryd.underlying77 (by kernel_rfl) rfl (by kernel_rfl)
theorem ty_79 : TyOK Go.Proofs.Tryd.prog 79 (tab 79) := TyOK.of (inf := Go.Proofs.Tryd.t79) (z := Value.nilFunc) Go.Proofs.Tryd.underlying79 (by kernel_rfl) rfl (by kernel_rfl)
theorem ty_80 : TyOK Go.Proofs.Tryd.prog 80 (tab 80) := TyOK.of (inf := Go.Proofs.Tryd.t80) (z := (Value.pointer none)) Go.Proofs.Tryd.underlying80 (by kernel_rfl) rfl (by kernel_rfl)
theorem ty_81 : TyOK Go.Proofs.Tryd.prog 81 (tab 81) := TyOK.of (inf := Go.Proofs.Tryd.t81) (z := Value.nilFunc) Go.Proofs.Tryd.underlying81 (by kernel_rfl) rfl (by kernel_rfl)
theorem ty_82 : TyOK Go.Proofs.Tryd.prog 82 (tab 82) := TyOK.of (inf := Go.Proofs.Tryd.t82) (z := Value.nilFunc) Go.Proofs.Tryd.underlying82 (by kernel_rfl) rfl (by kernel_rfl)
theorem ty_83 : TyOK Go.Proofs.Tryd.prog 83 (tab 83) := TyOK.of (inf := Go.Proofs.Tryd.t83) (z := (Value.pointer none)) Go.Proofs.Tryd.underlying83 (by kernel_rfl) rfl (by kernel_rfl)
theorem ty_84 : TyOK Go.Proofs.Tryd.prog 84 (tab 84) := TyOK.of (inf := Go.Proofs.Tryd.t84) (z := Value.nilFunc) Go.Proofs.Tryd.underlying84 (by kernel_rfl) rfl (by kernel_rfl)
theorem ty_85 : TyOK Go.Proofs.Tryd.prog 85 (tab 85) := TyOK.of (inf := Go.Proofs.Tryd.t85) (z := (Value.slice none 0 0)) Go.Proofs.Tryd.underlying85 (by kernel_rfl) rfl (by kernel_rfl)
theorem ty_86 : TyOK Go.Proofs.Tryd.prog 86 (tab 86) := TyOK.of (inf := Go.Proofs.Tryd.t86) (z := (Value.agg #[(Value.int IntKind.i64 0), (Value.int IntKind.i64 0)])) Go.Proofs.Tryd.underlying86 (by kernel_rfl) rfl (by kernel_rfl)
theorem ty_87 : TyOK Go.Proofs.Tryd.prog 87 (tab 87) := TyOK.of (inf := Go.Proofs.Tryd.t87) (z := (Value.agg #[(Value.int IntKind.i64 0), (Value.int IntKind.i64 0)])) Go.Proofs.Tryd.underlying87 (by kernel_rfl) rfl (by kernel_rfl)
theorem ty_88 : TyOK Go.Proofs.Tryd.prog 88 (tab 88) := TyOK.of (inf := Go.Proofs.Tryd.t88) (z := Value.nilFunc) Go.Proofs.Tryd.underlying88 (by kernel_rfl) rfl (by kernel_rfl)
theorem ty_89 : TyOK Go.Proofs.Tryd.prog 89 (tab 89) := TyOK.of (inf := Go.Proofs.Tryd.t89) (z := (Value.pointer none)) Go.Proofs.Tryd.underlying89 (by kernel_rfl) rfl (by kernel_rfl)
theorem ty_90 : TyOK Go.Proofs.Tryd.prog 90 (tab 90) := TyOK.of (inf := Go.Proofs.Tryd.t90) (z := Value.nilFunc) Go.Proofs.Tryd.underlying90 (by kernel_rfl) rfl (by kernel_rfl)
theorem ty_91 : TyOK Go.Proofs.Tryd.prog 91 (tab 91) := TyOK.of (inf := Go.Proofs.Tryd.t91) (z := Value.nilFunc) Go.Proofs.Tryd.underlying91 (by kernel_rfl) rfl (by kernel_rfl)
theorem ty_92 : TyOK Go.Proofs.Tryd.prog 92 (tab 92) := TyOK.of (inf := Go.Proofs.Tryd.t92) (z := (Value.agg #[(Value.string { data := #[] }), (Value.string { data := #[] }), Value.nilIface])) Go.Proofs.Tryd.underlying92 (by kernel_rfl) rfl (by kernel_rfl)
theorem ty_93 : TyOK Go.Proofs.Tryd.prog 93 (tab 93) := TyOK.of (inf := Go.Proofs.Tryd.t93) (z := (Value.agg #[(Value.string { data := #[] }), (Value.string { data := #[] }), Value.nilIface])) Go.Proofs.Tryd.underlying93 (by kernel_rfl) rfl (by kernel_rfl)
theorem ty_94 : TyOK Go.Proofs.Tryd.prog 94 (tab 94) := TyOK.of (inf := Go.Proofs.Tryd.t94) (z := Value.nilFunc) Go.Proofs.Tryd.underlying94 (by kernel_rfl) rfl (by kernel_rfl)
theorem ty_95 : TyOK Go.Proofs.Tryd.prog 95 (tab 95) := TyOK.of (inf := Go.Proofs.Tryd.t95) (z := Value.nilFunc) Go.Proofs.Tryd.underlying95 (by kernel_rfl) rfl (by kernel_rfl)
theorem ty_96 : TyOK Go.Proofs.Tryd.prog 96 (tab 96) := TyOK.of (inf := Go.Proofs.Tryd.t96) (z := (Value.slice none 0 0)) Go.Proofs.Tryd.underlying96 (by kernel_rfl) rfl (by kernel_rfl)
theorem ty_97 : TyOK Go.Proofs.Tryd.prog 97 (tab 97) := TyOK.of (inf := Go.Proofs.Tryd.t97) (z := (Value.slice none 0 0)) Go.Proofs.Tryd.underlying97 (by kernel_rfl) rfl (by kernel_rfl)
theorem ty_98 : TyOK Go.Proofs.Tryd.prog 98 (tab 98) := TyOK.of (inf := Go.Proofs.Tryd.t98) (z := (Value.agg #[(Value.slice none 0 0), (Value.slice none 0 0), (Value.int IntKind.i64 0)])) Go.Proofs.Tryd.underlying98 (by kernel_rfl) rfl (by kernel_rfl)
theorem ty_99 : TyOK Go.Proofs.Tryd.prog 99 (tab 99) := TyOK.of (inf := Go.Proofs.Tryd.t99) (z := (Value.agg #[(Value.slice none 0 0), (Value.slice none 0 0), (Value.int IntKind.i64 0)])) Go.Proofs.Tryd.underlying99 (by kernel_rfl) rfl (by kernel_rfl)
theorem ty_100 : TyOK Go.Proofs.Tryd.prog 100 (tab 100) := TyOK.of (inf := Go.Proofs.Tryd.t100) (z := (Value.int IntKind.u16 0)) Go.Proofs.Tryd.underlying100 (by kernel_rfl) rfl (by kernel_rfl)
theorem ty_101 : TyOK Go.Proofs.Tryd.prog 101 (tab 101) := TyOK.of (inf := Go.Proofs.Tryd.t101) (z := (Value.agg #[(Value.int IntKind.u16 0), (Value.int IntKind.u16 0), (Value.int IntKind.u16 0)])) Go.Proofs.Tryd.underlying101 (by kernel_rfl) rfl (by kernel_rfl)
theorem ty_102 : TyOK Go.Proofs.Tryd.prog 102 (tab 102) := TyOK.of (inf := Go.Proofs.Tryd.t102) (z := (Value.agg #[(Value.int IntKind.u16 0), (Value.int IntKind.u16 0), (Value.int IntKind.u16 0)])) Go.Proofs.Tryd.underlying102 (by kernel_rfl) rfl (by kernel_rfl)
theorem ty_103 : TyOK Go.Proofs.Tryd.prog 103 (tab 103) := TyOK.of (inf := Go.Proofs.Tryd.t103) (z := Value.nilFunc) Go.Proofs.Tryd.underlying103 (by kernel_rfl) rfl (by kernel_rfl)
theorem ty_104 : TyOK Go.Proofs.Tryd.prog 104 (tab 104) := TyOK.of (inf := Go.Proofs.Tryd.t104) (z := (Value.agg #[(Value.int IntKind.u32 0), (Value.int IntKind.u32 0), (Value.int IntKind.u32 0)])) Go.Proofs.Tryd.underlying104 (by kernel_rfl) rfl (by kernel_rfl)
theorem ty_105 : TyOK Go.Proofs.Tryd.prog 105 (tab 105) := TyOK.of (inf := Go.Proofs.Tryd.t105) (z := (Value.agg #[(Value.int IntKind.u32 0), (Value.int IntKind.u32 0), (Value.int IntKind.u32 0)])) Go.Proofs.Tryd.underlying105 (by kernel_rfl) rfl (by kernel_rfl)
theorem ty_106 : TyOK Go.Proofs.Tryd.prog 106 (tab 106) := TyOK.of (inf := Go.Proofs.Tryd.t106) (z := Value.nilFunc) Go.Proofs.Tryd.underlying106 (by kernel_rfl) rfl (by kernel_rfl)
theorem ty_107 : TyOK Go.Proofs.Tryd.prog 107 (tab 107) := TyOK.of (inf := Go.Proofs.Tryd.t107) (z := Value.nilFunc) Go.Proofs.Tryd.underlying107 (by kernel_rfl) rfl (by kernel_rfl)
theorem ty_108 : TyOK Go.Proofs.Tryd.prog 108 (tab 108) := TyOK.of (inf := Go.Proofs.Tryd.t108) (z := (Value.pointer none)) Go.Proofs.Tryd.underlying108 (by kernel_rfl) rfl (by kernel_rfl)
theorem ty_109 : TyOK Go.Proofs.Tryd.prog 109 (tab 109) := TyOK.of (inf := Go.Proofs.Tryd.t109) (z := (Value.agg #[(Value.string { data := #[] })])) Go.Proofs.Tryd.underlying109 (by kernel_rfl) rfl (by kernel_rfl)
theorem ty_110 : TyOK Go.Proofs.Tryd.prog 110 (tab 110) := TyOK.of (inf := Go.Proofs.Tryd.t110) (z := (Value.agg #[(Value.string { data := #[] })])) Go.Proofs.Tryd.underlying110 (by kernel_rfl) rfl (by kernel_rfl)
theorem ty_111 : TyOK Go.Proofs.Tryd.prog 111 (tab 111) := TyOK.of (inf := Go.Proofs.Tryd.t111) (z := (Value.pointer none)) Go.Proofs.Tryd.underlying111 (by kernel_rfl) rfl (by kernel_rfl)
theorem ty_112 : TyOK Go.Proofs.Tryd.prog 112 (tab 112) := TyOK.of (inf := Go.Proofs.Tryd.t112) (z := (Value.pointer none)) Go.Proofs.Tryd.underlying112 (by kernel_rfl) rfl (by kernel_rfl)
theorem ty_114 : TyOK Go.Proofs.Tryd.prog 114 (tab 114) := TyOK.of (inf := Go.Proofs.Tryd.t114) (z := Value.nilFunc) Go.Proofs.Tryd.underlying114 (by kernel_rfl) rfl (by kernel_rfl)
theorem ty_115 : TyOK Go.Proofs.Tryd.prog 115 (tab 115) := TyOK.of (inf := Go.Proofs.Tryd.t115) (z := Value.nilFunc) Go.Proofs.Tryd.underlying115 (by kernel_rfl) rfl (by kernel_rfl)
theorem ty_117 : TyOK Go.Proofs.Tryd.prog 117 (tab 117) := TyOK.of (inf := Go.Proofs.Tryd.t117) (z := Value.nilFunc) Go.Proofs.Tryd.underlying117 (by kernel_rfl) rfl (by kernel_rfl)
theorem ty_118 : TyOK Go.Proofs.Tryd.prog 118 (tab 118) := TyOK.of (inf := Go.Proofs.Tryd.t118) (z := Value.nilFunc) Go.Proofs.Tryd.underlying118 (by kernel_rfl) rfl (by kernel_rfl)
theorem ty_120 : TyOK Go.Proofs.Tryd.prog 120 (tab 120) := TyOK.of (inf := Go.Proofs.Tryd.t120) (z := Value.nilFunc) Go.Proofs.Tryd.underlying120 (by kernel_rfl) rfl (by kernel_rfl)
theorem ty_121 : TyOK Go.Proofs.Tryd.prog 121 (tab 121) := TyOK.of (inf := Go.Proofs.Tryd.t121) (z := (Value.agg #[(Value.int IntKind.u8 0), (Value.int IntKind.u8 0)])) Go.Proofs.Tryd.underlying121 (by kernel_rfl) rfl (by kernel_rfl)
theorem ty_122 : TyOK Go.Proofs.Tryd.prog 122 (tab 122) := TyOK.of (inf := Go.Proofs.Tryd.t122) (z := (Value.agg #[(Value.int IntKind.u8 0), (Value.int IntKind.u8 0)])) Go.Proofs.Tryd.underlying122 (by kernel_rfl) rfl (by kernel_rfl)
theorem ty_124 : TyOK Go.Proofs.Tryd.prog 124 (tab 124) := TyOK.of (inf := Go.Proofs.Tryd.t124) (z := Value.nilFunc) Go.Proofs.Tryd.underlying124 (by kernel_rfl) rfl (by kernel_rfl)
theorem ty_127 : TyOK Go.Proofs.Tryd.prog 127 (tab 127) := TyOK.of (inf := Go.Proofs.Tryd.t127) (z := Value.nilFunc) Go.Proofs.Tryd.underlying127 (by kernel_rfl) rfl (by kernel_rfl)
theorem ty_128 : TyOK Go.Proofs.Tryd.prog 128 (tab 128) := TyOK.of (inf := Go.Proofs.Tryd.t128) (z := Value.nilFunc) Go.Proofs.Tryd.underlying128 (by kernel_rfl) rfl (by kernel_rfl)
theorem ty_129 : TyOK Go.Proofs.Tryd.prog 129 (tab 129) := TyOK.of (inf := Go.Proofs.Tryd.t129) (z := Value.nilFunc) Go.Proofs.Tryd.underlying129 (by kernel_rfl) rfl (by kernel_rfl)
theorem ty_132 : TyOK Go.Proofs.Tryd.prog 132 (tab 132) := TyOK.of (inf := Go.Proofs.Tryd.t132) (z := (Value.agg #[(Value.pointer none), (Value.pointer none), (Value.pointer none), (Value.string { data := #[] })])) Go.Proofs.Tryd.underlying132 (by kernel_rfl) rfl (by kernel_rfl)
theorem ty_133 : TyOK Go.Proofs.Tryd.prog 133 (tab 133) := TyOK.of (inf := Go.Proofs.Tryd.t133) (z := (Value.agg #[(Value.pointer none), (Value.pointer none), (Value.pointer none), (Value.string { data := #[] })])) Go.Proofs.Tryd.underlying133 (by kernel_rfl) rfl (by kernel_rfl)
theorem ty_137 : TyOK Go.Proofs.Tryd.prog 137 (tab 137) := TyOK.of (inf := Go.Proofs.Tryd.t137) (z := Value.nilFunc) Go.Proofs.Tryd.underlying137 (by kernel_rfl) rfl (by kernel_rfl)
theorem ty_138 : TyOK Go.Proofs.Tryd.prog 138 (tab 138) := TyOK.of (inf := Go.Proofs.Tryd.t138) (z := (Value.int IntKind.u8 0)) Go.Proofs.Tryd.underlying138 (by kernel_rfl) rfl (by kernel_rfl)
theorem ty_139 : TyOK Go.Proofs.Tryd.prog 139 (tab 139) := TyOK.of (inf := Go.Proofs.Tryd.t139) (z := (Value.int IntKind.u8 0)) Go.Proofs.Tryd.underlying139 (by kernel_rfl) rfl (by kernel_rfl)
theorem ty_140 : TyOK Go.Proofs.Tryd.prog 140 (tab 140) := TyOK.of (inf := Go.Proofs.Tryd.t140) (z := Value.nilFunc) Go.Proofs.Tryd.underlying140 (by kernel_rfl) rfl (by kernel_rfl)
theorem ty_141 : TyOK Go.Proofs.Tryd.prog 141 (tab 141) := TyOK.of (inf := Go.Proofs.Tryd.t141) (z := (Value.int IntKind.i32 0)) Go.Proofs.Tryd.underlying141 (by kernel_rfl) rfl (by kernel_rfl)
theorem ty_142 : TyOK Go.Proofs.Tryd.prog 142 (tab 142) := TyOK.of (inf := Go.Proofs.Tryd.t142) (z := (Value.int IntKind.i32 0)) Go.Proofs.Tryd.underlying142 (by kernel_rfl) rfl (by kernel_rfl)
theorem ty_143 : TyOK Go.Proofs.Tryd.prog 143 (tab 143) := TyOK.of (inf := Go.Proofs.Tryd.t143) (z := (Value.agg #[(Value.int IntKind.u64 0), (Value.int IntKind.u64 0), (Value.int IntKind.u32 0), (Value.int IntKind.u8 0), (Value.int IntKind.u8 0), (Value.int IntKind.u8 0), (Value.int IntKind.u8 0), Value.nilFunc, (Value.pointer none), (Value.int IntKind.i32 0), (Value.int IntKind.i32 0)])) Go.Proofs.Tryd.underlying143 (by kernel_rfl) rfl (by kernel_rfl)
theorem ty_144 : TyOK Go.Proofs.Tryd.prog 144 (tab 144) := TyOK.of (inf := Go.Proofs.Tryd.t144) (z := (Value.agg #[(Value.int IntKind.u64 0), (Value.int IntKind.u64 0), (Value.int IntKind.u32 0), (Value.int IntKind.u8 0), (Value.int IntKind.u8 0), (Value.int IntKind.u8 0), (Value.int IntKind.u8 0), Value.nilFunc, (Value.pointer none), (Value.int IntKind.i32 0), (Value.int IntKind.i32 0)])) Go.Proofs.Tryd.underlying144 (by kernel_rfl) rfl (by kernel_rfl)
theorem tab_ok : TabOK Go.Proofs.Tryd.prog tab := by
  intro t h
  unfold tab at h
  split at h
  · exact ty_1
  · exact ty_2
  · exact ty_3
  · exact ty_4
  · exact ty_5
  · exact ty_6
  · exact ty_7
  · exact ty_8
  · exact ty_9
  · exact ty_10
  · exact ty_11
  · exact ty_12
  · exact ty_13
  · exact ty_14
  · exact ty_15
  · exact ty_16
  · exact ty_17
  · exact ty_18
  · exact ty_19
  · exact ty_20
  · exact ty_21
  · exact ty_22
  · exact ty_23
  · exact ty_25
  · exact ty_26
  · exact ty_27
  · exact ty_29
  · exact ty_30
  · exact ty_31
  · exact ty_32
  · exact ty_33
  · exact ty_34
  · exact ty_35
  · exact ty_36
  · exact ty_38
  · exact ty_40
  · exact ty_41
  · exact ty_43
  · exact ty_44
  · exact ty_46
  · exact ty_47
  · exact ty_48
  · exact ty_49
  · exact ty_50
  · exact ty_51
  · exact ty_52
  · exact ty_54
  · exact ty_55
  · exact ty_56
  · exact ty_57
  · exact ty_58
  · exact ty_59
  · exact ty_60
  · exact ty_61
  · exact ty_62
  · exact ty_63
  · exact ty_64
  · exact ty_65
  · exact ty_66
  · exact ty_67
  · exact ty_69
  · exact ty_70
  · exact ty_71
  · exact ty_72
  · exact ty_74
  · exact ty_75
  · exact ty_76
  · exact ty_77
  · exact ty_79
  · exact ty_80
  · exact ty_81
  · exact ty_82
  · exact ty_83
  · exact ty_84
  · exact ty_85
  · exact ty_86
  · exact ty_87
  · exact ty_88
  · exact ty_89
  · exact ty_90
  · exact ty_91
  · exact ty_92
  · exact ty_93
  · exact ty_94
  · exact ty_95
  · exact ty_96
  · exact ty_97
  · exact ty_98
  · exact ty_99
  · exact ty_100
  · exact ty_101
  · exact ty_102
  · exact ty_103
  · exact ty_104
  · exact ty_105
  · exact ty_106
  · exact ty_107
  · exact ty_108
  · exact ty_109
  · exact ty_110
  · exact ty_111
  · exact ty_112
  · exact ty_114
  · exact ty_115
  · exact ty_117
  · exact ty_118
  · exact ty_120
  · exact ty_121
  · exact ty_122
  · exact ty_124
  · exact ty_127
  · exact ty_128
  · exact ty_129
  · exact ty_132
  · exact ty_133
  · exact ty_137
  · exact ty_138
  · exact ty_139
  · exact ty_140
  · exact ty_141
  · exact ty_142
  · exact ty_143
  · exact ty_144
  · cases h
end Go.D

/- What is told of the types and of what functions hand back, as few. -/
set_option linter.defProp false
namespace Go.D
open Go Go.Vm Go.Proofs
def st1 := And.intro (And.intro (And.intro (And.intro (And.intro (And.intro (@tab_1) (@tab_2)) (And.intro (@tab_3) (@tab_4))) (And.intro (And.intro (@tab_5) (@tab_6)) (And.intro (@tab_7) (And.intro (@tab_8) (@tab_9))))) (And.intro (And.intro (And.intro (@tab_10) (@tab_11)) (And.intro (@tab_12) (@tab_13))) (And.intro (And.intro (@tab_14) (@tab_15)) (And.intro (@tab_16) (And.intro (@tab_17) (@tab_18)))))) (And.intro (And.intro (And.intro (And.intro (@tab_19) (@tab_20)) (And.intro (@tab_21) (@tab_22))) (And.intro (And.intro (@tab_23) (@tab_25)) (And.intro (@tab_26) (And.intro (@tab_27) (@tab_29))))) (And.intro (And.intro (And.intro (@tab_30) (@tab_31)) (And.intro (@tab_32) (And.intro (@tab_33) (@tab_34)))) (And.intro (And.intro (@tab_35) (@tab_36)) (And.intro (@tab_38) (And.intro (@tab_40) (@tab_41))))))) (And.intro (And.intro (And.intro (And.intro (And.intro (@tab_43) (@tab_44)) (And.intro (@tab_46) (@tab_47))) (And.intro (And.intro (@tab_48) (@tab_49)) (And.intro (@tab_50) (And.intro (@tab_51) (@tab_52))))) (And.intro (And.intro (And.intro (@tab_54) (@tab_55)) (And.intro (@tab_56) (And.intro (@tab_57) (@tab_58)))) (And.intro (And.intro (@tab_59) (@tab_60)) (And.intro (@tab_61) (And.intro (@tab_62) (@tab_63)))))) (And.intro (And.intro (And.intro (And.intro (@tab_64) (@tab_65)) (And.intro (@tab_66) (@tab_67))) (And.intro (And.intro (@tab_69) (@tab_70)) (And.intro (@tab_71) (And.intro (@tab_72) (@tab_74))))) (And.intro (And.intro (And.intro (@tab_75) (@tab_76)) (And.intro (@tab_77) (And.intro (@tab_79) (@tab_80)))) (And.intro (And.intro (@tab_81) (@tab_82)) (And.intro (@tab_83) (And.intro (@tab_84) (@tab_85)))))))
def st2 := And.intro (And.intro (And.intro (And.intro (And.intro (And.intro (@tab_86) (@tab_87)) (And.intro (@tab_88) (@tab_89))) (And.intro (And.intro (@tab_90) (@tab_91)) (And.intro (@tab_92) (And.intro (@tab_93) (@tab_94))))) (And.intro (And.intro (And.intro (@tab_95) (@tab_96)) (And.intro (@tab_97) (@tab_98))) (And.intro (And.intro (@tab_99) (@tab_100)) (And.intro (@tab_101) (And.intro (@tab_102) (@tab_103)))))) (And.intro (And.intro (And.intro (And.intro (@tab_104) (@tab_105)) (And.intro (@tab_106) (@tab_107))) (And.intro (And.intro (@tab_108) (@tab_109)) (And.intro (@tab_110) (And.intro (@tab_111) (@tab_112))))) (And.intro (And.intro (And.intro (@tab_114) (@tab_115)) (And.intro (@tab_117) (And.intro (@tab_118) (@tab_120)))) (And.intro (And.intro (@tab_121) (@tab_122)) (And.intro (@tab_124) (And.intro (@tab_127) (@tab_128))))))) (And.intro (And.intro (And.intro (And.intro (And.intro (@tab_129) (@tab_132)) (And.intro (@tab_133) (@tab_137))) (And.intro (And.intro (@tab_138) (@tab_139)) (And.intro (@tab_140) (And.intro (@tab_141) (@tab_142))))) (And.intro (And.intro (And.intro (@tab_143) (@tab_144)) (And.intro (@Tryd.results0) (And.intro (@Tryd.results1) (@Tryd.results2)))) (And.intro (And.intro (@Tryd.results3) (@Tryd.results4)) (And.intro (@Tryd.results5) (And.intro (@Tryd.results6) (@Tryd.results7)))))) (And.intro (And.intro (And.intro (And.intro (@Tryd.results8) (@Tryd.results9)) (And.intro (@Tryd.results10) (@Tryd.results11))) (And.intro (And.intro (@Tryd.results12) (@Tryd.results13)) (And.intro (@Tryd.results14) (And.intro (@Tryd.results15) (@Tryd.results16))))) (And.intro (And.intro (And.intro (@Tryd.results17) (@Tryd.results18)) (And.intro (@Tryd.results19) (And.intro (@Tryd.results20) (@Tryd.results21)))) (And.intro (And.intro (@Tryd.results22) (@Tryd.results23)) (And.intro (@Tryd.results24) (And.intro (@Tryd.results25) (@Tryd.results26)))))))
def st3 := And.intro (And.intro (And.intro (And.intro (And.intro (@Tryd.results27) (And.intro (@Tryd.results28) (@Tryd.results29))) (And.intro (And.intro (@Tryd.results30) (@Tryd.results31)) (And.intro (@Tryd.results32) (@Tryd.results33)))) (And.intro (And.intro (And.intro (@Tryd.results34) (@Tryd.results35)) (And.intro (@Tryd.results36) (@Tryd.results37))) (And.intro (And.intro (@Tryd.results38) (@Tryd.results39)) (And.intro (@Tryd.results40) (@Tryd.results41))))) (And.intro (And.intro (And.intro (And.intro (@Tryd.results42) (@Tryd.results43)) (And.intro (@Tryd.results44) (@Tryd.results45))) (And.intro (And.intro (@Tryd.results46) (@Tryd.results47)) (And.intro (@Tryd.results48) (@Tryd.results49)))) (And.intro (And.intro (And.intro (@Tryd.results50) (@Tryd.results51)) (And.intro (@Tryd.results52) (@Tryd.results53))) (And.intro (And.intro (@Tryd.results54) (@Tryd.results55)) (And.intro (@Tryd.results56) (@Tryd.results57)))))) (And.intro (And.intro (And.intro (And.intro (@Tryd.results58) (And.intro (@Tryd.results59) (@Tryd.results60))) (And.intro (And.intro (@Tryd.results61) (@Tryd.results62)) (And.intro (@Tryd.results63) (@Tryd.results64)))) (And.intro (And.intro (And.intro (@Tryd.results65) (@Tryd.results66)) (And.intro (@Tryd.results67) (@Tryd.results68))) (And.intro (And.intro (@Tryd.results69) (@Tryd.results70)) (And.intro (@Tryd.results71) (@Tryd.results72))))) (And.intro (And.intro (And.intro (And.intro (@Tryd.results73) (@Tryd.results74)) (And.intro (@Tryd.results75) (@Tryd.results76))) (And.intro (And.intro (@Tryd.results77) (@Tryd.results78)) (And.intro (@Tryd.results79) (@Tryd.results80)))) (And.intro (And.intro (And.intro (@Tryd.results81) (@Tryd.results82)) (And.intro (@Tryd.results83) (@Tryd.results84))) (And.intro (And.intro (@Tryd.results85) (@Tryd.results86)) (And.intro (@Tryd.results87) (@Tryd.results88))))))
end Go.D
