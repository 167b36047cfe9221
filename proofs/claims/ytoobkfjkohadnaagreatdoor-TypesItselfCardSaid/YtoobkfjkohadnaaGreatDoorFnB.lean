/- What is known of this translation's types, printed by program (tab.py). -/
import Derived.Test.YtoobkfjkohadnaaGreatDoorProg
import Derived.Test.YtoobkfjkohadnaaGreatDoorVmE
set_option linter.unusedVariables false
set_option maxRecDepth 100000
namespace Go.D
open Go Go.Vm
def tabL : List (Nat × TI) := [
  (1, { ok := true, desc := (TypeDesc.func #[] #[] false), size := 1, bytes := 8, isAgg := false, zero := (.v .nilFunc), flds := [], elem := 0 }),
  (2, { ok := true, desc := (TypeDesc.int IntKind.i64), size := 1, bytes := 8, isAgg := false, zero := (.v (.int IntKind.i64 0)), flds := [], elem := 0 }),
  (3, { ok := true, desc := (TypeDesc.int IntKind.i64), size := 1, bytes := 8, isAgg := false, zero := (.v (.int IntKind.i64 0)), flds := [], elem := 0 }),
  (4, { ok := true, desc := TypeDesc.bool, size := 1, bytes := 1, isAgg := false, zero := (.v (.bool false)), flds := [], elem := 0 }),
  (5, { ok := true, desc := (TypeDesc.int IntKind.u8), size := 1, bytes := 1, isAgg := false, zero := (.v (.int IntKind.u8 0)), flds := [], elem := 0 }),
  (6, { ok := true, desc := (TypeDesc.int IntKind.u8), size := 1, bytes := 1, isAgg := false, zero := (.v (.int IntKind.u8 0)), flds := [], elem := 0 }),
  (7, { ok := true, desc := (TypeDesc.struct #[{ name := "x", type := 2, offset := 0, embedded := false, tag := "", pkgPath := "runtime", byteOffset := 0 }, { name := "y", type := 3, offset := 1, embedded := false, tag := "", pkgPath := "runtime", byteOffset := 8 }, { name := "signed", type := 4, offset := 2, embedded := false, tag := "", pkgPath := "runtime", byteOffset := 16 }, { name := "code", type := 6, offset := 3, embedded := false, tag := "", pkgPath := "runtime", byteOffset := 17 }]), size := 4, bytes := 24, isAgg := true, zero := (.agg [(.v (.int IntKind.i64 0)), (.v (.int IntKind.i64 0)), (.v (.bool false)), (.v (.int IntKind.u8 0))]), flds := [(0, 1, false), (1, 1, false), (2, 1, false), (3, 1, false)], elem := 0 }),
  (8, { ok := true, desc := (TypeDesc.struct #[{ name := "x", type := 2, offset := 0, embedded := false, tag := "", pkgPath := "runtime", byteOffset := 0 }, { name := "y", type := 3, offset := 1, embedded := false, tag := "", pkgPath := "runtime", byteOffset := 8 }, { name := "signed", type := 4, offset := 2, embedded := false, tag := "", pkgPath := "runtime", byteOffset := 16 }, { name := "code", type := 6, offset := 3, embedded := false, tag := "", pkgPath := "runtime", byteOffset := 17 }]), size := 4, bytes := 24, isAgg := true, zero := (.agg [(.v (.int IntKind.i64 0)), (.v (.int IntKind.i64 0)), (.v (.bool false)), (.v (.int IntKind.u8 0))]), flds := [(0, 1, false), (1, 1, false), (2, 1, false), (3, 1, false)], elem := 0 }),
  (9, { ok := true, desc := TypeDesc.string, size := 1, bytes := 16, isAgg := false, zero := (.str []), flds := [], elem := 0 }),
  (10, { ok := true, desc := TypeDesc.string, size := 1, bytes := 16, isAgg := false, zero := (.str []), flds := [], elem := 0 }),
  (11, { ok := true, desc := TypeDesc.string, size := 1, bytes := 16, isAgg := false, zero := (.str []), flds := [], elem := 0 }),
  (12, { ok := true, desc := (TypeDesc.int IntKind.u64), size := 1, bytes := 8, isAgg := false, zero := (.v (.int IntKind.u64 0)), flds := [], elem := 0 }),
  (13, { ok := true, desc := (TypeDesc.struct #[{ name := "msg", type := 9, offset := 0, embedded := false, tag := "", pkgPath := "runtime", byteOffset := 0 }, { name := "addr", type := 12, offset := 1, embedded := false, tag := "", pkgPath := "runtime", byteOffset := 16 }]), size := 2, bytes := 24, isAgg := true, zero := (.agg [(.str []), (.v (.int IntKind.u64 0))]), flds := [(0, 1, false), (1, 1, false)], elem := 0 }),
  (14, { ok := true, desc := (TypeDesc.struct #[{ name := "msg", type := 9, offset := 0, embedded := false, tag := "", pkgPath := "runtime", byteOffset := 0 }, { name := "addr", type := 12, offset := 1, embedded := false, tag := "", pkgPath := "runtime", byteOffset := 16 }]), size := 2, bytes := 24, isAgg := true, zero := (.agg [(.str []), (.v (.int IntKind.u64 0))]), flds := [(0, 1, false), (1, 1, false)], elem := 0 }),
  (15, { ok := true, desc := (TypeDesc.pointer 245), size := 1, bytes := 8, isAgg := false, zero := (.v (.pointer none)), flds := [], elem := 0 }),
  (16, { ok := true, desc := (TypeDesc.pointer 248), size := 1, bytes := 8, isAgg := false, zero := (.v (.pointer none)), flds := [], elem := 0 }),
  (17, { ok := true, desc := (TypeDesc.pointer 256), size := 1, bytes := 8, isAgg := false, zero := (.v (.pointer none)), flds := [], elem := 0 }),
  (18, { ok := true, desc := (TypeDesc.struct #[{ name := "typ", type := 17, offset := 0, embedded := false, tag := "", pkgPath := "internal/runtime/maps", byteOffset := 0 }]), size := 1, bytes := 8, isAgg := true, zero := (.agg [(.v (.pointer none))]), flds := [(0, 1, false)], elem := 0 }),
  (19, { ok := true, desc := (TypeDesc.struct #[{ name := "typ", type := 17, offset := 0, embedded := false, tag := "", pkgPath := "internal/runtime/maps", byteOffset := 0 }]), size := 1, bytes := 8, isAgg := true, zero := (.agg [(.v (.pointer none))]), flds := [(0, 1, false)], elem := 0 }),
  (20, { ok := true, desc := (TypeDesc.interface #[]), size := 1, bytes := 16, isAgg := false, zero := (.v .nilIface), flds := [], elem := 0 }),
  (21, { ok := true, desc := (TypeDesc.int IntKind.i32), size := 1, bytes := 4, isAgg := false, zero := (.v (.int IntKind.i32 0)), flds := [], elem := 0 }),
  (22, { ok := true, desc := (TypeDesc.slice 24), size := 1, bytes := 24, isAgg := false, zero := (.v (.slice none 0 0)), flds := [], elem := 24 }),
  (23, { ok := true, desc := (TypeDesc.struct #[{ name := "Do", type := 9, offset := 0, embedded := false, tag := "", pkgPath := "", byteOffset := 0 }, { name := "Name", type := 9, offset := 1, embedded := false, tag := "", pkgPath := "", byteOffset := 16 }, { name := "Args", type := 22, offset := 2, embedded := false, tag := "", pkgPath := "", byteOffset := 32 }]), size := 3, bytes := 56, isAgg := true, zero := (.agg [(.str []), (.str []), (.v (.slice none 0 0))]), flds := [(0, 1, false), (1, 1, false), (2, 1, false)], elem := 0 }),
  (24, { ok := true, desc := (TypeDesc.struct #[{ name := "Do", type := 9, offset := 0, embedded := false, tag := "", pkgPath := "", byteOffset := 0 }, { name := "Name", type := 9, offset := 1, embedded := false, tag := "", pkgPath := "", byteOffset := 16 }, { name := "Args", type := 22, offset := 2, embedded := false, tag := "", pkgPath := "", byteOffset := 32 }]), size := 3, bytes := 56, isAgg := true, zero := (.agg [(.str []), (.str []), (.v (.slice none 0 0))]), flds := [(0, 1, false), (1, 1, false), (2, 1, false)], elem := 0 }),
  (25, { ok := true, desc := (TypeDesc.slice 33), size := 1, bytes := 24, isAgg := false, zero := (.v (.slice none 0 0)), flds := [], elem := 33 }),
  (26, { ok := true, desc := (TypeDesc.int IntKind.i64), size := 1, bytes := 8, isAgg := false, zero := (.v (.int IntKind.i64 0)), flds := [], elem := 0 }),
  (28, { ok := true, desc := (TypeDesc.func #[24, 24] #[25, 26] false), size := 1, bytes := 8, isAgg := false, zero := (.v .nilFunc), flds := [], elem := 0 }),
  (29, { ok := true, desc := (TypeDesc.slice 9), size := 1, bytes := 24, isAgg := false, zero := (.v (.slice none 0 0)), flds := [], elem := 9 }),
  (31, { ok := true, desc := (TypeDesc.func #[24] #[29, 26] false), size := 1, bytes := 8, isAgg := false, zero := (.v .nilFunc), flds := [], elem := 0 }),
  (32, { ok := true, desc := (TypeDesc.struct #[{ name := "Name", type := 9, offset := 0, embedded := false, tag := "", pkgPath := "", byteOffset := 0 }, { name := "Type", type := 24, offset := 1, embedded := false, tag := "", pkgPath := "", byteOffset := 16 }]), size := 4, bytes := 72, isAgg := true, zero := (.agg [(.str []), (.str []), (.str []), (.v (.slice none 0 0))]), flds := [(0, 1, false), (1, 3, true)], elem := 0 }),
  (33, { ok := true, desc := (TypeDesc.struct #[{ name := "Name", type := 9, offset := 0, embedded := false, tag := "", pkgPath := "", byteOffset := 0 }, { name := "Type", type := 24, offset := 1, embedded := false, tag := "", pkgPath := "", byteOffset := 16 }]), size := 4, bytes := 72, isAgg := true, zero := (.agg [(.str []), (.str []), (.str []), (.v (.slice none 0 0))]), flds := [(0, 1, false), (1, 3, true)], elem := 0 }),
  (34, { ok := true, desc := (TypeDesc.func #[] #[4] false), size := 1, bytes := 8, isAgg := false, zero := (.v .nilFunc), flds := [], elem := 0 }),
  (35, { ok := true, desc := (TypeDesc.func #[24] #[4] false), size := 1, bytes := 8, isAgg := false, zero := (.v .nilFunc), flds := [], elem := 0 }),
  (37, { ok := true, desc := (TypeDesc.func #[25, 24] #[24, 26] false), size := 1, bytes := 8, isAgg := false, zero := (.v .nilFunc), flds := [], elem := 0 }),
  (38, { ok := true, desc := (TypeDesc.func #[24, 24] #[4] false), size := 1, bytes := 8, isAgg := false, zero := (.v .nilFunc), flds := [], elem := 0 }),
  (39, { ok := true, desc := (TypeDesc.func #[25, 25] #[25, 26] false), size := 1, bytes := 8, isAgg := false, zero := (.v .nilFunc), flds := [], elem := 0 }),
  (40, { ok := true, desc := (TypeDesc.func #[25, 25] #[4] false), size := 1, bytes := 8, isAgg := false, zero := (.v .nilFunc), flds := [], elem := 0 }),
  (41, { ok := true, desc := (TypeDesc.func #[25, 24] #[24] false), size := 1, bytes := 8, isAgg := false, zero := (.v .nilFunc), flds := [], elem := 0 }),
  (42, { ok := true, desc := (TypeDesc.func #[25, 25, 25, 24] #[4] false), size := 1, bytes := 8, isAgg := false, zero := (.v .nilFunc), flds := [], elem := 0 }),
  (43, { ok := true, desc := (TypeDesc.func #[24] #[24, 26] false), size := 1, bytes := 8, isAgg := false, zero := (.v .nilFunc), flds := [], elem := 0 }),
  (44, { ok := true, desc := (TypeDesc.slice 60), size := 1, bytes := 24, isAgg := false, zero := (.v (.slice none 0 0)), flds := [], elem := 60 }),
  (45, { ok := true, desc := (TypeDesc.func #[44] #[25, 26] false), size := 1, bytes := 8, isAgg := false, zero := (.v .nilFunc), flds := [], elem := 0 }),
  (46, { ok := true, desc := (TypeDesc.func #[44] #[4] false), size := 1, bytes := 8, isAgg := false, zero := (.v .nilFunc), flds := [], elem := 0 }),
  (47, { ok := true, desc := (TypeDesc.func #[25, 25, 24] #[4] false), size := 1, bytes := 8, isAgg := false, zero := (.v .nilFunc), flds := [], elem := 0 }),
  (48, { ok := true, desc := (TypeDesc.func #[29, 29] #[4] false), size := 1, bytes := 8, isAgg := false, zero := (.v .nilFunc), flds := [], elem := 0 }),
  (50, { ok := true, desc := (TypeDesc.func #[24] #[3, 26] false), size := 1, bytes := 8, isAgg := false, zero := (.v .nilFunc), flds := [], elem := 0 }),
  (52, { ok := true, desc := (TypeDesc.func #[24] #[4, 26] false), size := 1, bytes := 8, isAgg := false, zero := (.v .nilFunc), flds := [], elem := 0 }),
  (53, { ok := true, desc := (TypeDesc.func #[9, 22] #[24] true), size := 1, bytes := 8, isAgg := false, zero := (.v .nilFunc), flds := [], elem := 0 }),
  (54, { ok := true, desc := (TypeDesc.func #[24] #[29] false), size := 1, bytes := 8, isAgg := false, zero := (.v .nilFunc), flds := [], elem := 0 }),
  (55, { ok := true, desc := (TypeDesc.func #[9] #[24] false), size := 1, bytes := 8, isAgg := false, zero := (.v .nilFunc), flds := [], elem := 0 }),
  (56, { ok := true, desc := (TypeDesc.func #[24, 24, 25] #[4] false), size := 1, bytes := 8, isAgg := false, zero := (.v .nilFunc), flds := [], elem := 0 }),
  (57, { ok := true, desc := (TypeDesc.map 9 24), size := 1, bytes := 8, isAgg := false, zero := (.v (.map none)), flds := [], elem := 0 }),
  (58, { ok := true, desc := (TypeDesc.func #[24, 24, 57] #[4] false), size := 1, bytes := 8, isAgg := false, zero := (.v .nilFunc), flds := [], elem := 0 }),
  (59, { ok := true, desc := (TypeDesc.func #[24] #[24] false), size := 1, bytes := 8, isAgg := false, zero := (.v .nilFunc), flds := [], elem := 0 }),
  (60, { ok := true, desc := (TypeDesc.array 2 24), size := 6, bytes := 112, isAgg := true, zero := (.agg [(.str []), (.str []), (.v (.slice none 0 0)), (.str []), (.str []), (.v (.slice none 0 0))]), flds := [], elem := 0 }),
  (61, { ok := true, desc := (TypeDesc.func #[25] #[4] false), size := 1, bytes := 8, isAgg := false, zero := (.v .nilFunc), flds := [], elem := 0 }),
  (62, { ok := true, desc := (TypeDesc.func #[22, 22] #[4] false), size := 1, bytes := 8, isAgg := false, zero := (.v .nilFunc), flds := [], elem := 0 }),
  (63, { ok := true, desc := (TypeDesc.func #[25] #[57] false), size := 1, bytes := 8, isAgg := false, zero := (.v .nilFunc), flds := [], elem := 0 }),
  (64, { ok := true, desc := (TypeDesc.slice 5), size := 1, bytes := 24, isAgg := false, zero := (.v (.slice none 0 0)), flds := [], elem := 5 }),
  (66, { ok := true, desc := (TypeDesc.func #[25, 9] #[24, 4] false), size := 1, bytes := 8, isAgg := false, zero := (.v .nilFunc), flds := [], elem := 0 }),
  (67, { ok := true, desc := (TypeDesc.func #[57, 24] #[24] false), size := 1, bytes := 8, isAgg := false, zero := (.v .nilFunc), flds := [], elem := 0 }),
  (68, { ok := true, desc := (TypeDesc.pointer 72), size := 1, bytes := 8, isAgg := false, zero := (.v (.pointer none)), flds := [], elem := 0 }),
  (69, { ok := true, desc := (TypeDesc.map 9 74), size := 1, bytes := 8, isAgg := false, zero := (.v (.map none)), flds := [], elem := 0 }),
  (70, { ok := true, desc := (TypeDesc.map 74 89), size := 1, bytes := 8, isAgg := false, zero := (.v (.map none)), flds := [], elem := 0 }),
  (71, { ok := true, desc := (TypeDesc.struct #[{ name := "vars", type := 69, offset := 0, embedded := false, tag := "", pkgPath := "virgate/types", byteOffset := 0 }, { name := "sizes", type := 70, offset := 1, embedded := false, tag := "", pkgPath := "virgate/types", byteOffset := 8 }]), size := 2, bytes := 16, isAgg := true, zero := (.agg [(.v (.map none)), (.v (.map none))]), flds := [(0, 1, false), (1, 1, false)], elem := 0 }),
  (72, { ok := true, desc := (TypeDesc.struct #[{ name := "vars", type := 69, offset := 0, embedded := false, tag := "", pkgPath := "virgate/types", byteOffset := 0 }, { name := "sizes", type := 70, offset := 1, embedded := false, tag := "", pkgPath := "virgate/types", byteOffset := 8 }]), size := 2, bytes := 16, isAgg := true, zero := (.agg [(.v (.map none)), (.v (.map none))]), flds := [(0, 1, false), (1, 1, false)], elem := 0 }),
  (73, { ok := true, desc := (TypeDesc.func #[74, 74] #[4] false), size := 1, bytes := 8, isAgg := false, zero := (.v .nilFunc), flds := [], elem := 0 }),
  (74, { ok := true, desc := (TypeDesc.pointer 107), size := 1, bytes := 8, isAgg := false, zero := (.v (.pointer none)), flds := [], elem := 0 }),
  (75, { ok := true, desc := (TypeDesc.func #[24] #[74] false), size := 1, bytes := 8, isAgg := false, zero := (.v .nilFunc), flds := [], elem := 0 }),
  (76, { ok := true, desc := (TypeDesc.func #[] #[25, 26] false), size := 1, bytes := 8, isAgg := false, zero := (.v .nilFunc), flds := [], elem := 0 }),
  (77, { ok := true, desc := (TypeDesc.pointer 115), size := 1, bytes := 8, isAgg := false, zero := (.v (.pointer none)), flds := [], elem := 0 }),
  (78, { ok := true, desc := (TypeDesc.func #[] #[77] false), size := 1, bytes := 8, isAgg := false, zero := (.v .nilFunc), flds := [], elem := 0 }),
  (79, { ok := true, desc := (TypeDesc.func #[24] #[3] false), size := 1, bytes := 8, isAgg := false, zero := (.v .nilFunc), flds := [], elem := 0 }),
  (80, { ok := true, desc := (TypeDesc.func #[3, 3] #[4] false), size := 1, bytes := 8, isAgg := false, zero := (.v .nilFunc), flds := [], elem := 0 }),
  (81, { ok := true, desc := (TypeDesc.func #[3] #[9] false), size := 1, bytes := 8, isAgg := false, zero := (.v .nilFunc), flds := [], elem := 0 }),
  (82, { ok := true, desc := (TypeDesc.func #[24, 9] #[4] false), size := 1, bytes := 8, isAgg := false, zero := (.v .nilFunc), flds := [], elem := 0 }),
  (83, { ok := true, desc := (TypeDesc.func #[24, 29] #[29] false), size := 1, bytes := 8, isAgg := false, zero := (.v .nilFunc), flds := [], elem := 0 }),
  (84, { ok := true, desc := (TypeDesc.func #[24, 85] #[] false), size := 1, bytes := 8, isAgg := false, zero := (.v .nilFunc), flds := [], elem := 0 }),
  (85, { ok := true, desc := (TypeDesc.func #[24] #[] false), size := 1, bytes := 8, isAgg := false, zero := (.v .nilFunc), flds := [], elem := 0 }),
  (86, { ok := true, desc := (TypeDesc.func #[29] #[] false), size := 1, bytes := 8, isAgg := false, zero := (.v .nilFunc), flds := [], elem := 0 }),
  (87, { ok := true, desc := (TypeDesc.func #[29] #[29] false), size := 1, bytes := 8, isAgg := false, zero := (.v .nilFunc), flds := [], elem := 0 }),
  (88, { ok := true, desc := (TypeDesc.struct #[{ name := "Nodes", type := 3, offset := 0, embedded := false, tag := "", pkgPath := "", byteOffset := 0 }, { name := "Deep", type := 3, offset := 1, embedded := false, tag := "", pkgPath := "", byteOffset := 8 }]), size := 2, bytes := 16, isAgg := true, zero := (.agg [(.v (.int IntKind.i64 0)), (.v (.int IntKind.i64 0))]), flds := [(0, 1, false), (1, 1, false)], elem := 0 }),
  (89, { ok := true, desc := (TypeDesc.struct #[{ name := "Nodes", type := 3, offset := 0, embedded := false, tag := "", pkgPath := "", byteOffset := 0 }, { name := "Deep", type := 3, offset := 1, embedded := false, tag := "", pkgPath := "", byteOffset := 8 }]), size := 2, bytes := 16, isAgg := true, zero := (.agg [(.v (.int IntKind.i64 0)), (.v (.int IntKind.i64 0))]), flds := [(0, 1, false), (1, 1, false)], elem := 0 }),
  (90, { ok := true, desc := (TypeDesc.func #[24] #[89] false), size := 1, bytes := 8, isAgg := false, zero := (.v .nilFunc), flds := [], elem := 0 }),
  (92, { ok := true, desc := (TypeDesc.func #[24] #[3, 3] false), size := 1, bytes := 8, isAgg := false, zero := (.v .nilFunc), flds := [], elem := 0 }),
  (93, { ok := true, desc := (TypeDesc.func #[24, 29] #[4, 26] true), size := 1, bytes := 8, isAgg := false, zero := (.v .nilFunc), flds := [], elem := 0 }),
  (95, { ok := true, desc := (TypeDesc.func #[24, 24, 25] #[25, 4] false), size := 1, bytes := 8, isAgg := false, zero := (.v .nilFunc), flds := [], elem := 0 }),
  (96, { ok := true, desc := (TypeDesc.func #[97, 99] #[4] false), size := 1, bytes := 8, isAgg := false, zero := (.v .nilFunc), flds := [], elem := 0 }),
  (97, { ok := true, desc := (TypeDesc.slice 3), size := 1, bytes := 24, isAgg := false, zero := (.v (.slice none 0 0)), flds := [], elem := 3 }),
  (98, { ok := true, desc := (TypeDesc.func #[22] #[97] false), size := 1, bytes := 8, isAgg := false, zero := (.v .nilFunc), flds := [], elem := 0 }),
  (99, { ok := true, desc := (TypeDesc.func #[3] #[4] false), size := 1, bytes := 8, isAgg := false, zero := (.v .nilFunc), flds := [], elem := 0 }),
  (100, { ok := true, desc := (TypeDesc.func #[9] #[4] false), size := 1, bytes := 8, isAgg := false, zero := (.v .nilFunc), flds := [], elem := 0 }),
  (101, { ok := true, desc := (TypeDesc.map 9 89), size := 1, bytes := 8, isAgg := false, zero := (.v (.map none)), flds := [], elem := 0 }),
  (102, { ok := true, desc := (TypeDesc.func #[101, 24] #[89] false), size := 1, bytes := 8, isAgg := false, zero := (.v .nilFunc), flds := [], elem := 0 }),
  (103, { ok := true, desc := (TypeDesc.func #[29, 9] #[4] false), size := 1, bytes := 8, isAgg := false, zero := (.v .nilFunc), flds := [], elem := 0 }),
  (104, { ok := true, desc := (TypeDesc.func #[] #[74] false), size := 1, bytes := 8, isAgg := false, zero := (.v .nilFunc), flds := [], elem := 0 }),
  (105, { ok := true, desc := (TypeDesc.slice 74), size := 1, bytes := 24, isAgg := false, zero := (.v (.slice none 0 0)), flds := [], elem := 74 }),
  (106, { ok := true, desc := (TypeDesc.struct #[{ name := "do", type := 9, offset := 0, embedded := false, tag := "", pkgPath := "virgate/types", byteOffset := 0 }, { name := "name", type := 9, offset := 1, embedded := false, tag := "", pkgPath := "virgate/types", byteOffset := 16 }, { name := "args", type := 105, offset := 2, embedded := false, tag := "", pkgPath := "virgate/types", byteOffset := 32 }, { name := "link", type := 74, offset := 3, embedded := false, tag := "", pkgPath := "virgate/types", byteOffset := 56 }]), size := 4, bytes := 64, isAgg := true, zero := (.agg [(.str []), (.str []), (.v (.slice none 0 0)), (.v (.pointer none))]), flds := [(0, 1, false), (1, 1, false), (2, 1, false), (3, 1, false)], elem := 0 }),
  (107, { ok := true, desc := (TypeDesc.struct #[{ name := "do", type := 9, offset := 0, embedded := false, tag := "", pkgPath := "virgate/types", byteOffset := 0 }, { name := "name", type := 9, offset := 1, embedded := false, tag := "", pkgPath := "virgate/types", byteOffset := 16 }, { name := "args", type := 105, offset := 2, embedded := false, tag := "", pkgPath := "virgate/types", byteOffset := 32 }, { name := "link", type := 74, offset := 3, embedded := false, tag := "", pkgPath := "virgate/types", byteOffset := 56 }]), size := 4, bytes := 64, isAgg := true, zero := (.agg [(.str []), (.str []), (.v (.slice none 0 0)), (.v (.pointer none))]), flds := [(0, 1, false), (1, 1, false), (2, 1, false), (3, 1, false)], elem := 0 }),
  (109, { ok := true, desc := (TypeDesc.map 74 4), size := 1, bytes := 8, isAgg := false, zero := (.v (.map none)), flds := [], elem := 0 }),
  (110, { ok := true, desc := (TypeDesc.func #[74, 109, 109] #[4] false), size := 1, bytes := 8, isAgg := false, zero := (.v .nilFunc), flds := [], elem := 0 }),
  (111, { ok := true, desc := (TypeDesc.func #[74] #[89] false), size := 1, bytes := 8, isAgg := false, zero := (.v .nilFunc), flds := [], elem := 0 }),
  (112, { ok := true, desc := (TypeDesc.func #[74] #[24] false), size := 1, bytes := 8, isAgg := false, zero := (.v .nilFunc), flds := [], elem := 0 }),
  (113, { ok := true, desc := (TypeDesc.slice 117), size := 1, bytes := 24, isAgg := false, zero := (.v (.slice none 0 0)), flds := [], elem := 117 }),
  (114, { ok := true, desc := (TypeDesc.struct #[{ name := "l", type := 113, offset := 0, embedded := false, tag := "", pkgPath := "virgate/virgateref04", byteOffset := 0 }]), size := 1, bytes := 24, isAgg := true, zero := (.agg [(.v (.slice none 0 0))]), flds := [(0, 1, false)], elem := 0 }),
  (115, { ok := true, desc := (TypeDesc.struct #[{ name := "l", type := 113, offset := 0, embedded := false, tag := "", pkgPath := "virgate/virgateref04", byteOffset := 0 }]), size := 1, bytes := 24, isAgg := true, zero := (.agg [(.v (.slice none 0 0))]), flds := [(0, 1, false)], elem := 0 }),
  (116, { ok := true, desc := (TypeDesc.struct #[{ name := "t", type := 24, offset := 0, embedded := false, tag := "", pkgPath := "virgate/virgateref04", byteOffset := 0 }, { name := "args", type := 97, offset := 3, embedded := false, tag := "", pkgPath := "virgate/virgateref04", byteOffset := 56 }, { name := "to", type := 3, offset := 4, embedded := false, tag := "", pkgPath := "virgate/virgateref04", byteOffset := 80 }]), size := 5, bytes := 88, isAgg := true, zero := (.agg [(.str []), (.str []), (.v (.slice none 0 0)), (.v (.slice none 0 0)), (.v (.int IntKind.i64 0))]), flds := [(0, 3, true), (3, 1, false), (4, 1, false)], elem := 0 }),
  (117, { ok := true, desc := (TypeDesc.struct #[{ name := "t", type := 24, offset := 0, embedded := false, tag := "", pkgPath := "virgate/virgateref04", byteOffset := 0 }, { name := "args", type := 97, offset := 3, embedded := false, tag := "", pkgPath := "virgate/virgateref04", byteOffset := 56 }, { name := "to", type := 3, offset := 4, embedded := false, tag := "", pkgPath := "virgate/virgateref04", byteOffset := 80 }]), size := 5, bytes := 88, isAgg := true, zero := (.agg [(.str []), (.str []), (.v (.slice none 0 0)), (.v (.slice none 0 0)), (.v (.int IntKind.i64 0))]), flds := [(0, 3, true), (3, 1, false), (4, 1, false)], elem := 0 }),
  (118, { ok := true, desc := (TypeDesc.array 2 3), size := 2, bytes := 16, isAgg := true, zero := (.agg [(.v (.int IntKind.i64 0)), (.v (.int IntKind.i64 0))]), flds := [], elem := 0 }),
  (119, { ok := true, desc := (TypeDesc.slice 118), size := 1, bytes := 24, isAgg := false, zero := (.v (.slice none 0 0)), flds := [], elem := 118 }),
  (120, { ok := true, desc := (TypeDesc.func #[3] #[3] false), size := 1, bytes := 8, isAgg := false, zero := (.v .nilFunc), flds := [], elem := 0 }),
  (121, { ok := true, desc := (TypeDesc.slice 124), size := 1, bytes := 24, isAgg := false, zero := (.v (.slice none 0 0)), flds := [], elem := 124 }),
  (122, { ok := true, desc := (TypeDesc.func #[3, 121] #[4] false), size := 1, bytes := 8, isAgg := false, zero := (.v .nilFunc), flds := [], elem := 0 }),
  (123, { ok := true, desc := (TypeDesc.struct #[{ name := "state", type := 3, offset := 0, embedded := false, tag := "", pkgPath := "virgate/virgateref04", byteOffset := 0 }, { name := "nodes", type := 3, offset := 1, embedded := false, tag := "", pkgPath := "virgate/virgateref04", byteOffset := 8 }, { name := "deep", type := 3, offset := 2, embedded := false, tag := "", pkgPath := "virgate/virgateref04", byteOffset := 16 }]), size := 3, bytes := 24, isAgg := true, zero := (.agg [(.v (.int IntKind.i64 0)), (.v (.int IntKind.i64 0)), (.v (.int IntKind.i64 0))]), flds := [(0, 1, false), (1, 1, false), (2, 1, false)], elem := 0 }),
  (124, { ok := true, desc := (TypeDesc.struct #[{ name := "state", type := 3, offset := 0, embedded := false, tag := "", pkgPath := "virgate/virgateref04", byteOffset := 0 }, { name := "nodes", type := 3, offset := 1, embedded := false, tag := "", pkgPath := "virgate/virgateref04", byteOffset := 8 }, { name := "deep", type := 3, offset := 2, embedded := false, tag := "", pkgPath := "virgate/virgateref04", byteOffset := 16 }]), size := 3, bytes := 24, isAgg := true, zero := (.agg [(.v (.int IntKind.i64 0)), (.v (.int IntKind.i64 0)), (.v (.int IntKind.i64 0))]), flds := [(0, 1, false), (1, 1, false), (2, 1, false)], elem := 0 }),
  (125, { ok := true, desc := (TypeDesc.func #[3] #[24] false), size := 1, bytes := 8, isAgg := false, zero := (.v .nilFunc), flds := [], elem := 0 }),
  (126, { ok := true, desc := (TypeDesc.func #[25, 24] #[3, 3] false), size := 1, bytes := 8, isAgg := false, zero := (.v .nilFunc), flds := [], elem := 0 }),
  (127, { ok := true, desc := (TypeDesc.func #[29, 9] #[29] false), size := 1, bytes := 8, isAgg := false, zero := (.v .nilFunc), flds := [], elem := 0 }),
  (128, { ok := true, desc := (TypeDesc.func #[29, 3, 3, 3] #[] false), size := 1, bytes := 8, isAgg := false, zero := (.v .nilFunc), flds := [], elem := 0 }),
  (129, { ok := true, desc := (TypeDesc.func #[130] #[3] false), size := 1, bytes := 8, isAgg := false, zero := (.v .nilFunc), flds := [], elem := 0 }),
  (130, { ok := true, desc := (TypeDesc.int IntKind.u64), size := 1, bytes := 8, isAgg := false, zero := (.v (.int IntKind.u64 0)), flds := [], elem := 0 }),
  (131, { ok := true, desc := (TypeDesc.slice 89), size := 1, bytes := 24, isAgg := false, zero := (.v (.slice none 0 0)), flds := [], elem := 89 }),
  (132, { ok := true, desc := (TypeDesc.func #[131] #[89] true), size := 1, bytes := 8, isAgg := false, zero := (.v .nilFunc), flds := [], elem := 0 }),
  (133, { ok := true, desc := (TypeDesc.func #[3, 3, 3, 3] #[3, 3] false), size := 1, bytes := 8, isAgg := false, zero := (.v .nilFunc), flds := [], elem := 0 }),
  (134, { ok := true, desc := (TypeDesc.func #[9] #[3] false), size := 1, bytes := 8, isAgg := false, zero := (.v .nilFunc), flds := [], elem := 0 }),
  (135, { ok := true, desc := (TypeDesc.func #[22, 35] #[4] false), size := 1, bytes := 8, isAgg := false, zero := (.v .nilFunc), flds := [], elem := 0 }),
  (136, { ok := true, desc := (TypeDesc.func #[22, 22, 38] #[4] false), size := 1, bytes := 8, isAgg := false, zero := (.v .nilFunc), flds := [], elem := 0 }),
  (137, { ok := true, desc := (TypeDesc.func #[97, 99] #[3] false), size := 1, bytes := 8, isAgg := false, zero := (.v .nilFunc), flds := [], elem := 0 }),
  (138, { ok := true, desc := (TypeDesc.func #[140] #[4] false), size := 1, bytes := 8, isAgg := false, zero := (.v .nilFunc), flds := [], elem := 0 }),
  (139, { ok := true, desc := (TypeDesc.struct #[{ name := "Kind", type := 9, offset := 0, embedded := false, tag := "", pkgPath := "", byteOffset := 0 }, { name := "Text", type := 9, offset := 1, embedded := false, tag := "", pkgPath := "", byteOffset := 16 }, { name := "At", type := 3, offset := 2, embedded := false, tag := "", pkgPath := "", byteOffset := 32 }]), size := 3, bytes := 40, isAgg := true, zero := (.agg [(.str []), (.str []), (.v (.int IntKind.i64 0))]), flds := [(0, 1, false), (1, 1, false), (2, 1, false)], elem := 0 }),
  (140, { ok := true, desc := (TypeDesc.struct #[{ name := "Kind", type := 9, offset := 0, embedded := false, tag := "", pkgPath := "", byteOffset := 0 }, { name := "Text", type := 9, offset := 1, embedded := false, tag := "", pkgPath := "", byteOffset := 16 }, { name := "At", type := 3, offset := 2, embedded := false, tag := "", pkgPath := "", byteOffset := 32 }]), size := 3, bytes := 40, isAgg := true, zero := (.agg [(.str []), (.str []), (.v (.int IntKind.i64 0))]), flds := [(0, 1, false), (1, 1, false), (2, 1, false)], elem := 0 }),
  (142, { ok := true, desc := (TypeDesc.func #[29, 9] #[3] false), size := 1, bytes := 8, isAgg := false, zero := (.v .nilFunc), flds := [], elem := 0 }),
  (143, { ok := true, desc := (TypeDesc.func #[105, 144] #[4] false), size := 1, bytes := 8, isAgg := false, zero := (.v .nilFunc), flds := [], elem := 0 }),
  (144, { ok := true, desc := (TypeDesc.func #[74] #[4] false), size := 1, bytes := 8, isAgg := false, zero := (.v .nilFunc), flds := [], elem := 0 }),
  (145, { ok := true, desc := (TypeDesc.func #[29, 3, 3] #[] false), size := 1, bytes := 8, isAgg := false, zero := (.v .nilFunc), flds := [], elem := 0 }),
  (146, { ok := true, desc := (TypeDesc.int IntKind.i64), size := 1, bytes := 8, isAgg := false, zero := (.v (.int IntKind.i64 0)), flds := [], elem := 0 }),
  (148, { ok := true, desc := (TypeDesc.func #[29, 3, 3] #[3, 146] false), size := 1, bytes := 8, isAgg := false, zero := (.v .nilFunc), flds := [], elem := 0 }),
  (149, { ok := true, desc := (TypeDesc.func #[29, 3, 3] #[4] false), size := 1, bytes := 8, isAgg := false, zero := (.v .nilFunc), flds := [], elem := 0 }),
  (150, { ok := true, desc := (TypeDesc.func #[9, 9] #[4] false), size := 1, bytes := 8, isAgg := false, zero := (.v .nilFunc), flds := [], elem := 0 }),
  (151, { ok := true, desc := (TypeDesc.func #[29, 3, 3, 3] #[3] false), size := 1, bytes := 8, isAgg := false, zero := (.v .nilFunc), flds := [], elem := 0 }),
  (153, { ok := true, desc := (TypeDesc.func #[29, 3, 3, 3] #[3, 4] false), size := 1, bytes := 8, isAgg := false, zero := (.v .nilFunc), flds := [], elem := 0 }),
  (154, { ok := true, desc := (TypeDesc.func #[155] #[3] false), size := 1, bytes := 8, isAgg := false, zero := (.v .nilFunc), flds := [], elem := 0 }),
  (155, { ok := true, desc := (TypeDesc.int IntKind.u32), size := 1, bytes := 4, isAgg := false, zero := (.v (.int IntKind.u32 0)), flds := [], elem := 0 }),
  (156, { ok := true, desc := (TypeDesc.func #[157] #[3] false), size := 1, bytes := 8, isAgg := false, zero := (.v .nilFunc), flds := [], elem := 0 }),
  (157, { ok := true, desc := (TypeDesc.int IntKind.u64), size := 1, bytes := 8, isAgg := false, zero := (.v (.int IntKind.u64 0)), flds := [], elem := 0 }),
  (158, { ok := true, desc := (TypeDesc.func #[22, 35] #[3] false), size := 1, bytes := 8, isAgg := false, zero := (.v .nilFunc), flds := [], elem := 0 }),
  (160, { ok := true, desc := (TypeDesc.func #[9] #[3, 9] false), size := 1, bytes := 8, isAgg := false, zero := (.v .nilFunc), flds := [], elem := 0 }),
  (161, { ok := true, desc := (TypeDesc.func #[9] #[3, 4] false), size := 1, bytes := 8, isAgg := false, zero := (.v .nilFunc), flds := [], elem := 0 }),
  (162, { ok := true, desc := (TypeDesc.func #[5, 5, 5] #[4] false), size := 1, bytes := 8, isAgg := false, zero := (.v .nilFunc), flds := [], elem := 0 }),
  (163, { ok := true, desc := (TypeDesc.func #[9] #[29] false), size := 1, bytes := 8, isAgg := false, zero := (.v .nilFunc), flds := [], elem := 0 }),
  (164, { ok := true, desc := (TypeDesc.func #[105, 144] #[3] false), size := 1, bytes := 8, isAgg := false, zero := (.v .nilFunc), flds := [], elem := 0 }),
  (165, { ok := true, desc := (TypeDesc.int IntKind.u64), size := 1, bytes := 8, isAgg := false, zero := (.v (.int IntKind.u64 0)), flds := [], elem := 0 }),
  (166, { ok := true, desc := (TypeDesc.func #[3] #[130] false), size := 1, bytes := 8, isAgg := false, zero := (.v .nilFunc), flds := [], elem := 0 }),
  (167, { ok := true, desc := (TypeDesc.func #[] #[157] false), size := 1, bytes := 8, isAgg := false, zero := (.v .nilFunc), flds := [], elem := 0 }),
  (168, { ok := true, desc := (TypeDesc.func #[29, 3, 169] #[3] false), size := 1, bytes := 8, isAgg := false, zero := (.v .nilFunc), flds := [], elem := 0 }),
  (169, { ok := true, desc := (TypeDesc.pointer 3), size := 1, bytes := 8, isAgg := false, zero := (.v (.pointer none)), flds := [], elem := 0 }),
  (170, { ok := true, desc := (TypeDesc.func #[29, 3, 3, 3, 169] #[3] false), size := 1, bytes := 8, isAgg := false, zero := (.v .nilFunc), flds := [], elem := 0 }),
  (171, { ok := true, desc := (TypeDesc.interface #[("Error", 243)]), size := 1, bytes := 16, isAgg := false, zero := (.v .nilIface), flds := [], elem := 0 }),
  (172, { ok := true, desc := (TypeDesc.interface #[("Error", 243)]), size := 1, bytes := 16, isAgg := false, zero := (.v .nilIface), flds := [], elem := 0 }),
  (174, { ok := true, desc := (TypeDesc.func #[9, 3, 3] #[2, 172] false), size := 1, bytes := 8, isAgg := false, zero := (.v .nilFunc), flds := [], elem := 0 }),
  (175, { ok := true, desc := (TypeDesc.array 256 5), size := 256, bytes := 256, isAgg := true, zero := (.agg (List.replicate 256 (.v (.int IntKind.u8 0)))), flds := [], elem := 0 }),
  (176, { ok := true, desc := (TypeDesc.func #[9, 177] #[29] false), size := 1, bytes := 8, isAgg := false, zero := (.v .nilFunc), flds := [], elem := 0 }),
  (177, { ok := true, desc := (TypeDesc.func #[21] #[4] false), size := 1, bytes := 8, isAgg := false, zero := (.v .nilFunc), flds := [], elem := 0 }),
  (178, { ok := true, desc := (TypeDesc.pointer 165), size := 1, bytes := 8, isAgg := false, zero := (.v (.pointer none)), flds := [], elem := 0 }),
  (179, { ok := true, desc := (TypeDesc.func #[29, 3, 3, 169] #[3, 3] false), size := 1, bytes := 8, isAgg := false, zero := (.v .nilFunc), flds := [], elem := 0 }),
  (181, { ok := true, desc := (TypeDesc.func #[9] #[9, 26] false), size := 1, bytes := 8, isAgg := false, zero := (.v .nilFunc), flds := [], elem := 0 }),
  (183, { ok := true, desc := (TypeDesc.func #[9, 3] #[140, 3] false), size := 1, bytes := 8, isAgg := false, zero := (.v .nilFunc), flds := [], elem := 0 }),
  (184, { ok := true, desc := (TypeDesc.func #[5] #[4] false), size := 1, bytes := 8, isAgg := false, zero := (.v .nilFunc), flds := [], elem := 0 }),
  (185, { ok := true, desc := (TypeDesc.func #[9, 9, 3, 3, 172] #[172] false), size := 1, bytes := 8, isAgg := false, zero := (.v .nilFunc), flds := [], elem := 0 }),
  (186, { ok := true, desc := (TypeDesc.slice 188), size := 1, bytes := 24, isAgg := false, zero := (.v (.slice none 0 0)), flds := [], elem := 188 }),
  (187, { ok := true, desc := (TypeDesc.struct #[{ name := "start", type := 3, offset := 0, embedded := false, tag := "", pkgPath := "strings", byteOffset := 0 }, { name := "end", type := 3, offset := 1, embedded := false, tag := "", pkgPath := "strings", byteOffset := 8 }]), size := 2, bytes := 16, isAgg := true, zero := (.agg [(.v (.int IntKind.i64 0)), (.v (.int IntKind.i64 0))]), flds := [(0, 1, false), (1, 1, false)], elem := 0 }),
  (188, { ok := true, desc := (TypeDesc.struct #[{ name := "start", type := 3, offset := 0, embedded := false, tag := "", pkgPath := "strings", byteOffset := 0 }, { name := "end", type := 3, offset := 1, embedded := false, tag := "", pkgPath := "strings", byteOffset := 8 }]), size := 2, bytes := 16, isAgg := true, zero := (.agg [(.v (.int IntKind.i64 0)), (.v (.int IntKind.i64 0))]), flds := [(0, 1, false), (1, 1, false)], elem := 0 }),
  (189, { ok := true, desc := (TypeDesc.func #[190, 21] #[4] false), size := 1, bytes := 8, isAgg := false, zero := (.v .nilFunc), flds := [], elem := 0 }),
  (190, { ok := true, desc := (TypeDesc.pointer 202), size := 1, bytes := 8, isAgg := false, zero := (.v (.pointer none)), flds := [], elem := 0 }),
  (191, { ok := true, desc := (TypeDesc.func #[9, 3] #[3, 9] false), size := 1, bytes := 8, isAgg := false, zero := (.v .nilFunc), flds := [], elem := 0 }),
  (192, { ok := true, desc := (TypeDesc.func #[9, 3] #[3] false), size := 1, bytes := 8, isAgg := false, zero := (.v .nilFunc), flds := [], elem := 0 }),
  (193, { ok := true, desc := (TypeDesc.int IntKind.i64), size := 1, bytes := 8, isAgg := false, zero := (.v (.int IntKind.i64 0)), flds := [], elem := 0 }),
  (195, { ok := true, desc := (TypeDesc.func #[9, 3, 3] #[157, 172] false), size := 1, bytes := 8, isAgg := false, zero := (.v .nilFunc), flds := [], elem := 0 }),
  (196, { ok := true, desc := (TypeDesc.pointer 214), size := 1, bytes := 8, isAgg := false, zero := (.v (.pointer none)), flds := [], elem := 0 }),
  (197, { ok := true, desc := (TypeDesc.func #[9, 9] #[196] false), size := 1, bytes := 8, isAgg := false, zero := (.v .nilFunc), flds := [], elem := 0 }),
  (198, { ok := true, desc := (TypeDesc.func #[9, 9, 3] #[196] false), size := 1, bytes := 8, isAgg := false, zero := (.v .nilFunc), flds := [], elem := 0 }),
  (199, { ok := true, desc := (TypeDesc.slice 205), size := 1, bytes := 24, isAgg := false, zero := (.v (.slice none 0 0)), flds := [], elem := 205 }),
  (200, { ok := true, desc := (TypeDesc.slice 208), size := 1, bytes := 24, isAgg := false, zero := (.v (.slice none 0 0)), flds := [], elem := 208 }),
  (201, { ok := true, desc := (TypeDesc.struct #[{ name := "R16", type := 199, offset := 0, embedded := false, tag := "", pkgPath := "", byteOffset := 0 }, { name := "R32", type := 200, offset := 1, embedded := false, tag := "", pkgPath := "", byteOffset := 24 }, { name := "LatinOffset", type := 3, offset := 2, embedded := false, tag := "", pkgPath := "", byteOffset := 48 }]), size := 3, bytes := 56, isAgg := true, zero := (.agg [(.v (.slice none 0 0)), (.v (.slice none 0 0)), (.v (.int IntKind.i64 0))]), flds := [(0, 1, false), (1, 1, false), (2, 1, false)], elem := 0 }),
  (202, { ok := true, desc := (TypeDesc.struct #[{ name := "R16", type := 199, offset := 0, embedded := false, tag := "", pkgPath := "", byteOffset := 0 }, { name := "R32", type := 200, offset := 1, embedded := false, tag := "", pkgPath := "", byteOffset := 24 }, { name := "LatinOffset", type := 3, offset := 2, embedded := false, tag := "", pkgPath := "", byteOffset := 48 }]), size := 3, bytes := 56, isAgg := true, zero := (.agg [(.v (.slice none 0 0)), (.v (.slice none 0 0)), (.v (.int IntKind.i64 0))]), flds := [(0, 1, false), (1, 1, false), (2, 1, false)], elem := 0 }),
  (203, { ok := true, desc := (TypeDesc.int IntKind.u16), size := 1, bytes := 2, isAgg := false, zero := (.v (.int IntKind.u16 0)), flds := [], elem := 0 }),
  (204, { ok := true, desc := (TypeDesc.struct #[{ name := "Lo", type := 203, offset := 0, embedded := false, tag := "", pkgPath := "", byteOffset := 0 }, { name := "Hi", type := 203, offset := 1, embedded := false, tag := "", pkgPath := "", byteOffset := 2 }, { name := "Stride", type := 203, offset := 2, embedded := false, tag := "", pkgPath := "", byteOffset := 4 }]), size := 3, bytes := 6, isAgg := true, zero := (.agg [(.v (.int IntKind.u16 0)), (.v (.int IntKind.u16 0)), (.v (.int IntKind.u16 0))]), flds := [(0, 1, false), (1, 1, false), (2, 1, false)], elem := 0 }),
  (205, { ok := true, desc := (TypeDesc.struct #[{ name := "Lo", type := 203, offset := 0, embedded := false, tag := "", pkgPath := "", byteOffset := 0 }, { name := "Hi", type := 203, offset := 1, embedded := false, tag := "", pkgPath := "", byteOffset := 2 }, { name := "Stride", type := 203, offset := 2, embedded := false, tag := "", pkgPath := "", byteOffset := 4 }]), size := 3, bytes := 6, isAgg := true, zero := (.agg [(.v (.int IntKind.u16 0)), (.v (.int IntKind.u16 0)), (.v (.int IntKind.u16 0))]), flds := [(0, 1, false), (1, 1, false), (2, 1, false)], elem := 0 }),
  (206, { ok := true, desc := (TypeDesc.func #[199, 203] #[4] false), size := 1, bytes := 8, isAgg := false, zero := (.v .nilFunc), flds := [], elem := 0 }),
  (207, { ok := true, desc := (TypeDesc.struct #[{ name := "Lo", type := 155, offset := 0, embedded := false, tag := "", pkgPath := "", byteOffset := 0 }, { name := "Hi", type := 155, offset := 1, embedded := false, tag := "", pkgPath := "", byteOffset := 4 }, { name := "Stride", type := 155, offset := 2, embedded := false, tag := "", pkgPath := "", byteOffset := 8 }]), size := 3, bytes := 12, isAgg := true, zero := (.agg [(.v (.int IntKind.u32 0)), (.v (.int IntKind.u32 0)), (.v (.int IntKind.u32 0))]), flds := [(0, 1, false), (1, 1, false), (2, 1, false)], elem := 0 }),
  (208, { ok := true, desc := (TypeDesc.struct #[{ name := "Lo", type := 155, offset := 0, embedded := false, tag := "", pkgPath := "", byteOffset := 0 }, { name := "Hi", type := 155, offset := 1, embedded := false, tag := "", pkgPath := "", byteOffset := 4 }, { name := "Stride", type := 155, offset := 2, embedded := false, tag := "", pkgPath := "", byteOffset := 8 }]), size := 3, bytes := 12, isAgg := true, zero := (.agg [(.v (.int IntKind.u32 0)), (.v (.int IntKind.u32 0)), (.v (.int IntKind.u32 0))]), flds := [(0, 1, false), (1, 1, false), (2, 1, false)], elem := 0 }),
  (209, { ok := true, desc := (TypeDesc.func #[200, 155] #[4] false), size := 1, bytes := 8, isAgg := false, zero := (.v .nilFunc), flds := [], elem := 0 }),
  (210, { ok := true, desc := (TypeDesc.func #[9, 5] #[3] false), size := 1, bytes := 8, isAgg := false, zero := (.v .nilFunc), flds := [], elem := 0 }),
  (211, { ok := true, desc := (TypeDesc.func #[5] #[5] false), size := 1, bytes := 8, isAgg := false, zero := (.v .nilFunc), flds := [], elem := 0 }),
  (212, { ok := true, desc := (TypeDesc.func #[9] #[9] false), size := 1, bytes := 8, isAgg := false, zero := (.v .nilFunc), flds := [], elem := 0 }),
  (213, { ok := true, desc := (TypeDesc.struct #[{ name := "Func", type := 9, offset := 0, embedded := false, tag := "", pkgPath := "", byteOffset := 0 }, { name := "Num", type := 9, offset := 1, embedded := false, tag := "", pkgPath := "", byteOffset := 16 }, { name := "Err", type := 172, offset := 2, embedded := false, tag := "", pkgPath := "", byteOffset := 32 }]), size := 3, bytes := 48, isAgg := true, zero := (.agg [(.str []), (.str []), (.v .nilIface)]), flds := [(0, 1, false), (1, 1, false), (2, 1, false)], elem := 0 }),
  (214, { ok := true, desc := (TypeDesc.struct #[{ name := "Func", type := 9, offset := 0, embedded := false, tag := "", pkgPath := "", byteOffset := 0 }, { name := "Num", type := 9, offset := 1, embedded := false, tag := "", pkgPath := "", byteOffset := 16 }, { name := "Err", type := 172, offset := 2, embedded := false, tag := "", pkgPath := "", byteOffset := 32 }]), size := 3, bytes := 48, isAgg := true, zero := (.agg [(.str []), (.str []), (.v .nilIface)]), flds := [(0, 1, false), (1, 1, false), (2, 1, false)], elem := 0 }),
  (215, { ok := true, desc := (TypeDesc.func #[9] #[172] false), size := 1, bytes := 8, isAgg := false, zero := (.v .nilFunc), flds := [], elem := 0 }),
  (216, { ok := true, desc := (TypeDesc.pointer 205), size := 1, bytes := 8, isAgg := false, zero := (.v (.pointer none)), flds := [], elem := 0 }),
  (217, { ok := true, desc := (TypeDesc.pointer 208), size := 1, bytes := 8, isAgg := false, zero := (.v (.pointer none)), flds := [], elem := 0 }),
  (218, { ok := true, desc := (TypeDesc.func #[9, 9] #[29] false), size := 1, bytes := 8, isAgg := false, zero := (.v .nilFunc), flds := [], elem := 0 }),
  (219, { ok := true, desc := (TypeDesc.pointer 5), size := 1, bytes := 8, isAgg := false, zero := (.v (.pointer none)), flds := [], elem := 0 }),
  (220, { ok := true, desc := (TypeDesc.pointer 222), size := 1, bytes := 8, isAgg := false, zero := (.v (.pointer none)), flds := [], elem := 0 }),
  (221, { ok := true, desc := (TypeDesc.struct #[{ name := "s", type := 9, offset := 0, embedded := false, tag := "", pkgPath := "errors", byteOffset := 0 }]), size := 1, bytes := 16, isAgg := true, zero := (.agg [(.str [])]), flds := [(0, 1, false)], elem := 0 }),
  (222, { ok := true, desc := (TypeDesc.struct #[{ name := "s", type := 9, offset := 0, embedded := false, tag := "", pkgPath := "errors", byteOffset := 0 }]), size := 1, bytes := 16, isAgg := true, zero := (.agg [(.str [])]), flds := [(0, 1, false)], elem := 0 }),
  (223, { ok := true, desc := (TypeDesc.func #[9, 9, 3, 3] #[29] false), size := 1, bytes := 8, isAgg := false, zero := (.v .nilFunc), flds := [], elem := 0 }),
  (224, { ok := true, desc := (TypeDesc.func #[2, 3] #[9] false), size := 1, bytes := 8, isAgg := false, zero := (.v .nilFunc), flds := [], elem := 0 }),
  (225, { ok := true, desc := (TypeDesc.func #[9, 3] #[29] false), size := 1, bytes := 8, isAgg := false, zero := (.v .nilFunc), flds := [], elem := 0 }),
  (226, { ok := true, desc := (TypeDesc.func #[9, 9] #[3] false), size := 1, bytes := 8, isAgg := false, zero := (.v .nilFunc), flds := [], elem := 0 }),
  (227, { ok := true, desc := (TypeDesc.array 24 5), size := 24, bytes := 24, isAgg := true, zero := (.agg (List.replicate 24 (.v (.int IntKind.u8 0)))), flds := [], elem := 0 }),
  (228, { ok := true, desc := (TypeDesc.func #[64, 157] #[] false), size := 1, bytes := 8, isAgg := false, zero := (.v .nilFunc), flds := [], elem := 0 }),
  (230, { ok := true, desc := (TypeDesc.func #[64, 157, 3, 4, 4] #[64, 9] false), size := 1, bytes := 8, isAgg := false, zero := (.v .nilFunc), flds := [], elem := 0 }),
  (232, { ok := true, desc := (TypeDesc.func #[9] #[21, 3] false), size := 1, bytes := 8, isAgg := false, zero := (.v .nilFunc), flds := [], elem := 0 }),
  (233, { ok := true, desc := (TypeDesc.func #[4] #[3] false), size := 1, bytes := 8, isAgg := false, zero := (.v .nilFunc), flds := [], elem := 0 }),
  (234, { ok := true, desc := (TypeDesc.array 20 157), size := 20, bytes := 160, isAgg := true, zero := (.agg [(.v (.int IntKind.u64 0)), (.v (.int IntKind.u64 0)), (.v (.int IntKind.u64 0)), (.v (.int IntKind.u64 0)), (.v (.int IntKind.u64 0)), (.v (.int IntKind.u64 0)), (.v (.int IntKind.u64 0)), (.v (.int IntKind.u64 0)), (.v (.int IntKind.u64 0)), (.v (.int IntKind.u64 0)), (.v (.int IntKind.u64 0)), (.v (.int IntKind.u64 0)), (.v (.int IntKind.u64 0)), (.v (.int IntKind.u64 0)), (.v (.int IntKind.u64 0)), (.v (.int IntKind.u64 0)), (.v (.int IntKind.u64 0)), (.v (.int IntKind.u64 0)), (.v (.int IntKind.u64 0)), (.v (.int IntKind.u64 0))]), flds := [], elem := 0 }),
  (235, { ok := true, desc := (TypeDesc.array 65 5), size := 65, bytes := 65, isAgg := true, zero := (.agg (List.replicate 65 (.v (.int IntKind.u8 0)))), flds := [], elem := 0 }),
  (236, { ok := true, desc := (TypeDesc.struct #[{ name := "lo", type := 5, offset := 0, embedded := false, tag := "", pkgPath := "unicode/utf8", byteOffset := 0 }, { name := "hi", type := 5, offset := 1, embedded := false, tag := "", pkgPath := "unicode/utf8", byteOffset := 1 }]), size := 2, bytes := 2, isAgg := true, zero := (.agg [(.v (.int IntKind.u8 0)), (.v (.int IntKind.u8 0))]), flds := [(0, 1, false), (1, 1, false)], elem := 0 }),
  (237, { ok := true, desc := (TypeDesc.struct #[{ name := "lo", type := 5, offset := 0, embedded := false, tag := "", pkgPath := "unicode/utf8", byteOffset := 0 }, { name := "hi", type := 5, offset := 1, embedded := false, tag := "", pkgPath := "unicode/utf8", byteOffset := 1 }]), size := 2, bytes := 2, isAgg := true, zero := (.agg [(.v (.int IntKind.u8 0)), (.v (.int IntKind.u8 0))]), flds := [(0, 1, false), (1, 1, false)], elem := 0 }),
  (238, { ok := true, desc := (TypeDesc.array 16 237), size := 32, bytes := 32, isAgg := true, zero := (.agg (List.replicate 32 (.v (.int IntKind.u8 0)))), flds := [], elem := 0 }),
  (240, { ok := true, desc := (TypeDesc.func #[9] #[155, 155] false), size := 1, bytes := 8, isAgg := false, zero := (.v .nilFunc), flds := [], elem := 0 }),
  (241, { ok := true, desc := (TypeDesc.array 32 5), size := 32, bytes := 32, isAgg := true, zero := (.agg (List.replicate 32 (.v (.int IntKind.u8 0)))), flds := [], elem := 0 }),
  (242, { ok := true, desc := (TypeDesc.array 64 5), size := 64, bytes := 64, isAgg := true, zero := (.agg (List.replicate 64 (.v (.int IntKind.u8 0)))), flds := [], elem := 0 }),
  (243, { ok := true, desc := (TypeDesc.func #[] #[9] false), size := 1, bytes := 8, isAgg := false, zero := (.v .nilFunc), flds := [], elem := 0 }),
  (244, { ok := true, desc := (TypeDesc.struct #[{ name := "_interface", type := 17, offset := 0, embedded := false, tag := "", pkgPath := "runtime", byteOffset := 0 }, { name := "concrete", type := 17, offset := 1, embedded := false, tag := "", pkgPath := "runtime", byteOffset := 8 }, { name := "asserted", type := 17, offset := 2, embedded := false, tag := "", pkgPath := "runtime", byteOffset := 16 }, { name := "missingMethod", type := 9, offset := 3, embedded := false, tag := "", pkgPath := "runtime", byteOffset := 24 }]), size := 4, bytes := 40, isAgg := true, zero := (.agg [(.v (.pointer none)), (.v (.pointer none)), (.v (.pointer none)), (.str [])]), flds := [(0, 1, false), (1, 1, false), (2, 1, false), (3, 1, false)], elem := 0 }),
  (245, { ok := true, desc := (TypeDesc.struct #[{ name := "_interface", type := 17, offset := 0, embedded := false, tag := "", pkgPath := "runtime", byteOffset := 0 }, { name := "concrete", type := 17, offset := 1, embedded := false, tag := "", pkgPath := "runtime", byteOffset := 8 }, { name := "asserted", type := 17, offset := 2, embedded := false, tag := "", pkgPath := "runtime", byteOffset := 16 }, { name := "missingMethod", type := 9, offset := 3, embedded := false, tag := "", pkgPath := "runtime", byteOffset := 24 }]), size := 4, bytes := 40, isAgg := true, zero := (.agg [(.v (.pointer none)), (.v (.pointer none)), (.v (.pointer none)), (.str [])]), flds := [(0, 1, false), (1, 1, false), (2, 1, false), (3, 1, false)], elem := 0 }),
  (249, { ok := true, desc := (TypeDesc.func #[] #[3] false), size := 1, bytes := 8, isAgg := false, zero := (.v .nilFunc), flds := [], elem := 0 }),
  (250, { ok := true, desc := (TypeDesc.int IntKind.u8), size := 1, bytes := 1, isAgg := false, zero := (.v (.int IntKind.u8 0)), flds := [], elem := 0 }),
  (251, { ok := true, desc := (TypeDesc.int IntKind.u8), size := 1, bytes := 1, isAgg := false, zero := (.v (.int IntKind.u8 0)), flds := [], elem := 0 }),
  (252, { ok := true, desc := (TypeDesc.func #[257, 257] #[4] false), size := 1, bytes := 8, isAgg := false, zero := (.v .nilFunc), flds := [], elem := 0 }),
  (253, { ok := true, desc := (TypeDesc.int IntKind.i32), size := 1, bytes := 4, isAgg := false, zero := (.v (.int IntKind.i32 0)), flds := [], elem := 0 }),
  (254, { ok := true, desc := (TypeDesc.int IntKind.i32), size := 1, bytes := 4, isAgg := false, zero := (.v (.int IntKind.i32 0)), flds := [], elem := 0 }),
  (255, { ok := true, desc := (TypeDesc.struct #[{ name := "Size_", type := 12, offset := 0, embedded := false, tag := "", pkgPath := "", byteOffset := 0 }, { name := "PtrBytes", type := 12, offset := 1, embedded := false, tag := "", pkgPath := "", byteOffset := 8 }, { name := "Hash", type := 155, offset := 2, embedded := false, tag := "", pkgPath := "", byteOffset := 16 }, { name := "TFlag", type := 250, offset := 3, embedded := false, tag := "", pkgPath := "", byteOffset := 20 }, { name := "Align_", type := 5, offset := 4, embedded := false, tag := "", pkgPath := "", byteOffset := 21 }, { name := "FieldAlign_", type := 5, offset := 5, embedded := false, tag := "", pkgPath := "", byteOffset := 22 }, { name := "Kind_", type := 251, offset := 6, embedded := false, tag := "", pkgPath := "", byteOffset := 23 }, { name := "Equal", type := 252, offset := 7, embedded := false, tag := "", pkgPath := "", byteOffset := 24 }, { name := "GCData", type := 219, offset := 8, embedded := false, tag := "", pkgPath := "", byteOffset := 32 }, { name := "Str", type := 253, offset := 9, embedded := false, tag := "", pkgPath := "", byteOffset := 40 }, { name := "PtrToThis", type := 254, offset := 10, embedded := false, tag := "", pkgPath := "", byteOffset := 44 }]), size := 11, bytes := 48, isAgg := true, zero := (.agg [(.v (.int IntKind.u64 0)), (.v (.int IntKind.u64 0)), (.v (.int IntKind.u32 0)), (.v (.int IntKind.u8 0)), (.v (.int IntKind.u8 0)), (.v (.int IntKind.u8 0)), (.v (.int IntKind.u8 0)), (.v .nilFunc), (.v (.pointer none)), (.v (.int IntKind.i32 0)), (.v (.int IntKind.i32 0))]), flds := [(0, 1, false), (1, 1, false), (2, 1, false), (3, 1, false), (4, 1, false), (5, 1, false), (6, 1, false), (7, 1, false), (8, 1, false), (9, 1, false), (10, 1, false)], elem := 0 }),
  (256, { ok := true, desc := (TypeDesc.struct #[{ name := "Size_", type := 12, offset := 0, embedded := false, tag := "", pkgPath := "", byteOffset := 0 }, { name := "PtrBytes", type := 12, offset := 1, embedded := false, tag := "", pkgPath := "", byteOffset := 8 }, { name := "Hash", type := 155, offset := 2, embedded := false, tag := "", pkgPath := "", byteOffset := 16 }, { name := "TFlag", type := 250, offset := 3, embedded := false, tag := "", pkgPath := "", byteOffset := 20 }, { name := "Align_", type := 5, offset := 4, embedded := false, tag := "", pkgPath := "", byteOffset := 21 }, { name := "FieldAlign_", type := 5, offset := 5, embedded := false, tag := "", pkgPath := "", byteOffset := 22 }, { name := "Kind_", type := 251, offset := 6, embedded := false, tag := "", pkgPath := "", byteOffset := 23 }, { name := "Equal", type := 252, offset := 7, embedded := false, tag := "", pkgPath := "", byteOffset := 24 }, { name := "GCData", type := 219, offset := 8, embedded := false, tag := "", pkgPath := "", byteOffset := 32 }, { name := "Str", type := 253, offset := 9, embedded := false, tag := "", pkgPath := "", byteOffset := 40 }, { name := "PtrToThis", type := 254, offset := 10, embedded := false, tag := "", pkgPath := "", byteOffset := 44 }]), size := 11, bytes := 48, isAgg := true, zero := (.agg [(.v (.int IntKind.u64 0)), (.v (.int IntKind.u64 0)), (.v (.int IntKind.u32 0)), (.v (.int IntKind.u8 0)), (.v (.int IntKind.u8 0)), (.v (.int IntKind.u8 0)), (.v (.int IntKind.u8 0)), (.v .nilFunc), (.v (.pointer none)), (.v (.int IntKind.i32 0)), (.v (.int IntKind.i32 0))]), flds := [(0, 1, false), (1, 1, false), (2, 1, false), (3, 1, false), (4, 1, false), (5, 1, false), (6, 1, false), (7, 1, false), (8, 1, false), (9, 1, false), (10, 1, false)], elem := 0 }),
  (257, { ok := true, desc := TypeDesc.unsafePointer, size := 1, bytes := 8, isAgg := false, zero := (.v (.pointer none)), flds := [], elem := 0 })]
def tab (t : Nat) : TI := tabOf tabL t
theorem tab_1 : tab 1 = { ok := true, desc := (TypeDesc.func #[] #[] false), size := 1, bytes := 8, isAgg := false, zero := (.v .nilFunc), flds := [], elem := 0 } := by kernel_rfl
theorem tab_2 : tab 2 = { ok := true, desc := (TypeDesc.int IntKind.i64), size := 1, bytes := 8, isAgg := false, zero := (.v (.int IntKind.i64 0)), flds := [], elem := 0 } := by kernel_rfl
theorem tab_3 : tab 3 = { ok := true, desc := (TypeDesc.int IntKind.i64), size := 1, bytes := 8, isAgg := false, zero := (.v (.int IntKind.i64 0)), flds := [], elem := 0 } := by kernel_rfl
theorem tab_4 : tab 4 = { ok := true, desc := TypeDesc.bool, size := 1, bytes := 1, isAgg := false, zero := (.v (.bool false)), flds := [], elem := 0 } := by kernel_rfl
theorem tab_5 : tab 5 = { ok := true, desc := (TypeDesc.int IntKind.u8), size := 1, bytes := 1, isAgg := false, zero := (.v (.int IntKind.u8 0)), flds := [], elem := 0 } := by kernel_rfl
theorem tab_6 : tab 6 = { ok := true, desc := (TypeDesc.int IntKind.u8), size := 1, bytes := 1, isAgg := false, zero := (.v (.int IntKind.u8 0)), flds := [], elem := 0 } := by kernel_rfl
theorem tab_7 : tab 7 = { ok := true, desc := (TypeDesc.struct #[{ name := "x", type := 2, offset := 0, embedded := false, tag := "", pkgPath := "runtime", byteOffset := 0 }, { name := "y", type := 3, offset := 1, embedded := false, tag := "", pkgPath := "runtime", byteOffset := 8 }, { name := "signed", type := 4, offset := 2, embedded := false, tag := "", pkgPath := "runtime", byteOffset := 16 }, { name := "code", type := 6, offset := 3, embedded := false, tag := "", pkgPath := "runtime", byteOffset := 17 }]), size := 4, bytes := 24, isAgg := true, zero := (.agg [(.v (.int IntKind.i64 0)), (.v (.int IntKind.i64 0)), (.v (.bool false)), (.v (.int IntKind.u8 0))]), flds := [(0, 1, false), (1, 1, false), (2, 1, false), (3, 1, false)], elem := 0 } := by kernel_rfl
theorem tab_8 : tab 8 = { ok := true, desc := (TypeDesc.struct #[{ name := "x", type := 2, offset := 0, embedded := false, tag := "", pkgPath := "runtime", byteOffset := 0 }, { name := "y", type := 3, offset := 1, embedded := false, tag := "", pkgPath := "runtime", byteOffset := 8 }, { name := "signed", type := 4, offset := 2, embedded := false, tag := "", pkgPath := "runtime", byteOffset := 16 }, { name := "code", type := 6, offset := 3, embedded := false, tag := "", pkgPath := "runtime", byteOffset := 17 }]), size := 4, bytes := 24, isAgg := true, zero := (.agg [(.v (.int IntKind.i64 0)), (.v (.int IntKind.i64 0)), (.v (.bool false)), (.v (.int IntKind.u8 0))]), flds := [(0, 1, false), (1, 1, false), (2, 1, false), (3, 1, false)], elem := 0 } := by kernel_rfl
theorem tab_9 : tab 9 = { ok := true, desc := TypeDesc.string, size := 1, bytes := 16, isAgg := false, zero := (.str []), flds := [], elem := 0 } := by kernel_rfl
theorem tab_10 : tab 10 = { ok := true, desc := TypeDesc.string, size := 1, bytes := 16, isAgg := false, zero := (.str []), flds := [], elem := 0 } := by kernel_rfl
theorem tab_11 : tab 11 = { ok := true, desc := TypeDesc.string, size := 1, bytes := 16, isAgg := false, zero := (.str []), flds := [], elem := 0 } := by kernel_rfl
theorem tab_12 : tab 12 = { ok := true, desc := (TypeDesc.int IntKind.u64), size := 1, bytes := 8, isAgg := false, zero := (.v (.int IntKind.u64 0)), flds := [], elem := 0 } := by kernel_rfl
theorem tab_13 : tab 13 = { ok := true, desc := (TypeDesc.struct #[{ name := "msg", type := 9, offset := 0, embedded := false, tag := "", pkgPath := "runtime", byteOffset := 0 }, { name := "addr", type := 12, offset := 1, embedded := false, tag := "", pkgPath := "runtime", byteOffset := 16 }]), size := 2, bytes := 24, isAgg := true, zero := (.agg [(.str []), (.v (.int IntKind.u64 0))]), flds := [(0, 1, false), (1, 1, false)], elem := 0 } := by kernel_rfl
theorem tab_14 : tab 14 = { ok := true, desc := (TypeDesc.struct #[{ name := "msg", type := 9, offset := 0, embedded := false, tag := "", pkgPath := "runtime", byteOffset := 0 }, { name := "addr", type := 12, offset := 1, embedded := false, tag := "", pkgPath := "runtime", byteOffset := 16 }]), size := 2, bytes := 24, isAgg := true, zero := (.agg [(.str []), (.v (.int IntKind.u64 0))]), flds := [(0, 1, false), (1, 1, false)], elem := 0 } := by kernel_rfl
theorem tab_15 : tab 15 = { ok := true, desc := (TypeDesc.pointer 245), size := 1, bytes := 8, isAgg := false, zero := (.v (.pointer none)), flds := [], elem := 0 } := by kernel_rfl
theorem tab_16 : tab 16 = { ok := true, desc := (TypeDesc.pointer 248), size := 1, bytes := 8, isAgg := false, zero := (.v (.pointer none)), flds := [], elem := 0 } := by kernel_rfl
theorem tab_17 : tab 17 = { ok := true, desc := (TypeDesc.pointer 256), size := 1, bytes := 8, isAgg := false, zero := (.v (.pointer none)), flds := [], elem := 0 } := by kernel_rfl
theorem tab_18 : tab 18 = { ok := true, desc := (TypeDesc.struct #[{ name := "typ", type := 17, offset := 0, embedded := false, tag := "", pkgPath := "internal/runtime/maps", byteOffset := 0 }]), size := 1, bytes := 8, isAgg := true, zero := (.agg [(.v (.pointer none))]), flds := [(0, 1, false)], elem := 0 } := by kernel_rfl
theorem tab_19 : tab 19 = { ok := true, desc := (TypeDesc.struct #[{ name := "typ", type := 17, offset := 0, embedded := false, tag := "", pkgPath := "internal/runtime/maps", byteOffset := 0 }]), size := 1, bytes := 8, isAgg := true, zero := (.agg [(.v (.pointer none))]), flds := [(0, 1, false)], elem := 0 } := by kernel_rfl
theorem tab_20 : tab 20 = { ok := true, desc := (TypeDesc.interface #[]), size := 1, bytes := 16, isAgg := false, zero := (.v .nilIface), flds := [], elem := 0 } := by kernel_rfl
theorem tab_21 : tab 21 = { ok := true, desc := (TypeDesc.int IntKind.i32), size := 1, bytes := 4, isAgg := false, zero := (.v (.int IntKind.i32 0)), flds := [], elem := 0 } := by kernel_rfl
theorem tab_22 : tab 22 = { ok := true, desc := (TypeDesc.slice 24), size := 1, bytes := 24, isAgg := false, zero := (.v (.slice none 0 0)), flds := [], elem := 24 } := by kernel_rfl
theorem tab_23 : tab 23 = { ok := true, desc := (TypeDesc.struct #[{ name := "Do", type := 9, offset := 0, embedded := false, tag := "", pkgPath := "", byteOffset := 0 }, { name := "Name", type := 9, offset := 1, embedded := false, tag := "", pkgPath := "", byteOffset := 16 }, { name := "Args", type := 22, offset := 2, embedded := false, tag := "", pkgPath := "", byteOffset := 32 }]), size := 3, bytes := 56, isAgg := true, zero := (.agg [(.str []), (.str []), (.v (.slice none 0 0))]), flds := [(0, 1, false), (1, 1, false), (2, 1, false)], elem := 0 } := by kernel_rfl
theorem tab_24 : tab 24 = { ok := true, desc := (TypeDesc.struct #[{ name := "Do", type := 9, offset := 0, embedded := false, tag := "", pkgPath := "", byteOffset := 0 }, { name := "Name", type := 9, offset := 1, embedded := false, tag := "", pkgPath := "", byteOffset := 16 }, { name := "Args", type := 22, offset := 2, embedded := false, tag := "", pkgPath := "", byteOffset := 32 }]), size := 3, bytes := 56, isAgg := true, zero := (.agg [(.str []), (.str []), (.v (.slice none 0 0))]), flds := [(0, 1, false), (1, 1, false), (2, 1, false)], elem := 0 } := by kernel_rfl
theorem tab_25 : tab 25 = { ok := true, desc := (TypeDesc.slice 33), size := 1, bytes := 24, isAgg := false, zero := (.v (.slice none 0 0)), flds := [], elem := 33 } := by kernel_rfl
theorem tab_26 : tab 26 = { ok := true, desc := (TypeDesc.int IntKind.i64), size := 1, bytes := 8, isAgg := false, zero := (.v (.int IntKind.i64 0)), flds := [], elem := 0 } := by kernel_rfl
theorem tab_28 : tab 28 = { ok := true, desc := (TypeDesc.func #[24, 24] #[25, 26] false), size := 1, bytes := 8, isAgg := false, zero := (.v .nilFunc), flds := [], elem := 0 } := by kernel_rfl
theorem tab_29 : tab 29 = { ok := true, desc := (TypeDesc.slice 9), size := 1, bytes := 24, isAgg := false, zero := (.v (.slice none 0 0)), flds := [], elem := 9 } := by kernel_rfl
theorem tab_31 : tab 31 = { ok := true, desc := (TypeDesc.func #[24] #[29, 26] false), size := 1, bytes := 8, isAgg := false, zero := (.v .nilFunc), flds := [], elem := 0 } := by kernel_rfl
theorem tab_32 : tab 32 = { ok := true, desc := (TypeDesc.struct #[{ name := "Name", type := 9, offset := 0, embedded := false, tag := "", pkgPath := "", byteOffset := 0 }, { name := "Type", type := 24, offset := 1, embedded := false, tag := "", pkgPath := "", byteOffset := 16 }]), size := 4, bytes := 72, isAgg := true, zero := (.agg [(.str []), (.str []), (.str []), (.v (.slice none 0 0))]), flds := [(0, 1, false), (1, 3, true)], elem := 0 } := by kernel_rfl
theorem tab_33 : tab 33 = { ok := true, desc := (TypeDesc.struct #[{ name := "Name", type := 9, offset := 0, embedded := false, tag := "", pkgPath := "", byteOffset := 0 }, { name := "Type", type := 24, offset := 1, embedded := false, tag := "", pkgPath := "", byteOffset := 16 }]), size := 4, bytes := 72, isAgg := true, zero := (.agg [(.str []), (.str []), (.str []), (.v (.slice none 0 0))]), flds := [(0, 1, false), (1, 3, true)], elem := 0 } := by kernel_rfl
theorem tab_34 : tab 34 = { ok := true, desc := (TypeDesc.func #[] #[4] false), size := 1, bytes := 8, isAgg := false, zero := (.v .nilFunc), flds := [], elem := 0 } := by kernel_rfl
theorem tab_35 : tab 35 = { ok := true, desc := (TypeDesc.func #[24] #[4] false), size := 1, bytes := 8, isAgg := false, zero := (.v .nilFunc), flds := [], elem := 0 } := by kernel_rfl
theorem tab_37 : tab 37 = { ok := true, desc := (TypeDesc.func #[25, 24] #[24, 26] false), size := 1, bytes := 8, isAgg := false, zero := (.v .nilFunc), flds := [], elem := 0 } := by kernel_rfl
theorem tab_38 : tab 38 = { ok := true, desc := (TypeDesc.func #[24, 24] #[4] false), size := 1, bytes := 8, isAgg := false, zero := (.v .nilFunc), flds := [], elem := 0 } := by kernel_rfl
theorem tab_39 : tab 39 = { ok := true, desc := (TypeDesc.func #[25, 25] #[25, 26] false), size := 1, bytes := 8, isAgg := false, zero := (.v .nilFunc), flds := [], elem := 0 } := by kernel_rfl
theorem tab_40 : tab 40 = { ok := true, desc := (TypeDesc.func #[25, 25] #[4] false), size := 1, bytes := 8, isAgg := false, zero := (.v .nilFunc), flds := [], elem := 0 } := by kernel_rfl
theorem tab_41 : tab 41 = { ok := true, desc := (TypeDesc.func #[25, 24] #[24] false), size := 1, bytes := 8, isAgg := false, zero := (.v .nilFunc), flds := [], elem := 0 } := by kernel_rfl
theorem tab_42 : tab 42 = { ok := true, desc := (TypeDesc.func #[25, 25, 25, 24] #[4] false), size := 1, bytes := 8, isAgg := false, zero := (.v .nilFunc), flds := [], elem := 0 } := by kernel_rfl
theorem tab_43 : tab 43 = { ok := true, desc := (TypeDesc.func #[24] #[24, 26] false), size := 1, bytes := 8, isAgg := false, zero := (.v .nilFunc), flds := [], elem := 0 } := by kernel_rfl
theorem tab_44 : tab 44 = { ok := true, desc := (TypeDesc.slice 60), size := 1, bytes := 24, isAgg := false, zero := (.v (.slice none 0 0)), flds := [], elem := 60 } := by kernel_rfl
theorem tab_45 : tab 45 = { ok := true, desc := (TypeDesc.func #[44] #[25, 26] false), size := 1, bytes := 8, isAgg := false, zero := (.v .nilFunc), flds := [], elem := 0 } := by kernel_rfl
theorem tab_46 : tab 46 = { ok := true, desc := (TypeDesc.func #[44] #[4] false), size := 1, bytes := 8, isAgg := false, zero := (.v .nilFunc), flds := [], elem := 0 } := by kernel_rfl
theorem tab_47 : tab 47 = { ok := true, desc := (TypeDesc.func #[25, 25, 24] #[4] false), size := 1, bytes := 8, isAgg := false, zero := (.v .nilFunc), flds := [], elem := 0 } := by kernel_rfl
theorem tab_48 : tab 48 = { ok := true, desc := (TypeDesc.func #[29, 29] #[4] false), size := 1, bytes := 8, isAgg := false, zero := (.v .nilFunc), flds := [], elem := 0 } := by kernel_rfl
theorem tab_50 : tab 50 = { ok := true, desc := (TypeDesc.func #[24] #[3, 26] false), size := 1, bytes := 8, isAgg := false, zero := (.v .nilFunc), flds := [], elem := 0 } := by kernel_rfl
theorem tab_52 : tab 52 = { ok := true, desc := (TypeDesc.func #[24] #[4, 26] false), size := 1, bytes := 8, isAgg := false, zero := (.v .nilFunc), flds := [], elem := 0 } := by kernel_rfl
theorem tab_53 : tab 53 = { ok := true, desc := (TypeDesc.func #[9, 22] #[24] true), size := 1, bytes := 8, isAgg := false, zero := (.v .nilFunc), flds := [], elem := 0 } := by kernel_rfl
theorem tab_54 : tab 54 = { ok := true, desc := (TypeDesc.func #[24] #[29] false), size := 1, bytes := 8, isAgg := false, zero := (.v .nilFunc), flds := [], elem := 0 } := by kernel_rfl
theorem tab_55 : tab 55 = { ok := true, desc := (TypeDesc.func #[9] #[24] false), size := 1, bytes := 8, isAgg := false, zero := (.v .nilFunc), flds := [], elem := 0 } := by kernel_rfl
theorem tab_56 : tab 56 = { ok := true, desc := (TypeDesc.func #[24, 24, 25] #[4] false), size := 1, bytes := 8, isAgg := false, zero := (.v .nilFunc), flds := [], elem := 0 } := by kernel_rfl
theorem tab_57 : tab 57 = { ok := true, desc := (TypeDesc.map 9 24), size := 1, bytes := 8, isAgg := false, zero := (.v (.map none)), flds := [], elem := 0 } := by kernel_rfl
theorem tab_58 : tab 58 = { ok := true, desc := (TypeDesc.func #[24, 24, 57] #[4] false), size := 1, bytes := 8, isAgg := false, zero := (.v .nilFunc), flds := [], elem := 0 } := by kernel_rfl
theorem tab_59 : tab 59 = { ok := true, desc := (TypeDesc.func #[24] #[24] false), size := 1, bytes := 8, isAgg := false, zero := (.v .nilFunc), flds := [], elem := 0 } := by kernel_rfl
theorem tab_60 : tab 60 = { ok := true, desc := (TypeDesc.array 2 24), size := 6, bytes := 112, isAgg := true, zero := (.agg [(.str []), (.str []), (.v (.slice none 0 0)), (.str []), (.str []), (.v (.slice none 0 0))]), flds := [], elem := 0 } := by kernel_rfl
theorem tab_61 : tab 61 = { ok := true, desc := (TypeDesc.func #[25] #[4] false), size := 1, bytes := 8, isAgg := false, zero := (.v .nilFunc), flds := [], elem := 0 } := by kernel_rfl
theorem tab_62 : tab 62 = { ok := true, desc := (TypeDesc.func #[22, 22] #[4] false), size := 1, bytes := 8, isAgg := false, zero := (.v .nilFunc), flds := [], elem := 0 } := by kernel_rfl
theorem tab_63 : tab 63 = { ok := true, desc := (TypeDesc.func #[25] #[57] false), size := 1, bytes := 8, isAgg := false, zero := (.v .nilFunc), flds := [], elem := 0 } := by kernel_rfl
theorem tab_64 : tab 64 = { ok := true, desc := (TypeDesc.slice 5), size := 1, bytes := 24, isAgg := false, zero := (.v (.slice none 0 0)), flds := [], elem := 5 } := by kernel_rfl
theorem tab_66 : tab 66 = { ok := true, desc := (TypeDesc.func #[25, 9] #[24, 4] false), size := 1, bytes := 8, isAgg := false, zero := (.v .nilFunc), flds := [], elem := 0 } := by kernel_rfl
theorem tab_67 : tab 67 = { ok := true, desc := (TypeDesc.func #[57, 24] #[24] false), size := 1, bytes := 8, isAgg := false, zero := (.v .nilFunc), flds := [], elem := 0 } := by kernel_rfl
theorem tab_68 : tab 68 = { ok := true, desc := (TypeDesc.pointer 72), size := 1, bytes := 8, isAgg := false, zero := (.v (.pointer none)), flds := [], elem := 0 } := by kernel_rfl
theorem tab_69 : tab 69 = { ok := true, desc := (TypeDesc.map 9 74), size := 1, bytes := 8, isAgg := false, zero := (.v (.map none)), flds := [], elem := 0 } := by kernel_rfl
theorem tab_70 : tab 70 = { ok := true, desc := (TypeDesc.map 74 89), size := 1, bytes := 8, isAgg := false, zero := (.v (.map none)), flds := [], elem := 0 } := by kernel_rfl
theorem tab_71 : tab 71 = { ok := true, desc := (TypeDesc.struct #[{ name := "vars", type := 69, offset := 0, embedded := false, tag := "", pkgPath := "virgate/types", byteOffset := 0 }, { name := "sizes", type := 70, offset := 1, embedded := false, tag := "", pkgPath := "virgate/types", byteOffset := 8 }]), size := 2, bytes := 16, isAgg := true, zero := (.agg [(.v (.map none)), (.v (.map none))]), flds := [(0, 1, false), (1, 1, false)], elem := 0 } := by kernel_rfl
theorem tab_72 : tab 72 = { ok := true, desc := (TypeDesc.struct #[{ name := "vars", type := 69, offset := 0, embedded := false, tag := "", pkgPath := "virgate/types", byteOffset := 0 }, { name := "sizes", type := 70, offset := 1, embedded := false, tag := "", pkgPath := "virgate/types", byteOffset := 8 }]), size := 2, bytes := 16, isAgg := true, zero := (.agg [(.v (.map none)), (.v (.map none))]), flds := [(0, 1, false), (1, 1, false)], elem := 0 } := by kernel_rfl
theorem tab_73 : tab 73 = { ok := true, desc := (TypeDesc.func #[74, 74] #[4] false), size := 1, bytes := 8, isAgg := false, zero := (.v .nilFunc), flds := [], elem := 0 } := by kernel_rfl
theorem tab_74 : tab 74 = { ok := true, desc := (TypeDesc.pointer 107), size := 1, bytes := 8, isAgg := false, zero := (.v (.pointer none)), flds := [], elem := 0 } := by kernel_rfl
theorem tab_75 : tab 75 = { ok := true, desc := (TypeDesc.func #[24] #[74] false), size := 1, bytes := 8, isAgg := false, zero := (.v .nilFunc), flds := [], elem := 0 } := by kernel_rfl
theorem tab_76 : tab 76 = { ok := true, desc := (TypeDesc.func #[] #[25, 26] false), size := 1, bytes := 8, isAgg := false, zero := (.v .nilFunc), flds := [], elem := 0 } := by kernel_rfl
theorem tab_77 : tab 77 = { ok := true, desc := (TypeDesc.pointer 115), size := 1, bytes := 8, isAgg := false, zero := (.v (.pointer none)), flds := [], elem := 0 } := by kernel_rfl
theorem tab_78 : tab 78 = { ok := true, desc := (TypeDesc.func #[] #[77] false), size := 1, bytes := 8, isAgg := false, zero := (.v .nilFunc), flds := [], elem := 0 } := by kernel_rfl
theorem tab_79 : tab 79 = { ok := true, desc := (TypeDesc.func #[24] #[3] false), size := 1, bytes := 8, isAgg := false, zero := (.v .nilFunc), flds := [], elem := 0 } := by kernel_rfl
theorem tab_80 : tab 80 = { ok := true, desc := (TypeDesc.func #[3, 3] #[4] false), size := 1, bytes := 8, isAgg := false, zero := (.v .nilFunc), flds := [], elem := 0 } := by kernel_rfl
theorem tab_81 : tab 81 = { ok := true, desc := (TypeDesc.func #[3] #[9] false), size := 1, bytes := 8, isAgg := false, zero := (.v .nilFunc), flds := [], elem := 0 } := by kernel_rfl
theorem tab_82 : tab 82 = { ok := true, desc := (TypeDesc.func #[24, 9] #[4] false), size := 1, bytes := 8, isAgg := false, zero := (.v .nilFunc), flds := [], elem := 0 } := by kernel_rfl
theorem tab_83 : tab 83 = { ok := true, desc := (TypeDesc.func #[24, 29] #[29] false), size := 1, bytes := 8, isAgg := false, zero := (.v .nilFunc), flds := [], elem := 0 } := by kernel_rfl
theorem tab_84 : tab 84 = { ok := true, desc := (TypeDesc.func #[24, 85] #[] false), size := 1, bytes := 8, isAgg := false, zero := (.v .nilFunc), flds := [], elem := 0 } := by kernel_rfl
theorem tab_85 : tab 85 = { ok := true, desc := (TypeDesc.func #[24] #[] false), size := 1, bytes := 8, isAgg := false, zero := (.v .nilFunc), flds := [], elem := 0 } := by kernel_rfl
theorem tab_86 : tab 86 = { ok := true, desc := (TypeDesc.func #[29] #[] false), size := 1, bytes := 8, isAgg := false, zero := (.v .nilFunc), flds := [], elem := 0 } := by kernel_rfl
theorem tab_87 : tab 87 = { ok := true, desc := (TypeDesc.func #[29] #[29] false), size := 1, bytes := 8, isAgg := false, zero := (.v .nilFunc), flds := [], elem := 0 } := by kernel_rfl
theorem tab_88 : tab 88 = { ok := true, desc := (TypeDesc.struct #[{ name := "Nodes", type := 3, offset := 0, embedded := false, tag := "", pkgPath := "", byteOffset := 0 }, { name := "Deep", type := 3, offset := 1, embedded := false, tag := "", pkgPath := "", byteOffset := 8 }]), size := 2, bytes := 16, isAgg := true, zero := (.agg [(.v (.int IntKind.i64 0)), (.v (.int IntKind.i64 0))]), flds := [(0, 1, false), (1, 1, false)], elem := 0 } := by kernel_rfl
theorem tab_89 : tab 89 = { ok := true, desc := (TypeDesc.struct #[{ name := "Nodes", type := 3, offset := 0, embedded := false, tag := "", pkgPath := "", byteOffset := 0 }, { name := "Deep", type := 3, offset := 1, embedded := false, tag := "", pkgPath := "", byteOffset := 8 }]), size := 2, bytes := 16, isAgg := true, zero := (.agg [(.v (.int IntKind.i64 0)), (.v (.int IntKind.i64 0))]), flds := [(0, 1, false), (1, 1, false)], elem := 0 } := by kernel_rfl
theorem tab_90 : tab 90 = { ok := true, desc := (TypeDesc.func #[24] #[89] false), size := 1, bytes := 8, isAgg := false, zero := (.v .nilFunc), flds := [], elem := 0 } := by kernel_rfl
theorem tab_92 : tab 92 = { ok := true, desc := (TypeDesc.func #[24] #[3, 3] false), size := 1, bytes := 8, isAgg := false, zero := (.v .nilFunc), flds := [], elem := 0 } := by kernel_rfl
theorem tab_93 : tab 93 = { ok := true, desc := (TypeDesc.func #[24, 29] #[4, 26] true), size := 1, bytes := 8, isAgg := false, zero := (.v .nilFunc), flds := [], elem := 0 } := by kernel_rfl
theorem tab_95 : tab 95 = { ok := true, desc := (TypeDesc.func #[24, 24, 25] #[25, 4] false), size := 1, bytes := 8, isAgg := false, zero := (.v .nilFunc), flds := [], elem := 0 } := by kernel_rfl
theorem tab_96 : tab 96 = { ok := true, desc := (TypeDesc.func #[97, 99] #[4] false), size := 1, bytes := 8, isAgg := false, zero := (.v .nilFunc), flds := [], elem := 0 } := by kernel_rfl
theorem tab_97 : tab 97 = { ok := true, desc := (TypeDesc.slice 3), size := 1, bytes := 24, isAgg := false, zero := (.v (.slice none 0 0)), flds := [], elem := 3 } := by kernel_rfl
theorem tab_98 : tab 98 = { ok := true, desc := (TypeDesc.func #[22] #[97] false), size := 1, bytes := 8, isAgg := false, zero := (.v .nilFunc), flds := [], elem := 0 } := by kernel_rfl
theorem tab_99 : tab 99 = { ok := true, desc := (TypeDesc.func #[3] #[4] false), size := 1, bytes := 8, isAgg := false, zero := (.v .nilFunc), flds := [], elem := 0 } := by kernel_rfl
theorem tab_100 : tab 100 = { ok := true, desc := (TypeDesc.func #[9] #[4] false), size := 1, bytes := 8, isAgg := false, zero := (.v .nilFunc), flds := [], elem := 0 } := by kernel_rfl
theorem tab_101 : tab 101 = { ok := true, desc := (TypeDesc.map 9 89), size := 1, bytes := 8, isAgg := false, zero := (.v (.map none)), flds := [], elem := 0 } := by kernel_rfl
theorem tab_102 : tab 102 = { ok := true, desc := (TypeDesc.func #[101, 24] #[89] false), size := 1, bytes := 8, isAgg := false, zero := (.v .nilFunc), flds := [], elem := 0 } := by kernel_rfl
theorem tab_103 : tab 103 = { ok := true, desc := (TypeDesc.func #[29, 9] #[4] false), size := 1, bytes := 8, isAgg := false, zero := (.v .nilFunc), flds := [], elem := 0 } := by kernel_rfl
theorem tab_104 : tab 104 = { ok := true, desc := (TypeDesc.func #[] #[74] false), size := 1, bytes := 8, isAgg := false, zero := (.v .nilFunc), flds := [], elem := 0 } := by kernel_rfl
theorem tab_105 : tab 105 = { ok := true, desc := (TypeDesc.slice 74), size := 1, bytes := 24, isAgg := false, zero := (.v (.slice none 0 0)), flds := [], elem := 74 } := by kernel_rfl
theorem tab_106 : tab 106 = { ok := true, desc := (TypeDesc.struct #[{ name := "do", type := 9, offset := 0, embedded := false, tag := "", pkgPath := "virgate/types", byteOffset := 0 }, { name := "name", type := 9, offset := 1, embedded := false, tag := "", pkgPath := "virgate/types", byteOffset := 16 }, { name := "args", type := 105, offset := 2, embedded := false, tag := "", pkgPath := "virgate/types", byteOffset := 32 }, { name := "link", type := 74, offset := 3, embedded := false, tag := "", pkgPath := "virgate/types", byteOffset := 56 }]), size := 4, bytes := 64, isAgg := true, zero := (.agg [(.str []), (.str []), (.v (.slice none 0 0)), (.v (.pointer none))]), flds := [(0, 1, false), (1, 1, false), (2, 1, false), (3, 1, false)], elem := 0 } := by kernel_rfl
theorem tab_107 : tab 107 = { ok := true, desc := (TypeDesc.struct #[{ name := "do", type := 9, offset := 0, embedded := false, tag := "", pkgPath := "virgate/types", byteOffset := 0 }, { name := "name", type := 9, offset := 1, embedded := false, tag := "", pkgPath := "virgate/types", byteOffset := 16 }, { name := "args", type := 105, offset := 2, embedded := false, tag := "", pkgPath := "virgate/types", byteOffset := 32 }, { name := "link", type := 74, offset := 3, embedded := false, tag := "", pkgPath := "virgate/types", byteOffset := 56 }]), size := 4, bytes := 64, isAgg := true, zero := (.agg [(.str []), (.str []), (.v (.slice none 0 0)), (.v (.pointer none))]), flds := [(0, 1, false), (1, 1, false), (2, 1, false), (3, 1, false)], elem := 0 } := by kernel_rfl
theorem tab_109 : tab 109 = { ok := true, desc := (TypeDesc.map 74 4), size := 1, bytes := 8, isAgg := false, zero := (.v (.map none)), flds := [], elem := 0 } := by kernel_rfl
theorem tab_110 : tab 110 = { ok := true, desc := (TypeDesc.func #[74, 109, 109] #[4] false), size := 1, bytes := 8, isAgg := false, zero := (.v .nilFunc), flds := [], elem := 0 } := by kernel_rfl
theorem tab_111 : tab 111 = { ok := true, desc := (TypeDesc.func #[74] #[89] false), size := 1, bytes := 8, isAgg := false, zero := (.v .nilFunc), flds := [], elem := 0 } := by kernel_rfl
theorem tab_112 : tab 112 = { ok := true, desc := (TypeDesc.func #[74] #[24] false), size := 1, bytes := 8, isAgg := false, zero := (.v .nilFunc), flds := [], elem := 0 } := by kernel_rfl
theorem tab_113 : tab 113 = { ok := true, desc := (TypeDesc.slice 117), size := 1, bytes := 24, isAgg := false, zero := (.v (.slice none 0 0)), flds := [], elem := 117 } := by kernel_rfl
theorem tab_114 : tab 114 = { ok := true, desc := (TypeDesc.struct #[{ name := "l", type := 113, offset := 0, embedded := false, tag := "", pkgPath := "virgate/virgateref04", byteOffset := 0 }]), size := 1, bytes := 24, isAgg := true, zero := (.agg [(.v (.slice none 0 0))]), flds := [(0, 1, false)], elem := 0 } := by kernel_rfl
theorem tab_115 : tab 115 = { ok := true, desc := (TypeDesc.struct #[{ name := "l", type := 113, offset := 0, embedded := false, tag := "", pkgPath := "virgate/virgateref04", byteOffset := 0 }]), size := 1, bytes := 24, isAgg := true, zero := (.agg [(.v (.slice none 0 0))]), flds := [(0, 1, false)], elem := 0 } := by kernel_rfl
theorem tab_116 : tab 116 = { ok := true, desc := (TypeDesc.struct #[{ name := "t", type := 24, offset := 0, embedded := false, tag := "", pkgPath := "virgate/virgateref04", byteOffset := 0 }, { name := "args", type := 97, offset := 3, embedded := false, tag := "", pkgPath := "virgate/virgateref04", byteOffset := 56 }, { name := "to", type := 3, offset := 4, embedded := false, tag := "", pkgPath := "virgate/virgateref04", byteOffset := 80 }]), size := 5, bytes := 88, isAgg := true, zero := (.agg [(.str []), (.str []), (.v (.slice none 0 0)), (.v (.slice none 0 0)), (.v (.int IntKind.i64 0))]), flds := [(0, 3, true), (3, 1, false), (4, 1, false)], elem := 0 } := by kernel_rfl
theorem tab_117 : tab 117 = { ok := true, desc := (TypeDesc.struct #[{ name := "t", type := 24, offset := 0, embedded := false, tag := "", pkgPath := "virgate/virgateref04", byteOffset := 0 }, { name := "args", type := 97, offset := 3, embedded := false, tag := "", pkgPath := "virgate/virgateref04", byteOffset := 56 }, { name := "to", type := 3, offset := 4, embedded := false, tag := "", pkgPath := "virgate/virgateref04", byteOffset := 80 }]), size := 5, bytes := 88, isAgg := true, zero := (.agg [(.str []), (.str []), (.v (.slice none 0 0)), (.v (.slice none 0 0)), (.v (.int IntKind.i64 0))]), flds := [(0, 3, true), (3, 1, false), (4, 1, false)], elem := 0 } := by kernel_rfl
theorem tab_118 : tab 118 = { ok := true, desc := (TypeDesc.array 2 3), size := 2, bytes := 16, isAgg := true, zero := (.agg [(.v (.int IntKind.i64 0)), (.v (.int IntKind.i64 0))]), flds := [], elem := 0 } := by kernel_rfl
theorem tab_119 : tab 119 = { ok := true, desc := (TypeDesc.slice 118), size := 1, bytes := 24, isAgg := false, zero := (.v (.slice none 0 0)), flds := [], elem := 118 } := by kernel_rfl
theorem tab_120 : tab 120 = { ok := true, desc := (TypeDesc.func #[3] #[3] false), size := 1, bytes := 8, isAgg := false, zero := (.v .nilFunc), flds := [], elem := 0 } := by kernel_rfl
theorem tab_121 : tab 121 = { ok := true, desc := (TypeDesc.slice 124), size := 1, bytes := 24, isAgg := false, zero := (.v (.slice none 0 0)), flds := [], elem := 124 } := by kernel_rfl
theorem tab_122 : tab 122 = { ok := true, desc := (TypeDesc.func #[3, 121] #[4] false), size := 1, bytes := 8, isAgg := false, zero := (.v .nilFunc), flds := [], elem := 0 } := by kernel_rfl
theorem tab_123 : tab 123 = { ok := true, desc := (TypeDesc.struct #[{ name := "state", type := 3, offset := 0, embedded := false, tag := "", pkgPath := "virgate/virgateref04", byteOffset := 0 }, { name := "nodes", type := 3, offset := 1, embedded := false, tag := "", pkgPath := "virgate/virgateref04", byteOffset := 8 }, { name := "deep", type := 3, offset := 2, embedded := false, tag := "", pkgPath := "virgate/virgateref04", byteOffset := 16 }]), size := 3, bytes := 24, isAgg := true, zero := (.agg [(.v (.int IntKind.i64 0)), (.v (.int IntKind.i64 0)), (.v (.int IntKind.i64 0))]), flds := [(0, 1, false), (1, 1, false), (2, 1, false)], elem := 0 } := by kernel_rfl
theorem tab_124 : tab 124 = { ok := true, desc := (TypeDesc.struct #[{ name := "state", type := 3, offset := 0, embedded := false, tag := "", pkgPath := "virgate/virgateref04", byteOffset := 0 }, { name := "nodes", type := 3, offset := 1, embedded := false, tag := "", pkgPath := "virgate/virgateref04", byteOffset := 8 }, { name := "deep", type := 3, offset := 2, embedded := false, tag := "", pkgPath := "virgate/virgateref04", byteOffset := 16 }]), size := 3, bytes := 24, isAgg := true, zero := (.agg [(.v (.int IntKind.i64 0)), (.v (.int IntKind.i64 0)), (.v (.int IntKind.i64 0))]), flds := [(0, 1, false), (1, 1, false), (2, 1, false)], elem := 0 } := by kernel_rfl
theorem tab_125 : tab 125 = { ok := true, desc := (TypeDesc.func #[3] #[24] false), size := 1, bytes := 8, isAgg := false, zero := (.v .nilFunc), flds := [], elem := 0 } := by kernel_rfl
theorem tab_126 : tab 126 = { ok := true, desc := (TypeDesc.func #[25, 24] #[3, 3] false), size := 1, bytes := 8, isAgg := false, zero := (.v .nilFunc), flds := [], elem := 0 } := by kernel_rfl
theorem tab_127 : tab 127 = { ok := true, desc := (TypeDesc.func #[29, 9] #[29] false), size := 1, bytes := 8, isAgg := false, zero := (.v .nilFunc), flds := [], elem := 0 } := by kernel_rfl
theorem tab_128 : tab 128 = { ok := true, desc := (TypeDesc.func #[29, 3, 3, 3] #[] false), size := 1, bytes := 8, isAgg := false, zero := (.v .nilFunc), flds := [], elem := 0 } := by kernel_rfl
theorem tab_129 : tab 129 = { ok := true, desc := (TypeDesc.func #[130] #[3] false), size := 1, bytes := 8, isAgg := false, zero := (.v .nilFunc), flds := [], elem := 0 } := by kernel_rfl
theorem tab_130 : tab 130 = { ok := true, desc := (TypeDesc.int IntKind.u64), size := 1, bytes := 8, isAgg := false, zero := (.v (.int IntKind.u64 0)), flds := [], elem := 0 } := by kernel_rfl
theorem tab_131 : tab 131 = { ok := true, desc := (TypeDesc.slice 89), size := 1, bytes := 24, isAgg := false, zero := (.v (.slice none 0 0)), flds := [], elem := 89 } := by kernel_rfl
theorem tab_132 : tab 132 = { ok := true, desc := (TypeDesc.func #[131] #[89] true), size := 1, bytes := 8, isAgg := false, zero := (.v .nilFunc), flds := [], elem := 0 } := by kernel_rfl
theorem tab_133 : tab 133 = { ok := true, desc := (TypeDesc.func #[3, 3, 3, 3] #[3, 3] false), size := 1, bytes := 8, isAgg := false, zero := (.v .nilFunc), flds := [], elem := 0 } := by kernel_rfl
theorem tab_134 : tab 134 = { ok := true, desc := (TypeDesc.func #[9] #[3] false), size := 1, bytes := 8, isAgg := false, zero := (.v .nilFunc), flds := [], elem := 0 } := by kernel_rfl
theorem tab_135 : tab 135 = { ok := true, desc := (TypeDesc.func #[22, 35] #[4] false), size := 1, bytes := 8, isAgg := false, zero := (.v .nilFunc), flds := [], elem := 0 } := by kernel_rfl
theorem tab_136 : tab 136 = { ok := true, desc := (TypeDesc.func #[22, 22, 38] #[4] false), size := 1, bytes := 8, isAgg := false, zero := (.v .nilFunc), flds := [], elem := 0 } := by kernel_rfl
theorem tab_137 : tab 137 = { ok := true, desc := (TypeDesc.func #[97, 99] #[3] false), size := 1, bytes := 8, isAgg := false, zero := (.v .nilFunc), flds := [], elem := 0 } := by kernel_rfl
theorem tab_138 : tab 138 = { ok := true, desc := (TypeDesc.func #[140] #[4] false), size := 1, bytes := 8, isAgg := false, zero := (.v .nilFunc), flds := [], elem := 0 } := by kernel_rfl
theorem tab_139 : tab 139 = { ok := true, desc := (TypeDesc.struct #[{ name := "Kind", type := 9, offset := 0, embedded := false, tag := "", pkgPath := "", byteOffset := 0 }, { name := "Text", type := 9, offset := 1, embedded := false, tag := "", pkgPath := "", byteOffset := 16 }, { name := "At", type := 3, offset := 2, embedded := false, tag := "", pkgPath := "", byteOffset := 32 }]), size := 3, bytes := 40, isAgg := true, zero := (.agg [(.str []), (.str []), (.v (.int IntKind.i64 0))]), flds := [(0, 1, false), (1, 1, false), (2, 1, false)], elem := 0 } := by kernel_rfl
theorem tab_140 : tab 140 = { ok := true, desc := (TypeDesc.struct #[{ name := "Kind", type := 9, offset := 0, embedded := false, tag := "", pkgPath := "", byteOffset := 0 }, { name := "Text", type := 9, offset := 1, embedded := false, tag := "", pkgPath := "", byteOffset := 16 }, { name := "At", type := 3, offset := 2, embedded := false, tag := "", pkgPath := "", byteOffset := 32 }]), size := 3, bytes := 40, isAgg := true, zero := (.agg [(.str []), (.str []), (.v (.int IntKind.i64 0))]), flds := [(0, 1, false), (1, 1, false), (2, 1, false)], elem := 0 } := by kernel_rfl
theorem tab_142 : tab 142 = { ok := true, desc := (TypeDesc.func #[29, 9] #[3] false), size := 1, bytes := 8, isAgg := false, zero := (.v .nilFunc), flds := [], elem := 0 } := by kernel_rfl
theorem tab_143 : tab 143 = { ok := true, desc := (TypeDesc.func #[105, 144] #[4] false), size := 1, bytes := 8, isAgg := false, zero := (.v .nilFunc), flds := [], elem := 0 } := by kernel_rfl
theorem tab_144 : tab 144 = { ok := true, desc := (TypeDesc.func #[74] #[4] false), size := 1, bytes := 8, isAgg := false, zero := (.v .nilFunc), flds := [], elem := 0 } := by kernel_rfl
theorem tab_145 : tab 145 = { ok := true, desc := (TypeDesc.func #[29, 3, 3] #[] false), size := 1, bytes := 8, isAgg := false, zero := (.v .nilFunc), flds := [], elem := 0 } := by kernel_rfl
theorem tab_146 : tab 146 = { ok := true, desc := (TypeDesc.int IntKind.i64), size := 1, bytes := 8, isAgg := false, zero := (.v (.int IntKind.i64 0)), flds := [], elem := 0 } := by kernel_rfl
theorem tab_148 : tab 148 = { ok := true, desc := (TypeDesc.func #[29, 3, 3] #[3, 146] false), size := 1, bytes := 8, isAgg := false, zero := (.v .nilFunc), flds := [], elem := 0 } := by kernel_rfl
theorem tab_149 : tab 149 = { ok := true, desc := (TypeDesc.func #[29, 3, 3] #[4] false), size := 1, bytes := 8, isAgg := false, zero := (.v .nilFunc), flds := [], elem := 0 } := by kernel_rfl
theorem tab_150 : tab 150 = { ok := true, desc := (TypeDesc.func #[9, 9] #[4] false), size := 1, bytes := 8, isAgg := false, zero := (.v .nilFunc), flds := [], elem := 0 } := by kernel_rfl
theorem tab_151 : tab 151 = { ok := true, desc := (TypeDesc.func #[29, 3, 3, 3] #[3] false), size := 1, bytes := 8, isAgg := false, zero := (.v .nilFunc), flds := [], elem := 0 } := by kernel_rfl
theorem tab_153 : tab 153 = { ok := true, desc := (TypeDesc.func #[29, 3, 3, 3] #[3, 4] false), size := 1, bytes := 8, isAgg := false, zero := (.v .nilFunc), flds := [], elem := 0 } := by kernel_rfl
theorem tab_154 : tab 154 = { ok := true, desc := (TypeDesc.func #[155] #[3] false), size := 1, bytes := 8, isAgg := false, zero := (.v .nilFunc), flds := [], elem := 0 } := by kernel_rfl
theorem tab_155 : tab 155 = { ok := true, desc := (TypeDesc.int IntKind.u32), size := 1, bytes := 4, isAgg := false, zero := (.v (.int IntKind.u32 0)), flds := [], elem := 0 } := by kernel_rfl
theorem tab_156 : tab 156 = { ok := true, desc := (TypeDesc.func #[157] #[3] false), size := 1, bytes := 8, isAgg := false, zero := (.v .nilFunc), flds := [], elem := 0 } := by kernel_rfl
theorem tab_157 : tab 157 = { ok := true, desc := (TypeDesc.int IntKind.u64), size := 1, bytes := 8, isAgg := false, zero := (.v (.int IntKind.u64 0)), flds := [], elem := 0 } := by kernel_rfl
theorem tab_158 : tab 158 = { ok := true, desc := (TypeDesc.func #[22, 35] #[3] false), size := 1, bytes := 8, isAgg := false, zero := (.v .nilFunc), flds := [], elem := 0 } := by kernel_rfl
theorem tab_160 : tab 160 = { ok := true, desc := (TypeDesc.func #[9] #[3, 9] false), size := 1, bytes := 8, isAgg := false, zero := (.v .nilFunc), flds := [], elem := 0 } := by kernel_rfl
theorem tab_161 : tab 161 = { ok := true, desc := (TypeDesc.func #[9] #[3, 4] false), size := 1, bytes := 8, isAgg := false, zero := (.v .nilFunc), flds := [], elem := 0 } := by kernel_rfl
theorem tab_162 : tab 162 = { ok := true, desc := (TypeDesc.func #[5, 5, 5] #[4] false), size := 1, bytes := 8, isAgg := false, zero := (.v .nilFunc), flds := [], elem := 0 } := by kernel_rfl
theorem tab_163 : tab 163 = { ok := true, desc := (TypeDesc.func #[9] #[29] false), size := 1, bytes := 8, isAgg := false, zero := (.v .nilFunc), flds := [], elem := 0 } := by kernel_rfl
theorem tab_164 : tab 164 = { ok := true, desc := (TypeDesc.func #[105, 144] #[3] false), size := 1, bytes := 8, isAgg := false, zero := (.v .nilFunc), flds := [], elem := 0 } := by kernel_rfl
theorem tab_165 : tab 165 = { ok := true, desc := (TypeDesc.int IntKind.u64), size := 1, bytes := 8, isAgg := false, zero := (.v (.int IntKind.u64 0)), flds := [], elem := 0 } := by kernel_rfl
theorem tab_166 : tab 166 = { ok := true, desc := (TypeDesc.func #[3] #[130] false), size := 1, bytes := 8, isAgg := false, zero := (.v .nilFunc), flds := [], elem := 0 } := by kernel_rfl
theorem tab_167 : tab 167 = { ok := true, desc := (TypeDesc.func #[] #[157] false), size := 1, bytes := 8, isAgg := false, zero := (.v .nilFunc), flds := [], elem := 0 } := by kernel_rfl
theorem tab_168 : tab 168 = { ok := true, desc := (TypeDesc.func #[29, 3, 169] #[3] false), size := 1, bytes := 8, isAgg := false, zero := (.v .nilFunc), flds := [], elem := 0 } := by kernel_rfl
theorem tab_169 : tab 169 = { ok := true, desc := (TypeDesc.pointer 3), size := 1, bytes := 8, isAgg := false, zero := (.v (.pointer none)), flds := [], elem := 0 } := by kernel_rfl
theorem tab_170 : tab 170 = { ok := true, desc := (TypeDesc.func #[29, 3, 3, 3, 169] #[3] false), size := 1, bytes := 8, isAgg := false, zero := (.v .nilFunc), flds := [], elem := 0 } := by kernel_rfl
theorem tab_171 : tab 171 = { ok := true, desc := (TypeDesc.interface #[("Error", 243)]), size := 1, bytes := 16, isAgg := false, zero := (.v .nilIface), flds := [], elem := 0 } := by kernel_rfl
theorem tab_172 : tab 172 = { ok := true, desc := (TypeDesc.interface #[("Error", 243)]), size := 1, bytes := 16, isAgg := false, zero := (.v .nilIface), flds := [], elem := 0 } := by kernel_rfl
theorem tab_174 : tab 174 = { ok := true, desc := (TypeDesc.func #[9, 3, 3] #[2, 172] false), size := 1, bytes := 8, isAgg := false, zero := (.v .nilFunc), flds := [], elem := 0 } := by kernel_rfl
theorem tab_175 : tab 175 = { ok := true, desc := (TypeDesc.array 256 5), size := 256, bytes := 256, isAgg := true, zero := (.agg (List.replicate 256 (.v (.int IntKind.u8 0)))), flds := [], elem := 0 } := by kernel_rfl
theorem tab_176 : tab 176 = { ok := true, desc := (TypeDesc.func #[9, 177] #[29] false), size := 1, bytes := 8, isAgg := false, zero := (.v .nilFunc), flds := [], elem := 0 } := by kernel_rfl
theorem tab_177 : tab 177 = { ok := true, desc := (TypeDesc.func #[21] #[4] false), size := 1, bytes := 8, isAgg := false, zero := (.v .nilFunc), flds := [], elem := 0 } := by kernel_rfl
theorem tab_178 : tab 178 = { ok := true, desc := (TypeDesc.pointer 165), size := 1, bytes := 8, isAgg := false, zero := (.v (.pointer none)), flds := [], elem := 0 } := by kernel_rfl
theorem tab_179 : tab 179 = { ok := true, desc := (TypeDesc.func #[29, 3, 3, 169] #[3, 3] false), size := 1, bytes := 8, isAgg := false, zero := (.v .nilFunc), flds := [], elem := 0 } := by kernel_rfl
theorem tab_181 : tab 181 = { ok := true, desc := (TypeDesc.func #[9] #[9, 26] false), size := 1, bytes := 8, isAgg := false, zero := (.v .nilFunc), flds := [], elem := 0 } := by kernel_rfl
theorem tab_183 : tab 183 = { ok := true, desc := (TypeDesc.func #[9, 3] #[140, 3] false), size := 1, bytes := 8, isAgg := false, zero := (.v .nilFunc), flds := [], elem := 0 } := by kernel_rfl
theorem tab_184 : tab 184 = { ok := true, desc := (TypeDesc.func #[5] #[4] false), size := 1, bytes := 8, isAgg := false, zero := (.v .nilFunc), flds := [], elem := 0 } := by kernel_rfl
theorem tab_185 : tab 185 = { ok := true, desc := (TypeDesc.func #[9, 9, 3, 3, 172] #[172] false), size := 1, bytes := 8, isAgg := false, zero := (.v .nilFunc), flds := [], elem := 0 } := by kernel_rfl
theorem tab_186 : tab 186 = { ok := true, desc := (TypeDesc.slice 188), size := 1, bytes := 24, isAgg := false, zero := (.v (.slice none 0 0)), flds := [], elem := 188 } := by kernel_rfl
theorem tab_187 : tab 187 = { ok := true, desc := (TypeDesc.struct #[{ name := "start", type := 3, offset := 0, embedded := false, tag := "", pkgPath := "strings", byteOffset := 0 }, { name := "end", type := 3, offset := 1, embedded := false, tag := "", pkgPath := "strings", byteOffset := 8 }]), size := 2, bytes := 16, isAgg := true, zero := (.agg [(.v (.int IntKind.i64 0)), (.v (.int IntKind.i64 0))]), flds := [(0, 1, false), (1, 1, false)], elem := 0 } := by kernel_rfl
theorem tab_188 : tab 188 = { ok := true, desc := (TypeDesc.struct #[{ name := "start", type := 3, offset := 0, embedded := false, tag := "", pkgPath := "strings", byteOffset := 0 }, { name := "end", type := 3, offset := 1, embedded := false, tag := "", pkgPath := "strings", byteOffset := 8 }]), size := 2, bytes := 16, isAgg := true, zero := (.agg [(.v (.int IntKind.i64 0)), (.v (.int IntKind.i64 0))]), flds := [(0, 1, false), (1, 1, false)], elem := 0 } := by kernel_rfl
theorem tab_189 : tab 189 = { ok := true, desc := (TypeDesc.func #[190, 21] #[4] false), size := 1, bytes := 8, isAgg := false, zero := (.v .nilFunc), flds := [], elem := 0 } := by kernel_rfl
theorem tab_190 : tab 190 = { ok := true, desc := (TypeDesc.pointer 202), size := 1, bytes := 8, isAgg := false, zero := (.v (.pointer none)), flds := [], elem := 0 } := by kernel_rfl
theorem tab_191 : tab 191 = { ok := true, desc := (TypeDesc.func #[9, 3] #[3, 9] false), size := 1, bytes := 8, isAgg := false, zero := (.v .nilFunc), flds := [], elem := 0 } := by kernel_rfl
theorem tab_192 : tab 192 = { ok := true, desc := (TypeDesc.func #[9, 3] #[3] false), size := 1, bytes := 8, isAgg := false, zero := (.v .nilFunc), flds := [], elem := 0 } := by kernel_rfl
theorem tab_193 : tab 193 = { ok := true, desc := (TypeDesc.int IntKind.i64), size := 1, bytes := 8, isAgg := false, zero := (.v (.int IntKind.i64 0)), flds := [], elem := 0 } := by kernel_rfl
theorem tab_195 : tab 195 = { ok := true, desc := (TypeDesc.func #[9, 3, 3] #[157, 172] false), size := 1, bytes := 8, isAgg := false, zero := (.v .nilFunc), flds := [], elem := 0 } := by kernel_rfl
theorem tab_196 : tab 196 = { ok := true, desc := (TypeDesc.pointer 214), size := 1, bytes := 8, isAgg := false, zero := (.v (.pointer none)), flds := [], elem := 0 } := by kernel_rfl
theorem tab_197 : tab 197 = { ok := true, desc := (TypeDesc.func #[9, 9] #[196] false), size := 1, bytes := 8, isAgg := false, zero := (.v .nilFunc), flds := [], elem := 0 } := by kernel_rfl
theorem tab_198 : tab 198 = { ok := true, desc := (TypeDesc.func #[9, 9, 3] #[196] false), size := 1, bytes := 8, isAgg := false, zero := (.v .nilFunc), flds := [], elem := 0 } := by kernel_rfl
theorem tab_199 : tab 199 = { ok := true, desc := (TypeDesc.slice 205), size := 1, bytes := 24, isAgg := false, zero := (.v (.slice none 0 0)), flds := [], elem := 205 } := by kernel_rfl
theorem tab_200 : tab 200 = { ok := true, desc := (TypeDesc.slice 208), size := 1, bytes := 24, isAgg := false, zero := (.v (.slice none 0 0)), flds := [], elem := 208 } := by kernel_rfl
theorem tab_201 : tab 201 = { ok := true, desc := (TypeDesc.struct #[{ name := "R16", type := 199, offset := 0, embedded := false, tag := "", pkgPath := "", byteOffset := 0 }, { name := "R32", type := 200, offset := 1, embedded := false, tag := "", pkgPath := "", byteOffset := 24 }, { name := "LatinOffset", type := 3, offset := 2, embedded := false, tag := "", pkgPath := "", byteOffset := 48 }]), size := 3, bytes := 56, isAgg := true, zero := (.agg [(.v (.slice none 0 0)), (.v (.slice none 0 0)), (.v (.int IntKind.i64 0))]), flds := [(0, 1, false), (1, 1, false), (2, 1, false)], elem := 0 } := by kernel_rfl
theorem tab_202 : tab 202 = { ok := true, desc := (TypeDesc.struct #[{ name := "R16", type := 199, offset := 0, embedded := false, tag := "", pkgPath := "", byteOffset := 0 }, { name := "R32", type := 200, offset := 1, embedded := false, tag := "", pkgPath := "", byteOffset := 24 }, { name := "LatinOffset", type := 3, offset := 2, embedded := false, tag := "", pkgPath := "", byteOffset := 48 }]), size := 3, bytes := 56, isAgg := true, zero := (.agg [(.v (.slice none 0 0)), (.v (.slice none 0 0)), (.v (.int IntKind.i64 0))]), flds := [(0, 1, false), (1, 1, false), (2, 1, false)], elem := 0 } := by kernel_rfl
theorem tab_203 : tab 203 = { ok := true, desc := (TypeDesc.int IntKind.u16), size := 1, bytes := 2, isAgg := false, zero := (.v (.int IntKind.u16 0)), flds := [], elem := 0 } := by kernel_rfl
theorem tab_204 : tab 204 = { ok := true, desc := (TypeDesc.struct #[{ name := "Lo", type := 203, offset := 0, embedded := false, tag := "", pkgPath := "", byteOffset := 0 }, { name := "Hi", type := 203, offset := 1, embedded := false, tag := "", pkgPath := "", byteOffset := 2 }, { name := "Stride", type := 203, offset := 2, embedded := false, tag := "", pkgPath := "", byteOffset := 4 }]), size := 3, bytes := 6, isAgg := true, zero := (.agg [(.v (.int IntKind.u16 0)), (.v (.int IntKind.u16 0)), (.v (.int IntKind.u16 0))]), flds := [(0, 1, false), (1, 1, false), (2, 1, false)], elem := 0 } := by kernel_rfl
theorem tab_205 : tab 205 = { ok := true, desc := (TypeDesc.struct #[{ name := "Lo", type := 203, offset := 0, embedded := false, tag := "", pkgPath := "", byteOffset := 0 }, { name := "Hi", type := 203, offset := 1, embedded := false, tag := "", pkgPath := "", byteOffset := 2 }, { name := "Stride", type := 203, offset := 2, embedded := false, tag := "", pkgPath := "", byteOffset := 4 }]), size := 3, bytes := 6, isAgg := true, zero := (.agg [(.v (.int IntKind.u16 0)), (.v (.int IntKind.u16 0)), (.v (.int IntKind.u16 0))]), flds := [(0, 1, false), (1, 1, false), (2, 1, false)], elem := 0 } := by kernel_rfl
theorem tab_206 : tab 206 = { ok := true, desc := (TypeDesc.func #[199, 203] #[4] false), size := 1, bytes := 8, isAgg := false, zero := (.v .nilFunc), flds := [], elem := 0 } := by kernel_rfl
theorem tab_207 : tab 207 = { ok := true, desc := (TypeDesc.struct #[{ name := "Lo", type := 155, offset := 0, embedded := false, tag := "", pkgPath := "", byteOffset := 0 }, { name := "Hi", type := 155, offset := 1, embedded := false, tag := "", pkgPath := "", byteOffset := 4 }, { name := "Stride", type := 155, offset := 2, embedded := false, tag := "", pkgPath := "", byteOffset := 8 }]), size := 3, bytes := 12, isAgg := true, zero := (.agg [(.v (.int IntKind.u32 0)), (.v (.int IntKind.u32 0)), (.v (.int IntKind.u32 0))]), flds := [(0, 1, false), (1, 1, false), (2, 1, false)], elem := 0 } := by kernel_rfl
theorem tab_208 : tab 208 = { ok := true, desc := (TypeDesc.struct #[{ name := "Lo", type := 155, offset := 0, embedded := false, tag := "", pkgPath := "", byteOffset := 0 }, { name := "Hi", type := 155, offset := 1, embedded := false, tag := "", pkgPath := "", byteOffset := 4 }, { name := "Stride", type := 155, offset := 2, embedded := false, tag := "", pkgPath := "", byteOffset := 8 }]), size := 3, bytes := 12, isAgg := true, zero := (.agg [(.v (.int IntKind.u32 0)), (.v (.int IntKind.u32 0)), (.v (.int IntKind.u32 0))]), flds := [(0, 1, false), (1, 1, false), (2, 1, false)], elem := 0 } := by kernel_rfl
theorem tab_209 : tab 209 = { ok := true, desc := (TypeDesc.func #[200, 155] #[4] false), size := 1, bytes := 8, isAgg := false, zero := (.v .nilFunc), flds := [], elem := 0 } := by kernel_rfl
theorem tab_210 : tab 210 = { ok := true, desc := (TypeDesc.func #[9, 5] #[3] false), size := 1, bytes := 8, isAgg := false, zero := (.v .nilFunc), flds := [], elem := 0 } := by kernel_rfl
theorem tab_211 : tab 211 = { ok := true, desc := (TypeDesc.func #[5] #[5] false), size := 1, bytes := 8, isAgg := false, zero := (.v .nilFunc), flds := [], elem := 0 } := by kernel_rfl
theorem tab_212 : tab 212 = { ok := true, desc := (TypeDesc.func #[9] #[9] false), size := 1, bytes := 8, isAgg := false, zero := (.v .nilFunc), flds := [], elem := 0 } := by kernel_rfl
theorem tab_213 : tab 213 = { ok := true, desc := (TypeDesc.struct #[{ name := "Func", type := 9, offset := 0, embedded := false, tag := "", pkgPath := "", byteOffset := 0 }, { name := "Num", type := 9, offset := 1, embedded := false, tag := "", pkgPath := "", byteOffset := 16 }, { name := "Err", type := 172, offset := 2, embedded := false, tag := "", pkgPath := "", byteOffset := 32 }]), size := 3, bytes := 48, isAgg := true, zero := (.agg [(.str []), (.str []), (.v .nilIface)]), flds := [(0, 1, false), (1, 1, false), (2, 1, false)], elem := 0 } := by kernel_rfl
theorem tab_214 : tab 214 = { ok := true, desc := (TypeDesc.struct #[{ name := "Func", type := 9, offset := 0, embedded := false, tag := "", pkgPath := "", byteOffset := 0 }, { name := "Num", type := 9, offset := 1, embedded := false, tag := "", pkgPath := "", byteOffset := 16 }, { name := "Err", type := 172, offset := 2, embedded := false, tag := "", pkgPath := "", byteOffset := 32 }]), size := 3, bytes := 48, isAgg := true, zero := (.agg [(.str []), (.str []), (.v .nilIface)]), flds := [(0, 1, false), (1, 1, false), (2, 1, false)], elem := 0 } := by kernel_rfl
theorem tab_215 : tab 215 = { ok := true, desc := (TypeDesc.func #[9] #[172] false), size := 1, bytes := 8, isAgg := false, zero := (.v .nilFunc), flds := [], elem := 0 } := by kernel_rfl
theorem tab_216 : tab 216 = { ok := true, desc := (TypeDesc.pointer 205), size := 1, bytes := 8, isAgg := false, zero := (.v (.pointer none)), flds := [], elem := 0 } := by kernel_rfl
theorem tab_217 : tab 217 = { ok := true, desc := (TypeDesc.pointer 208), size := 1, bytes := 8, isAgg := false, zero := (.v (.pointer none)), flds := [], elem := 0 } := by kernel_rfl
theorem tab_218 : tab 218 = { ok := true, desc := (TypeDesc.func #[9, 9] #[29] false), size := 1, bytes := 8, isAgg := false, zero := (.v .nilFunc), flds := [], elem := 0 } := by kernel_rfl
theorem tab_219 : tab 219 = { ok := true, desc := (TypeDesc.pointer 5), size := 1, bytes := 8, isAgg := false, zero := (.v (.pointer none)), flds := [], elem := 0 } := by kernel_rfl
theorem tab_220 : tab 220 = { ok := true, desc := (TypeDesc.pointer 222), size := 1, bytes := 8, isAgg := false, zero := (.v (.pointer none)), flds := [], elem := 0 } := by kernel_rfl
theorem tab_221 : tab 221 = { ok := true, desc := (TypeDesc.struct #[{ name := "s", type := 9, offset := 0, embedded := false, tag := "", pkgPath := "errors", byteOffset := 0 }]), size := 1, bytes := 16, isAgg := true, zero := (.agg [(.str [])]), flds := [(0, 1, false)], elem := 0 } := by kernel_rfl
theorem tab_222 : tab 222 = { ok := true, desc := (TypeDesc.struct #[{ name := "s", type := 9, offset := 0, embedded := false, tag := "", pkgPath := "errors", byteOffset := 0 }]), size := 1, bytes := 16, isAgg := true, zero := (.agg [(.str [])]), flds := [(0, 1, false)], elem := 0 } := by kernel_rfl
theorem tab_223 : tab 223 = { ok := true, desc := (TypeDesc.func #[9, 9, 3, 3] #[29] false), size := 1, bytes := 8, isAgg := false, zero := (.v .nilFunc), flds := [], elem := 0 } := by kernel_rfl
theorem tab_224 : tab 224 = { ok := true, desc := (TypeDesc.func #[2, 3] #[9] false), size := 1, bytes := 8, isAgg := false, zero := (.v .nilFunc), flds := [], elem := 0 } := by kernel_rfl
theorem tab_225 : tab 225 = { ok := true, desc := (TypeDesc.func #[9, 3] #[29] false), size := 1, bytes := 8, isAgg := false, zero := (.v .nilFunc), flds := [], elem := 0 } := by kernel_rfl
theorem tab_226 : tab 226 = { ok := true, desc := (TypeDesc.func #[9, 9] #[3] false), size := 1, bytes := 8, isAgg := false, zero := (.v .nilFunc), flds := [], elem := 0 } := by kernel_rfl
theorem tab_227 : tab 227 = { ok := true, desc := (TypeDesc.array 24 5), size := 24, bytes := 24, isAgg := true, zero := (.agg (List.replicate 24 (.v (.int IntKind.u8 0)))), flds := [], elem := 0 } := by kernel_rfl
theorem tab_228 : tab 228 = { ok := true, desc := (TypeDesc.func #[64, 157] #[] false), size := 1, bytes := 8, isAgg := false, zero := (.v .nilFunc), flds := [], elem := 0 } := by kernel_rfl
theorem tab_230 : tab 230 = { ok := true, desc := (TypeDesc.func #[64, 157, 3, 4, 4] #[64, 9] false), size := 1, bytes := 8, isAgg := false, zero := (.v .nilFunc), flds := [], elem := 0 } := by kernel_rfl
theorem tab_232 : tab 232 = { ok := true, desc := (TypeDesc.func #[9] #[21, 3] false), size := 1, bytes := 8, isAgg := false, zero := (.v .nilFunc), flds := [], elem := 0 } := by kernel_rfl
theorem tab_233 : tab 233 = { ok := true, desc := (TypeDesc.func #[4] #[3] false), size := 1, bytes := 8, isAgg := false, zero := (.v .nilFunc), flds := [], elem := 0 } := by kernel_rfl
theorem tab_234 : tab 234 = { ok := true, desc := (TypeDesc.array 20 157), size := 20, bytes := 160, isAgg := true, zero := (.agg [(.v (.int IntKind.u64 0)), (.v (.int IntKind.u64 0)), (.v (.int IntKind.u64 0)), (.v (.int IntKind.u64 0)), (.v (.int IntKind.u64 0)), (.v (.int IntKind.u64 0)), (.v (.int IntKind.u64 0)), (.v (.int IntKind.u64 0)), (.v (.int IntKind.u64 0)), (.v (.int IntKind.u64 0)), (.v (.int IntKind.u64 0)), (.v (.int IntKind.u64 0)), (.v (.int IntKind.u64 0)), (.v (.int IntKind.u64 0)), (.v (.int IntKind.u64 0)), (.v (.int IntKind.u64 0)), (.v (.int IntKind.u64 0)), (.v (.int IntKind.u64 0)), (.v (.int IntKind.u64 0)), (.v (.int IntKind.u64 0))]), flds := [], elem := 0 } := by kernel_rfl
theorem tab_235 : tab 235 = { ok := true, desc := (TypeDesc.array 65 5), size := 65, bytes := 65, isAgg := true, zero := (.agg (List.replicate 65 (.v (.int IntKind.u8 0)))), flds := [], elem := 0 } := by kernel_rfl
theorem tab_236 : tab 236 = { ok := true, desc := (TypeDesc.struct #[{ name := "lo", type := 5, offset := 0, embedded := false, tag := "", pkgPath := "unicode/utf8", byteOffset := 0 }, { name := "hi", type := 5, offset := 1, embedded := false, tag := "", pkgPath := "unicode/utf8", byteOffset := 1 }]), size := 2, bytes := 2, isAgg := true, zero := (.agg [(.v (.int IntKind.u8 0)), (.v (.int IntKind.u8 0))]), flds := [(0, 1, false), (1, 1, false)], elem := 0 } := by kernel_rfl
theorem tab_237 : tab 237 = { ok := true, desc := (TypeDesc.struct #[{ name := "lo", type := 5, offset := 0, embedded := false, tag := "", pkgPath := "unicode/utf8", byteOffset := 0 }, { name := "hi", type := 5, offset := 1, embedded := false, tag := "", pkgPath := "unicode/utf8", byteOffset := 1 }]), size := 2, bytes := 2, isAgg := true, zero := (.agg [(.v (.int IntKind.u8 0)), (.v (.int IntKind.u8 0))]), flds := [(0, 1, false), (1, 1, false)], elem := 0 } := by kernel_rfl
theorem tab_238 : tab 238 = { ok := true, desc := (TypeDesc.array 16 237), size := 32, bytes := 32, isAgg := true, zero := (.agg (List.replicate 32 (.v (.int IntKind.u8 0)))), flds := [], elem := 0 } := by kernel_rfl
theorem tab_240 : tab 240 = { ok := true, desc := (TypeDesc.func #[9] #[155, 155] false), size := 1, bytes := 8, isAgg := false, zero := (.v .nilFunc), flds := [], elem := 0 } := by kernel_rfl
theorem tab_241 : tab 241 = { ok := true, desc := (TypeDesc.array 32 5), size := 32, bytes := 32, isAgg := true, zero := (.agg (List.replicate 32 (.v (.int IntKind.u8 0)))), flds := [], elem := 0 } := by kernel_rfl
theorem tab_242 : tab 242 = { ok := true, desc := (TypeDesc.array 64 5), size := 64, bytes := 64, isAgg := true, zero := (.agg (List.replicate 64 (.v (.int IntKind.u8 0)))), flds := [], elem := 0 } := by kernel_rfl
theorem tab_243 : tab 243 = { ok := true, desc := (TypeDesc.func #[] #[9] false), size := 1, bytes := 8, isAgg := false, zero := (.v .nilFunc), flds := [], elem := 0 } := by kernel_rfl
theorem tab_244 : tab 244 = { ok := true, desc := (TypeDesc.struct #[{ name := "_interface", type := 17, offset := 0, embedded := false, tag := "", pkgPath := "runtime", byteOffset := 0 }, { name := "concrete", type := 17, offset := 1, embedded := false, tag := "", pkgPath := "runtime", byteOffset := 8 }, { name := "asserted", type := 17, offset := 2, embedded := false, tag := "", pkgPath := "runtime", byteOffset := 16 }, { name := "missingMethod", type := 9, offset := 3, embedded := false, tag := "", pkgPath := "runtime", byteOffset := 24 }]), size := 4, bytes := 40, isAgg := true, zero := (.agg [(.v (.pointer none)), (.v (.pointer none)), (.v (.pointer none)), (.str [])]), flds := [(0, 1, false), (1, 1, false), (2, 1, false), (3, 1, false)], elem := 0 } := by kernel_rfl
theorem tab_245 : tab 245 = { ok := true, desc := (TypeDesc.struct #[{ name := "_interface", type := 17, offset := 0, embedded := false, tag := "", pkgPath := "runtime", byteOffset := 0 }, { name := "concrete", type := 17, offset := 1, embedded := false, tag := "", pkgPath := "runtime", byteOffset := 8 }, { name := "asserted", type := 17, offset := 2, embedded := false, tag := "", pkgPath := "runtime", byteOffset := 16 }, { name := "missingMethod", type := 9, offset := 3, embedded := false, tag := "", pkgPath := "runtime", byteOffset := 24 }]), size := 4, bytes := 40, isAgg := true, zero := (.agg [(.v (.pointer none)), (.v (.pointer none)), (.v (.pointer none)), (.str [])]), flds := [(0, 1, false), (1, 1, false), (2, 1, false), (3, 1, false)], elem := 0 } := by kernel_rfl
theorem tab_249 : tab 249 = { ok := true, desc := (TypeDesc.func #[] #[3] false), size := 1, bytes := 8, isAgg := false, zero := (.v .nilFunc), flds := [], elem := 0 } := by kernel_rfl
theorem tab_250 : tab 250 = { ok := true, desc := (TypeDesc.int IntKind.u8), size := 1, bytes := 1, isAgg := false, zero := (.v (.int IntKind.u8 0)), flds := [], elem := 0 } := by kernel_rfl
theorem tab_251 : tab 251 = { ok := true, desc := (TypeDesc.int IntKind.u8), size := 1, bytes := 1, isAgg := false, zero := (.v (.int IntKind.u8 0)), flds := [], elem := 0 } := by kernel_rfl
theorem tab_252 : tab 252 = { ok := true, desc := (TypeDesc.func #[257, 257] #[4] false), size := 1, bytes := 8, isAgg := false, zero := (.v .nilFunc), flds := [], elem := 0 } := by kernel_rfl
theorem tab_253 : tab 253 = { ok := true, desc := (TypeDesc.int IntKind.i32), size := 1, bytes := 4, isAgg := false, zero := (.v (.int IntKind.i32 0)), flds := [], elem := 0 } := by kernel_rfl
theorem tab_254 : tab 254 = { ok := true, desc := (TypeDesc.int IntKind.i32), size := 1, bytes := 4, isAgg := false, zero := (.v (.int IntKind.i32 0)), flds := [], elem := 0 } := by kernel_rfl
theorem tab_255 : tab 255 = { ok := true, desc := (TypeDesc.struct #[{ name := "Size_", type := 12, offset := 0, embedded := false, tag := "", pkgPath := "", byteOffset := 0 }, { name := "PtrBytes", type := 12, offset := 1, embedded := false, tag := "", pkgPath := "", byteOffset := 8 }, { name := "Hash", type := 155, offset := 2, embedded := false, tag := "", pkgPath := "", byteOffset := 16 }, { name := "TFlag", type := 250, offset := 3, embedded := false, tag := "", pkgPath := "", byteOffset := 20 }, { name := "Align_", type := 5, offset := 4, embedded := false, tag := "", pkgPath := "", byteOffset := 21 }, { name := "FieldAlign_", type := 5, offset := 5, embedded := false, tag := "", pkgPath := "", byteOffset := 22 }, { name := "Kind_", type := 251, offset := 6, embedded := false, tag := "", pkgPath := "", byteOffset := 23 }, { name := "Equal", type := 252, offset := 7, embedded := false, tag := "", pkgPath := "", byteOffset := 24 }, { name := "GCData", type := 219, offset := 8, embedded := false, tag := "", pkgPath := "", byteOffset := 32 }, { name := "Str", type := 253, offset := 9, embedded := false, tag := "", pkgPath := "", byteOffset := 40 }, { name := "PtrToThis", type := 254, offset := 10, embedded := false, tag := "", pkgPath := "", byteOffset := 44 }]), size := 11, bytes := 48, isAgg := true, zero := (.agg [(.v (.int IntKind.u64 0)), (.v (.int IntKind.u64 0)), (.v (.int IntKind.u32 0)), (.v (.int IntKind.u8 0)), (.v (.int IntKind.u8 0)), (.v (.int IntKind.u8 0)), (.v (.int IntKind.u8 0)), (.v .nilFunc), (.v (.pointer none)), (.v (.int IntKind.i32 0)), (.v (.int IntKind.i32 0))]), flds := [(0, 1, false), (1, 1, false), (2, 1, false), (3, 1, false), (4, 1, false), (5, 1, false), (6, 1, false), (7, 1, false), (8, 1, false), (9, 1, false), (10, 1, false)], elem := 0 } := by kernel_rfl
theorem tab_256 : tab 256 = { ok := true, desc := (TypeDesc.struct #[{ name := "Size_", type := 12, offset := 0, embedded := false, tag := "", pkgPath := "", byteOffset := 0 }, { name := "PtrBytes", type := 12, offset := 1, embedded := false, tag := "", pkgPath := "", byteOffset := 8 }, { name := "Hash", type := 155, offset := 2, embedded := false, tag := "", pkgPath := "", byteOffset := 16 }, { name := "TFlag", type := 250, offset := 3, embedded := false, tag := "", pkgPath := "", byteOffset := 20 }, { name := "Align_", type := 5, offset := 4, embedded := false, tag := "", pkgPath := "", byteOffset := 21 }, { name := "FieldAlign_", type := 5, offset := 5, embedded := false, tag := "", pkgPath := "", byteOffset := 22 }, { name := "Kind_", type := 251, offset := 6, embedded := false, tag := "", pkgPath := "", byteOffset := 23 }, { name := "Equal", type := 252, offset := 7, embedded := false, tag := "", pkgPath := "", byteOffset := 24 }, { name := "GCData", type := 219, offset := 8, embedded := false, tag := "", pkgPath := "", byteOffset := 32 }, { name := "Str", type := 253, offset := 9, embedded := false, tag := "", pkgPath := "", byteOffset := 40 }, { name := "PtrToThis", type := 254, offset := 10, embedded := false, tag := "", pkgPath := "", byteOffset := 44 }]), size := 11, bytes := 48, isAgg := true, zero := (.agg [(.v (.int IntKind.u64 0)), (.v (.int IntKind.u64 0)), (.v (.int IntKind.u32 0)), (.v (.int IntKind.u8 0)), (.v (.int IntKind.u8 0)), (.v (.int IntKind.u8 0)), (.v (.int IntKind.u8 0)), (.v .nilFunc), (.v (.pointer none)), (.v (.int IntKind.i32 0)), (.v (.int IntKind.i32 0))]), flds := [(0, 1, false), (1, 1, false), (2, 1, false), (3, 1, false), (4, 1, false), (5, 1, false), (6, 1, false), (7, 1, false), (8, 1, false), (9, 1, false), (10, 1, false)], elem := 0 } := by kernel_rfl
theorem tab_257 : tab 257 = { ok := true, desc := TypeDesc.unsafePointer, size := 1, bytes := 8, isAgg := false, zero := (.v (.pointer none)), flds := [], elem := 0 } := by kernel_rfl
theorem tab_ok : TabOK Go.Proofs.Tryz.prog tab := TabOK.of_list (l := tabL) ⟨TyOK.of' (inf := Go.Proofs.Tryz.t1) Go.Proofs.Tryz.underlying1 (by kernel_rfl) (by kernel_rfl),
  TyOK.of' (inf := Go.Proofs.Tryz.t2) Go.Proofs.Tryz.underlying2 (by kernel_rfl) (by kernel_rfl),
  TyOK.of' (inf := Go.Proofs.Tryz.t3) Go.Proofs.Tryz.underlying3 (by kernel_rfl) (by kernel_rfl),
  TyOK.of' (inf := Go.Proofs.Tryz.t4) Go.Proofs.Tryz.underlying4 (by kernel_rfl) (by kernel_rfl),
  TyOK.of' (inf := Go.Proofs.Tryz.t5) Go.Proofs.Tryz.underlying5 (by kernel_rfl) (by kernel_rfl),
  TyOK.of' (inf := Go.Proofs.Tryz.t6) Go.Proofs.Tryz.underlying6 (by kernel_rfl) (by kernel_rfl),
  TyOK.of' (inf := Go.Proofs.Tryz.t7) Go.Proofs.Tryz.underlying7 (by kernel_rfl) (by kernel_rfl),
  TyOK.of' (inf := Go.Proofs.Tryz.t8) Go.Proofs.Tryz.underlying8 (by kernel_rfl) (by kernel_rfl),
  TyOK.of' (inf := Go.Proofs.Tryz.t9) Go.Proofs.Tryz.underlying9 (by kernel_rfl) (by kernel_rfl),
  TyOK.of' (inf := Go.Proofs.Tryz.t10) Go.Proofs.Tryz.underlying10 (by kernel_rfl) (by kernel_rfl),
  TyOK.of' (inf := Go.Proofs.Tryz.t11) Go.Proofs.Tryz.underlying11 (by kernel_rfl) (by kernel_rfl),
  TyOK.of' (inf := Go.Proofs.Tryz.t12) Go.Proofs.Tryz.underlying12 (by kernel_rfl) (by kernel_rfl),
  TyOK.of' (inf := Go.Proofs.Tryz.t13) Go.Proofs.Tryz.underlying13 (by kernel_rfl) (by kernel_rfl),
  TyOK.of' (inf := Go.Proofs.Tryz.t14) Go.Proofs.Tryz.underlying14 (by kernel_rfl) (by kernel_rfl),
  TyOK.of' (inf := Go.Proofs.Tryz.t15) Go.Proofs.Tryz.underlying15 (by kernel_rfl) (by kernel_rfl),
  TyOK.of' (inf := Go.Proofs.Tryz.t16) Go.Proofs.Tryz.underlying16 (by kernel_rfl) (by kernel_rfl),
  TyOK.of' (inf := Go.Proofs.Tryz.t17) Go.Proofs.Tryz.underlying17 (by kernel_rfl) (by kernel_rfl),
  TyOK.of' (inf := Go.Proofs.Tryz.t18) Go.Proofs.Tryz.underlying18 (by kernel_rfl) (by kernel_rfl),
  TyOK.of' (inf := Go.Proofs.Tryz.t19) Go.Proofs.Tryz.underlying19 (by kernel_rfl) (by kernel_rfl),
  TyOK.of' (inf := Go.Proofs.Tryz.t20) Go.Proofs.Tryz.underlying20 (by kernel_rfl) (by kernel_rfl),
  TyOK.of' (inf := Go.Proofs.Tryz.t21) Go.Proofs.Tryz.underlying21 (by kernel_rfl) (by kernel_rfl),
  TyOK.of' (inf := Go.Proofs.Tryz.t22) Go.Proofs.Tryz.underlying22 (by kernel_rfl) (by kernel_rfl),
  TyOK.of' (inf := Go.Proofs.Tryz.t23) Go.Proofs.Tryz.underlying23 (by kernel_rfl) (by kernel_rfl),
  TyOK.of' (inf := Go.Proofs.Tryz.t24) Go.Proofs.Tryz.underlying24 (by kernel_rfl) (by kernel_rfl),
  TyOK.of' (inf := Go.Proofs.Tryz.t25) Go.Proofs.Tryz.underlying25 (by kernel_rfl) (by kernel_rfl),
  TyOK.of' (inf := Go.Proofs.Tryz.t26) Go.Proofs.Tryz.underlying26 (by kernel_rfl) (by kernel_rfl),
  TyOK.of' (inf := Go.Proofs.Tryz.t28) Go.Proofs.Tryz.underlying28 (by kernel_rfl) (by kernel_rfl),
  TyOK.of' (inf := Go.Proofs.Tryz.t29) Go.Proofs.Tryz.underlying29 (by kernel_rfl) (by kernel_rfl),
  TyOK.of' (inf := Go.Proofs.Tryz.t31) Go.Proofs.Tryz.underlying31 (by kernel_rfl) (by kernel_rfl),
  TyOK.of' (inf := Go.Proofs.Tryz.t32) Go.Proofs.Tryz.underlying32 (by kernel_rfl) (by kernel_rfl),
  TyOK.of' (inf := Go.Proofs.Tryz.t33) Go.Proofs.Tryz.underlying33 (by kernel_rfl) (by kernel_rfl),
  TyOK.of' (inf := Go.Proofs.Tryz.t34) Go.Proofs.Tryz.underlying34 (by kernel_rfl) (by kernel_rfl),
  TyOK.of' (inf := Go.Proofs.Tryz.t35) Go.Proofs.Tryz.underlying35 (by kernel_rfl) (by kernel_rfl),
  TyOK.of' (inf := Go.Proofs.Tryz.t37) Go.Proofs.Tryz.underlying37 (by kernel_rfl) (by kernel_rfl),
  TyOK.of' (inf := Go.Proofs.Tryz.t38) Go.Proofs.Tryz.underlying38 (by kernel_rfl) (by kernel_rfl),
  TyOK.of' (inf := Go.Proofs.Tryz.t39) Go.Proofs.Tryz.underlying39 (by kernel_rfl) (by kernel_rfl),
  TyOK.of' (inf := Go.Proofs.Tryz.t40) Go.Proofs.Tryz.underlying40 (by kernel_rfl) (by kernel_rfl),
  TyOK.of' (inf := Go.Proofs.Tryz.t41) Go.Proofs.Tryz.underlying41 (by kernel_rfl) (by kernel_rfl),
  TyOK.of' (inf := Go.Proofs.Tryz.t42) Go.Proofs.Tryz.underlying42 (by kernel_rfl) (by kernel_rfl),
  TyOK.of' (inf := Go.Proofs.Tryz.t43) Go.Proofs.Tryz.underlying43 (by kernel_rfl) (by kernel_rfl),
  TyOK.of' (inf := Go.Proofs.Tryz.t44) Go.Proofs.Tryz.underlying44 (by kernel_rfl) (by kernel_rfl),
  TyOK.of' (inf := Go.Proofs.Tryz.t45) Go.Proofs.Tryz.underlying45 (by kernel_rfl) (by kernel_rfl),
  TyOK.of' (inf := Go.Proofs.Tryz.t46) Go.Proofs.Tryz.underlying46 (by kernel_rfl) (by kernel_rfl),
  TyOK.of' (inf := Go.Proofs.Tryz.t47) Go.Proofs.Tryz.underlying47 (by kernel_rfl) (by kernel_rfl),
  TyOK.of' (inf := Go.Proofs.Tryz.t48) Go.Proofs.Tryz.underlying48 (by kernel_rfl) (by kernel_rfl),
  TyOK.of' (inf := Go.Proofs.Tryz.t50) Go.Proofs.Tryz.underlying50 (by kernel_rfl) (by kernel_rfl),
  TyOK.of' (inf := Go.Proofs.Tryz.t52) Go.Proofs.Tryz.underlying52 (by kernel_rfl) (by kernel_rfl),
  TyOK.of' (inf := Go.Proofs.Tryz.t53) Go.Proofs.Tryz.underlying53 (by kernel_rfl) (by kernel_rfl),
  TyOK.of' (inf := Go.Proofs.Tryz.t54) Go.Proofs.Tryz.underlying54 (by kernel_rfl) (by kernel_rfl),
  TyOK.of' (inf := Go.Proofs.Tryz.t55) Go.Proofs.Tryz.underlying55 (by kernel_rfl) (by kernel_rfl),
  TyOK.of' (inf := Go.Proofs.Tryz.t56) Go.Proofs.Tryz.underlying56 (by kernel_rfl) (by kernel_rfl),
  TyOK.of' (inf := Go.Proofs.Tryz.t57) Go.Proofs.Tryz.underlying57 (by kernel_rfl) (by kernel_rfl),
  TyOK.of' (inf := Go.Proofs.Tryz.t58) Go.Proofs.Tryz.underlying58 (by kernel_rfl) (by kernel_rfl),
  TyOK.of' (inf := Go.Proofs.Tryz.t59) Go.Proofs.Tryz.underlying59 (by kernel_rfl) (by kernel_rfl),
  TyOK.of' (inf := Go.Proofs.Tryz.t60) Go.Proofs.Tryz.underlying60 (by kernel_rfl) (by kernel_rfl),
  TyOK.of' (inf := Go.Proofs.Tryz.t61) Go.Proofs.Tryz.underlying61 (by kernel_rfl) (by kernel_rfl),
  TyOK.of' (inf := Go.Proofs.Tryz.t62) Go.Proofs.Tryz.underlying62 (by kernel_rfl) (by kernel_rfl),
  TyOK.of' (inf := Go.Proofs.Tryz.t63) Go.Proofs.Tryz.underlying63 (by kernel_rfl) (by kernel_rfl),
  TyOK.of' (inf := Go.Proofs.Tryz.t64) Go.Proofs.Tryz.underlying64 (by kernel_rfl) (by kernel_rfl),
  TyOK.of' (inf := Go.Proofs.Tryz.t66) Go.Proofs.Tryz.underlying66 (by kernel_rfl) (by kernel_rfl),
  TyOK.of' (inf := Go.Proofs.Tryz.t67) Go.Proofs.Tryz.underlying67 (by kernel_rfl) (by kernel_rfl),
  TyOK.of' (inf := Go.Proofs.Tryz.t68) Go.Proofs.Tryz.underlying68 (by kernel_rfl) (by kernel_rfl),
  TyOK.of' (inf := Go.Proofs.Tryz.t69) Go.Proofs.Tryz.underlying69 (by kernel_rfl) (by kernel_rfl),
  TyOK.of' (inf := Go.Proofs.Tryz.t70) Go.Proofs.Tryz.underlying70 (by kernel_rfl) (by kernel_rfl),
  TyOK.of' (inf := Go.Proofs.Tryz.t71) Go.Proofs.Tryz.underlying71 (by kernel_rfl) (by kernel_rfl),
  TyOK.of' (inf := Go.Proofs.Tryz.t72) Go.Proofs.Tryz.underlying72 (by kernel_rfl) (by kernel_rfl),
  TyOK.of' (inf := Go.Proofs.Tryz.t73) Go.Proofs.Tryz.underlying73 (by kernel_rfl) (by kernel_rfl),
  TyOK.of' (inf := Go.Proofs.Tryz.t74) Go.Proofs.Tryz.underlying74 (by kernel_rfl) (by kernel_rfl),
  TyOK.of' (inf := Go.Proofs.Tryz.t75) Go.Proofs.Tryz.underlying75 (by kernel_rfl) (by kernel_rfl),
  TyOK.of' (inf := Go.Proofs.Tryz.t76) Go.Proofs.Tryz.underlying76 (by kernel_rfl) (by kernel_rfl),
  TyOK.of' (inf := Go.Proofs.Tryz.t77) Go.Proofs.Tryz.underlying77 (by kernel_rfl) (by kernel_rfl),
  TyOK.of' (inf := Go.Proofs.Tryz.t78) Go.Proofs.Tryz.underlying78 (by kernel_rfl) (by kernel_rfl),
  TyOK.of' (inf := Go.Proofs.Tryz.t79) Go.Proofs.Tryz.underlying79 (by kernel_rfl) (by kernel_rfl),
  TyOK.of' (inf := Go.Proofs.Tryz.t80) Go.Proofs.Tryz.underlying80 (by kernel_rfl) (by kernel_rfl),
  TyOK.of' (inf := Go.Proofs.Tryz.t81) Go.Proofs.Tryz.underlying81 (by kernel_rfl) (by kernel_rfl),
  TyOK.of' (inf := Go.Proofs.Tryz.t82) Go.Proofs.Tryz.underlying82 (by kernel_rfl) (by kernel_rfl),
  TyOK.of' (inf := Go.Proofs.Tryz.t83) Go.Proofs.Tryz.underlying83 (by kernel_rfl) (by kernel_rfl),
  TyOK.of' (inf := Go.Proofs.Tryz.t84) Go.Proofs.Tryz.underlying84 (by kernel_rfl) (by kernel_rfl),
  TyOK.of' (inf := Go.Proofs.Tryz.t85) Go.Proofs.Tryz.underlying85 (by kernel_rfl) (by kernel_rfl),
  TyOK.of' (inf := Go.Proofs.Tryz.t86) Go.Proofs.Tryz.underlying86 (by kernel_rfl) (by kernel_rfl),
  TyOK.of' (inf := Go.Proofs.Tryz.t87) Go.Proofs.Tryz.underlying87 (by kernel_rfl) (by kernel_rfl),
  TyOK.of' (inf := Go.Proofs.Tryz.t88) Go.Proofs.Tryz.underlying88 (by kernel_rfl) (by kernel_rfl),
  TyOK.of' (inf := Go.Proofs.Tryz.t89) Go.Proofs.Tryz.underlying89 (by kernel_rfl) (by kernel_rfl),
  TyOK.of' (inf := Go.Proofs.Tryz.t90) Go.Proofs.Tryz.underlying90 (by kernel_rfl) (by kernel_rfl),
  TyOK.of' (inf := Go.Proofs.Tryz.t92) Go.Proofs.Tryz.underlying92 (by kernel_rfl) (by kernel_rfl),
  TyOK.of' (inf := Go.Proofs.Tryz.t93) Go.Proofs.Tryz.underlying93 (by kernel_rfl) (by kernel_rfl),
  TyOK.of' (inf := Go.Proofs.Tryz.t95) Go.Proofs.Tryz.underlying95 (by kernel_rfl) (by kernel_rfl),
  TyOK.of' (inf := Go.Proofs.Tryz.t96) Go.Proofs.Tryz.underlying96 (by kernel_rfl) (by kernel_rfl),
  TyOK.of' (inf := Go.Proofs.Tryz.t97) Go.Proofs.Tryz.underlying97 (by kernel_rfl) (by kernel_rfl),
  TyOK.of' (inf := Go.Proofs.Tryz.t98) Go.Proofs.Tryz.underlying98 (by kernel_rfl) (by kernel_rfl),
  TyOK.of' (inf := Go.Proofs.Tryz.t99) Go.Proofs.Tryz.underlying99 (by kernel_rfl) (by kernel_rfl),
  TyOK.of' (inf := Go.Proofs.Tryz.t100) Go.Proofs.Tryz.underlying100 (by kernel_rfl) (by kernel_rfl),
  TyOK.of' (inf := Go.Proofs.Tryz.t101) Go.Proofs.Tryz.underlying101 (by kernel_rfl) (by kernel_rfl),
  TyOK.of' (inf := Go.Proofs.Tryz.t102) Go.Proofs.Tryz.underlying102 (by kernel_rfl) (by kernel_rfl),
  TyOK.of' (inf := Go.Proofs.Tryz.t103) Go.Proofs.Tryz.underlying103 (by kernel_rfl) (by kernel_rfl),
  TyOK.of' (inf := Go.Proofs.Tryz.t104) Go.Proofs.Tryz.underlying104 (by kernel_rfl) (by kernel_rfl),
  TyOK.of' (inf := Go.Proofs.Tryz.t105) Go.Proofs.Tryz.underlying105 (by kernel_rfl) (by kernel_rfl),
  TyOK.of' (inf := Go.Proofs.Tryz.t106) Go.Proofs.Tryz.underlying106 (by kernel_rfl) (by kernel_rfl),
  TyOK.of' (inf := Go.Proofs.Tryz.t107) Go.Proofs.Tryz.underlying107 (by kernel_rfl) (by kernel_rfl),
  TyOK.of' (inf := Go.Proofs.Tryz.t109) Go.Proofs.Tryz.underlying109 (by kernel_rfl) (by kernel_rfl),
  TyOK.of' (inf := Go.Proofs.Tryz.t110) Go.Proofs.Tryz.underlying110 (by kernel_rfl) (by kernel_rfl),
  TyOK.of' (inf := Go.Proofs.Tryz.t111) Go.Proofs.Tryz.underlying111 (by kernel_rfl) (by kernel_rfl),
  TyOK.of' (inf := Go.Proofs.Tryz.t112) Go.Proofs.Tryz.underlying112 (by kernel_rfl) (by kernel_rfl),
  TyOK.of' (inf := Go.Proofs.Tryz.t113) Go.Proofs.Tryz.underlying113 (by kernel_rfl) (by kernel_rfl),
  TyOK.of' (inf := Go.Proofs.Tryz.t114) Go.Proofs.Tryz.underlying114 (by kernel_rfl) (by kernel_rfl),
  TyOK.of' (inf := Go.Proofs.Tryz.t115) Go.Proofs.Tryz.underlying115 (by kernel_rfl) (by kernel_rfl),
  TyOK.of' (inf := Go.Proofs.Tryz.t116) Go.Proofs.Tryz.underlying116 (by kernel_rfl) (by kernel_rfl),
  TyOK.of' (inf := Go.Proofs.Tryz.t117) Go.Proofs.Tryz.underlying117 (by kernel_rfl) (by kernel_rfl),
  TyOK.of' (inf := Go.Proofs.Tryz.t118) Go.Proofs.Tryz.underlying118 (by kernel_rfl) (by kernel_rfl),
  TyOK.of' (inf := Go.Proofs.Tryz.t119) Go.Proofs.Tryz.underlying119 (by kernel_rfl) (by kernel_rfl),
  TyOK.of' (inf := Go.Proofs.Tryz.t120) Go.Proofs.Tryz.underlying120 (by kernel_rfl) (by kernel_rfl),
  TyOK.of' (inf := Go.Proofs.Tryz.t121) Go.Proofs.Tryz.underlying121 (by kernel_rfl) (by kernel_rfl),
  TyOK.of' (inf := Go.Proofs.Tryz.t122) Go.Proofs.Tryz.underlying122 (by kernel_rfl) (by kernel_rfl),
  TyOK.of' (inf := Go.Proofs.Tryz.t123) Go.Proofs.Tryz.underlying123 (by kernel_rfl) (by kernel_rfl),
  TyOK.of' (inf := Go.Proofs.Tryz.t124) Go.Proofs.Tryz.underlying124 (by kernel_rfl) (by kernel_rfl),
  TyOK.of' (inf := Go.Proofs.Tryz.t125) Go.Proofs.Tryz.underlying125 (by kernel_rfl) (by kernel_rfl),
  TyOK.of' (inf := Go.Proofs.Tryz.t126) Go.Proofs.Tryz.underlying126 (by kernel_rfl) (by kernel_rfl),
  TyOK.of' (inf := Go.Proofs.Tryz.t127) Go.Proofs.Tryz.underlying127 (by kernel_rfl) (by kernel_rfl),
  TyOK.of' (inf := Go.Proofs.Tryz.t128) Go.Proofs.Tryz.underlying128 (by kernel_rfl) (by kernel_rfl),
  TyOK.of' (inf := Go.Proofs.Tryz.t129) Go.Proofs.Tryz.underlying129 (by kernel_rfl) (by kernel_rfl),
  TyOK.of' (inf := Go.Proofs.Tryz.t130) Go.Proofs.Tryz.underlying130 (by kernel_rfl) (by kernel_rfl),
  TyOK.of' (inf := Go.Proofs.Tryz.t131) Go.Proofs.Tryz.underlying131 (by kernel_rfl) (by kernel_rfl),
  TyOK.of' (inf := Go.Proofs.Tryz.t132) Go.Proofs.Tryz.underlying132 (by kernel_rfl) (by kernel_rfl),
  TyOK.of' (inf := Go.Proofs.Tryz.t133) Go.Proofs.Tryz.underlying133 (by kernel_rfl) (by kernel_rfl),
  TyOK.of' (inf := Go.Proofs.Tryz.t134) Go.Proofs.Tryz.underlying134 (by kernel_rfl) (by kernel_rfl),
  TyOK.of' (inf := Go.Proofs.Tryz.t135) Go.Proofs.Tryz.underlying135 (by kernel_rfl) (by kernel_rfl),
  TyOK.of' (inf := Go.Proofs.Tryz.t136) Go.Proofs.Tryz.underlying136 (by kernel_rfl) (by kernel_rfl),
  TyOK.of' (inf := Go.Proofs.Tryz.t137) Go.Proofs.Tryz.underlying137 (by kernel_rfl) (by kernel_rfl),
  TyOK.of' (inf := Go.Proofs.Tryz.t138) Go.Proofs.Tryz.underlying138 (by kernel_rfl) (by kernel_rfl),
  TyOK.of' (inf := Go.Proofs.Tryz.t139) Go.Proofs.Tryz.underlying139 (by kernel_rfl) (by kernel_rfl),
  TyOK.of' (inf := Go.Proofs.Tryz.t140) Go.Proofs.Tryz.underlying140 (by kernel_rfl) (by kernel_rfl),
  TyOK.of' (inf := Go.Proofs.Tryz.t142) Go.Proofs.Tryz.underlying142 (by kernel_rfl) (by kernel_rfl),
  TyOK.of' (inf := Go.Proofs.Tryz.t143) Go.Proofs.Tryz.underlying143 (by kernel_rfl) (by kernel_rfl),
  TyOK.of' (inf := Go.Proofs.Tryz.t144) Go.Proofs.Tryz.underlying144 (by kernel_rfl) (by kernel_rfl),
  TyOK.of' (inf := Go.Proofs.Tryz.t145) Go.Proofs.Tryz.underlying145 (by kernel_rfl) (by kernel_rfl),
  TyOK.of' (inf := Go.Proofs.Tryz.t146) Go.Proofs.Tryz.underlying146 (by kernel_rfl) (by kernel_rfl),
  TyOK.of' (inf := Go.Proofs.Tryz.t148) Go.Proofs.Tryz.underlying148 (by kernel_rfl) (by kernel_rfl),
  TyOK.of' (inf := Go.Proofs.Tryz.t149) Go.Proofs.Tryz.underlying149 (by kernel_rfl) (by kernel_rfl),
  TyOK.of' (inf := Go.Proofs.Tryz.t150) Go.Proofs.Tryz.underlying150 (by kernel_rfl) (by kernel_rfl),
  TyOK.of' (inf := Go.Proofs.Tryz.t151) Go.Proofs.Tryz.underlying151 (by kernel_rfl) (by kernel_rfl),
  TyOK.of' (inf := Go.Proofs.Tryz.t153) Go.Proofs.Tryz.underlying153 (by kernel_rfl) (by kernel_rfl),
  TyOK.of' (inf := Go.Proofs.Tryz.t154) Go.Proofs.Tryz.underlying154 (by kernel_rfl) (by kernel_rfl),
  TyOK.of' (inf := Go.Proofs.Tryz.t155) Go.Proofs.Tryz.underlying155 (by kernel_rfl) (by kernel_rfl),
  TyOK.of' (inf := Go.Proofs.Tryz.t156) Go.Proofs.Tryz.underlying156 (by kernel_rfl) (by kernel_rfl),
  TyOK.of' (inf := Go.Proofs.Tryz.t157) Go.Proofs.Tryz.underlying157 (by kernel_rfl) (by kernel_rfl),
  TyOK.of' (inf := Go.Proofs.Tryz.t158) Go.Proofs.Tryz.underlying158 (by kernel_rfl) (by kernel_rfl),
  TyOK.of' (inf := Go.Proofs.Tryz.t160) Go.Proofs.Tryz.underlying160 (by kernel_rfl) (by kernel_rfl),
  TyOK.of' (inf := Go.Proofs.Tryz.t161) Go.Proofs.Tryz.underlying161 (by kernel_rfl) (by kernel_rfl),
  TyOK.of' (inf := Go.Proofs.Tryz.t162) Go.Proofs.Tryz.underlying162 (by kernel_rfl) (by kernel_rfl),
  TyOK.of' (inf := Go.Proofs.Tryz.t163) Go.Proofs.Tryz.underlying163 (by kernel_rfl) (by kernel_rfl),
  TyOK.of' (inf := Go.Proofs.Tryz.t164) Go.Proofs.Tryz.underlying164 (by kernel_rfl) (by kernel_rfl),
  TyOK.of' (inf := Go.Proofs.Tryz.t165) Go.Proofs.Tryz.underlying165 (by kernel_rfl) (by kernel_rfl),
  TyOK.of' (inf := Go.Proofs.Tryz.t166) Go.Proofs.Tryz.underlying166 (by kernel_rfl) (by kernel_rfl),
  TyOK.of' (inf := Go.Proofs.Tryz.t167) Go.Proofs.Tryz.underlying167 (by kernel_rfl) (by kernel_rfl),
  TyOK.of' (inf := Go.Proofs.Tryz.t168) Go.Proofs.Tryz.underlying168 (by kernel_rfl) (by kernel_rfl),
  TyOK.of' (inf := Go.Proofs.Tryz.t169) Go.Proofs.Tryz.underlying169 (by kernel_rfl) (by kernel_rfl),
  TyOK.of' (inf := Go.Proofs.Tryz.t170) Go.Proofs.Tryz.underlying170 (by kernel_rfl) (by kernel_rfl),
  TyOK.of' (inf := Go.Proofs.Tryz.t171) Go.Proofs.Tryz.underlying171 (by kernel_rfl) (by kernel_rfl),
  TyOK.of' (inf := Go.Proofs.Tryz.t172) Go.Proofs.Tryz.underlying172 (by kernel_rfl) (by kernel_rfl),
  TyOK.of' (inf := Go.Proofs.Tryz.t174) Go.Proofs.Tryz.underlying174 (by kernel_rfl) (by kernel_rfl),
  TyOK.of' (inf := Go.Proofs.Tryz.t175) Go.Proofs.Tryz.underlying175 (by kernel_rfl) (by kernel_rfl),
  TyOK.of' (inf := Go.Proofs.Tryz.t176) Go.Proofs.Tryz.underlying176 (by kernel_rfl) (by kernel_rfl),
  TyOK.of' (inf := Go.Proofs.Tryz.t177) Go.Proofs.Tryz.underlying177 (by kernel_rfl) (by kernel_rfl),
  TyOK.of' (inf := Go.Proofs.Tryz.t178) Go.Proofs.Tryz.underlying178 (by kernel_rfl) (by kernel_rfl),
  TyOK.of' (inf := Go.Proofs.Tryz.t179) Go.Proofs.Tryz.underlying179 (by kernel_rfl) (by kernel_rfl),
  TyOK.of' (inf := Go.Proofs.Tryz.t181) Go.Proofs.Tryz.underlying181 (by kernel_rfl) (by kernel_rfl),
  TyOK.of' (inf := Go.Proofs.Tryz.t183) Go.Proofs.Tryz.underlying183 (by kernel_rfl) (by kernel_rfl),
  TyOK.of' (inf := Go.Proofs.Tryz.t184) Go.Proofs.Tryz.underlying184 (by kernel_rfl) (by kernel_rfl),
  TyOK.of' (inf := Go.Proofs.Tryz.t185) Go.Proofs.Tryz.underlying185 (by kernel_rfl) (by kernel_rfl),
  TyOK.of' (inf := Go.Proofs.Tryz.t186) Go.Proofs.Tryz.underlying186 (by kernel_rfl) (by kernel_rfl),
  TyOK.of' (inf := Go.Proofs.Tryz.t187) Go.Proofs.Tryz.underlying187 (by kernel_rfl) (by kernel_rfl),
  TyOK.of' (inf := Go.Proofs.Tryz.t188) Go.Proofs.Tryz.underlying188 (by kernel_rfl) (by kernel_rfl),
  TyOK.of' (inf := Go.Proofs.Tryz.t189) Go.Proofs.Tryz.underlying189 (by kernel_rfl) (by kernel_rfl),
  TyOK.of' (inf := Go.Proofs.Tryz.t190) Go.Proofs.Tryz.underlying190 (by kernel_rfl) (by kernel_rfl),
  TyOK.of' (inf := Go.Proofs.Tryz.t191) Go.Proofs.Tryz.underlying191 (by kernel_rfl) (by kernel_rfl),
  TyOK.of' (inf := Go.Proofs.Tryz.t192) Go.Proofs.Tryz.underlying192 (by kernel_rfl) (by kernel_rfl),
  TyOK.of' (inf := Go.Proofs.Tryz.t193) Go.Proofs.Tryz.underlying193 (by kernel_rfl) (by kernel_rfl),
  TyOK.of' (inf := Go.Proofs.Tryz.t195) Go.Proofs.Tryz.underlying195 (by kernel_rfl) (by kernel_rfl),
  TyOK.of' (inf := Go.Proofs.Tryz.t196) Go.Proofs.Tryz.underlying196 (by kernel_rfl) (by kernel_rfl),
  TyOK.of' (inf := Go.Proofs.Tryz.t197) Go.Proofs.Tryz.underlying197 (by kernel_rfl) (by kernel_rfl),
  TyOK.of' (inf := Go.Proofs.Tryz.t198) Go.Proofs.Tryz.underlying198 (by kernel_rfl) (by kernel_rfl),
  TyOK.of' (inf := Go.Proofs.Tryz.t199) Go.Proofs.Tryz.underlying199 (by kernel_rfl) (by kernel_rfl),
  TyOK.of' (inf := Go.Proofs.Tryz.t200) Go.Proofs.Tryz.underlying200 (by kernel_rfl) (by kernel_rfl),
  TyOK.of' (inf := Go.Proofs.Tryz.t201) Go.Proofs.Tryz.underlying201 (by kernel_rfl) (by kernel_rfl),
  TyOK.of' (inf := Go.Proofs.Tryz.t202) Go.Proofs.Tryz.underlying202 (by kernel_rfl) (by kernel_rfl),
  TyOK.of' (inf := Go.Proofs.Tryz.t203) Go.Proofs.Tryz.underlying203 (by kernel_rfl) (by kernel_rfl),
  TyOK.of' (inf := Go.Proofs.Tryz.t204) Go.Proofs.Tryz.underlying204 (by kernel_rfl) (by kernel_rfl),
  TyOK.of' (inf := Go.Proofs.Tryz.t205) Go.Proofs.Tryz.underlying205 (by kernel_rfl) (by kernel_rfl),
  TyOK.of' (inf := Go.Proofs.Tryz.t206) Go.Proofs.Tryz.underlying206 (by kernel_rfl) (by kernel_rfl),
  TyOK.of' (inf := Go.Proofs.Tryz.t207) Go.Proofs.Tryz.underlying207 (by kernel_rfl) (by kernel_rfl),
  TyOK.of' (inf := Go.Proofs.Tryz.t208) Go.Proofs.Tryz.underlying208 (by kernel_rfl) (by kernel_rfl),
  TyOK.of' (inf := Go.Proofs.Tryz.t209) Go.Proofs.Tryz.underlying209 (by kernel_rfl) (by kernel_rfl),
  TyOK.of' (inf := Go.Proofs.Tryz.t210) Go.Proofs.Tryz.underlying210 (by kernel_rfl) (by kernel_rfl),
  TyOK.of' (inf := Go.Proofs.Tryz.t211) Go.Proofs.Tryz.underlying211 (by kernel_rfl) (by kernel_rfl),
  TyOK.of' (inf := Go.Proofs.Tryz.t212) Go.Proofs.Tryz.underlying212 (by kernel_rfl) (by kernel_rfl),
  TyOK.of' (inf := Go.Proofs.Tryz.t213) Go.Proofs.Tryz.underlying213 (by kernel_rfl) (by kernel_rfl),
  TyOK.of' (inf := Go.Proofs.Tryz.t214) Go.Proofs.Tryz.underlying214 (by kernel_rfl) (by kernel_rfl),
  TyOK.of' (inf := Go.Proofs.Tryz.t215) Go.Proofs.Tryz.underlying215 (by kernel_rfl) (by kernel_rfl),
  TyOK.of' (inf := Go.Proofs.Tryz.t216) Go.Proofs.Tryz.underlying216 (by kernel_rfl) (by kernel_rfl),
  TyOK.of' (inf := Go.Proofs.Tryz.t217) Go.Proofs.Tryz.underlying217 (by kernel_rfl) (by kernel_rfl),
  TyOK.of' (inf := Go.Proofs.Tryz.t218) Go.Proofs.Tryz.underlying218 (by kernel_rfl) (by kernel_rfl),
  TyOK.of' (inf := Go.Proofs.Tryz.t219) Go.Proofs.Tryz.underlying219 (by kernel_rfl) (by kernel_rfl),
  TyOK.of' (inf := Go.Proofs.Tryz.t220) Go.Proofs.Tryz.underlying220 (by kernel_rfl) (by kernel_rfl),
  TyOK.of' (inf := Go.Proofs.Tryz.t221) Go.Proofs.Tryz.underlying221 (by kernel_rfl) (by kernel_rfl),
  TyOK.of' (inf := Go.Proofs.Tryz.t222) Go.Proofs.Tryz.underlying222 (by kernel_rfl) (by kernel_rfl),
  TyOK.of' (inf := Go.Proofs.Tryz.t223) Go.Proofs.Tryz.underlying223 (by kernel_rfl) (by kernel_rfl),
  TyOK.of' (inf := Go.Proofs.Tryz.t224) Go.Proofs.Tryz.underlying224 (by kernel_rfl) (by kernel_rfl),
  TyOK.of' (inf := Go.Proofs.Tryz.t225) Go.Proofs.Tryz.underlying225 (by kernel_rfl) (by kernel_rfl),
  TyOK.of' (inf := Go.Proofs.Tryz.t226) Go.Proofs.Tryz.underlying226 (by kernel_rfl) (by kernel_rfl),
  TyOK.of' (inf := Go.Proofs.Tryz.t227) Go.Proofs.Tryz.underlying227 (by kernel_rfl) (by kernel_rfl),
  TyOK.of' (inf := Go.Proofs.Tryz.t228) Go.Proofs.Tryz.underlying228 (by kernel_rfl) (by kernel_rfl),
  TyOK.of' (inf := Go.Proofs.Tryz.t230) Go.Proofs.Tryz.underlying230 (by kernel_rfl) (by kernel_rfl),
  TyOK.of' (inf := Go.Proofs.Tryz.t232) Go.Proofs.Tryz.underlying232 (by kernel_rfl) (by kernel_rfl),
  TyOK.of' (inf := Go.Proofs.Tryz.t233) Go.Proofs.Tryz.underlying233 (by kernel_rfl) (by kernel_rfl),
  TyOK.of' (inf := Go.Proofs.Tryz.t234) Go.Proofs.Tryz.underlying234 (by kernel_rfl) (by kernel_rfl),
  TyOK.of' (inf := Go.Proofs.Tryz.t235) Go.Proofs.Tryz.underlying235 (by kernel_rfl) (by kernel_rfl),
  TyOK.of' (inf := Go.Proofs.Tryz.t236) Go.Proofs.Tryz.underlying236 (by kernel_rfl) (by kernel_rfl),
  TyOK.of' (inf := Go.Proofs.Tryz.t237) Go.Proofs.Tryz.underlying237 (by kernel_rfl) (by kernel_rfl),
  TyOK.of' (inf := Go.Proofs.Tryz.t238) Go.Proofs.Tryz.underlying238 (by kernel_rfl) (by kernel_rfl),
  TyOK.of' (inf := Go.Proofs.Tryz.t240) Go.Proofs.Tryz.underlying240 (by kernel_rfl) (by kernel_rfl),
  TyOK.of' (inf := Go.Proofs.Tryz.t241) Go.Proofs.Tryz.underlying241 (by kernel_rfl) (by kernel_rfl),
  TyOK.of' (inf := Go.Proofs.Tryz.t242) Go.Proofs.Tryz.underlying242 (by kernel_rfl) (by kernel_rfl),
  TyOK.of' (inf := Go.Proofs.Tryz.t243) Go.Proofs.Tryz.underlying243 (by kernel_rfl) (by kernel_rfl),
  TyOK.of' (inf := Go.Proofs.Tryz.t244) Go.Proofs.Tryz.underlying244 (by kernel_rfl) (by kernel_rfl),
  TyOK.of' (inf := Go.Proofs.Tryz.t245) Go.Proofs.Tryz.underlying245 (by kernel_rfl) (by kernel_rfl),
  TyOK.of' (inf := Go.Proofs.Tryz.t249) Go.Proofs.Tryz.underlying249 (by kernel_rfl) (by kernel_rfl),
  TyOK.of' (inf := Go.Proofs.Tryz.t250) Go.Proofs.Tryz.underlying250 (by kernel_rfl) (by kernel_rfl),
  TyOK.of' (inf := Go.Proofs.Tryz.t251) Go.Proofs.Tryz.underlying251 (by kernel_rfl) (by kernel_rfl),
  TyOK.of' (inf := Go.Proofs.Tryz.t252) Go.Proofs.Tryz.underlying252 (by kernel_rfl) (by kernel_rfl),
  TyOK.of' (inf := Go.Proofs.Tryz.t253) Go.Proofs.Tryz.underlying253 (by kernel_rfl) (by kernel_rfl),
  TyOK.of' (inf := Go.Proofs.Tryz.t254) Go.Proofs.Tryz.underlying254 (by kernel_rfl) (by kernel_rfl),
  TyOK.of' (inf := Go.Proofs.Tryz.t255) Go.Proofs.Tryz.underlying255 (by kernel_rfl) (by kernel_rfl),
  TyOK.of' (inf := Go.Proofs.Tryz.t256) Go.Proofs.Tryz.underlying256 (by kernel_rfl) (by kernel_rfl),
  TyOK.of' (inf := Go.Proofs.Tryz.t257) Go.Proofs.Tryz.underlying257 (by kernel_rfl) (by kernel_rfl), trivial⟩
end Go.D
