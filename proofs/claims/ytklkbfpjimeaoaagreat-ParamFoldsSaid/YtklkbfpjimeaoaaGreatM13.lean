import Derived.Test.YtklkbfpjimeaoaaGreatM1
import Derived.Test.YtklkbfpjimeaoaaGreatM2
import Derived.Test.YtklkbfpjimeaoaaGreatM3
import Derived.Test.YtklkbfpjimeaoaaGreatM4
import Derived.Test.YtklkbfpjimeaoaaGreatM5
import Derived.Test.YtklkbfpjimeaoaaGreatM6
import Derived.Test.YtklkbfpjimeaoaaGreatM7
import Derived.Test.YtklkbfpjimeaoaaGreatM8
import Derived.Test.YtklkbfpjimeaoaaGreatM9
import Derived.Test.YtklkbfpjimeaoaaGreatM10
import Derived.Test.YtklkbfpjimeaoaaGreatM11
import Derived.Test.YtklkbfpjimeaoaaGreatM12
import Derived.Test.YtklkbfpjimeaoaaGreatProg
import Derived.KernelRfl
/- Contracts of functions. Conditions: none. -/
set_option linter.unusedSimpArgs false
set_option linter.unusedVariables false
namespace Go.Proofs.YtklkbfpjimeaoaaGreat
open Go
open E
theorem sz3 : (Tryz.prog.info? 3).map (·.size) = some 1 := by kernel_rfl
theorem zr3 : (Tryz.prog.info? 3).map (·.zero) = some (some (.int .i64 0)) := by kernel_rfl
theorem sz4 : (Tryz.prog.info? 4).map (·.size) = some 1 := by kernel_rfl
theorem sz5 : (Tryz.prog.info? 5).map (·.size) = some 1 := by kernel_rfl
theorem inf9 : (Tryz.prog.info? 9).map (fun i => (i.zero, i.size, i.bytes)) = some (some (.string ⟨#[]⟩), 1, 16) := by kernel_rfl
theorem sz9 : (Tryz.prog.info? 9).map (·.size) = some 1 := by kernel_rfl
theorem sz22 : (Tryz.prog.info? 22).map (·.size) = some 1 := by kernel_rfl
theorem sz23 : (Tryz.prog.info? 23).map (·.size) = some 1 := by kernel_rfl
theorem sz25 : (Tryz.prog.info? 25).map (·.size) = some 2 := by kernel_rfl
theorem zr25 : (Tryz.prog.info? 25).map (·.zero) = some (some (.agg #[.slice none 0 0, .slice none 0 0])) := by kernel_rfl
theorem inf27 : (Tryz.prog.info? 27).map (fun i => (i.zero, i.size, i.bytes)) = some (some (.agg #[.int .i64 0, .string ⟨#[]⟩, .int .i64 0, .slice none 0 0]), 4, 56) := by kernel_rfl
theorem sz27 : (Tryz.prog.info? 27).map (·.size) = some 4 := by kernel_rfl
theorem zr27 : (Tryz.prog.info? 27).map (·.zero) = some (some (.agg #[.int .i64 0, .string ⟨#[]⟩, .int .i64 0, .slice none 0 0])) := by kernel_rfl
theorem sz48 : (Tryz.prog.info? 48).map (·.size) = some 1 := by kernel_rfl
theorem inf59 : (Tryz.prog.info? 59).map (fun i => (i.zero, i.size, i.bytes)) = some (some (.agg #[.string ⟨#[]⟩, .int .i64 0, .string ⟨#[]⟩, .int .i64 0, .slice none 0 0]), 5, 72) := by kernel_rfl
theorem sz59 : (Tryz.prog.info? 59).map (·.size) = some 5 := by kernel_rfl
theorem zr59 : (Tryz.prog.info? 59).map (·.zero) = some (some (.agg #[.string ⟨#[]⟩, .int .i64 0, .string ⟨#[]⟩, .int .i64 0, .slice none 0 0])) := by kernel_rfl
theorem sz63 : (Tryz.prog.info? 63).map (·.size) = some 1 := by kernel_rfl
theorem inf66 : (Tryz.prog.info? 66).map (fun i => (i.zero, i.size, i.bytes)) = some (some (.agg #[.string ⟨#[]⟩, .int .i64 0, .string ⟨#[]⟩, .int .i64 0, .slice none 0 0]), 5, 72) := by kernel_rfl
theorem sz66 : (Tryz.prog.info? 66).map (·.size) = some 5 := by kernel_rfl
theorem zr66 : (Tryz.prog.info? 66).map (·.zero) = some (some (.agg #[.string ⟨#[]⟩, .int .i64 0, .string ⟨#[]⟩, .int .i64 0, .slice none 0 0])) := by kernel_rfl
theorem sz79 : (Tryz.prog.info? 79).map (·.size) = some 1 := by kernel_rfl
theorem inf81 : (Tryz.prog.info? 81).map (fun i => (i.zero, i.size, i.bytes)) = some (some (.agg #[.string ⟨#[]⟩, .bool false, .bool false, .slice none 0 0, .int .i64 0, .string ⟨#[]⟩, .int .i64 0, .slice none 0 0, .slice none 0 0, .slice none 0 0]), 10, 152) := by kernel_rfl
theorem sz81 : (Tryz.prog.info? 81).map (·.size) = some 10 := by kernel_rfl
theorem zr81 : (Tryz.prog.info? 81).map (·.zero) = some (some (.agg #[.string ⟨#[]⟩, .bool false, .bool false, .slice none 0 0, .int .i64 0, .string ⟨#[]⟩, .int .i64 0, .slice none 0 0, .slice none 0 0, .slice none 0 0])) := by kernel_rfl
theorem inf102 : (Tryz.prog.info? 102).map (fun i => (i.zero, i.size, i.bytes)) = some (some (.agg #[.string ⟨#[]⟩, .string ⟨#[]⟩, .int .i64 0, .string ⟨#[]⟩, .int .i64 0, .slice none 0 0]), 6, 88) := by kernel_rfl
theorem sz102 : (Tryz.prog.info? 102).map (·.size) = some 6 := by kernel_rfl
theorem zr102 : (Tryz.prog.info? 102).map (·.zero) = some (some (.agg #[.string ⟨#[]⟩, .string ⟨#[]⟩, .int .i64 0, .string ⟨#[]⟩, .int .i64 0, .slice none 0 0])) := by kernel_rfl
theorem sz127 : (Tryz.prog.info? 127).map (·.size) = some 1 := by kernel_rfl
theorem zr127 : (Tryz.prog.info? 127).map (·.zero) = some (some (.map none)) := by kernel_rfl
theorem sz139 : (Tryz.prog.info? 139).map (·.size) = some 1 := by kernel_rfl
theorem zr139 : (Tryz.prog.info? 139).map (·.zero) = some (some (.pointer none)) := by kernel_rfl
theorem sz141 : (Tryz.prog.info? 141).map (·.size) = some 1 := by kernel_rfl
theorem zr141 : (Tryz.prog.info? 141).map (·.zero) = some (some (.pointer none)) := by kernel_rfl
theorem zr168 : (Tryz.prog.info? 168).map (·.zero) = some (some (.agg #[.string ⟨#[]⟩, .pointer none, .pointer none])) := by kernel_rfl
theorem sz189 : (Tryz.prog.info? 189).map (·.size) = some 3 := by kernel_rfl
theorem zr189 : (Tryz.prog.info? 189).map (·.zero) = some (some (.agg #[.slice none 0 0, .bool false, .nilFunc])) := by kernel_rfl
theorem sz199 : (Tryz.prog.info? 199).map (·.size) = some 3 := by kernel_rfl
theorem zr199 : (Tryz.prog.info? 199).map (·.zero) = some (some (.agg #[.int .i64 0, .int .i64 0, .int .i64 0])) := by kernel_rfl
theorem sz231 : (Tryz.prog.info? 231).map (·.size) = some 3 := by kernel_rfl
theorem zr231 : (Tryz.prog.info? 231).map (·.zero) = some (some (.agg #[.string ⟨#[]⟩, .string ⟨#[]⟩, .int .i64 0])) := by kernel_rfl
theorem zr247 : (Tryz.prog.info? 247).map (·.zero) = some (some (.nilFunc)) := by kernel_rfl
theorem sz251 : (Tryz.prog.info? 251).map (·.size) = some 1 := by kernel_rfl
theorem zr251 : (Tryz.prog.info? 251).map (·.zero) = some (some (.nilFunc)) := by kernel_rfl
theorem sz260 : (Tryz.prog.info? 260).map (·.size) = some 3 := by kernel_rfl
theorem zr260 : (Tryz.prog.info? 260).map (·.zero) = some (some (.agg #[.int .i64 0, .int .i64 0, .int .i64 0])) := by kernel_rfl
theorem sz283 : (Tryz.prog.info? 283).map (·.size) = some 1 := by kernel_rfl
theorem zr283 : (Tryz.prog.info? 283).map (·.zero) = some (some (.nilFunc)) := by kernel_rfl
theorem pl25 : E.structPl Tryz.prog 25 = some [(0, 1), (1, 1)] := by kernel_rfl
theorem pl27 : E.structPl Tryz.prog 27 = some [(0, 1), (1, 1), (2, 1), (3, 1)] := by kernel_rfl
theorem pl59 : E.structPl Tryz.prog 59 = some [(0, 1), (1, 4)] := by kernel_rfl
theorem pl66 : E.structPl Tryz.prog 66 = some [(0, 1), (1, 4)] := by kernel_rfl
theorem pl81 : E.structPl Tryz.prog 81 = some [(0, 1), (1, 1), (2, 1), (3, 1), (4, 4), (8, 1), (9, 1)] := by kernel_rfl
theorem pl102 : E.structPl Tryz.prog 102 = some [(0, 1), (1, 1), (2, 4)] := by kernel_rfl
theorem pl168 : E.structPl Tryz.prog 168 = some [(0, 1), (1, 1), (2, 1)] := by kernel_rfl
theorem pl189 : E.structPl Tryz.prog 189 = some [(0, 1), (1, 1), (2, 1)] := by kernel_rfl
theorem pl199 : E.structPl Tryz.prog 199 = some [(0, 1), (1, 1), (2, 1)] := by kernel_rfl
theorem pl231 : E.structPl Tryz.prog 231 = some [(0, 1), (1, 1), (2, 1)] := by kernel_rfl
theorem pl260 : E.structPl Tryz.prog 260 = some [(0, 1), (1, 1), (2, 1)] := by kernel_rfl
theorem u3 : Tryz.prog.underlying 3 = some (TypeDesc.int IntKind.i64) := Tryz.underlying3
theorem u4 : Tryz.prog.underlying 4 = some TypeDesc.bool := Tryz.underlying4
theorem u5 : Tryz.prog.underlying 5 = some (TypeDesc.int IntKind.u8) := Tryz.underlying5
theorem u9 : Tryz.prog.underlying 9 = some TypeDesc.string := Tryz.underlying9
theorem u22 : Tryz.prog.underlying 22 = some (TypeDesc.slice 27) := Tryz.underlying22
theorem u23 : Tryz.prog.underlying 23 = some (TypeDesc.slice 81) := Tryz.underlying23
theorem u25 : Tryz.prog.underlying 25 = some (TypeDesc.struct #[{ name := "Globals", type := 22, offset := 0, embedded := false, tag := "", pkgPath := "", byteOffset := 0 }, { name := "Procs", type := 23, offset := 1, embedded := false, tag := "", pkgPath := "", byteOffset := 24 }]) := Tryz.underlying25
theorem u27 : Tryz.prog.underlying 27 = some (TypeDesc.struct #[{ name := "Op", type := 3, offset := 0, embedded := false, tag := "", pkgPath := "", byteOffset := 0 }, { name := "Name", type := 9, offset := 1, embedded := false, tag := "", pkgPath := "", byteOffset := 8 }, { name := "Num", type := 3, offset := 2, embedded := false, tag := "", pkgPath := "", byteOffset := 24 }, { name := "Kids", type := 22, offset := 3, embedded := false, tag := "", pkgPath := "", byteOffset := 32 }]) := Tryz.underlying27
theorem u48 : Tryz.prog.underlying 48 = some (TypeDesc.func #[27] #[4] false) := Tryz.underlying48
theorem u49 : Tryz.prog.underlying 49 = some (TypeDesc.slice 59) := Tryz.underlying49
theorem u51 : Tryz.prog.underlying 51 = some (TypeDesc.slice 66) := Tryz.underlying51
theorem u59 : Tryz.prog.underlying 59 = some (TypeDesc.struct #[{ name := "Name", type := 9, offset := 0, embedded := false, tag := "", pkgPath := "", byteOffset := 0 }, { name := "Value", type := 27, offset := 1, embedded := false, tag := "", pkgPath := "", byteOffset := 16 }]) := Tryz.underlying59
theorem u63 : Tryz.prog.underlying 63 = some (TypeDesc.slice 9) := Tryz.underlying63
theorem u66 : Tryz.prog.underlying 66 = some (TypeDesc.struct #[{ name := "Name", type := 9, offset := 0, embedded := false, tag := "", pkgPath := "", byteOffset := 0 }, { name := "Value", type := 27, offset := 1, embedded := false, tag := "", pkgPath := "", byteOffset := 16 }]) := Tryz.underlying66
theorem u79 : Tryz.prog.underlying 79 = some (TypeDesc.slice 102) := Tryz.underlying79
theorem u81 : Tryz.prog.underlying 81 = some (TypeDesc.struct #[{ name := "Name", type := 9, offset := 0, embedded := false, tag := "", pkgPath := "", byteOffset := 0 }, { name := "Iter", type := 4, offset := 1, embedded := false, tag := "", pkgPath := "", byteOffset := 16 }, { name := "Private", type := 4, offset := 2, embedded := false, tag := "", pkgPath := "", byteOffset := 17 }, { name := "Formals", type := 79, offset := 3, embedded := false, tag := "", pkgPath := "", byteOffset := 24 }, { name := "Result", type := 27, offset := 4, embedded := false, tag := "", pkgPath := "", byteOffset := 48 }, { name := "Where", type := 22, offset := 8, embedded := false, tag := "", pkgPath := "", byteOffset := 104 }, { name := "Body", type := 22, offset := 9, embedded := false, tag := "", pkgPath := "", byteOffset := 128 }]) := Tryz.underlying81
theorem u102 : Tryz.prog.underlying 102 = some (TypeDesc.struct #[{ name := "Intent", type := 9, offset := 0, embedded := false, tag := "", pkgPath := "", byteOffset := 0 }, { name := "Name", type := 9, offset := 1, embedded := false, tag := "", pkgPath := "", byteOffset := 16 }, { name := "Type", type := 27, offset := 2, embedded := false, tag := "", pkgPath := "", byteOffset := 32 }]) := Tryz.underlying102
theorem u109 : Tryz.prog.underlying 109 = some (TypeDesc.func #[3] #[4] false) := Tryz.underlying109
theorem u127 : Tryz.prog.underlying 127 = some (TypeDesc.map 3 189) := Tryz.underlying127
theorem u139 : Tryz.prog.underlying 139 = some (TypeDesc.pointer 27) := Tryz.underlying139
theorem u141 : Tryz.prog.underlying 141 = some (TypeDesc.pointer 168) := Tryz.underlying141
theorem u168 : Tryz.prog.underlying 168 = some (TypeDesc.struct #[{ name := "name", type := 9, offset := 0, embedded := false, tag := "", pkgPath := "raddle/param", byteOffset := 0 }, { name := "value", type := 139, offset := 1, embedded := false, tag := "", pkgPath := "raddle/param", byteOffset := 16 }, { name := "ahead", type := 141, offset := 2, embedded := false, tag := "", pkgPath := "raddle/param", byteOffset := 24 }]) := Tryz.underlying168
theorem u189 : Tryz.prog.underlying 189 = some (TypeDesc.struct #[{ name := "names", type := 63, offset := 0, embedded := false, tag := "", pkgPath := "raddle/check", byteOffset := 0 }, { name := "num", type := 4, offset := 1, embedded := false, tag := "", pkgPath := "raddle/check", byteOffset := 24 }, { name := "rule", type := 48, offset := 2, embedded := false, tag := "", pkgPath := "raddle/check", byteOffset := 32 }]) := Tryz.underlying189
theorem u199 : Tryz.prog.underlying 199 = some (TypeDesc.struct #[{ name := "Low", type := 3, offset := 0, embedded := false, tag := "", pkgPath := "", byteOffset := 0 }, { name := "High", type := 3, offset := 1, embedded := false, tag := "", pkgPath := "", byteOffset := 8 }, { name := "Stride", type := 3, offset := 2, embedded := false, tag := "", pkgPath := "", byteOffset := 16 }]) := Tryz.underlying199
theorem u231 : Tryz.prog.underlying 231 = some (TypeDesc.struct #[{ name := "of", type := 9, offset := 0, embedded := false, tag := "", pkgPath := "raddle/check", byteOffset := 0 }, { name := "gives", type := 9, offset := 1, embedded := false, tag := "", pkgPath := "raddle/check", byteOffset := 16 }, { name := "takes", type := 3, offset := 2, embedded := false, tag := "", pkgPath := "raddle/check", byteOffset := 32 }]) := Tryz.underlying231
theorem u232 : Tryz.prog.underlying 232 = some (TypeDesc.map 9 231) := Tryz.underlying232
theorem u243 : Tryz.prog.underlying 243 = some (TypeDesc.slice 5) := Tryz.underlying243
theorem u249 : Tryz.prog.underlying 249 = some (TypeDesc.map 9 247) := Tryz.underlying249
theorem u251 : Tryz.prog.underlying 251 = some (TypeDesc.func #[3, 3] #[4] false) := Tryz.underlying251
theorem u253 : Tryz.prog.underlying 253 = some (TypeDesc.map 9 251) := Tryz.underlying253
theorem u260 : Tryz.prog.underlying 260 = some (TypeDesc.struct #[{ name := "first", type := 3, offset := 0, embedded := false, tag := "", pkgPath := "raddle/span", byteOffset := 0 }, { name := "by", type := 3, offset := 1, embedded := false, tag := "", pkgPath := "raddle/span", byteOffset := 8 }, { name := "count", type := 3, offset := 2, embedded := false, tag := "", pkgPath := "raddle/span", byteOffset := 16 }]) := Tryz.underlying260
theorem u283 : Tryz.prog.underlying 283 = some (TypeDesc.func #[3, 4] #[139] false) := Tryz.underlying283
theorem u286 : Tryz.prog.underlying 286 = some (TypeDesc.int IntKind.u64) := Tryz.underlying286
end Go.Proofs.YtklkbfpjimeaoaaGreat
