import Derived.Test.YtklkbfpjimeaoaaGreatM1
import Derived.Test.YtklkbfpjimeaoaaGreatM2
import Derived.Test.YtklkbfpjimeaoaaGreatM3
import Derived.Test.YtklkbfpjimeaoaaGreatM4
import Derived.Test.YtklkbfpjimeaoaaGreatM5
import Derived.Test.YtklkbfpjimeaoaaGreatM6
import Derived.Test.YtklkbfpjimeaoaaGreatM7
import Derived.Test.YtklkbfpjimeaoaaGreatM8
import Derived.Test.YtklkbfpjimeaoaaGreatM9
import Derived.Test.YtklkbfpjimeaoaaGreatM10
import Derived.Test.YtklkbfpjimeaoaaGreatM11
import Derived.Test.YtklkbfpjimeaoaaGreatM12
import Derived.Test.YtklkbfpjimeaoaaGreatProg
import Derived.KernelRfl
/- Contracts of functions. Conditions: none. -/
set_option linter.unusedSimpArgs false
set_option linter.unusedVariables false
set_option maxRecDepth 20000
namespace Go.Proofs.YtklkbfpjimeaoaaGreat
open Go
open E
theorem sz3 : (Tryz.prog.info? 3).map (·.size) = some 1 := by kernel_rfl
theorem zr3 : (Tryz.prog.info? 3).map (·.zero) = some (some (.int .i64 0)) := by kernel_rfl
theorem sz4 : (Tryz.prog.info? 4).map (·.size) = some 1 := by kernel_rfl
theorem sz5 : (Tryz.prog.info? 5).map (·.size) = some 1 := by kernel_rfl
theorem inf9 : (Tryz.prog.info? 9).map (fun i => (i.zero, i.size, i.bytes)) = some (some (.string ⟨#[]⟩), 1, 16) := by kernel_rfl
theorem sz9 : (Tryz.prog.info? 9).map (·.size) = some 1 := by kernel_rfl
theorem sz22 : (Tryz.prog.info? 22).map (·.size) = some 1 := by kernel_rfl
theorem sz23 : (Tryz.prog.info? 23).map (·.size) = some 1 := by kernel_rfl
theorem sz25 : (Tryz.prog.info? 25).map (·.size) = some 2 := by kernel_rfl
theorem zr25 : (Tryz.prog.info? 25).map (·.zero) = some (some (.agg #[.slice none 0 0, .slice none 0 0])) := by kernel_rfl
theorem inf27 : (Tryz.prog.info? 27).map (fun i => (i.zero, i.size, i.bytes)) = some (some (.agg #[.int .i64 0, .string ⟨#[]⟩, .int .i64 0, .slice none 0 0]), 4, 56) := by kernel_rfl
theorem sz27 : (Tryz.prog.info? 27).map (·.size) = some 4 := by kernel_rfl
theorem zr27 : (Tryz.prog.info? 27).map (·.zero) = some (some (.agg #[.int .i64 0, .string ⟨#[]⟩, .int .i64 0, .slice none 0 0])) := by kernel_rfl
theorem sz48 : (Tryz.prog.info? 48).map (·.size) = some 1 := by kernel_rfl
theorem inf59 : (Tryz.prog.info? 59).map (fun i => (i.zero, i.size, i.bytes)) = some (some (.agg #[.string ⟨#[]⟩, .int .i64 0, .string ⟨#[]⟩, .int .i64 0, .slice none 0 0]), 5, 72) := by kernel_rfl
theorem sz59 : (Tryz.prog.info? 59).map (·.size) = some 5 := by kernel_rfl
theorem zr59 : (Tryz.prog.info? 59).map (·.zero) = some (some (.agg #[.string ⟨#[]⟩, .int .i64 0, .string ⟨#[]⟩, .int .i64 0, .slice none 0 0])) := by kernel_rfl
theorem sz63 : (Tryz.prog.info? 63).map (·.size) = some 1 := by kernel_rfl
theorem inf66 : (Tryz.prog.info? 66).map (fun i => (i.zero, i.size, i.bytes)) = some (some (.agg #[.string ⟨#[]⟩, .int .i64 0, .string ⟨#[]⟩, .int .i64 0, .slice none 0 0]), 5, 72) := by kernel_rfl
theorem sz66 : (Tryz.prog.info? 66).map (·.size) = some 5 := by kernel_rfl
theorem zr66 : (Tryz.prog.info? 66).map (·.zero) = some (some (.agg #[.string ⟨#[]⟩, .int .i64 0, .string ⟨#[]⟩, .int .i64 0, .slice none 0 0])) := by kernel_rfl
theorem sz79 : (Tryz.prog.info? 79).map (·.size) = some 1 := by kernel_rfl
theorem sz81 : (Tryz.prog.info? 81).map (·.size) = some 10 := by kernel_rfl
theorem zr81 : (Tryz.prog.info? 81).map (·.zero) = some (some (.agg #[.string ⟨#[]⟩, .bool false, .bool false, .slice none 0 0, .int .i64 0, .string ⟨#[]⟩, .int .i64 0, .slice none 0 0, .slice none 0 0, .slice none 0 0])) := by kernel_rfl
theorem sz102 : (Tryz.prog.info? 102).map (·.size) = some 6 := by kernel_rfl
theorem zr102 : (Tryz.prog.info? 102).map (·.zero) = some (some (.agg #[.string ⟨#[]⟩, .string ⟨#[]⟩, .int .i64 0, .string ⟨#[]⟩, .int .i64 0, .slice none 0 0])) := by kernel_rfl
theorem sz139 : (Tryz.prog.info? 139).map (·.size) = some 1 := by kernel_rfl
theorem zr139 : (Tryz.prog.info? 139).map (·.zero) = some (some (.pointer none)) := by kernel_rfl
theorem sz141 : (Tryz.prog.info? 141).map (·.size) = some 1 := by kernel_rfl
theorem zr141 : (Tryz.prog.info? 141).map (·.zero) = some (some (.pointer none)) := by kernel_rfl
theorem zr168 : (Tryz.prog.info? 168).map (·.zero) = some (some (.agg #[.string ⟨#[]⟩, .pointer none, .pointer none])) := by kernel_rfl
theorem sz189 : (Tryz.prog.info? 189).map (·.size) = some 3 := by kernel_rfl
theorem zr189 : (Tryz.prog.info? 189).map (·.zero) = some (some (.agg #[.slice none 0 0, .bool false, .nilFunc])) := by kernel_rfl
theorem sz199 : (Tryz.prog.info? 199).map (·.size) = some 3 := by kernel_rfl
theorem zr199 : (Tryz.prog.info? 199).map (·.zero) = some (some (.agg #[.int .i64 0, .int .i64 0, .int .i64 0])) := by kernel_rfl
theorem sz231 : (Tryz.prog.info? 231).map (·.size) = some 3 := by kernel_rfl
theorem zr231 : (Tryz.prog.info? 231).map (·.zero) = some (some (.agg #[.string ⟨#[]⟩, .string ⟨#[]⟩, .int .i64 0])) := by kernel_rfl
theorem zr247 : (Tryz.prog.info? 247).map (·.zero) = some (some (.nilFunc)) := by kernel_rfl
theorem sz251 : (Tryz.prog.info? 251).map (·.size) = some 1 := by kernel_rfl
theorem zr251 : (Tryz.prog.info? 251).map (·.zero) = some (some (.nilFunc)) := by kernel_rfl
theorem sz260 : (Tryz.prog.info? 260).map (·.size) = some 3 := by kernel_rfl
theorem zr260 : (Tryz.prog.info? 260).map (·.zero) = some (some (.agg #[.int .i64 0, .int .i64 0, .int .i64 0])) := by kernel_rfl
theorem sz283 : (Tryz.prog.info? 283).map (·.size) = some 1 := by kernel_rfl
theorem zr283 : (Tryz.prog.info? 283).map (·.zero) = some (some (.nilFunc)) := by kernel_rfl
theorem pl25 : E.structPl Tryz.prog 25 = some [(0, 1), (1, 1)] := by kernel_rfl
theorem pl27 : E.structPl Tryz.prog 27 = some [(0, 1), (1, 1), (2, 1), (3, 1)] := by kernel_rfl
theorem pl59 : E.structPl Tryz.prog 59 = some [(0, 1), (1, 4)] := by kernel_rfl
theorem pl66 : E.structPl Tryz.prog 66 = some [(0, 1), (1, 4)] := by kernel_rfl
theorem pl168 : E.structPl Tryz.prog 168 = some [(0, 1), (1, 1), (2, 1)] := by kernel_rfl
theorem pl189 : E.structPl Tryz.prog 189 = some [(0, 1), (1, 1), (2, 1)] := by kernel_rfl
theorem pl199 : E.structPl Tryz.prog 199 = some [(0, 1), (1, 1), (2, 1)] := by kernel_rfl
theorem pl231 : E.structPl Tryz.prog 231 = some [(0, 1), (1, 1), (2, 1)] := by kernel_rfl
theorem pl260 : E.structPl Tryz.prog 260 = some [(0, 1), (1, 1), (2, 1)] := by kernel_rfl
theorem u3 : Tryz.prog.underlying 3 = some (TypeDesc.int IntKind.i64) := Tryz.underlying3
theorem u4 : Tryz.prog.underlying 4 = some TypeDesc.bool := Tryz.underlying4
theorem u5 : Tryz.prog.underlying 5 = some (TypeDesc.int IntKind.u8) := Tryz.underlying5
theorem u9 : Tryz.prog.underlying 9 = some TypeDesc.string := Tryz.underlying9
theorem u22 : Tryz.prog.underlying 22 = some (TypeDesc.slice 27) := Tryz.underlying22
theorem u23 : Tryz.prog.underlying 23 = some (TypeDesc.slice 81) := Tryz.underlying23
theorem u25 : Tryz.prog.underlying 25 = some (TypeDesc.struct #[{ name := "Globals", type := 22, offset := 0, embedded := false, tag := "", pkgPath := "", byteOffset := 0 }, { name := "Procs", type := 23, offset := 1, embedded := false, tag := "", pkgPath := "", byteOffset := 24 }]) := Tryz.underlying25
theorem u27 : Tryz.prog.underlying 27 = some (TypeDesc.struct #[{ name := "Op", type := 3, offset := 0, embedded := false, tag := "", pkgPath := "", byteOffset := 0 }, { name := "Name", type := 9, offset := 1, embedded := false, tag := "", pkgPath := "", byteOffset := 8 }, { name := "Num", type := 3, offset := 2, embedded := false, tag := "", pkgPath := "", byteOffset := 24 }, { name := "Kids", type := 22, offset := 3, embedded := false, tag := "", pkgPath := "", byteOffset := 32 }]) := Tryz.underlying27
theorem u48 : Tryz.prog.underlying 48 = some (TypeDesc.func #[27] #[4] false) := Tryz.underlying48
theorem u49 : Tryz.prog.underlying 49 = some (TypeDesc.slice 59) := Tryz.underlying49
theorem u51 : Tryz.prog.underlying 51 = some (TypeDesc.slice 66) := Tryz.underlying51
theorem u59 : Tryz.prog.underlying 59 = some (TypeDesc.struct #[{ name := "Name", type := 9, offset := 0, embedded := false, tag := "", pkgPath := "", byteOffset := 0 }, { name := "Value", type := 27, offset := 1, embedded := false, tag := "", pkgPath := "", byteOffset := 16 }]) := Tryz.underlying59
theorem u63 : Tryz.prog.underlying 63 = some (TypeDesc.slice 9) := Tryz.underlying63
theorem u66 : Tryz.prog.underlying 66 = some (TypeDesc.struct #[{ name := "Name", type := 9, offset := 0, embedded := false, tag := "", pkgPath := "", byteOffset := 0 }, { name := "Value", type := 27, offset := 1, embedded := false, tag := "", pkgPath := "", byteOffset := 16 }]) := Tryz.underlying66
theorem u79 : Tryz.prog.underlying 79 = some (TypeDesc.slice 102) := Tryz.underlying79
theorem u81 : Tryz.prog.underlying 81 = some (TypeDesc.struct #[{ name := "Name", type := 9, offset := 0, embedded := false, tag := "", pkgPath := "", byteOffset := 0 }, { name := "Iter", type := 4, offset := 1, embedded := false, tag := "", pkgPath := "", byteOffset := 16 }, { name := "Private", type := 4, offset := 2, embedded := false, tag := "", pkgPath := "", byteOffset := 17 }, { name := "Formals", type := 79, offset := 3, embedded := false, tag := "", pkgPath := "", byteOffset := 24 }, { name := "Result", type := 27, offset := 4, embedded := false, tag := "", pkgPath := "", byteOffset := 48 }, { name := "Where", type := 22, offset := 8, embedded := false, tag := "", pkgPath := "", byteOffset := 104 }, { name := "Body", type := 22, offset := 9, embedded := false, tag := "", pkgPath := "", byteOffset := 128 }]) := Tryz.underlying81
theorem u102 : Tryz.prog.underlying 102 = some (TypeDesc.struct #[{ name := "Intent", type := 9, offset := 0, embedded := false, tag := "", pkgPath := "", byteOffset := 0 }, { name := "Name", type := 9, offset := 1, embedded := false, tag := "", pkgPath := "", byteOffset := 16 }, { name := "Type", type := 27, offset := 2, embedded := false, tag := "", pkgPath := "", byteOffset := 32 }]) := Tryz.underlying102
theorem u109 : Tryz.prog.underlying 109 = some (TypeDesc.func #[3] #[4] false) := Tryz.underlying109
theorem u127 : Tryz.prog.underlying 127 = some (TypeDesc.map 3 189) := Tryz.underlying127
theorem u139 : Tryz.prog.underlying 139 = some (TypeDesc.pointer 27) := Tryz.underlying139
theorem u141 : Tryz.prog.underlying 141 = some (TypeDesc.pointer 168) := Tryz.underlying141
theorem u168 : Tryz.prog.underlying 168 = some (TypeDesc.struct #[{ name := "name", type := 9, offset := 0, embedded := false, tag := "", pkgPath := "raddle/param", byteOffset := 0 }, { name := "value", type := 139, offset := 1, embedded := false, tag := "", pkgPath := "raddle/param", byteOffset := 16 }, { name := "ahead", type := 141, offset := 2, embedded := false, tag := "", pkgPath := "raddle/param", byteOffset := 24 }]) := Tryz.underlying168
theorem u189 : Tryz.prog.underlying 189 = some (TypeDesc.struct #[{ name := "names", type := 63, offset := 0, embedded := false, tag := "", pkgPath := "raddle/check", byteOffset := 0 }, { name := "num", type := 4, offset := 1, embedded := false, tag := "", pkgPath := "raddle/check", byteOffset := 24 }, { name := "rule", type := 48, offset := 2, embedded := false, tag := "", pkgPath := "raddle/check", byteOffset := 32 }]) := Tryz.underlying189
theorem u199 : Tryz.prog.underlying 199 = some (TypeDesc.struct #[{ name := "Low", type := 3, offset := 0, embedded := false, tag := "", pkgPath := "", byteOffset := 0 }, { name := "High", type := 3, offset := 1, embedded := false, tag := "", pkgPath := "", byteOffset := 8 }, { name := "Stride", type := 3, offset := 2, embedded := false, tag := "", pkgPath := "", byteOffset := 16 }]) := Tryz.underlying199
theorem u231 : Tryz.prog.underlying 231 = some (TypeDesc.struct #[{ name := "of", type := 9, offset := 0, embedded := false, tag := "", pkgPath := "raddle/check", byteOffset := 0 }, { name := "gives", type := 9, offset := 1, embedded := false, tag := "", pkgPath := "raddle/check", byteOffset := 16 }, { name := "takes", type := 3, offset := 2, embedded := false, tag := "", pkgPath := "raddle/check", byteOffset := 32 }]) := Tryz.underlying231
theorem u232 : Tryz.prog.underlying 232 = some (TypeDesc.map 9 231) := Tryz.underlying232
theorem u243 : Tryz.prog.underlying 243 = some (TypeDesc.slice 5) := Tryz.underlying243
theorem u249 : Tryz.prog.underlying 249 = some (TypeDesc.map 9 247) := Tryz.underlying249
theorem u251 : Tryz.prog.underlying 251 = some (TypeDesc.func #[3, 3] #[4] false) := Tryz.underlying251
theorem u253 : Tryz.prog.underlying 253 = some (TypeDesc.map 9 251) := Tryz.underlying253
theorem u260 : Tryz.prog.underlying 260 = some (TypeDesc.struct #[{ name := "first", type := 3, offset := 0, embedded := false, tag := "", pkgPath := "raddle/span", byteOffset := 0 }, { name := "by", type := 3, offset := 1, embedded := false, tag := "", pkgPath := "raddle/span", byteOffset := 8 }, { name := "count", type := 3, offset := 2, embedded := false, tag := "", pkgPath := "raddle/span", byteOffset := 16 }]) := Tryz.underlying260
theorem u283 : Tryz.prog.underlying 283 = some (TypeDesc.func #[3, 4] #[139] false) := Tryz.underlying283
theorem u286 : Tryz.prog.underlying 286 = some (TypeDesc.int IntKind.u64) := Tryz.underlying286
end Go.Proofs.YtklkbfpjimeaoaaGreat
namespace Go.Proofs.YtklkbfpjimeaoaaGreat
open Go
open E
structure Hd (A : Prop) : Prop where
 o : A
variable {A B : Prop}
theorem Z0 (h : A) (g : Hd A → B := by intro h; refine vq rfl qA ?_; exact h.o) : B := g ⟨h⟩
theorem Z1 (h : A) (g : Hd A → B := by intro h; refine vq rfl qM ?_; exact h.o) : B := g ⟨h⟩
theorem Z2 (h : A) (g : Hd A → B := by intro h; refine gS (gR ?_); exact h.o) : B := g ⟨h⟩
theorem Z3 (h : A) (g : Hd A → B := by intro h; refine gN (tN ?_); exact h.o) : B := g ⟨h⟩
theorem Z4 (h : A) (g : Hd A → B := by intro h; refine gR ?_; exact h.o) : B := g ⟨h⟩
theorem Z5 (h : A) (g : Hd A → B := by intro h; refine fin1 (by simp) ?_; exact h.o) : B := g ⟨h⟩
theorem Z6 (h : A) (g : Hd A → B := by intro h; refine gN (tN (gT ?_)); exact h.o) : B := g ⟨h⟩
theorem Z7 (h : A) (g : Hd A → B := by intro h; refine gN (tN (gS (gR ?_))); exact h.o) : B := g ⟨h⟩
theorem Z8 (h : A) (g : Hd A → B := by intro h; refine vq rfl q_and ?_; exact h.o) : B := g ⟨h⟩
theorem Z9 (h : A) (g : Hd A → B := by intro h; refine vq rfl q_eql ?_; exact h.o) : B := g ⟨h⟩
theorem Z10 (h : A) (g : Hd A → B := by intro h; refine vq rfl (qL u3) ?_; exact h.o) : B := g ⟨h⟩
theorem Z11 (h : A) (g : Hd A → B := by intro h; refine vq rfl (qG (by exact sz27) u27 rfl) ?_; exact h.o) : B := g ⟨h⟩
theorem Z12 (h : A) (g : Hd A → B := by intro h; refine cP [] ?_; exact h.o) : B := g ⟨h⟩
theorem Z13 (h : A) (g : Hd A → B := by intro h; refine gN (tN (gT (bR (tR ?_)))); exact h.o) : B := g ⟨h⟩
theorem Z14 (h : A) (g : Hd A → B := by intro h; refine vq rfl qE ?_; exact h.o) : B := g ⟨h⟩
theorem Z15 (h : A) (g : Hd A → B := by intro h; refine gS ?_; exact h.o) : B := g ⟨h⟩
theorem Z16 (h : A) (g : Hd A → B := by intro h; refine gN (tN (gS (gS (gR ?_)))); exact h.o) : B := g ⟨h⟩
theorem Z17 (h : A) (g : Hd A → B := by intro h; refine sa rfl (dS sz27) ?_; exact h.o) : B := g ⟨h⟩
theorem Z18 (h : A) (g : Hd A → B := by intro h; refine sv rfl y_box ?_; exact h.o) : B := g ⟨h⟩
theorem Z19 (h : A) (g : Hd A → B := by intro h; refine vq rfl (qF u27 rfl sz3) ?_; exact h.o) : B := g ⟨h⟩
theorem Z20 (h : A) (g : Hd A → B := by intro h; refine vq rfl q_add ?_; exact h.o) : B := g ⟨h⟩
theorem Z21 (h : A) (g : Hd A → B := by intro h; refine sg rfl (fun hg => qM) ?_; exact h.o) : B := g ⟨h⟩
theorem Z22 (h : A) (g : Hd A → B := by intro h; refine gN (tN (gT (tR ?_))); exact h.o) : B := g ⟨h⟩
theorem Z23 (h : A) (g : Hd A → B := by intro h; refine gN ?_; exact h.o) : B := g ⟨h⟩
theorem Z24 (h : A) (g : Hd A → B := by intro h; refine vq rfl q_or ?_; exact h.o) : B := g ⟨h⟩
theorem Z25 (h : A) (g : Hd A → B := by intro h; refine vq rfl (qL u22) ?_; exact h.o) : B := g ⟨h⟩
theorem Z26 (h : A) (g : Hd A → B := by intro h; refine vq rfl (qF u27 rfl sz22) ?_; exact h.o) : B := g ⟨h⟩
theorem Z27 (h : A) (g : Hd A → B := by intro h; refine vq rfl q_lss ?_; exact h.o) : B := g ⟨h⟩
theorem Z28 (h : A) (g : Hd A → B := by intro h; refine sg rfl (fun hg => qF u27 rfl sz3) ?_; exact h.o) : B := g ⟨h⟩
theorem Z29 (h : A) (g : Hd A → B := by intro h; refine sv rfl (y_alloc zr27) ?_; exact h.o) : B := g ⟨h⟩
theorem Z30 (h : A) (g : Hd A → B := by intro h; refine gN (tN (gS ?_)); exact h.o) : B := g ⟨h⟩
theorem Z31 (h : A) (g : Hd A → B := by intro h; refine vq rfl (qL u9) ?_; exact h.o) : B := g ⟨h⟩
theorem Z32 (h : A) (g : Hd A → B := by intro h; refine vq rfl (qI u22 sz27) ?_; exact h.o) : B := g ⟨h⟩
theorem Z33 (h : A) (g : Hd A → B := by intro h; refine gN (tN (G_block ?_)); exact h.o) : B := g ⟨h⟩
theorem Z34 (h : A) (g : Hd A → B := by intro h; refine G_exit (thn_exit ?_); exact h.o) : B := g ⟨h⟩
theorem Z35 (h : A) (g : Hd A → B := by intro h; refine gS (gS (gR ?_)); exact h.o) : B := g ⟨h⟩
theorem Z36 (h : A) (g : Hd A → B := by intro h; refine sa rfl (dS sz199) ?_; exact h.o) : B := g ⟨h⟩
theorem Z37 (h : A) (g : Hd A → B := by intro h; refine vq rfl q_not ?_; exact h.o) : B := g ⟨h⟩
theorem Z38 (h : A) (g : Hd A → B := by intro h; refine blk_exit (tN (gS (gR ?_))); exact h.o) : B := g ⟨h⟩
theorem Z39 (h : A) (g : Hd A → B := by intro h; refine vq rfl (qF u27 rfl sz9) ?_; exact h.o) : B := g ⟨h⟩
theorem Z40 (h : A) (g : Hd A → B := by intro h; refine vq rfl (q_len u22) ?_; exact h.o) : B := g ⟨h⟩
theorem Z41 (h : A) (g : Hd A → B := by intro h; refine gK (tN (gS (G_block (gS (gR ?_))))); exact h.o) : B := g ⟨h⟩
theorem Z42 (h : A) (g : Hd A → B := by intro h; refine find2 (by simp) ?_; exact h.o) : B := g ⟨h⟩
theorem Z43 (h : A) (g : Hd A → B := by intro h; refine gK (tN (gS ?_)); exact h.o) : B := g ⟨h⟩
theorem Z44 (h : A) (g : Hd A → B := by intro h; refine vq rfl q_streq ?_; exact h.o) : B := g ⟨h⟩
theorem Z45 (h : A) (g : Hd A → B := by intro h; refine gK (tN (gS (gR ?_))); exact h.o) : B := g ⟨h⟩
theorem Z46 (h : A) (g : Hd A → B := by intro h; refine vq rfl q_neq ?_; exact h.o) : B := g ⟨h⟩
theorem Z47 (h : A) (g : Hd A → B := by intro h; refine sv rfl (y_load_leaf u3) ?_; exact h.o) : B := g ⟨h⟩
theorem Z48 (h : A) (g : Hd A → B := by intro h; refine sg rfl (fun hg => qG (by exact sz27) u27 rfl) ?_; exact h.o) : B := g ⟨h⟩
theorem Z49 (h : A) (g : Hd A → B := by intro h; refine sa rfl (d_insert u127 u3) ?_; exact h.o) : B := g ⟨h⟩
theorem Z50 (h : A) (g : Hd A → B := by intro h; refine g_keepo [8, 1, 2, 3] ?_; exact h.o) : B := g ⟨h⟩
theorem Z51 (h : A) (g : Hd A → B := by intro h; refine sg rfl (fun hg => qF u27 rfl sz22) ?_; exact h.o) : B := g ⟨h⟩
theorem Z52 (h : A) (g : Hd A → B := by intro h; refine vq rfl q_geq ?_; exact h.o) : B := g ⟨h⟩
theorem Z53 (h : A) (g : Hd A → B := by intro h; refine cg_done ?_; exact h.o) : B := g ⟨h⟩
theorem Z54 (h : A) (g : Hd A → B := by intro h; refine vq rfl (q_buildS pl27 zr27) ?_; exact h.o) : B := g ⟨h⟩
theorem Z55 (h : A) (g : Hd A → B := by intro h; refine bR (tR ?_); exact h.o) : B := g ⟨h⟩
theorem Z56 (h : A) (g : Hd A → B := by intro h; refine sv rfl (y_load_agg sz27 u27 rfl) ?_; exact h.o) : B := g ⟨h⟩
theorem Z57 (h : A) (g : Hd A → B := by intro h; refine cP [3] ?_; exact h.o) : B := g ⟨h⟩
theorem Z58 (h : A) (g : Hd A → B := by intro h; refine gK (tN (gS (gS (gR ?_)))); exact h.o) : B := g ⟨h⟩
theorem Z59 (h : A) (g : Hd A → B := by intro h; refine cP [2] ?_; exact h.o) : B := g ⟨h⟩
theorem Z60 (h : A) (g : Hd A → B := by intro h; refine vq rfl ((q_buildP pl189 zr189)) ?_; exact h.o) : B := g ⟨h⟩
theorem Z61 (h : A) (g : Hd A → B := by intro h; refine cP [4] ?_; exact h.o) : B := g ⟨h⟩
theorem Z62 (h : A) (g : Hd A → B := by intro h; refine vq rfl q_gtr ?_; exact h.o) : B := g ⟨h⟩
theorem Z63 (h : A) (g : Hd A → B := by intro h; refine cP [1] ?_; exact h.o) : B := g ⟨h⟩
theorem Z64 (h : A) (g : Hd A → B := by intro h; refine gP [0, 1, 2, 3] ?_; exact h.o) : B := g ⟨h⟩
theorem Z65 (h : A) (g : Hd A → B := by intro h; refine sg rfl (fun hg => qF u27 rfl sz9) ?_; exact h.o) : B := g ⟨h⟩
theorem Z66 (h : A) (g : Hd A → B := by intro h; refine vq rfl (q_buildS pl199 zr199) ?_; exact h.o) : B := g ⟨h⟩
theorem Z67 (h : A) (g : Hd A → B := by intro h; refine vq rfl (qF u199 rfl sz3) ?_; exact h.o) : B := g ⟨h⟩
theorem Z68 (h : A) (g : Hd A → B := by intro h; refine gK (tN ?_); exact h.o) : B := g ⟨h⟩
theorem Z69 (h : A) (g : Hd A → B := by intro h; refine gK ?_; exact h.o) : B := g ⟨h⟩
theorem Z70 (h : A) (g : Hd A → B := by intro h; refine gK (bN (tN (gR ?_))); exact h.o) : B := g ⟨h⟩
theorem Z71 (h : A) (g : Hd A → B := by intro h; refine gK (bN (tN (gS (gR ?_)))); exact h.o) : B := g ⟨h⟩
theorem Z72 (h : A) (g : Hd A → B := by intro h; refine vq rfl (qG (by exact sz199) u199 rfl) ?_; exact h.o) : B := g ⟨h⟩
theorem Z73 (h : A) (g : Hd A → B := by intro h; refine cP [6] ?_; exact h.o) : B := g ⟨h⟩
theorem Z74 (h : A) (g : Hd A → B := by intro h; refine gK (tN (gS (gS ?_))); exact h.o) : B := g ⟨h⟩
theorem Z75 (h : A) (g : Hd A → B := by intro h; refine gP [0, 1, 2, 3, 4] ?_; exact h.o) : B := g ⟨h⟩
theorem Z76 (h : A) (g : Hd A → B := by intro h; refine cP [0] ?_; exact h.o) : B := g ⟨h⟩
theorem Z77 (h : A) (g : Hd A → B := by intro h; refine sv rfl (y_alloc zr199) ?_; exact h.o) : B := g ⟨h⟩
theorem Z78 (h : A) (g : Hd A → B := by intro h; refine gN (tN (gT (tR (bR (tR ?_))))); exact h.o) : B := g ⟨h⟩
theorem Z79 (h : A) (g : Hd A → B := by intro h; refine gP [0, 1, 2, 4, 5, 6, 7, 8, 9, 10, 11, 12, 13] ?_; exact h.o) : B := g ⟨h⟩
theorem Z80 (h : A) (g : Hd A → B := by intro h; refine sv rfl y_assign_take ?_; exact h.o) : B := g ⟨h⟩
theorem Z81 (h : A) (g : Hd A → B := by intro h; refine cP [5] ?_; exact h.o) : B := g ⟨h⟩
theorem Z82 (h : A) (g : Hd A → B := by intro h; refine gP [0, 1, 2, 4, 5, 6, 7, 8] ?_; exact h.o) : B := g ⟨h⟩
theorem Z83 (h : A) (g : Hd A → B := by intro h; refine findc sz27 u27 (by simp) ?_; exact h.o) : B := g ⟨h⟩
theorem Z84 (h : A) (g : Hd A → B := by intro h; refine vq rfl (q_lenstr u9) ?_; exact h.o) : B := g ⟨h⟩
theorem Z85 (h : A) (g : Hd A → B := by intro h; refine vq rfl q_sub ?_; exact h.o) : B := g ⟨h⟩
theorem Z86 (h : A) (g : Hd A → B := by intro h; refine sa rfl (dS sz3) ?_; exact h.o) : B := g ⟨h⟩
theorem Z87 (h : A) (g : Hd A → B := by intro h; refine gN (bN (tN (gR ?_))); exact h.o) : B := g ⟨h⟩
theorem Z88 (h : A) (g : Hd A → B := by intro h; refine sv rfl (y_load_agg sz199 u199 rfl) ?_; exact h.o) : B := g ⟨h⟩
theorem Z89 (h : A) (g : Hd A → B := by intro h; refine gP [0, 1, 2, 4, 5, 6, 7] ?_; exact h.o) : B := g ⟨h⟩
theorem Z90 (h : A) (g : Hd A → B := by intro h; refine cP [7] ?_; exact h.o) : B := g ⟨h⟩
theorem Z91 (h : A) (g : Hd A → B := by intro h; refine find3 (by simp) ?_; exact h.o) : B := g ⟨h⟩
theorem Z92 (h : A) (g : Hd A → B := by intro h; refine sv rfl (y_fieldAt 3 u27 rfl sz22) ?_; exact h.o) : B := g ⟨h⟩
theorem Z93 (h : A) (g : Hd A → B := by intro h; refine vq rfl (q_buildS pl231 zr231) ?_; exact h.o) : B := g ⟨h⟩
theorem Z94 (h : A) (g : Hd A → B := by intro h; refine sa rfl (d_insert u232 u9) ?_; exact h.o) : B := g ⟨h⟩
theorem Z95 (h : A) (g : Hd A → B := by intro h; refine gN (tN (gS (gS ?_))); exact h.o) : B := g ⟨h⟩
theorem Z96 (h : A) (g : Hd A → B := by intro h; refine gP [0, 1, 4, 5, 6, 7, 8, 9, 10, 11, 12] ?_; exact h.o) : B := g ⟨h⟩
theorem Z97 (h : A) (g : Hd A → B := by intro h; refine tN (gS ?_); exact h.o) : B := g ⟨h⟩
theorem Z98 (h : A) (g : Hd A → B := by intro h; refine gP [0, 1, 2, 3, 4, 5, 7, 55, 64, 70, 117] ?_; exact h.o) : B := g ⟨h⟩
theorem Z99 (h : A) (g : Hd A → B := by intro h; refine bN (tN ?_); exact h.o) : B := g ⟨h⟩
theorem Z100 (h : A) (g : Hd A → B := by intro h; refine gN (tN (gR ?_)); exact h.o) : B := g ⟨h⟩
theorem Z101 (h : A) (g : Hd A → B := by intro h; refine sa rfl (dS sz59) ?_; exact h.o) : B := g ⟨h⟩
theorem Z102 (h : A) (g : Hd A → B := by intro h; refine gK (bN (tN ?_)); exact h.o) : B := g ⟨h⟩
theorem Z103 (h : A) (g : Hd A → B := by intro h; refine gN (tN (G_block (gS (gR ?_)))); exact h.o) : B := g ⟨h⟩
theorem Z104 (h : A) (g : Hd A → B := by intro h; refine gP [0, 1, 2] ?_; exact h.o) : B := g ⟨h⟩
theorem Z105 (h : A) (g : Hd A → B := by intro h; refine cP [9] ?_; exact h.o) : B := g ⟨h⟩
theorem Z106 (h : A) (g : Hd A → B := by intro h; refine gP [0, 1, 2, 6, 7, 8] ?_; exact h.o) : B := g ⟨h⟩
theorem Z107 (h : A) (g : Hd A → B := by intro h; refine gP [0, 1, 2, 4, 5, 6, 7, 8, 9, 10, 11, 12] ?_; exact h.o) : B := g ⟨h⟩
theorem Z108 (h : A) (g : Hd A → B := by intro h; refine sg rfl (fun hg => sP 7 rfl hg (qL u3)) ?_; exact h.o) : B := g ⟨h⟩
theorem Z109 (h : A) (g : Hd A → B := by intro h; refine vq rfl (q_add (hw := rfl)) ?_; exact h.o) : B := g ⟨h⟩
theorem Z110 (h : A) (g : Hd A → B := by intro h; refine tN (gT ?_); exact h.o) : B := g ⟨h⟩
theorem Z111 (h : A) (g : Hd A → B := by intro h; refine gP [0, 1, 2, 3, 4, 8, 91, 222] ?_; exact h.o) : B := g ⟨h⟩
theorem Z112 (h : A) (g : Hd A → B := by intro h; refine vq rfl q_leq ?_; exact h.o) : B := g ⟨h⟩
theorem Z113 (h : A) (g : Hd A → B := by intro h; refine gP [0, 1, 2, 5, 6, 7, 8] ?_; exact h.o) : B := g ⟨h⟩
theorem Z114 (h : A) (g : Hd A → B := by intro h; refine sa rfl (dS sz22) ?_; exact h.o) : B := g ⟨h⟩
theorem Z115 (h : A) (g : Hd A → B := by intro h; refine gP [0, 1, 2, 3, 4, 5, 6, 8] ?_; exact h.o) : B := g ⟨h⟩
theorem Z116 (h : A) (g : Hd A → B := by intro h; refine sa rfl (dS sz260) ?_; exact h.o) : B := g ⟨h⟩
theorem Z117 (h : A) (g : Hd A → B := by intro h; refine vq rfl q_nilCheck ?_; exact h.o) : B := g ⟨h⟩
theorem Z118 (h : A) (g : Hd A → B := by intro h; refine cP [25] ?_; exact h.o) : B := g ⟨h⟩
theorem Z119 (h : A) (g : Hd A → B := by intro h; refine vq rfl (q_buildS pl59 zr59) ?_; exact h.o) : B := g ⟨h⟩
theorem Z120 (h : A) (g : Hd A → B := by intro h; refine gP [0, 1, 2, 4, 5, 6, 7, 8, 9] ?_; exact h.o) : B := g ⟨h⟩
theorem Z121 (h : A) (g : Hd A → B := by intro h; refine tN (G_exit (thn_exit (blk_exit (tN ?_)))); exact h.o) : B := g ⟨h⟩
theorem Z122 (h : A) (g : Hd A → B := by intro h; refine sg rfl (fun hg => sP 6 rfl hg q_leq) ?_; exact h.o) : B := g ⟨h⟩
theorem Z123 (h : A) (g : Hd A → B := by intro h; refine tN ?_; exact h.o) : B := g ⟨h⟩
theorem Z124 (h : A) (g : Hd A → B := by intro h; refine gN (tN (gT (tR (tR ?_)))); exact h.o) : B := g ⟨h⟩
theorem Z125 (h : A) (g : Hd A → B := by intro h; refine cP [0, 2] ?_; exact h.o) : B := g ⟨h⟩
theorem Z126 (h : A) (g : Hd A → B := by intro h; refine sg rfl (fun hg => qF u199 rfl sz3) ?_; exact h.o) : B := g ⟨h⟩
theorem Z127 (h : A) (g : Hd A → B := by intro h; refine cP [6, 7, 0, 1, 2, 3, 4, 5, 6, 7] ?_; exact h.o) : B := g ⟨h⟩
theorem Z128 (h : A) (g : Hd A → B := by intro h; refine gP [0, 1, 2, 4, 5, 6, 7, 8, 9, 10, 11, 12, 13, 14, 16, 55] ?_; exact h.o) : B := g ⟨h⟩
theorem Z129 (h : A) (g : Hd A → B := by intro h; refine sv rfl y_move_take ?_; exact h.o) : B := g ⟨h⟩
theorem Z130 (h : A) (g : Hd A → B := by intro h; refine sv rfl (y_load_leaf u141) ?_; exact h.o) : B := g ⟨h⟩
theorem Z131 (h : A) (g : Hd A → B := by intro h; refine vq rfl (q_len u49) ?_; exact h.o) : B := g ⟨h⟩
theorem Z132 (h : A) (g : Hd A → B := by intro h; refine vq rfl (qI u49 sz59) ?_; exact h.o) : B := g ⟨h⟩
theorem Z133 (h : A) (g : Hd A → B := by intro h; refine sv rfl (y_load_take u22) ?_; exact h.o) : B := g ⟨h⟩
theorem Z134 (h : A) (g : Hd A → B := by intro h; refine sa rfl (d_store_take sz22) ?_; exact h.o) : B := g ⟨h⟩
theorem Z135 (h : A) (g : Hd A → B := by intro h; refine sv rfl (y_fieldAt 2 u27 rfl sz3) ?_; exact h.o) : B := g ⟨h⟩
theorem Z136 (h : A) (g : Hd A → B := by intro h; refine gP [0, 1, 2, 4, 5, 6, 7, 8, 9, 10, 11, 12, 13, 14, 15, 16, 18, 19] ?_; exact h.o) : B := g ⟨h⟩
theorem Z137 (h : A) (g : Hd A → B := by intro h; refine sg rfl (fun hg => sP 8 rfl hg q_eql) ?_; exact h.o) : B := g ⟨h⟩
theorem Z138 (h : A) (g : Hd A → B := by intro h; refine tN (gT (bR (tR ?_))); exact h.o) : B := g ⟨h⟩
theorem Z139 (h : A) (g : Hd A → B := by intro h; refine vq rfl (q_buildS pl189 zr189) ?_; exact h.o) : B := g ⟨h⟩
theorem Z140 (h : A) (g : Hd A → B := by intro h; refine sg rfl (fun hg => sP 27 rfl hg q_eql) ?_; exact h.o) : B := g ⟨h⟩
theorem Z141 (h : A) (g : Hd A → B := by intro h; refine vq rfl (qF u260 rfl sz3) ?_; exact h.o) : B := g ⟨h⟩
theorem Z142 (h : A) (g : Hd A → B := by intro h; refine vq rfl (q_sub (hw := rfl)) ?_; exact h.o) : B := g ⟨h⟩
theorem Z143 (h : A) (g : Hd A → B := by intro h; refine gP [0, 1, 2, 3, 4, 5] ?_; exact h.o) : B := g ⟨h⟩
theorem Z144 (h : A) (g : Hd A → B := by intro h; refine sa rfl (d_insert u253 u9) ?_; exact h.o) : B := g ⟨h⟩
theorem Z145 (h : A) (g : Hd A → B := by intro h; refine gS (gS ?_); exact h.o) : B := g ⟨h⟩
theorem Z146 (h : A) (g : Hd A → B := by intro h; refine cP [5, 0, 0, 1, 2, 3, 4, 5] ?_; exact h.o) : B := g ⟨h⟩
theorem Z147 (h : A) (g : Hd A → B := by intro h; refine cP [10, 10, 0, 1, 2, 3, 4, 5, 6, 7, 8, 9, 10] ?_; exact h.o) : B := g ⟨h⟩
theorem Z148 (h : A) (g : Hd A → B := by intro h; refine gP [0, 1, 2, 4, 5, 6, 7, 9, 10] ?_; exact h.o) : B := g ⟨h⟩
theorem Z149 (h : A) (g : Hd A → B := by intro h; refine vq rfl (q_buildS pl168 zr168) ?_; exact h.o) : B := g ⟨h⟩
theorem Z150 (h : A) (g : Hd A → B := by intro h; refine vq rfl ((q_ptreql u139)) ?_; exact h.o) : B := g ⟨h⟩
theorem Z151 (h : A) (g : Hd A → B := by intro h; refine sg rfl (fun hg => sP 22 rfl hg (qL u3)) ?_; exact h.o) : B := g ⟨h⟩
theorem Z152 (h : A) (g : Hd A → B := by intro h; refine sg rfl (fun hg => q_fieldAddr u27 rfl sz3) ?_; exact h.o) : B := g ⟨h⟩
theorem Z153 (h : A) (g : Hd A → B := by intro h; refine gP [0, 1, 2, 4, 5, 6, 7, 8, 9, 10, 11, 13] ?_; exact h.o) : B := g ⟨h⟩
theorem Z154 (h : A) (g : Hd A → B := by intro h; refine sv rfl (y_buildSlice (xs := []) u49 inf59) ?_; exact h.o) : B := g ⟨h⟩
theorem Z155 (h : A) (g : Hd A → B := by intro h; refine gN (bN (tN ?_)); exact h.o) : B := g ⟨h⟩
theorem Z156 (h : A) (g : Hd A → B := by intro h; refine sg rfl (fun hg => sP 9 rfl hg (qL u3)) ?_; exact h.o) : B := g ⟨h⟩
theorem Z157 (h : A) (g : Hd A → B := by intro h; refine sg rfl (fun hg => sP 17 rfl hg (qL u3)) ?_; exact h.o) : B := g ⟨h⟩
theorem Z158 (h : A) (g : Hd A → B := by intro h; refine cP [10] ?_; exact h.o) : B := g ⟨h⟩
theorem Z159 (h : A) (g : Hd A → B := by intro h; refine findc sz260 u260 (by simp) ?_; exact h.o) : B := g ⟨h⟩
theorem Z160 (h : A) (g : Hd A → B := by intro h; refine gN (tN (gS (G_block (gS (gR ?_))))); exact h.o) : B := g ⟨h⟩
theorem Z161 (h : A) (g : Hd A → B := by intro h; refine sa rfl (d_insert u249 u9) ?_; exact h.o) : B := g ⟨h⟩
theorem Z162 (h : A) (g : Hd A → B := by intro h; refine cP [0, 4, 8] ?_; exact h.o) : B := g ⟨h⟩
theorem Z163 (h : A) (g : Hd A → B := by intro h; refine tN (gT (tR ?_)); exact h.o) : B := g ⟨h⟩
theorem Z164 (h : A) (g : Hd A → B := by intro h; refine gN (bN ?_); exact h.o) : B := g ⟨h⟩
theorem Z165 (h : A) (g : Hd A → B := by intro h; refine findc sz199 u199 (by simp) ?_; exact h.o) : B := g ⟨h⟩
theorem Z166 (h : A) (g : Hd A → B := by intro h; refine gP [0, 1, 4, 5, 6, 8, 9, 10, 11, 12, 13, 14] ?_; exact h.o) : B := g ⟨h⟩
theorem Z167 (h : A) (g : Hd A → B := by intro h; refine sg rfl (fun hg => sP 10 rfl hg q_neq) ?_; exact h.o) : B := g ⟨h⟩
theorem Z168 (h : A) (g : Hd A → B := by intro h; refine vq rfl (qF u25 rfl sz23) ?_; exact h.o) : B := g ⟨h⟩
theorem Z169 (h : A) (g : Hd A → B := by intro h; refine vq rfl (qL u23) ?_; exact h.o) : B := g ⟨h⟩
theorem Z170 (h : A) (g : Hd A → B := by intro h; refine vq rfl (q_len u23) ?_; exact h.o) : B := g ⟨h⟩
theorem Z171 (h : A) (g : Hd A → B := by intro h; refine gP [0, 1, 2, 4] ?_; exact h.o) : B := g ⟨h⟩
theorem Z172 (h : A) (g : Hd A → B := by intro h; refine gK (bN (bN (tN (gR ?_)))); exact h.o) : B := g ⟨h⟩
theorem Z173 (h : A) (g : Hd A → B := by intro h; refine sg rfl (fun hg => sP 19 rfl hg (qL u3)) ?_; exact h.o) : B := g ⟨h⟩
theorem Z174 (h : A) (g : Hd A → B := by intro h; refine vq rfl (q_booleq u4) ?_; exact h.o) : B := g ⟨h⟩
theorem Z175 (h : A) (g : Hd A → B := by intro h; refine sv rfl y_makeMap ?_; exact h.o) : B := g ⟨h⟩
theorem Z176 (h : A) (g : Hd A → B := by intro h; refine sg rfl (fun hg => sP 26 rfl hg (qL u3)) ?_; exact h.o) : B := g ⟨h⟩
theorem Z177 (h : A) (g : Hd A → B := by intro h; refine sg rfl (fun hg => sP 35 rfl hg (qL u3)) ?_; exact h.o) : B := g ⟨h⟩
theorem Z178 (h : A) (g : Hd A → B := by intro h; refine sg rfl (fun hg => q_fieldAddr u189 rfl sz63) ?_; exact h.o) : B := g ⟨h⟩
theorem Z179 (h : A) (g : Hd A → B := by intro h; refine vq rfl (q_mul (hw := rfl)) ?_; exact h.o) : B := g ⟨h⟩
theorem Z180 (h : A) (g : Hd A → B := by intro h; refine sv rfl (y_alloc zr260) ?_; exact h.o) : B := g ⟨h⟩
theorem Z181 (h : A) (g : Hd A → B := by intro h; refine gP [0, 1, 2, 6, 7] ?_; exact h.o) : B := g ⟨h⟩
theorem Z182 (h : A) (g : Hd A → B := by intro h; refine vq rfl ((q_ptrneq u139)) ?_; exact h.o) : B := g ⟨h⟩
theorem Z183 (h : A) (g : Hd A → B := by intro h; refine vq rfl (qL u139) ?_; exact h.o) : B := g ⟨h⟩
theorem Z184 (h : A) (g : Hd A → B := by intro h; refine sv rfl (y_load_leaf u22) ?_; exact h.o) : B := g ⟨h⟩
theorem Z185 (h : A) (g : Hd A → B := by intro h; refine sg rfl (fun hg => sP 30 rfl hg (qL u3)) ?_; exact h.o) : B := g ⟨h⟩
theorem Z186 (h : A) (g : Hd A → B := by intro h; refine sv rfl (y_fieldAt 0 u27 rfl sz3) ?_; exact h.o) : B := g ⟨h⟩
theorem Z187 (h : A) (g : Hd A → B := by intro h; refine gP [0, 2, 3, 4, 5, 6, 14, 20, 23] ?_; exact h.o) : B := g ⟨h⟩
theorem Z188 (h : A) (g : Hd A → B := by intro h; refine bR (tR (bR (tR ?_))); exact h.o) : B := g ⟨h⟩
theorem Z189 (h : A) (g : Hd A → B := by intro h; refine sg rfl (fun hg => sP 25 rfl hg (qL u3)) ?_; exact h.o) : B := g ⟨h⟩
theorem Z190 (h : A) (g : Hd A → B := by intro h; refine vq rfl (qG (by exact sz59) u59 rfl) ?_; exact h.o) : B := g ⟨h⟩
theorem Z191 (h : A) (g : Hd A → B := by intro h; refine sv rfl (y_alloc zr59) ?_; exact h.o) : B := g ⟨h⟩
theorem Z192 (h : A) (g : Hd A → B := by intro h; refine gP [0, 1, 2, 4, 5, 6, 7, 8, 9, 10, 11] ?_; exact h.o) : B := g ⟨h⟩
theorem Z193 (h : A) (g : Hd A → B := by intro h; refine Z0 ?_; refine Z6 ?_; exact h.o) : B := g ⟨h⟩
theorem Z194 (h : A) (g : Hd A → B := by intro h; refine Z0 ?_; refine Z7 ?_; exact h.o) : B := g ⟨h⟩
theorem Z195 (h : A) (g : Hd A → B := by intro h; refine Z193 ?_; refine Z5 ?_; exact h.o) : B := g ⟨h⟩
theorem Z196 (h : A) (g : Hd A → B := by intro h; refine Z0 ?_; refine Z3 ?_; exact h.o) : B := g ⟨h⟩
theorem Z197 (h : A) (g : Hd A → B := by intro h; refine Z0 ?_; refine Z13 ?_; exact h.o) : B := g ⟨h⟩
theorem Z198 (h : A) (g : Hd A → B := by intro h; refine Z1 ?_; refine Z1 ?_; exact h.o) : B := g ⟨h⟩
theorem Z199 (h : A) (g : Hd A → B := by intro h; refine Z19 ?_; refine Z10 ?_; exact h.o) : B := g ⟨h⟩
theorem Z200 (h : A) (g : Hd A → B := by intro h; refine Z0 ?_; refine Z22 ?_; exact h.o) : B := g ⟨h⟩
theorem Z201 (h : A) (g : Hd A → B := by intro h; refine Z0 ?_; refine Z16 ?_; exact h.o) : B := g ⟨h⟩
theorem Z202 (h : A) (g : Hd A → B := by intro h; refine Z2 ?_; refine Z18 ?_; exact h.o) : B := g ⟨h⟩
theorem Z203 (h : A) (g : Hd A → B := by intro h; refine Z26 ?_; refine Z25 ?_; exact h.o) : B := g ⟨h⟩
theorem Z204 (h : A) (g : Hd A → B := by intro h; refine Z9 ?_; refine Z196 ?_; exact h.o) : B := g ⟨h⟩
theorem Z205 (h : A) (g : Hd A → B := by intro h; refine Z1 ?_; refine Z21 ?_; exact h.o) : B := g ⟨h⟩
theorem Z206 (h : A) (g : Hd A → B := by intro h; refine Z1 ?_; refine Z28 ?_; exact h.o) : B := g ⟨h⟩
theorem Z207 (h : A) (g : Hd A → B := by intro h; refine Z14 ?_; refine Z14 ?_; exact h.o) : B := g ⟨h⟩
theorem Z208 (h : A) (g : Hd A → B := by intro h; refine Z4 ?_; refine Z1 ?_; exact h.o) : B := g ⟨h⟩
theorem Z209 (h : A) (g : Hd A → B := by intro h; refine Z24 ?_; refine Z3 ?_; exact h.o) : B := g ⟨h⟩
theorem Z210 (h : A) (g : Hd A → B := by intro h; refine Z0 ?_; refine Z23 ?_; exact h.o) : B := g ⟨h⟩
theorem Z211 (h : A) (g : Hd A → B := by intro h; refine Z2 ?_; refine Z194 ?_; exact h.o) : B := g ⟨h⟩
theorem Z212 (h : A) (g : Hd A → B := by intro h; refine Z39 ?_; refine Z31 ?_; exact h.o) : B := g ⟨h⟩
theorem Z213 (h : A) (g : Hd A → B := by intro h; refine Z32 ?_; refine Z11 ?_; exact h.o) : B := g ⟨h⟩
theorem Z214 (h : A) (g : Hd A → B := by intro h; refine Z200 ?_; refine Z5 ?_; exact h.o) : B := g ⟨h⟩
theorem Z215 (h : A) (g : Hd A → B := by intro h; refine Z1 ?_; refine Z207 ?_; exact h.o) : B := g ⟨h⟩
theorem Z216 (h : A) (g : Hd A → B := by intro h; refine Z20 ?_; refine Z1 ?_; exact h.o) : B := g ⟨h⟩
theorem Z217 (h : A) (g : Hd A → B := by intro h; refine Z216 ?_; refine Z23 ?_; exact h.o) : B := g ⟨h⟩
theorem Z218 (h : A) (g : Hd A → B := by intro h; refine Z29 ?_; refine Z17 ?_; exact h.o) : B := g ⟨h⟩
theorem Z219 (h : A) (g : Hd A → B := by intro h; refine Z201 ?_; refine Z1 ?_; exact h.o) : B := g ⟨h⟩
theorem Z220 (h : A) (g : Hd A → B := by intro h; refine Z2 ?_; refine Z1 ?_; exact h.o) : B := g ⟨h⟩
theorem Z221 (h : A) (g : Hd A → B := by intro h; refine Z0 ?_; refine Z0 ?_; exact h.o) : B := g ⟨h⟩
theorem Z222 (h : A) (g : Hd A → B := by intro h; refine Z2 ?_; refine Z204 ?_; exact h.o) : B := g ⟨h⟩
theorem Z223 (h : A) (g : Hd A → B := by intro h; refine Z20 ?_; refine Z210 ?_; exact h.o) : B := g ⟨h⟩
theorem Z224 (h : A) (g : Hd A → B := by intro h; refine Z49 ?_; refine Z50 ?_; exact h.o) : B := g ⟨h⟩
theorem Z225 (h : A) (g : Hd A → B := by intro h; refine Z8 ?_; refine Z197 ?_; exact h.o) : B := g ⟨h⟩
theorem Z226 (h : A) (g : Hd A → B := by intro h; refine Z2 ?_; refine Z11 ?_; exact h.o) : B := g ⟨h⟩
theorem Z227 (h : A) (g : Hd A → B := by intro h; refine Z27 ?_; refine Z3 ?_; exact h.o) : B := g ⟨h⟩
theorem Z228 (h : A) (g : Hd A → B := by intro h; refine Z8 ?_; refine Z195 ?_; exact h.o) : B := g ⟨h⟩
theorem Z229 (h : A) (g : Hd A → B := by intro h; refine Z199 ?_; refine Z9 ?_; exact h.o) : B := g ⟨h⟩
theorem Z230 (h : A) (g : Hd A → B := by intro h; refine Z46 ?_; refine Z3 ?_; exact h.o) : B := g ⟨h⟩
theorem Z231 (h : A) (g : Hd A → B := by intro h; refine Z1 ?_; refine Z48 ?_; exact h.o) : B := g ⟨h⟩
theorem Z232 (h : A) (g : Hd A → B := by intro h; refine Z1 ?_; refine Z33 ?_; exact h.o) : B := g ⟨h⟩
theorem Z233 (h : A) (g : Hd A → B := by intro h; refine Z2 ?_; refine Z27 ?_; exact h.o) : B := g ⟨h⟩
theorem Z234 (h : A) (g : Hd A → B := by intro h; refine Z233 ?_; refine Z30 ?_; exact h.o) : B := g ⟨h⟩
theorem Z235 (h : A) (g : Hd A → B := by intro h; refine Z60 ?_; refine Z224 ?_; exact h.o) : B := g ⟨h⟩
theorem Z236 (h : A) (g : Hd A → B := by intro h; refine Z203 ?_; refine Z40 ?_; exact h.o) : B := g ⟨h⟩
theorem Z237 (h : A) (g : Hd A → B := by intro h; refine Z1 ?_; refine Z51 ?_; exact h.o) : B := g ⟨h⟩
theorem Z238 (h : A) (g : Hd A → B := by intro h; refine Z8 ?_; refine Z3 ?_; exact h.o) : B := g ⟨h⟩
theorem Z239 (h : A) (g : Hd A → B := by intro h; refine Z44 ?_; refine Z196 ?_; exact h.o) : B := g ⟨h⟩
theorem Z240 (h : A) (g : Hd A → B := by intro h; refine Z1 ?_; refine Z223 ?_; exact h.o) : B := g ⟨h⟩
theorem Z241 (h : A) (g : Hd A → B := by intro h; refine Z67 ?_; refine Z10 ?_; exact h.o) : B := g ⟨h⟩
theorem Z242 (h : A) (g : Hd A → B := by intro h; refine Z35 ?_; refine Z1 ?_; exact h.o) : B := g ⟨h⟩
theorem Z243 (h : A) (g : Hd A → B := by intro h; refine Z0 ?_; refine Z33 ?_; exact h.o) : B := g ⟨h⟩
theorem Z244 (h : A) (g : Hd A → B := by intro h; refine Z194 ?_; refine Z1 ?_; exact h.o) : B := g ⟨h⟩
theorem Z245 (h : A) (g : Hd A → B := by intro h; refine Z0 ?_; refine Z30 ?_; exact h.o) : B := g ⟨h⟩
theorem Z246 (h : A) (g : Hd A → B := by intro h; refine Z203 ?_; refine Z213 ?_; exact h.o) : B := g ⟨h⟩
theorem Z247 (h : A) (g : Hd A → B := by intro h; refine Z4 ?_; refine Z214 ?_; exact h.o) : B := g ⟨h⟩
theorem Z248 (h : A) (g : Hd A → B := by intro h; refine Z37 ?_; refine Z3 ?_; exact h.o) : B := g ⟨h⟩
theorem Z249 (h : A) (g : Hd A → B := by intro h; refine Z211 ?_; refine Z1 ?_; exact h.o) : B := g ⟨h⟩
theorem Z250 (h : A) (g : Hd A → B := by intro h; refine Z66 ?_; refine Z36 ?_; exact h.o) : B := g ⟨h⟩
theorem Z251 (h : A) (g : Hd A → B := by intro h; refine Z246 ?_; refine Z1 ?_; exact h.o) : B := g ⟨h⟩
theorem Z252 (h : A) (g : Hd A → B := by intro h; refine Z203 ?_; refine Z1 ?_; exact h.o) : B := g ⟨h⟩
theorem Z253 (h : A) (g : Hd A → B := by intro h; refine Z0 ?_; refine Z197 ?_; exact h.o) : B := g ⟨h⟩
theorem Z254 (h : A) (g : Hd A → B := by intro h; refine Z211 ?_; refine Z198 ?_; exact h.o) : B := g ⟨h⟩
theorem Z255 (h : A) (g : Hd A → B := by intro h; refine Z4 ?_; refine Z198 ?_; exact h.o) : B := g ⟨h⟩
theorem Z256 (h : A) (g : Hd A → B := by intro h; refine Z54 ?_; refine Z17 ?_; exact h.o) : B := g ⟨h⟩
theorem Z257 (h : A) (g : Hd A → B := by intro h; refine Z41 ?_; refine Z1 ?_; exact h.o) : B := g ⟨h⟩
theorem Z258 (h : A) (g : Hd A → B := by intro h; refine Z4 ?_; refine Z217 ?_; exact h.o) : B := g ⟨h⟩
theorem Z259 (h : A) (g : Hd A → B := by intro h; refine Z253 ?_; refine Z42 ?_; exact h.o) : B := g ⟨h⟩
theorem Z260 (h : A) (g : Hd A → B := by intro h; refine Z2 ?_; refine Z221 ?_; exact h.o) : B := g ⟨h⟩
theorem Z261 (h : A) (g : Hd A → B := by intro h; refine Z4 ?_; refine Z204 ?_; exact h.o) : B := g ⟨h⟩
theorem Z262 (h : A) (g : Hd A → B := by intro h; refine Z4 ?_; refine Z11 ?_; exact h.o) : B := g ⟨h⟩
theorem Z263 (h : A) (g : Hd A → B := by intro h; refine Z2 ?_; refine Z219 ?_; exact h.o) : B := g ⟨h⟩
theorem Z264 (h : A) (g : Hd A → B := by intro h; refine Z2 ?_; refine Z214 ?_; exact h.o) : B := g ⟨h⟩
theorem Z265 (h : A) (g : Hd A → B := by intro h; refine Z55 ?_; refine Z5 ?_; exact h.o) : B := g ⟨h⟩
theorem Z266 (h : A) (g : Hd A → B := by intro h; refine Z15 ?_; refine Z64 ?_; exact h.o) : B := g ⟨h⟩
theorem Z267 (h : A) (g : Hd A → B := by intro h; refine Z93 ?_; refine Z94 ?_; exact h.o) : B := g ⟨h⟩
theorem Z268 (h : A) (g : Hd A → B := by intro h; refine Z229 ?_; refine Z3 ?_; exact h.o) : B := g ⟨h⟩
theorem Z269 (h : A) (g : Hd A → B := by intro h; refine Z197 ?_; refine Z91 ?_; exact h.o) : B := g ⟨h⟩
theorem Z270 (h : A) (g : Hd A → B := by intro h; refine Z38 ?_; refine Z195 ?_; exact h.o) : B := g ⟨h⟩
theorem Z271 (h : A) (g : Hd A → B := by intro h; refine Z201 ?_; refine Z199 ?_; exact h.o) : B := g ⟨h⟩
theorem Z272 (h : A) (g : Hd A → B := by intro h; refine Z9 ?_; refine Z3 ?_; exact h.o) : B := g ⟨h⟩
theorem Z273 (h : A) (g : Hd A → B := by intro h; refine Z56 ?_; refine Z17 ?_; exact h.o) : B := g ⟨h⟩
theorem Z274 (h : A) (g : Hd A → B := by intro h; refine Z2 ?_; refine Z239 ?_; exact h.o) : B := g ⟨h⟩
theorem Z275 (h : A) (g : Hd A → B := by intro h; refine Z194 ?_; refine Z198 ?_; exact h.o) : B := g ⟨h⟩
theorem Z276 (h : A) (g : Hd A → B := by intro h; refine Z213 ?_; refine Z218 ?_; exact h.o) : B := g ⟨h⟩
theorem Z277 (h : A) (g : Hd A → B := by intro h; refine Z1 ?_; refine Z65 ?_; exact h.o) : B := g ⟨h⟩
theorem Z278 (h : A) (g : Hd A → B := by intro h; refine Z2 ?_; refine Z198 ?_; exact h.o) : B := g ⟨h⟩
theorem Z279 (h : A) (g : Hd A → B := by intro h; refine Z215 ?_; refine Z0 ?_; exact h.o) : B := g ⟨h⟩
theorem Z280 (h : A) (g : Hd A → B := by intro h; refine Z79 ?_; refine Z4 ?_; exact h.o) : B := g ⟨h⟩
theorem Z281 (h : A) (g : Hd A → B := by intro h; refine Z236 ?_; refine Z227 ?_; exact h.o) : B := g ⟨h⟩
theorem Z282 (h : A) (g : Hd A → B := by intro h; refine Z260 ?_; refine Z269 ?_; exact h.o) : B := g ⟨h⟩
theorem Z283 (h : A) (g : Hd A → B := by intro h; refine Z215 ?_; refine Z218 ?_; exact h.o) : B := g ⟨h⟩
theorem Z284 (h : A) (g : Hd A → B := by intro h; refine Z40 ?_; refine Z232 ?_; exact h.o) : B := g ⟨h⟩
theorem Z285 (h : A) (g : Hd A → B := by intro h; refine Z70 ?_; refine Z217 ?_; exact h.o) : B := g ⟨h⟩
theorem Z286 (h : A) (g : Hd A → B := by intro h; refine Z58 ?_; refine Z1 ?_; exact h.o) : B := g ⟨h⟩
theorem Z287 (h : A) (g : Hd A → B := by intro h; refine Z2 ?_; refine Z0 ?_; exact h.o) : B := g ⟨h⟩
theorem Z288 (h : A) (g : Hd A → B := by intro h; refine Z8 ?_; refine Z231 ?_; exact h.o) : B := g ⟨h⟩
theorem Z289 (h : A) (g : Hd A → B := by intro h; refine Z0 ?_; refine Z95 ?_; exact h.o) : B := g ⟨h⟩
theorem Z290 (h : A) (g : Hd A → B := by intro h; refine Z8 ?_; refine Z196 ?_; exact h.o) : B := g ⟨h⟩
theorem Z291 (h : A) (g : Hd A → B := by intro h; refine Z208 ?_; refine Z223 ?_; exact h.o) : B := g ⟨h⟩
theorem Z292 (h : A) (g : Hd A → B := by intro h; refine Z96 ?_; refine Z4 ?_; exact h.o) : B := g ⟨h⟩
end Go.Proofs.YtklkbfpjimeaoaaGreat
