import Derived.Test.YtklkbfpjimeaoaaGreatM1
import Derived.Test.YtklkbfpjimeaoaaGreatM2
import Derived.Test.YtklkbfpjimeaoaaGreatM3
import Derived.Test.YtklkbfpjimeaoaaGreatM4
import Derived.Test.YtklkbfpjimeaoaaGreatM5
import Derived.Test.YtklkbfpjimeaoaaGreatM6
import Derived.Test.YtklkbfpjimeaoaaGreatM7
import Derived.Test.YtklkbfpjimeaoaaGreatM8
import Derived.Test.YtklkbfpjimeaoaaGreatM9
import Derived.Test.YtklkbfpjimeaoaaGreatM10
import Derived.Test.YtklkbfpjimeaoaaGreatM11
import Derived.Test.YtklkbfpjimeaoaaGreatM12
import Derived.Test.YtklkbfpjimeaoaaGreatProg
import Derived.KernelRfl
/- Contracts of functions. Conditions: none. -/
set_option linter.unusedSimpArgs false
set_option linter.unusedVariables false
set_option maxRecDepth 20000
namespace Go.Proofs.YtklkbfpjimeaoaaGreat
open Go
section
open E
theorem sz3 : (Tryz.prog.info? 3).map (·.size) = some 1 := by kernel_rfl
theorem zr3 : (Tryz.prog.info? 3).map (·.zero) = some (some (.int .i64 0)) := by kernel_rfl
theorem sz4 : (Tryz.prog.info? 4).map (·.size) = some 1 := by kernel_rfl
theorem sz5 : (Tryz.prog.info? 5).map (·.size) = some 1 := by kernel_rfl
theorem inf9 : (Tryz.prog.info? 9).map (fun i => (i.zero, i.size, i.bytes)) = some (some (.string ⟨#[]⟩), 1, 16) := by kernel_rfl
theorem sz9 : (Tryz.prog.info? 9).map (·.size) = some 1 := by kernel_rfl
theorem sz22 : (Tryz.prog.info? 22).map (·.size) = some 1 := by kernel_rfl
theorem sz23 : (Tryz.prog.info? 23).map (·.size) = some 1 := by kernel_rfl
theorem sz25 : (Tryz.prog.info? 25).map (·.size) = some 2 := by kernel_rfl
theorem zr25 : (Tryz.prog.info? 25).map (·.zero) = some (some (.agg #[.slice none 0 0, .slice none 0 0])) := by kernel_rfl
theorem inf27 : (Tryz.prog.info? 27).map (fun i => (i.zero, i.size, i.bytes)) = some (some (.agg #[.int .i64 0, .string ⟨#[]⟩, .int .i64 0, .slice none 0 0]), 4, 56) := by kernel_rfl
theorem sz27 : (Tryz.prog.info? 27).map (·.size) = some 4 := by kernel_rfl
theorem zr27 : (Tryz.prog.info? 27).map (·.zero) = some (some (.agg #[.int .i64 0, .string ⟨#[]⟩, .int .i64 0, .slice none 0 0])) := by kernel_rfl
theorem sz48 : (Tryz.prog.info? 48).map (·.size) = some 1 := by kernel_rfl
theorem sz63 : (Tryz.prog.info? 63).map (·.size) = some 1 := by kernel_rfl
theorem inf66 : (Tryz.prog.info? 66).map (fun i => (i.zero, i.size, i.bytes)) = some (some (.agg #[.string ⟨#[]⟩, .int .i64 0, .string ⟨#[]⟩, .int .i64 0, .slice none 0 0]), 5, 72) := by kernel_rfl
theorem sz66 : (Tryz.prog.info? 66).map (·.size) = some 5 := by kernel_rfl
theorem zr66 : (Tryz.prog.info? 66).map (·.zero) = some (some (.agg #[.string ⟨#[]⟩, .int .i64 0, .string ⟨#[]⟩, .int .i64 0, .slice none 0 0])) := by kernel_rfl
theorem sz79 : (Tryz.prog.info? 79).map (·.size) = some 1 := by kernel_rfl
theorem inf81 : (Tryz.prog.info? 81).map (fun i => (i.zero, i.size, i.bytes)) = some (some (.agg #[.string ⟨#[]⟩, .bool false, .bool false, .slice none 0 0, .int .i64 0, .string ⟨#[]⟩, .int .i64 0, .slice none 0 0, .slice none 0 0, .slice none 0 0]), 10, 152) := by kernel_rfl
theorem sz81 : (Tryz.prog.info? 81).map (·.size) = some 10 := by kernel_rfl
theorem zr81 : (Tryz.prog.info? 81).map (·.zero) = some (some (.agg #[.string ⟨#[]⟩, .bool false, .bool false, .slice none 0 0, .int .i64 0, .string ⟨#[]⟩, .int .i64 0, .slice none 0 0, .slice none 0 0, .slice none 0 0])) := by kernel_rfl
theorem inf102 : (Tryz.prog.info? 102).map (fun i => (i.zero, i.size, i.bytes)) = some (some (.agg #[.string ⟨#[]⟩, .string ⟨#[]⟩, .int .i64 0, .string ⟨#[]⟩, .int .i64 0, .slice none 0 0]), 6, 88) := by kernel_rfl
theorem sz102 : (Tryz.prog.info? 102).map (·.size) = some 6 := by kernel_rfl
theorem zr102 : (Tryz.prog.info? 102).map (·.zero) = some (some (.agg #[.string ⟨#[]⟩, .string ⟨#[]⟩, .int .i64 0, .string ⟨#[]⟩, .int .i64 0, .slice none 0 0])) := by kernel_rfl
theorem sz127 : (Tryz.prog.info? 127).map (·.size) = some 1 := by kernel_rfl
theorem zr127 : (Tryz.prog.info? 127).map (·.zero) = some (some (.map none)) := by kernel_rfl
theorem sz139 : (Tryz.prog.info? 139).map (·.size) = some 1 := by kernel_rfl
theorem zr139 : (Tryz.prog.info? 139).map (·.zero) = some (some (.pointer none)) := by kernel_rfl
theorem sz141 : (Tryz.prog.info? 141).map (·.size) = some 1 := by kernel_rfl
theorem zr141 : (Tryz.prog.info? 141).map (·.zero) = some (some (.pointer none)) := by kernel_rfl
theorem zr168 : (Tryz.prog.info? 168).map (·.zero) = some (some (.agg #[.string ⟨#[]⟩, .pointer none, .pointer none])) := by kernel_rfl
theorem sz189 : (Tryz.prog.info? 189).map (·.size) = some 3 := by kernel_rfl
theorem zr189 : (Tryz.prog.info? 189).map (·.zero) = some (some (.agg #[.slice none 0 0, .bool false, .nilFunc])) := by kernel_rfl
theorem sz199 : (Tryz.prog.info? 199).map (·.size) = some 3 := by kernel_rfl
theorem zr199 : (Tryz.prog.info? 199).map (·.zero) = some (some (.agg #[.int .i64 0, .int .i64 0, .int .i64 0])) := by kernel_rfl
theorem sz231 : (Tryz.prog.info? 231).map (·.size) = some 3 := by kernel_rfl
theorem zr231 : (Tryz.prog.info? 231).map (·.zero) = some (some (.agg #[.string ⟨#[]⟩, .string ⟨#[]⟩, .int .i64 0])) := by kernel_rfl
theorem zr247 : (Tryz.prog.info? 247).map (·.zero) = some (some (.nilFunc)) := by kernel_rfl
theorem sz251 : (Tryz.prog.info? 251).map (·.size) = some 1 := by kernel_rfl
theorem zr251 : (Tryz.prog.info? 251).map (·.zero) = some (some (.nilFunc)) := by kernel_rfl
theorem sz260 : (Tryz.prog.info? 260).map (·.size) = some 3 := by kernel_rfl
theorem zr260 : (Tryz.prog.info? 260).map (·.zero) = some (some (.agg #[.int .i64 0, .int .i64 0, .int .i64 0])) := by kernel_rfl
theorem sz283 : (Tryz.prog.info? 283).map (·.size) = some 1 := by kernel_rfl
theorem zr283 : (Tryz.prog.info? 283).map (·.zero) = some (some (.nilFunc)) := by kernel_rfl
theorem pl25 : E.structPl Tryz.prog 25 = some [(0, 1), (1, 1)] := by kernel_rfl
theorem pl27 : E.structPl Tryz.prog 27 = some [(0, 1), (1, 1), (2, 1), (3, 1)] := by kernel_rfl
theorem pl66 : E.structPl Tryz.prog 66 = some [(0, 1), (1, 4)] := by kernel_rfl
theorem pl81 : E.structPl Tryz.prog 81 = some [(0, 1), (1, 1), (2, 1), (3, 1), (4, 4), (8, 1), (9, 1)] := by kernel_rfl
theorem pl102 : E.structPl Tryz.prog 102 = some [(0, 1), (1, 1), (2, 4)] := by kernel_rfl
theorem pl168 : E.structPl Tryz.prog 168 = some [(0, 1), (1, 1), (2, 1)] := by kernel_rfl
theorem pl189 : E.structPl Tryz.prog 189 = some [(0, 1), (1, 1), (2, 1)] := by kernel_rfl
theorem pl199 : E.structPl Tryz.prog 199 = some [(0, 1), (1, 1), (2, 1)] := by kernel_rfl
theorem pl231 : E.structPl Tryz.prog 231 = some [(0, 1), (1, 1), (2, 1)] := by kernel_rfl
theorem pl260 : E.structPl Tryz.prog 260 = some [(0, 1), (1, 1), (2, 1)] := by kernel_rfl
theorem u3 : Tryz.prog.underlying 3 = some (TypeDesc.int IntKind.i64) := Tryz.underlying3
theorem u4 : Tryz.prog.underlying 4 = some TypeDesc.bool := Tryz.underlying4
theorem u5 : Tryz.prog.underlying 5 = some (TypeDesc.int IntKind.u8) := Tryz.underlying5
theorem u9 : Tryz.prog.underlying 9 = some TypeDesc.string := Tryz.underlying9
theorem u22 : Tryz.prog.underlying 22 = some (TypeDesc.slice 27) := Tryz.underlying22
theorem u23 : Tryz.prog.underlying 23 = some (TypeDesc.slice 81) := Tryz.underlying23
theorem u25 : Tryz.prog.underlying 25 = some (TypeDesc.struct #[{ name := "Globals", type := 22, offset := 0, embedded := false, tag := "", pkgPath := "", byteOffset := 0 }, { name := "Procs", type := 23, offset := 1, embedded := false, tag := "", pkgPath := "", byteOffset := 24 }]) := Tryz.underlying25
theorem u27 : Tryz.prog.underlying 27 = some (TypeDesc.struct #[{ name := "Op", type := 3, offset := 0, embedded := false, tag := "", pkgPath := "", byteOffset := 0 }, { name := "Name", type := 9, offset := 1, embedded := false, tag := "", pkgPath := "", byteOffset := 8 }, { name := "Num", type := 3, offset := 2, embedded := false, tag := "", pkgPath := "", byteOffset := 24 }, { name := "Kids", type := 22, offset := 3, embedded := false, tag := "", pkgPath := "", byteOffset := 32 }]) := Tryz.underlying27
theorem u48 : Tryz.prog.underlying 48 = some (TypeDesc.func #[27] #[4] false) := Tryz.underlying48
theorem u51 : Tryz.prog.underlying 51 = some (TypeDesc.slice 66) := Tryz.underlying51
theorem u63 : Tryz.prog.underlying 63 = some (TypeDesc.slice 9) := Tryz.underlying63
theorem u66 : Tryz.prog.underlying 66 = some (TypeDesc.struct #[{ name := "Name", type := 9, offset := 0, embedded := false, tag := "", pkgPath := "", byteOffset := 0 }, { name := "Value", type := 27, offset := 1, embedded := false, tag := "", pkgPath := "", byteOffset := 16 }]) := Tryz.underlying66
theorem u79 : Tryz.prog.underlying 79 = some (TypeDesc.slice 102) := Tryz.underlying79
theorem u81 : Tryz.prog.underlying 81 = some (TypeDesc.struct #[{ name := "Name", type := 9, offset := 0, embedded := false, tag := "", pkgPath := "", byteOffset := 0 }, { name := "Iter", type := 4, offset := 1, embedded := false, tag := "", pkgPath := "", byteOffset := 16 }, { name := "Private", type := 4, offset := 2, embedded := false, tag := "", pkgPath := "", byteOffset := 17 }, { name := "Formals", type := 79, offset := 3, embedded := false, tag := "", pkgPath := "", byteOffset := 24 }, { name := "Result", type := 27, offset := 4, embedded := false, tag := "", pkgPath := "", byteOffset := 48 }, { name := "Where", type := 22, offset := 8, embedded := false, tag := "", pkgPath := "", byteOffset := 104 }, { name := "Body", type := 22, offset := 9, embedded := false, tag := "", pkgPath := "", byteOffset := 128 }]) := Tryz.underlying81
theorem u102 : Tryz.prog.underlying 102 = some (TypeDesc.struct #[{ name := "Intent", type := 9, offset := 0, embedded := false, tag := "", pkgPath := "", byteOffset := 0 }, { name := "Name", type := 9, offset := 1, embedded := false, tag := "", pkgPath := "", byteOffset := 16 }, { name := "Type", type := 27, offset := 2, embedded := false, tag := "", pkgPath := "", byteOffset := 32 }]) := Tryz.underlying102
theorem u109 : Tryz.prog.underlying 109 = some (TypeDesc.func #[3] #[4] false) := Tryz.underlying109
theorem u127 : Tryz.prog.underlying 127 = some (TypeDesc.map 3 189) := Tryz.underlying127
theorem u139 : Tryz.prog.underlying 139 = some (TypeDesc.pointer 27) := Tryz.underlying139
theorem u141 : Tryz.prog.underlying 141 = some (TypeDesc.pointer 168) := Tryz.underlying141
theorem u168 : Tryz.prog.underlying 168 = some (TypeDesc.struct #[{ name := "name", type := 9, offset := 0, embedded := false, tag := "", pkgPath := "raddle/param", byteOffset := 0 }, { name := "value", type := 139, offset := 1, embedded := false, tag := "", pkgPath := "raddle/param", byteOffset := 16 }, { name := "ahead", type := 141, offset := 2, embedded := false, tag := "", pkgPath := "raddle/param", byteOffset := 24 }]) := Tryz.underlying168
theorem u189 : Tryz.prog.underlying 189 = some (TypeDesc.struct #[{ name := "names", type := 63, offset := 0, embedded := false, tag := "", pkgPath := "raddle/check", byteOffset := 0 }, { name := "num", type := 4, offset := 1, embedded := false, tag := "", pkgPath := "raddle/check", byteOffset := 24 }, { name := "rule", type := 48, offset := 2, embedded := false, tag := "", pkgPath := "raddle/check", byteOffset := 32 }]) := Tryz.underlying189
theorem u199 : Tryz.prog.underlying 199 = some (TypeDesc.struct #[{ name := "Low", type := 3, offset := 0, embedded := false, tag := "", pkgPath := "", byteOffset := 0 }, { name := "High", type := 3, offset := 1, embedded := false, tag := "", pkgPath := "", byteOffset := 8 }, { name := "Stride", type := 3, offset := 2, embedded := false, tag := "", pkgPath := "", byteOffset := 16 }]) := Tryz.underlying199
theorem u231 : Tryz.prog.underlying 231 = some (TypeDesc.struct #[{ name := "of", type := 9, offset := 0, embedded := false, tag := "", pkgPath := "raddle/check", byteOffset := 0 }, { name := "gives", type := 9, offset := 1, embedded := false, tag := "", pkgPath := "raddle/check", byteOffset := 16 }, { name := "takes", type := 3, offset := 2, embedded := false, tag := "", pkgPath := "raddle/check", byteOffset := 32 }]) := Tryz.underlying231
theorem u232 : Tryz.prog.underlying 232 = some (TypeDesc.map 9 231) := Tryz.underlying232
theorem u243 : Tryz.prog.underlying 243 = some (TypeDesc.slice 5) := Tryz.underlying243
theorem u249 : Tryz.prog.underlying 249 = some (TypeDesc.map 9 247) := Tryz.underlying249
theorem u251 : Tryz.prog.underlying 251 = some (TypeDesc.func #[3, 3] #[4] false) := Tryz.underlying251
theorem u253 : Tryz.prog.underlying 253 = some (TypeDesc.map 9 251) := Tryz.underlying253
theorem u260 : Tryz.prog.underlying 260 = some (TypeDesc.struct #[{ name := "first", type := 3, offset := 0, embedded := false, tag := "", pkgPath := "raddle/span", byteOffset := 0 }, { name := "by", type := 3, offset := 1, embedded := false, tag := "", pkgPath := "raddle/span", byteOffset := 8 }, { name := "count", type := 3, offset := 2, embedded := false, tag := "", pkgPath := "raddle/span", byteOffset := 16 }]) := Tryz.underlying260
theorem u283 : Tryz.prog.underlying 283 = some (TypeDesc.func #[3, 4] #[139] false) := Tryz.underlying283
theorem u286 : Tryz.prog.underlying 286 = some (TypeDesc.int IntKind.u64) := Tryz.underlying286
end
section
open E
structure Hd (A : Prop) : Prop where
 o : A
variable {A B : Prop}
theorem Z0 (h : A) (g : Hd A → B := by intro zz; refine vq rfl qM ?_; exact zz.o) : B := g ⟨h⟩
theorem Z1 (h : A) (g : Hd A → B := by intro zz; refine vq rfl qA ?_; exact zz.o) : B := g ⟨h⟩
theorem Z2 (h : A) (g : Hd A → B := by intro zz; refine sgx rfl ?_ ?_; (focus first | exact hsp | (rw [hsp]; rfl) | simp [hsp] | simp_all); exact zz.o) : B := g ⟨h⟩
theorem Z3 (h : A) (g : Hd A → B := by intro zz; refine gS (gR ?_); exact zz.o) : B := g ⟨h⟩
theorem Z4 (h : A) (g : Hd A → B := by intro zz; refine fin1 (by simp) ?_; exact zz.o) : B := g ⟨h⟩
theorem Z5 (h : A) (g : Hd A → B := by intro zz; refine gN (tN (gS (gR ?_))); exact zz.o) : B := g ⟨h⟩
theorem Z6 (h : A) (g : Hd A → B := by intro zz; refine sgx rfl ?_ ?_; (focus first | exact hno | (rw [hno]; rfl) | simp [hno] | simp_all); exact zz.o) : B := g ⟨h⟩
theorem Z7 (h : A) (g : Hd A → B := by intro zz; refine gN (tN (gT ?_)); exact zz.o) : B := g ⟨h⟩
theorem Z8 (h : A) (g : Hd A → B := by intro zz; refine vq rfl (qG (by exact sz27) u27 rfl) ?_; exact zz.o) : B := g ⟨h⟩
theorem Z9 (h : A) (g : Hd A → B := by intro zz; refine gF 0 [] (.agg [.int .i64 op, .str name, .int .i64 num, .sl (ks.map Tr.d)]) rfl ?_; exact zz.o) : B := g ⟨h⟩
theorem Z10 (h : A) (g : Hd A → B := by intro zz; refine gN (tN ?_); exact zz.o) : B := g ⟨h⟩
theorem Z11 (h : A) (g : Hd A → B := by intro zz; refine gN (tN (gS (gS (gR ?_)))); exact zz.o) : B := g ⟨h⟩
theorem Z12 (h : A) (g : Hd A → B := by intro zz; refine vq rfl q_and ?_; exact zz.o) : B := g ⟨h⟩
theorem Z13 (h : A) (g : Hd A → B := by intro zz; refine sv rfl y_box ?_; exact zz.o) : B := g ⟨h⟩
theorem Z14 (h : A) (g : Hd A → B := by intro zz; refine gR ?_; exact zz.o) : B := g ⟨h⟩
theorem Z15 (h : A) (g : Hd A → B := by intro zz; refine cP [] ?_; exact zz.o) : B := g ⟨h⟩
theorem Z16 (h : A) (g : Hd A → B := by intro zz; refine gF 0 [] (.agg [.str q.nm, .bool q.iter, .bool q.priv, .sl (q.formals.map Fm.d), .int .i64 q.result.op, .str q.result.nm, .int .i64 q.result.nu, .sl (q.result.kids.map Tr.d), .sl (q.wh.map Tr.d), .sl (q.body.map Tr.d)]) rfl ?_; exact zz.o) : B := g ⟨h⟩
theorem Z17 (h : A) (g : Hd A → B := by intro zz; refine vq rfl (qL u3) ?_; exact zz.o) : B := g ⟨h⟩
theorem Z18 (h : A) (g : Hd A → B := by intro zz; refine vq rfl (qF u27 rfl sz3) ?_; exact zz.o) : B := g ⟨h⟩
theorem Z19 (h : A) (g : Hd A → B := by intro zz; refine sg rfl (fun hg => qM) ?_; exact zz.o) : B := g ⟨h⟩
theorem Z20 (h : A) (g : Hd A → B := by intro zz; refine vq rfl q_eql ?_; exact zz.o) : B := g ⟨h⟩
theorem Z21 (h : A) (g : Hd A → B := by intro zz; refine sa rfl (dS sz27) ?_; exact zz.o) : B := g ⟨h⟩
theorem Z22 (h : A) (g : Hd A → B := by intro zz; refine vq rfl q_or ?_; exact zz.o) : B := g ⟨h⟩
theorem Z23 (h : A) (g : Hd A → B := by intro zz; refine gN (tN (gT (tR ?_))); exact zz.o) : B := g ⟨h⟩
theorem Z24 (h : A) (g : Hd A → B := by intro zz; refine sg rfl (fun hg => qF u27 rfl sz3) ?_; exact zz.o) : B := g ⟨h⟩
theorem Z25 (h : A) (g : Hd A → B := by intro zz; refine gK (tN (gS (G_block (gS (gR ?_))))); exact zz.o) : B := g ⟨h⟩
theorem Z26 (h : A) (g : Hd A → B := by intro zz; refine vq rfl q_add ?_; exact zz.o) : B := g ⟨h⟩
theorem Z27 (h : A) (g : Hd A → B := by intro zz; refine gN (tN (gT (bR (tR ?_)))); exact zz.o) : B := g ⟨h⟩
theorem Z28 (h : A) (g : Hd A → B := by intro zz; refine sa rfl (d_insert u127 u3) ?_; exact zz.o) : B := g ⟨h⟩
theorem Z29 (h : A) (g : Hd A → B := by intro zz; refine sv rfl (y_alloc zr27) ?_; exact zz.o) : B := g ⟨h⟩
theorem Z30 (h : A) (g : Hd A → B := by intro zz; refine gN (tN (gS ?_)); exact zz.o) : B := g ⟨h⟩
theorem Z31 (h : A) (g : Hd A → B := by intro zz; refine vq rfl ((q_buildP pl189 zr189)) ?_; exact zz.o) : B := g ⟨h⟩
theorem Z32 (h : A) (g : Hd A → B := by intro zz; refine sg rfl (fun hg => q_fieldAgg [.int .i64 f.ty.op, .str f.ty.nm, .int .i64 f.ty.nu, .sl (f.ty.kids.map Tr.d)] u102 rfl sz27) ?_; exact zz.o) : B := g ⟨h⟩
theorem Z33 (h : A) (g : Hd A → B := by intro zz; refine vq rfl (qL u22) ?_; exact zz.o) : B := g ⟨h⟩
theorem Z34 (h : A) (g : Hd A → B := by intro zz; refine g_keepo [8, 1, 2, 3] ?_; exact zz.o) : B := g ⟨h⟩
theorem Z35 (h : A) (g : Hd A → B := by intro zz; refine vq rfl (qF u27 rfl sz22) ?_; exact zz.o) : B := g ⟨h⟩
theorem Z36 (h : A) (g : Hd A → B := by intro zz; refine blk_exit (tN (gS (gR ?_))); exact zz.o) : B := g ⟨h⟩
theorem Z37 (h : A) (g : Hd A → B := by intro zz; refine gP [0, 1, 2, 4, 5, 6, 7, 8, 9, 10, 11, 12, 13] ?_; exact zz.o) : B := g ⟨h⟩
theorem Z38 (h : A) (g : Hd A → B := by intro zz; refine gN (tN (G_block ?_)); exact zz.o) : B := g ⟨h⟩
theorem Z39 (h : A) (g : Hd A → B := by intro zz; refine G_exit (thn_exit ?_); exact zz.o) : B := g ⟨h⟩
theorem Z40 (h : A) (g : Hd A → B := by intro zz; refine vq rfl q_lss ?_; exact zz.o) : B := g ⟨h⟩
theorem Z41 (h : A) (g : Hd A → B := by intro zz; refine vq rfl q_not ?_; exact zz.o) : B := g ⟨h⟩
theorem Z42 (h : A) (g : Hd A → B := by intro zz; refine vq rfl qE ?_; exact zz.o) : B := g ⟨h⟩
theorem Z43 (h : A) (g : Hd A → B := by intro zz; refine gK (tN (gS (gR ?_))); exact zz.o) : B := g ⟨h⟩
theorem Z44 (h : A) (g : Hd A → B := by intro zz; refine sg rfl (fun hg => qF u27 rfl sz22) ?_; exact zz.o) : B := g ⟨h⟩
theorem Z45 (h : A) (g : Hd A → B := by intro zz; refine vq rfl (q_fieldAgg [.int .i64 f.ty.op, .str f.ty.nm, .int .i64 f.ty.nu, .sl (f.ty.kids.map Tr.d)] u102 rfl sz27) ?_; exact zz.o) : B := g ⟨h⟩
theorem Z46 (h : A) (g : Hd A → B := by intro zz; refine cS 5 (fun _ _ _ _ _ => vq rfl qM (gN ⟨rfl, rfl⟩)) ?_; exact zz.o) : B := g ⟨h⟩
theorem Z47 (h : A) (g : Hd A → B := by intro zz; refine vq rfl (q_len u22) ?_; exact zz.o) : B := g ⟨h⟩
theorem Z48 (h : A) (g : Hd A → B := by intro zz; refine vq rfl (qI u22 sz27) ?_; exact zz.o) : B := g ⟨h⟩
theorem Z49 (h : A) (g : Hd A → B := by intro zz; refine vq rfl (qL u9) ?_; exact zz.o) : B := g ⟨h⟩
theorem Z50 (h : A) (g : Hd A → B := by intro zz; refine sg rfl (fun hg => qF u27 rfl sz9) ?_; exact zz.o) : B := g ⟨h⟩
theorem Z51 (h : A) (g : Hd A → B := by intro zz; refine gF 0 [] (.agg [.str f.intent, .str f.nm, .int .i64 f.ty.op, .str f.ty.nm, .int .i64 f.ty.nu, .sl (f.ty.kids.map Tr.d)]) rfl ?_; exact zz.o) : B := g ⟨h⟩
theorem Z52 (h : A) (g : Hd A → B := by intro zz; refine gN ?_; exact zz.o) : B := g ⟨h⟩
theorem Z53 (h : A) (g : Hd A → B := by intro zz; refine gS ?_; exact zz.o) : B := g ⟨h⟩
theorem Z54 (h : A) (g : Hd A → B := by intro zz; refine sv rfl (y_load_leaf u3) ?_; exact zz.o) : B := g ⟨h⟩
theorem Z55 (h : A) (g : Hd A → B := by intro zz; refine sa rfl (dS sz199) ?_; exact zz.o) : B := g ⟨h⟩
theorem Z56 (h : A) (g : Hd A → B := by intro zz; refine fincd sz199 u199 (by simp) ?_; exact zz.o) : B := g ⟨h⟩
theorem Z57 (h : A) (g : Hd A → B := by intro zz; refine vq rfl q_neq ?_; exact zz.o) : B := g ⟨h⟩
theorem Z58 (h : A) (g : Hd A → B := by intro zz; refine gK (tN (gS ?_)); exact zz.o) : B := g ⟨h⟩
theorem Z59 (h : A) (g : Hd A → B := by intro zz; refine cS 12 (fun _ _ _ _ _ => vq rfl qA (gN ⟨rfl, rfl⟩)) ?_; exact zz.o) : B := g ⟨h⟩
theorem Z60 (h : A) (g : Hd A → B := by intro zz; refine sv rfl (y_load_agg sz27 u27 rfl) ?_; exact zz.o) : B := g ⟨h⟩
theorem Z61 (h : A) (g : Hd A → B := by intro zz; refine cS 1 (fun _ _ _ _ _ => vq rfl qM (gN ⟨rfl, rfl⟩)) ?_; exact zz.o) : B := g ⟨h⟩
theorem Z62 (h : A) (g : Hd A → B := by intro zz; refine gF 0 [] (.agg [.sl (p.globals.map Tr.d), .sl (p.procs.map Pc.d)]) rfl ?_; exact zz.o) : B := g ⟨h⟩
theorem Z63 (h : A) (g : Hd A → B := by intro zz; refine gF 0 [] (.agg [.int .i64 kop, .str knm, .int .i64 knu, .sl (kks.map Tr.d)]) rfl ?_; exact zz.o) : B := g ⟨h⟩
theorem Z64 (h : A) (g : Hd A → B := by intro zz; refine vq rfl (q_buildS pl27 zr27) ?_; exact zz.o) : B := g ⟨h⟩
theorem Z65 (h : A) (g : Hd A → B := by intro zz; refine vq rfl (q_buildS pl231 zr231) ?_; exact zz.o) : B := g ⟨h⟩
theorem Z66 (h : A) (g : Hd A → B := by intro zz; refine vq rfl (qF u27 rfl sz9) ?_; exact zz.o) : B := g ⟨h⟩
theorem Z67 (h : A) (g : Hd A → B := by intro zz; refine he0 _ _ ?_; exact zz.o) : B := g ⟨h⟩
theorem Z68 (h : A) (g : Hd A → B := by intro zz; refine gP [0, 1, 2, 4, 5, 6, 7] ?_; exact zz.o) : B := g ⟨h⟩
theorem Z69 (h : A) (g : Hd A → B := by intro zz; refine sa rfl (d_insert u232 u9) ?_; exact zz.o) : B := g ⟨h⟩
theorem Z70 (h : A) (g : Hd A → B := by intro zz; refine sg rfl (fun hg => qG (by exact sz27) u27 rfl) ?_; exact zz.o) : B := g ⟨h⟩
theorem Z71 (h : A) (g : Hd A → B := by intro zz; refine cS 3 (fun _ _ _ _ _ => vq rfl qM (gN ⟨rfl, rfl⟩)) ?_; exact zz.o) : B := g ⟨h⟩
theorem Z72 (h : A) (g : Hd A → B := by intro zz; refine cS 2 (fun _ _ _ _ _ => vq rfl (qF u27 rfl sz9) (gN ⟨rfl, rfl⟩)) ?_; exact zz.o) : B := g ⟨h⟩
theorem Z73 (h : A) (g : Hd A → B := by intro zz; refine vq rfl (q_buildS pl199 zr199) ?_; exact zz.o) : B := g ⟨h⟩
theorem Z74 (h : A) (g : Hd A → B := by intro zz; refine sgx rfl ?_ ?_; (focus first | exact (by simp) | (rw [(by simp)]; rfl) | simp [(by simp)] | simp_all); exact zz.o) : B := g ⟨h⟩
theorem Z75 (h : A) (g : Hd A → B := by intro zz; refine gP [0, 1, 2, 4, 5, 6, 7, 8, 9, 10, 11, 12, 13, 14, 16, 55] ?_; exact zz.o) : B := g ⟨h⟩
theorem Z76 (h : A) (g : Hd A → B := by intro zz; refine gP [0, 1, 2, 4, 5, 6, 7, 8] ?_; exact zz.o) : B := g ⟨h⟩
theorem Z77 (h : A) (g : Hd A → B := by intro zz; refine cP [4] ?_; exact zz.o) : B := g ⟨h⟩
theorem Z78 (h : A) (g : Hd A → B := by intro zz; refine sv rfl (y_buildSlice (xs := [.const (.string ⟨#[101]⟩)]) u63 inf9) ?_; exact zz.o) : B := g ⟨h⟩
theorem Z79 (h : A) (g : Hd A → B := by intro zz; refine cS 6 (fun _ _ _ _ _ => vq rfl (qL u3) (gN ⟨rfl, rfl⟩)) ?_; exact zz.o) : B := g ⟨h⟩
theorem Z80 (h : A) (g : Hd A → B := by intro zz; refine cS 3 (fun _ _ _ _ _ => vq rfl (qL u9) (gN ⟨rfl, rfl⟩)) ?_; exact zz.o) : B := g ⟨h⟩
theorem Z81 (h : A) (g : Hd A → B := by intro zz; refine gL (xs := [.tmp 16, .tmp 19]) rfl ((hka ▸ c21n k.size k (Nat.le_refl _) (h5 k hmem) (most - c) (by omega) (by omega))) ?_; exact zz.o) : B := g ⟨h⟩
theorem Z82 (h : A) (g : Hd A → B := by intro zz; refine sv rfl (y_fieldAt 3 u27 rfl sz22) ?_; exact zz.o) : B := g ⟨h⟩
theorem Z83 (h : A) (g : Hd A → B := by intro zz; refine sv rfl (y_append u22 inf27 (hk := by first | exact Tr.ds_cells _ | (intro x hx; simp at hx; subst hx; simp [D.cells])) (hlen := by simp [lim]; omega) (hB := by simp [lim]; omega)) ?_; exact zz.o) : B := g ⟨h⟩
theorem Z84 (h : A) (g : Hd A → B := by intro zz; refine cg_done ?_; exact zz.o) : B := g ⟨h⟩
theorem Z85 (h : A) (g : Hd A → B := by intro zz; refine vq rfl (qF u199 rfl sz3) ?_; exact zz.o) : B := g ⟨h⟩
theorem Z86 (h : A) (g : Hd A → B := by intro zz; refine cS 10 (fun _ _ _ _ _ => gL (xs := [.tmp 110, .tmp 114]) rfl (cmpTab_ok hct anu bnu) (gN ⟨rfl, rfl⟩)) ?_; exact zz.o) : B := g ⟨h⟩
theorem Z87 (h : A) (g : Hd A → B := by intro zz; refine cS 6 (fun _ _ _ _ _ => vq rfl qE (gN ⟨rfl, rfl⟩)) ?_; exact zz.o) : B := g ⟨h⟩
theorem Z88 (h : A) (g : Hd A → B := by intro zz; refine cS 7 (fun _ _ _ _ _ => vq rfl qE (gN ⟨rfl, rfl⟩)) ?_; exact zz.o) : B := g ⟨h⟩
theorem Z89 (h : A) (g : Hd A → B := by intro zz; refine cS 8 (fun _ _ _ _ _ => vq rfl qA (gN ⟨rfl, rfl⟩)) ?_; exact zz.o) : B := g ⟨h⟩
theorem Z90 (h : A) (g : Hd A → B := by intro zz; refine cS 9 (fun _ _ _ _ _ => vq rfl qA (gN ⟨rfl, rfl⟩)) ?_; exact zz.o) : B := g ⟨h⟩
theorem Z91 (h : A) (g : Hd A → B := by intro zz; refine gK (bN (tN (gS (gR ?_)))); exact zz.o) : B := g ⟨h⟩
theorem Z92 (h : A) (g : Hd A → B := by intro zz; refine cS 4 (fun _ _ _ _ _ => vq rfl (qF u27 rfl sz3) (gN ⟨rfl, rfl⟩)) ?_; exact zz.o) : B := g ⟨h⟩
theorem Z93 (h : A) (g : Hd A → B := by intro zz; refine cS 8 (fun _ _ _ _ _ => vq rfl (qF u27 rfl sz3) (gN ⟨rfl, rfl⟩)) ?_; exact zz.o) : B := g ⟨h⟩
theorem Z94 (h : A) (g : Hd A → B := by intro zz; refine fincd sz27 u27 (by simp) ?_; exact zz.o) : B := g ⟨h⟩
theorem Z95 (h : A) (g : Hd A → B := by intro zz; refine sgo rfl hsp y_move ?_; exact zz.o) : B := g ⟨h⟩
theorem Z96 (h : A) (g : Hd A → B := by intro zz; refine vq rfl q_streq ?_; exact zz.o) : B := g ⟨h⟩
theorem Z97 (h : A) (g : Hd A → B := by intro zz; refine cP [2] ?_; exact zz.o) : B := g ⟨h⟩
theorem Z98 (h : A) (g : Hd A → B := by intro zz; refine cS 4 (fun _ _ _ _ _ => vq rfl ((q_lookup2 (zd := .nilF) u253 u9 zr251)) (gN ⟨rfl, rfl⟩)) ?_; exact zz.o) : B := g ⟨h⟩
theorem Z99 (h : A) (g : Hd A → B := by intro zz; refine vq rfl q_geq ?_; exact zz.o) : B := g ⟨h⟩
theorem Z100 (h : A) (g : Hd A → B := by intro zz; refine gK (bN (tN (gR ?_))); exact zz.o) : B := g ⟨h⟩
theorem Z101 (h : A) (g : Hd A → B := by intro zz; refine cS 3 (fun _ _ _ _ _ => vq rfl q_nilCheck (gN ⟨rfl, rfl⟩)) ?_; exact zz.o) : B := g ⟨h⟩
theorem Z102 (h : A) (g : Hd A → B := by intro zz; refine cS 7 (fun _ _ _ _ _ => vq rfl q_nilCheck (gN ⟨rfl, rfl⟩)) ?_; exact zz.o) : B := g ⟨h⟩
theorem Z103 (h : A) (g : Hd A → B := by intro zz; refine gK (tN (gS (gS (gR ?_)))); exact zz.o) : B := g ⟨h⟩
theorem Z104 (h : A) (g : Hd A → B := by intro zz; refine cS 2 (fun _ _ _ _ _ => vq rfl (qL u139) (gN ⟨rfl, rfl⟩)) ?_; exact zz.o) : B := g ⟨h⟩
theorem Z105 (h : A) (g : Hd A → B := by intro zz; refine cS 6 (fun _ _ _ _ _ => vq rfl (qL u139) (gN ⟨rfl, rfl⟩)) ?_; exact zz.o) : B := g ⟨h⟩
theorem Z106 (h : A) (g : Hd A → B := by intro zz; refine sv rfl (y_load_leaf u141) ?_; exact zz.o) : B := g ⟨h⟩
theorem Z107 (h : A) (g : Hd A → B := by intro zz; refine cS 5 (fun _ _ _ _ _ => vq rfl (qL u3) (gN ⟨rfl, rfl⟩)) ?_; exact zz.o) : B := g ⟨h⟩
theorem Z108 (h : A) (g : Hd A → B := by intro zz; refine cS 9 (fun _ _ _ _ _ => vq rfl (qL u3) (gN ⟨rfl, rfl⟩)) ?_; exact zz.o) : B := g ⟨h⟩
theorem Z109 (h : A) (g : Hd A → B := by intro zz; refine vq rfl q_gtr ?_; exact zz.o) : B := g ⟨h⟩
theorem Z110 (h : A) (g : Hd A → B := by intro zz; refine cP [1] ?_; exact zz.o) : B := g ⟨h⟩
theorem Z111 (h : A) (g : Hd A → B := by intro zz; refine cP [3] ?_; exact zz.o) : B := g ⟨h⟩
theorem Z112 (h : A) (g : Hd A → B := by intro zz; refine find2 (by simp) ?_; exact zz.o) : B := g ⟨h⟩
theorem Z113 (h : A) (g : Hd A → B := by intro zz; refine cS 11 (fun _ _ _ _ _ => gL (xs := [.tmp 115]) rfl (c242 _) (gN ⟨rfl, rfl⟩)) ?_; exact zz.o) : B := g ⟨h⟩
theorem Z114 (h : A) (g : Hd A → B := by intro zz; refine cS 1 (fun _ _ _ _ _ => vq rfl (qG (by exact sz27) u27 rfl) (gN ⟨rfl, rfl⟩)) ?_; exact zz.o) : B := g ⟨h⟩
theorem Z115 (h : A) (g : Hd A → B := by intro zz; refine sg rfl (fun hg => q_fieldAgg [.int .i64 q.result.op, .str q.result.nm, .int .i64 q.result.nu, .sl (q.result.kids.map Tr.d)] u81 rfl sz27) ?_; exact zz.o) : B := g ⟨h⟩
theorem Z116 (h : A) (g : Hd A → B := by intro zz; refine cS 2 (fun _ _ _ _ _ => vq rfl qM (gN ⟨rfl, rfl⟩)) ?_; exact zz.o) : B := g ⟨h⟩
theorem Z117 (h : A) (g : Hd A → B := by intro zz; refine cS 7 (fun _ _ _ _ _ => vq rfl qM (gN ⟨rfl, rfl⟩)) ?_; exact zz.o) : B := g ⟨h⟩
theorem Z118 (h : A) (g : Hd A → B := by intro zz; refine sv rfl (y_append u22 inf27 (hk := by intro x hx; simp at hx; subst hx; rfl) (hlen := by simp [lim]; omega) (hB := by simp [lim]; omega)) ?_; exact zz.o) : B := g ⟨h⟩
theorem Z119 (h : A) (g : Hd A → B := by intro zz; refine cP [6] ?_; exact zz.o) : B := g ⟨h⟩
theorem Z120 (h : A) (g : Hd A → B := by intro zz; refine gF 0 [] (.agg [.int .i64 lo, .int .i64 hi, .int .i64 st]) rfl ?_; exact zz.o) : B := g ⟨h⟩
theorem Z121 (h : A) (g : Hd A → B := by intro zz; refine vq rfl (qG (by exact sz199) u199 rfl) ?_; exact zz.o) : B := g ⟨h⟩
theorem Z122 (h : A) (g : Hd A → B := by intro zz; refine vq rfl (qG (by exact sz102) u102 rfl) ?_; exact zz.o) : B := g ⟨h⟩
theorem Z123 (h : A) (g : Hd A → B := by intro zz; refine cP [10, 10, 0, 1, 2, 3, 4, 5, 6, 7, 8, 9, 10] ?_; exact zz.o) : B := g ⟨h⟩
theorem Z124 (h : A) (g : Hd A → B := by intro zz; refine vq rfl (q_buildS pl168 zr168) ?_; exact zz.o) : B := g ⟨h⟩
theorem Z125 (h : A) (g : Hd A → B := by intro zz; refine sv rfl y_assign_take ?_; exact zz.o) : B := g ⟨h⟩
theorem Z126 (h : A) (g : Hd A → B := by intro zz; refine vq rfl (qG (by exact sz81) u81 rfl) ?_; exact zz.o) : B := g ⟨h⟩
theorem Z127 (h : A) (g : Hd A → B := by intro zz; refine sv rfl (y_load_agg sz199 u199 rfl) ?_; exact zz.o) : B := g ⟨h⟩
theorem Z128 (h : A) (g : Hd A → B := by intro zz; refine cS 1 (fun _ _ _ _ _ => gL (xs := []) rfl (c245) (gN ⟨rfl, rfl⟩)) ?_; exact zz.o) : B := g ⟨h⟩
theorem Z129 (h : A) (g : Hd A → B := by intro zz; refine sg rfl (fun hg => qF u81 rfl sz22) ?_; exact zz.o) : B := g ⟨h⟩
theorem Z130 (h : A) (g : Hd A → B := by intro zz; refine cS 5 (fun _ _ _ _ _ => vq rfl (qF u27 rfl sz3) (gN ⟨rfl, rfl⟩)) ?_; exact zz.o) : B := g ⟨h⟩
theorem Z131 (h : A) (g : Hd A → B := by intro zz; refine gP [0, 1, 2, 3, 4, 5, 6, 8] ?_; exact zz.o) : B := g ⟨h⟩
theorem Z132 (h : A) (g : Hd A → B := by intro zz; refine gN (tN (gT (tR (bR (tR ?_))))); exact zz.o) : B := g ⟨h⟩
theorem Z133 (h : A) (g : Hd A → B := by intro zz; refine sv rfl (y_alloc zr199) ?_; exact zz.o) : B := g ⟨h⟩
theorem Z134 (h : A) (g : Hd A → B := by intro zz; refine sg rfl (fun hg => sP 44 rfl hg (qL u9)) ?_; exact zz.o) : B := g ⟨h⟩
theorem Z135 (h : A) (g : Hd A → B := by intro zz; refine sg rfl (fun hg => sP 45 rfl hg q_strne) ?_; exact zz.o) : B := g ⟨h⟩
theorem Z136 (h : A) (g : Hd A → B := by intro zz; refine gN (tN (gS (gS ?_))); exact zz.o) : B := g ⟨h⟩
theorem Z137 (h : A) (g : Hd A → B := by intro zz; refine gN (bN (tN (gR ?_))); exact zz.o) : B := g ⟨h⟩
theorem Z138 (h : A) (g : Hd A → B := by intro zz; refine cS 4 (fun _ _ _ _ _ => vq rfl q_nilCheck (gN ⟨rfl, rfl⟩)) ?_; exact zz.o) : B := g ⟨h⟩
theorem Z139 (h : A) (g : Hd A → B := by intro zz; refine bR (tR ?_); exact zz.o) : B := g ⟨h⟩
theorem Z140 (h : A) (g : Hd A → B := by intro zz; refine findc sz27 u27 (by simp) ?_; exact zz.o) : B := g ⟨h⟩
theorem Z141 (h : A) (g : Hd A → B := by intro zz; refine vq rfl ((q_ptreql u139)) ?_; exact zz.o) : B := g ⟨h⟩
theorem Z142 (h : A) (g : Hd A → B := by intro zz; refine sgo rfl hsp (y_loadp_agg (by exact sz25) u25 rfl) ?_; exact zz.o) : B := g ⟨h⟩
theorem Z143 (h : A) (g : Hd A → B := by intro zz; refine vq rfl (q_bits (show _ = pure (Value.int .i64 (andI _ _)) from rfl)) ?_; exact zz.o) : B := g ⟨h⟩
theorem Z144 (h : A) (g : Hd A → B := by intro zz; refine cS 4 (fun _ _ _ _ _ => vq rfl (qL u3) (gN ⟨rfl, rfl⟩)) ?_; exact zz.o) : B := g ⟨h⟩
theorem Z145 (h : A) (g : Hd A → B := by intro zz; refine GA_done (by kernel_rfl) ?_; exact zz.o) : B := g ⟨h⟩
theorem Z146 (h : A) (g : Hd A → B := by intro zz; refine hr0 _ ?_; exact zz.o) : B := g ⟨h⟩
theorem Z147 (h : A) (g : Hd A → B := by intro zz; refine gP [0, 1, 2, 3] ?_; exact zz.o) : B := g ⟨h⟩
theorem Z148 (h : A) (g : Hd A → B := by intro zz; refine sa rfl (dS sz3) ?_; exact zz.o) : B := g ⟨h⟩
theorem Z149 (h : A) (g : Hd A → B := by intro zz; refine vq rfl (qG (by exact sz25) u25 rfl) ?_; exact zz.o) : B := g ⟨h⟩
theorem Z150 (h : A) (g : Hd A → B := by intro zz; refine gP [0, 1, 2, 3, 4] ?_; exact zz.o) : B := g ⟨h⟩
theorem Z151 (h : A) (g : Hd A → B := by intro zz; refine gN (tN (G_block (gS (gR ?_)))); exact zz.o) : B := g ⟨h⟩
theorem Z152 (h : A) (g : Hd A → B := by intro zz; refine g_cg0 [106, 107, 108, 109, 110, 111, 112, 113, 114, 115, 116, 4] ?_; exact zz.o) : B := g ⟨h⟩
theorem Z153 (h : A) (g : Hd A → B := by intro zz; refine gS (gS (gR ?_)); exact zz.o) : B := g ⟨h⟩
theorem Z154 (h : A) (g : Hd A → B := by intro zz; refine gP [0, 1, 4, 5, 6, 8, 9, 10, 11, 12, 13, 14] ?_; exact zz.o) : B := g ⟨h⟩
theorem Z155 (h : A) (g : Hd A → B := by intro zz; refine cP [6, 7, 0, 1, 2, 3, 4, 5, 6, 7] ?_; exact zz.o) : B := g ⟨h⟩
theorem Z156 (h : A) (g : Hd A → B := by intro zz; refine vq rfl (q_lenstr u9) ?_; exact zz.o) : B := g ⟨h⟩
theorem Z157 (h : A) (g : Hd A → B := by intro zz; refine cP [5] ?_; exact zz.o) : B := g ⟨h⟩
theorem Z158 (h : A) (g : Hd A → B := by intro zz; refine gP [0, 1, 2, 4, 5, 6, 7, 9, 10] ?_; exact zz.o) : B := g ⟨h⟩
theorem Z159 (h : A) (g : Hd A → B := by intro zz; refine vq rfl (qF u102 rfl sz9) ?_; exact zz.o) : B := g ⟨h⟩
theorem Z160 (h : A) (g : Hd A → B := by intro zz; refine vq rfl (qF u25 rfl sz22) ?_; exact zz.o) : B := g ⟨h⟩
theorem Z161 (h : A) (g : Hd A → B := by intro zz; refine vq rfl (qF u81 rfl sz22) ?_; exact zz.o) : B := g ⟨h⟩
theorem Z162 (h : A) (g : Hd A → B := by intro zz; refine gN (tN (gR ?_)); exact zz.o) : B := g ⟨h⟩
theorem Z163 (h : A) (g : Hd A → B := by intro zz; refine vq rfl (q_len u79) ?_; exact zz.o) : B := g ⟨h⟩
theorem Z164 (h : A) (g : Hd A → B := by intro zz; refine vq rfl (q_len u23) ?_; exact zz.o) : B := g ⟨h⟩
theorem Z165 (h : A) (g : Hd A → B := by intro zz; refine vq rfl (q_buildS pl189 zr189) ?_; exact zz.o) : B := g ⟨h⟩
theorem Z166 (h : A) (g : Hd A → B := by intro zz; refine sg rfl (fun hg => sP 7 rfl hg (qL u3)) ?_; exact zz.o) : B := g ⟨h⟩
theorem Z167 (h : A) (g : Hd A → B := by intro zz; refine gK ?_; exact zz.o) : B := g ⟨h⟩
theorem Z168 (h : A) (g : Hd A → B := by intro zz; refine cP [0] ?_; exact zz.o) : B := g ⟨h⟩
theorem Z169 (h : A) (g : Hd A → B := by intro zz; refine cP [7] ?_; exact zz.o) : B := g ⟨h⟩
theorem Z170 (h : A) (g : Hd A → B := by intro zz; refine sa rfl (dS sz260) ?_; exact zz.o) : B := g ⟨h⟩
theorem Z171 (h : A) (g : Hd A → B := by intro zz; refine vq rfl q_nilCheck ?_; exact zz.o) : B := g ⟨h⟩
theorem Z172 (h : A) (g : Hd A → B := by intro zz; refine sg rfl (fun hg => sP 27 rfl hg q_eql) ?_; exact zz.o) : B := g ⟨h⟩
theorem Z173 (h : A) (g : Hd A → B := by intro zz; refine tN (gS ?_); exact zz.o) : B := g ⟨h⟩
theorem Z174 (h : A) (g : Hd A → B := by intro zz; refine cP [5, 0, 0, 1, 2, 3, 4, 5] ?_; exact zz.o) : B := g ⟨h⟩
theorem Z175 (h : A) (g : Hd A → B := by intro zz; refine sa rfl (dS sz22) ?_; exact zz.o) : B := g ⟨h⟩
theorem Z176 (h : A) (g : Hd A → B := by intro zz; refine sv rfl (y_buildSlice (xs := [.tmp 19]) u22 inf27) ?_; exact zz.o) : B := g ⟨h⟩
theorem Z177 (h : A) (g : Hd A → B := by intro zz; refine cS 1 (fun _ _ _ _ _ => vq rfl (qF u27 rfl sz22) (gN ⟨rfl, rfl⟩)) ?_; exact zz.o) : B := g ⟨h⟩
theorem Z178 (h : A) (g : Hd A → B := by intro zz; refine sa rfl (d_insert u253 u9) ?_; exact zz.o) : B := g ⟨h⟩
theorem Z179 (h : A) (g : Hd A → B := by intro zz; refine sg rfl (fun hg => sP 43 rfl hg (qF u27 rfl sz9)) ?_; exact zz.o) : B := g ⟨h⟩
theorem Z180 (h : A) (g : Hd A → B := by intro zz; refine vq rfl ((q_lookup2 (zd := .agg [.sl [], .bool false, .nilF]) u127 u3 zr189)) ?_; exact zz.o) : B := g ⟨h⟩
theorem Z181 (h : A) (g : Hd A → B := by intro zz; refine vq rfl (q_makeFunc (xs := []) (ys := [.tmp 1])) ?_; exact zz.o) : B := g ⟨h⟩
theorem Z182 (h : A) (g : Hd A → B := by intro zz; refine vq rfl (qF u260 rfl sz3) ?_; exact zz.o) : B := g ⟨h⟩
theorem Z183 (h : A) (g : Hd A → B := by intro zz; refine vq rfl (qF u25 rfl sz23) ?_; exact zz.o) : B := g ⟨h⟩
theorem Z184 (h : A) (g : Hd A → B := by intro zz; refine sv rfl y_move_take ?_; exact zz.o) : B := g ⟨h⟩
theorem Z185 (h : A) (g : Hd A → B := by intro zz; refine gK (tN (gS (gS ?_))); exact zz.o) : B := g ⟨h⟩
theorem Z186 (h : A) (g : Hd A → B := by intro zz; refine sg rfl (fun hg => q_fieldAddr u189 rfl sz63) ?_; exact zz.o) : B := g ⟨h⟩
theorem Z187 (h : A) (g : Hd A → B := by intro zz; refine gN (tN (gT (tR (tR ?_)))); exact zz.o) : B := g ⟨h⟩
theorem Z188 (h : A) (g : Hd A → B := by intro zz; refine sgo rfl (by rfl) y_and ?_; exact zz.o) : B := g ⟨h⟩
theorem Z189 (h : A) (g : Hd A → B := by intro zz; refine g_cg0 [81, 82, 83, 84, 80, 85, 86, 12, 13] ?_; exact zz.o) : B := g ⟨h⟩
theorem Z190 (h : A) (g : Hd A → B := by intro zz; refine gP [0, 1, 2, 3, 4, 5] ?_; exact zz.o) : B := g ⟨h⟩
theorem Z191 (h : A) (g : Hd A → B := by intro zz; refine vq rfl (qI u79 sz102) ?_; exact zz.o) : B := g ⟨h⟩
theorem Z192 (h : A) (g : Hd A → B := by intro zz; refine sv rfl (y_alloc zr81) ?_; exact zz.o) : B := g ⟨h⟩
theorem Z193 (h : A) (g : Hd A → B := by intro zz; refine sg rfl (fun hg => sP 13 rfl hg (qL u22)) ?_; exact zz.o) : B := g ⟨h⟩
theorem Z194 (h : A) (g : Hd A → B := by intro zz; refine vq rfl (qI u23 sz81) ?_; exact zz.o) : B := g ⟨h⟩
theorem Z195 (h : A) (g : Hd A → B := by intro zz; refine sgo rfl hsp (y_fieldp_leaf u27 rfl sz3) ?_; exact zz.o) : B := g ⟨h⟩
theorem Z196 (h : A) (g : Hd A → B := by intro zz; refine vq rfl (q_add (hw := rfl)) ?_; exact zz.o) : B := g ⟨h⟩
theorem Z197 (h : A) (g : Hd A → B := by intro zz; refine findc sz260 u260 (by simp) ?_; exact zz.o) : B := g ⟨h⟩
theorem Z198 (h : A) (g : Hd A → B := by intro zz; refine sa rfl (d_insert u249 u9) ?_; exact zz.o) : B := g ⟨h⟩
theorem Z199 (h : A) (g : Hd A → B := by intro zz; refine sgo rfl hsp (y_indexAddr u22 sz27) ?_; exact zz.o) : B := g ⟨h⟩
theorem Z200 (h : A) (g : Hd A → B := by intro zz; refine sg rfl (fun hg => qF u81 rfl sz79) ?_; exact zz.o) : B := g ⟨h⟩
theorem Z201 (h : A) (g : Hd A → B := by intro zz; refine sg rfl (fun hg => qF u25 rfl sz23) ?_; exact zz.o) : B := g ⟨h⟩
theorem Z202 (h : A) (g : Hd A → B := by intro zz; refine sa rfl (dS sz81) ?_; exact zz.o) : B := g ⟨h⟩
theorem Z203 (h : A) (g : Hd A → B := by intro zz; refine sa rfl (dS sz25) ?_; exact zz.o) : B := g ⟨h⟩
theorem Z204 (h : A) (g : Hd A → B := by intro zz; refine sg rfl (fun hg => qF u81 rfl sz4) ?_; exact zz.o) : B := g ⟨h⟩
theorem Z205 (h : A) (g : Hd A → B := by intro zz; refine sv rfl (y_alloc zr102) ?_; exact zz.o) : B := g ⟨h⟩
theorem Z206 (h : A) (g : Hd A → B := by intro zz; refine gN (tN (gS (G_block (gS (gR ?_))))); exact zz.o) : B := g ⟨h⟩
theorem Z207 (h : A) (g : Hd A → B := by intro zz; refine sv rfl (y_fieldAt 0 u27 rfl sz3) ?_; exact zz.o) : B := g ⟨h⟩
theorem Z208 (h : A) (g : Hd A → B := by intro zz; refine vq rfl (qL u23) ?_; exact zz.o) : B := g ⟨h⟩
theorem Z209 (h : A) (g : Hd A → B := by intro zz; refine gP [0, 1, 4, 5, 6, 7, 8, 9, 10] ?_; exact zz.o) : B := g ⟨h⟩
theorem Z210 (h : A) (g : Hd A → B := by intro zz; refine gL (xs := [.tmp 40]) rfl (q168) ?_; exact zz.o) : B := g ⟨h⟩
theorem Z211 (h : A) (g : Hd A → B := by intro zz; refine gL (xs := [.tmp 15]) rfl (hcx) ?_; exact zz.o) : B := g ⟨h⟩
theorem Z212 (h : A) (g : Hd A → B := by intro zz; refine cP [25] ?_; exact zz.o) : B := g ⟨h⟩
theorem Z213 (h : A) (g : Hd A → B := by intro zz; refine sgo rfl hsp (y_loadp_leaf u3) ?_; exact zz.o) : B := g ⟨h⟩
theorem Z214 (h : A) (g : Hd A → B := by intro zz; refine sgo rfl hyes y_move ?_; exact zz.o) : B := g ⟨h⟩
theorem Z215 (h : A) (g : Hd A → B := by intro zz; refine cP [0, 2] ?_; exact zz.o) : B := g ⟨h⟩
theorem Z216 (h : A) (g : Hd A → B := by intro zz; refine vq rfl ((q_neg (hr := rfl))) ?_; exact zz.o) : B := g ⟨h⟩
theorem Z217 (h : A) (g : Hd A → B := by intro zz; refine ck_pre [] ?_; exact zz.o) : B := g ⟨h⟩
theorem Z218 (h : A) (g : Hd A → B := by intro zz; refine tN (gT (bR (tR ?_))); exact zz.o) : B := g ⟨h⟩
theorem Z219 (h : A) (g : Hd A → B := by intro zz; refine vq rfl (q_sub (hw := rfl)) ?_; exact zz.o) : B := g ⟨h⟩
theorem Z220 (h : A) (g : Hd A → B := by intro zz; refine sa rfl (dS sz102) ?_; exact zz.o) : B := g ⟨h⟩
theorem Z221 (h : A) (g : Hd A → B := by intro zz; refine gK (tN ?_); exact zz.o) : B := g ⟨h⟩
theorem Z222 (h : A) (g : Hd A → B := by intro zz; refine gN (bN (tN ?_)); exact zz.o) : B := g ⟨h⟩
theorem Z223 (h : A) (g : Hd A → B := by intro zz; refine cP [0, 4, 8] ?_; exact zz.o) : B := g ⟨h⟩
theorem Z224 (h : A) (g : Hd A → B := by intro zz; refine tN (gT (tR ?_)); exact zz.o) : B := g ⟨h⟩
theorem Z225 (h : A) (g : Hd A → B := by intro zz; refine bN (tN ?_); exact zz.o) : B := g ⟨h⟩
theorem Z226 (h : A) (g : Hd A → B := by intro zz; refine hr _ ?_; exact zz.o) : B := g ⟨h⟩
theorem Z227 (h : A) (g : Hd A → B := by intro zz; refine ga1 7 ?_; exact zz.o) : B := g ⟨h⟩
theorem Z228 (h : A) (g : Hd A → B := by intro zz; refine Z1 ?_; refine Z7 ?_; exact zz.o) : B := g ⟨h⟩
theorem Z229 (h : A) (g : Hd A → B := by intro zz; refine Z228 ?_; refine Z4 ?_; exact zz.o) : B := g ⟨h⟩
theorem Z230 (h : A) (g : Hd A → B := by intro zz; refine Z1 ?_; refine Z5 ?_; exact zz.o) : B := g ⟨h⟩
theorem Z231 (h : A) (g : Hd A → B := by intro zz; refine Z0 ?_; refine Z0 ?_; exact zz.o) : B := g ⟨h⟩
theorem Z232 (h : A) (g : Hd A → B := by intro zz; refine Z3 ?_; refine Z13 ?_; exact zz.o) : B := g ⟨h⟩
theorem Z233 (h : A) (g : Hd A → B := by intro zz; refine Z1 ?_; refine Z11 ?_; exact zz.o) : B := g ⟨h⟩
theorem Z234 (h : A) (g : Hd A → B := by intro zz; refine Z1 ?_; refine Z10 ?_; exact zz.o) : B := g ⟨h⟩
theorem Z235 (h : A) (g : Hd A → B := by intro zz; refine Z1 ?_; refine Z23 ?_; exact zz.o) : B := g ⟨h⟩
theorem Z236 (h : A) (g : Hd A → B := by intro zz; refine Z26 ?_; refine Z0 ?_; exact zz.o) : B := g ⟨h⟩
theorem Z237 (h : A) (g : Hd A → B := by intro zz; refine Z2 ?_; refine Z2 ?_; exact zz.o) : B := g ⟨h⟩
theorem Z238 (h : A) (g : Hd A → B := by intro zz; refine Z18 ?_; refine Z17 ?_; exact zz.o) : B := g ⟨h⟩
theorem Z239 (h : A) (g : Hd A → B := by intro zz; refine Z236 ?_; refine Z52 ?_; exact zz.o) : B := g ⟨h⟩
theorem Z240 (h : A) (g : Hd A → B := by intro zz; refine Z3 ?_; refine Z230 ?_; exact zz.o) : B := g ⟨h⟩
theorem Z241 (h : A) (g : Hd A → B := by intro zz; refine Z12 ?_; refine Z0 ?_; exact zz.o) : B := g ⟨h⟩
theorem Z242 (h : A) (g : Hd A → B := by intro zz; refine Z1 ?_; refine Z27 ?_; exact zz.o) : B := g ⟨h⟩
theorem Z243 (h : A) (g : Hd A → B := by intro zz; refine Z235 ?_; refine Z4 ?_; exact zz.o) : B := g ⟨h⟩
theorem Z244 (h : A) (g : Hd A → B := by intro zz; refine Z28 ?_; refine Z34 ?_; exact zz.o) : B := g ⟨h⟩
theorem Z245 (h : A) (g : Hd A → B := by intro zz; refine Z232 ?_; refine Z9 ?_; exact zz.o) : B := g ⟨h⟩
theorem Z246 (h : A) (g : Hd A → B := by intro zz; refine Z0 ?_; refine Z38 ?_; exact zz.o) : B := g ⟨h⟩
theorem Z247 (h : A) (g : Hd A → B := by intro zz; refine Z3 ?_; refine Z40 ?_; exact zz.o) : B := g ⟨h⟩
theorem Z248 (h : A) (g : Hd A → B := by intro zz; refine Z247 ?_; refine Z30 ?_; exact zz.o) : B := g ⟨h⟩
theorem Z249 (h : A) (g : Hd A → B := by intro zz; refine Z0 ?_; refine Z19 ?_; exact zz.o) : B := g ⟨h⟩
theorem Z250 (h : A) (g : Hd A → B := by intro zz; refine Z35 ?_; refine Z33 ?_; exact zz.o) : B := g ⟨h⟩
theorem Z251 (h : A) (g : Hd A → B := by intro zz; refine Z22 ?_; refine Z10 ?_; exact zz.o) : B := g ⟨h⟩
theorem Z252 (h : A) (g : Hd A → B := by intro zz; refine Z39 ?_; refine Z67 ?_; exact zz.o) : B := g ⟨h⟩
theorem Z253 (h : A) (g : Hd A → B := by intro zz; refine Z14 ?_; refine Z0 ?_; exact zz.o) : B := g ⟨h⟩
theorem Z254 (h : A) (g : Hd A → B := by intro zz; refine Z3 ?_; refine Z0 ?_; exact zz.o) : B := g ⟨h⟩
theorem Z255 (h : A) (g : Hd A → B := by intro zz; refine Z31 ?_; refine Z244 ?_; exact zz.o) : B := g ⟨h⟩
theorem Z256 (h : A) (g : Hd A → B := by intro zz; refine Z233 ?_; refine Z0 ?_; exact zz.o) : B := g ⟨h⟩
theorem Z257 (h : A) (g : Hd A → B := by intro zz; refine Z12 ?_; refine Z229 ?_; exact zz.o) : B := g ⟨h⟩
theorem Z258 (h : A) (g : Hd A → B := by intro zz; refine Z48 ?_; refine Z8 ?_; exact zz.o) : B := g ⟨h⟩
theorem Z259 (h : A) (g : Hd A → B := by intro zz; refine Z252 ?_; refine Z36 ?_; exact zz.o) : B := g ⟨h⟩
theorem Z260 (h : A) (g : Hd A → B := by intro zz; refine Z20 ?_; refine Z234 ?_; exact zz.o) : B := g ⟨h⟩
theorem Z261 (h : A) (g : Hd A → B := by intro zz; refine Z57 ?_; refine Z10 ?_; exact zz.o) : B := g ⟨h⟩
theorem Z262 (h : A) (g : Hd A → B := by intro zz; refine Z6 ?_; refine Z6 ?_; exact zz.o) : B := g ⟨h⟩
theorem Z263 (h : A) (g : Hd A → B := by intro zz; refine Z0 ?_; refine Z24 ?_; exact zz.o) : B := g ⟨h⟩
theorem Z264 (h : A) (g : Hd A → B := by intro zz; refine Z237 ?_; refine Z237 ?_; exact zz.o) : B := g ⟨h⟩
theorem Z265 (h : A) (g : Hd A → B := by intro zz; refine Z42 ?_; refine Z42 ?_; exact zz.o) : B := g ⟨h⟩
theorem Z266 (h : A) (g : Hd A → B := by intro zz; refine Z238 ?_; refine Z20 ?_; exact zz.o) : B := g ⟨h⟩
theorem Z267 (h : A) (g : Hd A → B := by intro zz; refine Z245 ?_; refine Z230 ?_; exact zz.o) : B := g ⟨h⟩
theorem Z268 (h : A) (g : Hd A → B := by intro zz; refine Z25 ?_; refine Z0 ?_; exact zz.o) : B := g ⟨h⟩
theorem Z269 (h : A) (g : Hd A → B := by intro zz; refine Z29 ?_; refine Z21 ?_; exact zz.o) : B := g ⟨h⟩
theorem Z270 (h : A) (g : Hd A → B := by intro zz; refine Z66 ?_; refine Z49 ?_; exact zz.o) : B := g ⟨h⟩
theorem Z271 (h : A) (g : Hd A → B := by intro zz; refine Z0 ?_; refine Z265 ?_; exact zz.o) : B := g ⟨h⟩
theorem Z272 (h : A) (g : Hd A → B := by intro zz; refine Z3 ?_; refine Z256 ?_; exact zz.o) : B := g ⟨h⟩
theorem Z273 (h : A) (g : Hd A → B := by intro zz; refine Z47 ?_; refine Z246 ?_; exact zz.o) : B := g ⟨h⟩
theorem Z274 (h : A) (g : Hd A → B := by intro zz; refine Z240 ?_; refine Z231 ?_; exact zz.o) : B := g ⟨h⟩
theorem Z275 (h : A) (g : Hd A → B := by intro zz; refine Z22 ?_; refine Z229 ?_; exact zz.o) : B := g ⟨h⟩
theorem Z276 (h : A) (g : Hd A → B := by intro zz; refine Z146 ?_; refine Z139 ?_; exact zz.o) : B := g ⟨h⟩
theorem Z277 (h : A) (g : Hd A → B := by intro zz; refine Z230 ?_; refine Z0 ?_; exact zz.o) : B := g ⟨h⟩
theorem Z278 (h : A) (g : Hd A → B := by intro zz; refine Z3 ?_; refine Z260 ?_; exact zz.o) : B := g ⟨h⟩
theorem Z279 (h : A) (g : Hd A → B := by intro zz; refine Z65 ?_; refine Z69 ?_; exact zz.o) : B := g ⟨h⟩
theorem Z280 (h : A) (g : Hd A → B := by intro zz; refine Z240 ?_; refine Z0 ?_; exact zz.o) : B := g ⟨h⟩
theorem Z281 (h : A) (g : Hd A → B := by intro zz; refine Z41 ?_; refine Z10 ?_; exact zz.o) : B := g ⟨h⟩
theorem Z282 (h : A) (g : Hd A → B := by intro zz; refine Z14 ?_; refine Z243 ?_; exact zz.o) : B := g ⟨h⟩
theorem Z283 (h : A) (g : Hd A → B := by intro zz; refine Z242 ?_; refine Z4 ?_; exact zz.o) : B := g ⟨h⟩
theorem Z284 (h : A) (g : Hd A → B := by intro zz; refine Z100 ?_; refine Z239 ?_; exact zz.o) : B := g ⟨h⟩
theorem Z285 (h : A) (g : Hd A → B := by intro zz; refine Z14 ?_; refine Z239 ?_; exact zz.o) : B := g ⟨h⟩
theorem Z286 (h : A) (g : Hd A → B := by intro zz; refine Z3 ?_; refine Z243 ?_; exact zz.o) : B := g ⟨h⟩
theorem Z287 (h : A) (g : Hd A → B := by intro zz; refine Z12 ?_; refine Z10 ?_; exact zz.o) : B := g ⟨h⟩
theorem Z288 (h : A) (g : Hd A → B := by intro zz; refine Z3 ?_; refine Z1 ?_; exact zz.o) : B := g ⟨h⟩
theorem Z289 (h : A) (g : Hd A → B := by intro zz; refine Z85 ?_; refine Z17 ?_; exact zz.o) : B := g ⟨h⟩
theorem Z290 (h : A) (g : Hd A → B := by intro zz; refine Z37 ?_; refine Z14 ?_; exact zz.o) : B := g ⟨h⟩
theorem Y0 (g : A := by exact ⟨by rw [binV, if_neg (by rw [show (decide (nm = andB) || decide (nm = orB)) = false from hb0]; decide), hti]; dsimp only; rw [if_neg (by simpa using hb8), cmpV, hct]; dsimp only; rw [if_pos hcc, hna, hnb]; try rfl, rfl⟩) : A := g
theorem Y1 (g : A := by exact ⟨by rw [binV, if_neg (by rw [show (decide (nm = andB) || decide (nm = orB)) = false from hb0]; decide), hti]; dsimp only; rw [cmpV, hct]; dsimp only; rw [if_pos hcc, hna, hnb]; try rfl, rfl⟩) : A := g
theorem Y2 (g : A := by exact fin1 (by simp) ⟨idxL_found hz2 hx hb1, rfl⟩) : A := g
theorem Y3 (g : A := by exact fin1 (by simp) ⟨idxL_none (hge ▸ hz2), rfl⟩) : A := g
theorem Y4 (g : A := by exact ⟨by rw [rule157, if_pos hn]; simp only [Tr.kids_mk] at hb1 ⊢; simp at hb1; simp [hb1], rfl⟩) : A := g
theorem Y5 (g : A := by exact ⟨by rw [idxL_any], rfl⟩) : A := g
theorem Y6 (g : A := by exact absurd hb2 (by decide)) : A := g
theorem Y7 (g : A := by exact absurd h0 (by simpa using h2)) : A := g
theorem Y8 (g : A := by exact ⟨hr.1, rule157_mono (by simp) h hr.2⟩) : A := g
end
end Go.Proofs.YtklkbfpjimeaoaaGreat
