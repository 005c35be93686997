import Derived.Test.YtklkbfpjimeaoaaM1
import Derived.Test.YtklkbfpjimeaoaaM2
import Derived.Test.YtklkbfpjimeaoaaM3
import Derived.Test.YtklkbfpjimeaoaaM4
import Derived.Test.YtklkbfpjimeaoaaM5
import Derived.Test.YtklkbfpjimeaoaaM6
import Derived.Test.YtklkbfpjimeaoaaM7
import Derived.Test.YtklkbfpjimeaoaaM8
import Derived.Test.YtklkbfpjimeaoaaM9
import Derived.Test.YtklkbfpjimeaoaaM10
import Derived.Test.YtklkbfpjimeaoaaM11
import Derived.Test.YtklkbfpjimeaoaaM12
import Derived.Test.YtklkbfpjimeaoaaM13
import Derived.Test.YtklkbfpjimeaoaaM14
import Derived.Test.YtklkbfpjimeaoaaM15
import Derived.Test.YtklkbfpjimeaoaaM16
import Derived.Test.YtklkbfpjimeaoaaM17
import Derived.Test.YtklkbfpjimeaoaaProg
import Derived.KernelRfl
/- Contracts of functions. Conditions: none. -/
set_option linter.unusedSimpArgs false
set_option linter.unusedVariables false
set_option maxRecDepth 20000
namespace Go.Proofs.Ytklkbfpjimeaoaa
open Go
theorem sz3 : (Try.prog.info? 3).map (·.size) = some 1 := by kernel_rfl
theorem zr3 : (Try.prog.info? 3).map (·.zero) = some (some (.int .i64 0)) := by kernel_rfl
theorem sz4 : (Try.prog.info? 4).map (·.size) = some 1 := by kernel_rfl
theorem sz5 : (Try.prog.info? 5).map (·.size) = some 1 := by kernel_rfl
theorem inf9 : (Try.prog.info? 9).map (fun i => (i.zero, i.size, i.bytes)) = some (some (.string ⟨#[]⟩), 1, 16) := by kernel_rfl
theorem sz9 : (Try.prog.info? 9).map (·.size) = some 1 := by kernel_rfl
theorem sz22 : (Try.prog.info? 22).map (·.size) = some 1 := by kernel_rfl
theorem sz23 : (Try.prog.info? 23).map (·.size) = some 1 := by kernel_rfl
theorem sz25 : (Try.prog.info? 25).map (·.size) = some 2 := by kernel_rfl
theorem inf27 : (Try.prog.info? 27).map (fun i => (i.zero, i.size, i.bytes)) = some (some (.agg #[.int .i64 0, .string ⟨#[]⟩, .int .i64 0, .slice none 0 0]), 4, 56) := by kernel_rfl
theorem sz27 : (Try.prog.info? 27).map (·.size) = some 4 := by kernel_rfl
theorem zr27 : (Try.prog.info? 27).map (·.zero) = some (some (.agg #[.int .i64 0, .string ⟨#[]⟩, .int .i64 0, .slice none 0 0])) := by kernel_rfl
theorem sz53 : (Try.prog.info? 53).map (·.size) = some 1 := by kernel_rfl
theorem sz40 : (Try.prog.info? 40).map (·.size) = some 1 := by kernel_rfl
theorem sz55 : (Try.prog.info? 55).map (·.size) = some 1 := by kernel_rfl
theorem sz57 : (Try.prog.info? 57).map (·.size) = some 10 := by kernel_rfl
theorem zr57 : (Try.prog.info? 57).map (·.zero) = some (some (.agg #[.string ⟨#[]⟩, .bool false, .bool false, .slice none 0 0, .int .i64 0, .string ⟨#[]⟩, .int .i64 0, .slice none 0 0, .slice none 0 0, .slice none 0 0])) := by kernel_rfl
theorem sz60 : (Try.prog.info? 60).map (·.size) = some 6 := by kernel_rfl
theorem zr60 : (Try.prog.info? 60).map (·.zero) = some (some (.agg #[.string ⟨#[]⟩, .string ⟨#[]⟩, .int .i64 0, .string ⟨#[]⟩, .int .i64 0, .slice none 0 0])) := by kernel_rfl
theorem sz75 : (Try.prog.info? 75).map (·.size) = some 2 := by kernel_rfl
theorem zr75 : (Try.prog.info? 75).map (·.zero) = some (some (.agg #[.int .i64 0, .slice none 0 0])) := by kernel_rfl
theorem sz107 : (Try.prog.info? 107).map (·.size) = some 3 := by kernel_rfl
theorem zr107 : (Try.prog.info? 107).map (·.zero) = some (some (.agg #[.slice none 0 0, .bool false, .nilFunc])) := by kernel_rfl
theorem sz121 : (Try.prog.info? 121).map (·.size) = some 3 := by kernel_rfl
theorem zr121 : (Try.prog.info? 121).map (·.zero) = some (some (.agg #[.string ⟨#[]⟩, .string ⟨#[]⟩, .int .i64 0])) := by kernel_rfl
theorem pl75 : E.structPl Try.prog 75 = some [(0, 1), (1, 1)] := by kernel_rfl
theorem pl107 : E.structPl Try.prog 107 = some [(0, 1), (1, 1), (2, 1)] := by kernel_rfl
theorem pl121 : E.structPl Try.prog 121 = some [(0, 1), (1, 1), (2, 1)] := by kernel_rfl
theorem u3 : Try.prog.underlying 3 = some (TypeDesc.int IntKind.i64) := Try.underlying3
theorem u4 : Try.prog.underlying 4 = some TypeDesc.bool := Try.underlying4
theorem u5 : Try.prog.underlying 5 = some (TypeDesc.int IntKind.u8) := Try.underlying5
theorem u9 : Try.prog.underlying 9 = some TypeDesc.string := Try.underlying9
theorem u22 : Try.prog.underlying 22 = some (TypeDesc.slice 27) := Try.underlying22
theorem u23 : Try.prog.underlying 23 = some (TypeDesc.slice 57) := Try.underlying23
theorem u25 : Try.prog.underlying 25 = some (TypeDesc.struct #[{ name := "Globals", type := 22, offset := 0, embedded := false, tag := "", pkgPath := "", byteOffset := 0 }, { name := "Procs", type := 23, offset := 1, embedded := false, tag := "", pkgPath := "", byteOffset := 24 }]) := Try.underlying25
theorem u27 : Try.prog.underlying 27 = some (TypeDesc.struct #[{ name := "Op", type := 3, offset := 0, embedded := false, tag := "", pkgPath := "", byteOffset := 0 }, { name := "Name", type := 9, offset := 1, embedded := false, tag := "", pkgPath := "", byteOffset := 8 }, { name := "Num", type := 3, offset := 2, embedded := false, tag := "", pkgPath := "", byteOffset := 24 }, { name := "Kids", type := 22, offset := 3, embedded := false, tag := "", pkgPath := "", byteOffset := 32 }]) := Try.underlying27
theorem u28 : Try.prog.underlying 28 = some (TypeDesc.slice 30) := Try.underlying28
theorem u30 : Try.prog.underlying 30 = some (TypeDesc.struct #[{ name := "Name", type := 9, offset := 0, embedded := false, tag := "", pkgPath := "", byteOffset := 0 }, { name := "Type", type := 9, offset := 1, embedded := false, tag := "", pkgPath := "", byteOffset := 16 }, { name := "Const", type := 4, offset := 2, embedded := false, tag := "", pkgPath := "", byteOffset := 32 }]) := Try.underlying30
theorem u35 : Try.prog.underlying 35 = some (TypeDesc.slice 43) := Try.underlying35
theorem u40 : Try.prog.underlying 40 = some (TypeDesc.slice 9) := Try.underlying40
theorem u53 : Try.prog.underlying 53 = some (TypeDesc.func #[27] #[4] false) := Try.underlying53
theorem u55 : Try.prog.underlying 55 = some (TypeDesc.slice 60) := Try.underlying55
theorem u57 : Try.prog.underlying 57 = some (TypeDesc.struct #[{ name := "Name", type := 9, offset := 0, embedded := false, tag := "", pkgPath := "", byteOffset := 0 }, { name := "Iter", type := 4, offset := 1, embedded := false, tag := "", pkgPath := "", byteOffset := 16 }, { name := "Private", type := 4, offset := 2, embedded := false, tag := "", pkgPath := "", byteOffset := 17 }, { name := "Formals", type := 55, offset := 3, embedded := false, tag := "", pkgPath := "", byteOffset := 24 }, { name := "Result", type := 27, offset := 4, embedded := false, tag := "", pkgPath := "", byteOffset := 48 }, { name := "Where", type := 22, offset := 8, embedded := false, tag := "", pkgPath := "", byteOffset := 104 }, { name := "Body", type := 22, offset := 9, embedded := false, tag := "", pkgPath := "", byteOffset := 128 }]) := Try.underlying57
theorem u60 : Try.prog.underlying 60 = some (TypeDesc.struct #[{ name := "Intent", type := 9, offset := 0, embedded := false, tag := "", pkgPath := "", byteOffset := 0 }, { name := "Name", type := 9, offset := 1, embedded := false, tag := "", pkgPath := "", byteOffset := 16 }, { name := "Type", type := 27, offset := 2, embedded := false, tag := "", pkgPath := "", byteOffset := 32 }]) := Try.underlying60
theorem u67 : Try.prog.underlying 67 = some (TypeDesc.func #[3] #[4] false) := Try.underlying67
theorem u75 : Try.prog.underlying 75 = some (TypeDesc.struct #[{ name := "code", type := 37, offset := 0, embedded := false, tag := "", pkgPath := "raddle/check", byteOffset := 0 }, { name := "path", type := 73, offset := 1, embedded := false, tag := "", pkgPath := "raddle/check", byteOffset := 8 }]) := Try.underlying75
theorem u93 : Try.prog.underlying 93 = some (TypeDesc.map 3 107) := Try.underlying93
theorem u107 : Try.prog.underlying 107 = some (TypeDesc.struct #[{ name := "names", type := 40, offset := 0, embedded := false, tag := "", pkgPath := "raddle/check", byteOffset := 0 }, { name := "num", type := 4, offset := 1, embedded := false, tag := "", pkgPath := "raddle/check", byteOffset := 24 }, { name := "rule", type := 53, offset := 2, embedded := false, tag := "", pkgPath := "raddle/check", byteOffset := 32 }]) := Try.underlying107
theorem u115 : Try.prog.underlying 115 = some (TypeDesc.array 2 9) := Try.underlying115
theorem u117 : Try.prog.underlying 117 = some (TypeDesc.array 3 9) := Try.underlying117
theorem u118 : Try.prog.underlying 118 = some (TypeDesc.array 4 9) := Try.underlying118
theorem u121 : Try.prog.underlying 121 = some (TypeDesc.struct #[{ name := "of", type := 9, offset := 0, embedded := false, tag := "", pkgPath := "raddle/check", byteOffset := 0 }, { name := "gives", type := 9, offset := 1, embedded := false, tag := "", pkgPath := "raddle/check", byteOffset := 16 }, { name := "takes", type := 3, offset := 2, embedded := false, tag := "", pkgPath := "raddle/check", byteOffset := 32 }]) := Try.underlying121
theorem u122 : Try.prog.underlying 122 = some (TypeDesc.map 9 121) := Try.underlying122
theorem u133 : Try.prog.underlying 133 = some (TypeDesc.slice 5) := Try.underlying133
open E
structure Hd (A : Prop) : Prop where
 o : A
variable {A B : Prop}
theorem Z0 (h : A) (g : Hd A → B := by intro zz; refine sgx rfl ?_ ?_; (focus first | exact hsp | (rw [hsp]; rfl) | simp [hsp] | simp_all); exact zz.o) : B := g ⟨h⟩
theorem Z1 (h : A) (g : Hd A → B := by intro zz; refine vq rfl qM ?_; exact zz.o) : B := g ⟨h⟩
theorem Z2 (h : A) (g : Hd A → B := by intro zz; refine vq rfl qA ?_; exact zz.o) : B := g ⟨h⟩
theorem Z3 (h : A) (g : Hd A → B := by intro zz; refine ov (hc := ?_); exact zz.o) : B := g ⟨h⟩
theorem Z4 (h : A) (g : Hd A → B := by intro zz; refine fin1 (by simp) ?_; exact zz.o) : B := g ⟨h⟩
theorem Z5 (h : A) (g : Hd A → B := by intro zz; refine zgS (gR ?_); exact zz.o) : B := g ⟨h⟩
theorem Z6 (h : A) (g : Hd A → B := by intro zz; refine gF 0 [] (.agg [.int .i64 op, .str name, .int .i64 num, .sl (ks.map Tr.d)]) rfl ?_; exact zz.o) : B := g ⟨h⟩
theorem Z7 (h : A) (g : Hd A → B := by intro zz; refine gN (tN (zgS (gR ?_))); exact zz.o) : B := g ⟨h⟩
theorem Z8 (h : A) (g : Hd A → B := by intro zz; refine gN (tN (gT ?_)); exact zz.o) : B := g ⟨h⟩
theorem Z9 (h : A) (g : Hd A → B := by intro zz; refine sa rfl (d_insert u93 u3) ?_; exact zz.o) : B := g ⟨h⟩
theorem Z10 (h : A) (g : Hd A → B := by intro zz; refine vq rfl ((q_buildP pl107 zr107)) ?_; exact zz.o) : B := g ⟨h⟩
theorem Z11 (h : A) (g : Hd A → B := by intro zz; refine g_keepo [8, 1, 2, 3] ?_; exact zz.o) : B := g ⟨h⟩
theorem Z12 (h : A) (g : Hd A → B := by intro zz; refine gN (tN ?_); exact zz.o) : B := g ⟨h⟩
theorem Z13 (h : A) (g : Hd A → B := by intro zz; refine gN (tN (zgS (zgS (gR ?_)))); exact zz.o) : B := g ⟨h⟩
theorem Z14 (h : A) (g : Hd A → B := by intro zz; refine ols C9 (hr := ruleT_lsK [(⟨#[105, 110, 116, 32, 105, 110, 116]⟩, ⟨#[105, 110, 116]⟩)] (joinT a b)) (hk := Nat.ble_eq_true_of_le (joinT_size ha hb)) (hc := ?_); exact zz.o) : B := g ⟨h⟩
theorem Z15 (h : A) (g : Hd A → B := by intro zz; refine vq rfl q_add ?_; exact zz.o) : B := g ⟨h⟩
theorem Z16 (h : A) (g : Hd A → B := by intro zz; refine vq rfl q_or ?_; exact zz.o) : B := g ⟨h⟩
theorem Z17 (h : A) (g : Hd A → B := by intro zz; refine fz true (by exact rfl) ?_; exact zz.o) : B := g ⟨h⟩
theorem Z18 (h : A) (g : Hd A → B := by intro zz; refine vq rfl q_and ?_; exact zz.o) : B := g ⟨h⟩
theorem Z19 (h : A) (g : Hd A → B := by intro zz; refine sv rfl y_box ?_; exact zz.o) : B := g ⟨h⟩
theorem Z20 (h : A) (g : Hd A → B := by intro zz; refine oo (hc := ?_); exact zz.o) : B := g ⟨h⟩
theorem Z21 (h : A) (g : Hd A → B := by intro zz; refine oe (hc := ?_); exact zz.o) : B := g ⟨h⟩
theorem Z22 (h : A) (g : Hd A → B := by intro zz; refine gR ?_; exact zz.o) : B := g ⟨h⟩
theorem Z23 (h : A) (g : Hd A → B := by intro zz; refine oc (hcl := c220) (hc := ?_); exact zz.o) : B := g ⟨h⟩
theorem Z24 (h : A) (g : Hd A → B := by intro zz; refine ols C9 (hr := ruleT_lsK [(⟨#[105, 110, 116, 32, 105, 110, 116]⟩, ⟨#[98, 111, 111, 108]⟩)] (joinT a b)) (hk := Nat.ble_eq_true_of_le (joinT_size ha hb)) (hc := ?_); exact zz.o) : B := g ⟨h⟩
theorem Z25 (h : A) (g : Hd A → B := by intro zz; refine gK (tN (zgS (G_block (zgS (gR ?_))))); exact zz.o) : B := g ⟨h⟩
theorem Z26 (h : A) (g : Hd A → B := by intro zz; refine oc (hcl := c221 a b ha hb) (hc := ?_); exact zz.o) : B := g ⟨h⟩
theorem Z27 (h : A) (g : Hd A → B := by intro zz; refine vq rfl (q_buildS pl121 zr121) ?_; exact zz.o) : B := g ⟨h⟩
theorem Z28 (h : A) (g : Hd A → B := by intro zz; refine sg rfl (fun hg => qM) ?_; exact zz.o) : B := g ⟨h⟩
theorem Z29 (h : A) (g : Hd A → B := by intro zz; refine vq rfl q_eql ?_; exact zz.o) : B := g ⟨h⟩
theorem Z30 (h : A) (g : Hd A → B := by intro zz; refine sa rfl (d_insert u122 u9) ?_; exact zz.o) : B := g ⟨h⟩
theorem Z31 (h : A) (g : Hd A → B := by intro zz; refine blk_exit (tN (zgS (gR ?_))); exact zz.o) : B := g ⟨h⟩
theorem Z32 (h : A) (g : Hd A → B := by intro zz; refine gN (tN (gT (tR ?_))); exact zz.o) : B := g ⟨h⟩
theorem Z33 (h : A) (g : Hd A → B := by intro zz; refine gN (tN (gT (bR (tR ?_)))); exact zz.o) : B := g ⟨h⟩
theorem Z34 (h : A) (g : Hd A → B := by intro zz; refine ols C225 (hc := ?_); exact zz.o) : B := g ⟨h⟩
theorem Z35 (h : A) (g : Hd A → B := by intro zz; refine gN (tN (zgS ?_)); exact zz.o) : B := g ⟨h⟩
theorem Z36 (h : A) (g : Hd A → B := by intro zz; refine gP [0, 1, 2, 4, 5, 6, 7, 8] ?_; exact zz.o) : B := g ⟨h⟩
theorem Z37 (h : A) (g : Hd A → B := by intro zz; refine sv rfl (y_buildSlice (xs := [.const (.string ⟨#[101]⟩)]) u40 inf9) ?_; exact zz.o) : B := g ⟨h⟩
theorem Z38 (h : A) (g : Hd A → B := by intro zz; refine gL (xs := [.tmp 16, .tmp 19]) rfl ((hka ▸ c21n k.size k (Nat.le_refl _) (h5 k hmem) (most - c) (by omega) (by omega))) ?_; exact zz.o) : B := g ⟨h⟩
theorem Z39 (h : A) (g : Hd A → B := by intro zz; refine vq rfl (q_len u22) ?_; exact zz.o) : B := g ⟨h⟩
theorem Z40 (h : A) (g : Hd A → B := by intro zz; refine qu (by exact rfl) (by rw [wrap_succ (by omega)]; exact ⟨⟨by omega, by rw [hlen]; omega⟩, gv_cells ls⟩) ?_; exact zz.o) : B := g ⟨h⟩
theorem Z41 (h : A) (g : Hd A → B := by intro zz; refine gN (tN (G_block ?_)); exact zz.o) : B := g ⟨h⟩
theorem Z42 (h : A) (g : Hd A → B := by intro zz; refine G_exit (thn_exit ?_); exact zz.o) : B := g ⟨h⟩
theorem Z43 (h : A) (g : Hd A → B := by intro zz; refine vq rfl qE ?_; exact zz.o) : B := g ⟨h⟩
theorem Z44 (h : A) (g : Hd A → B := by intro zz; refine vq rfl q_lss ?_; exact zz.o) : B := g ⟨h⟩
theorem Z45 (h : A) (g : Hd A → B := by intro zz; refine toL (he _ _ ?_); exact zz.o) : B := g ⟨h⟩
theorem Z46 (h : A) (g : Hd A → B := by intro zz; refine oi (hd := rfl) (hc := ?_); exact zz.o) : B := g ⟨h⟩
theorem Z47 (h : A) (g : Hd A → B := by intro zz; refine vq rfl q_not ?_; exact zz.o) : B := g ⟨h⟩
theorem Z48 (h : A) (g : Hd A → B := by intro zz; refine gF 0 [] (.agg [.int .i64 kop, .str knm, .int .i64 knu, .sl (kks.map Tr.d)]) rfl ?_; exact zz.o) : B := g ⟨h⟩
theorem Z49 (h : A) (g : Hd A → B := by intro zz; refine zgS ?_; exact zz.o) : B := g ⟨h⟩
theorem Z50 (h : A) (g : Hd A → B := by intro zz; refine gN ?_; exact zz.o) : B := g ⟨h⟩
theorem Z51 (h : A) (g : Hd A → B := by intro zz; refine he0 _ _ ?_; exact zz.o) : B := g ⟨h⟩
theorem Z52 (h : A) (g : Hd A → B := by intro zz; refine cl (by exact rfl) q.inl ?_; exact zz.o) : B := g ⟨h⟩
theorem Z53 (h : A) (g : Hd A → B := by intro zz; refine oc (hcl := c219 _ _) (hc := ?_); exact zz.o) : B := g ⟨h⟩
theorem Z54 (h : A) (g : Hd A → B := by intro zz; refine gP [0, 1, 2, 3] ?_; exact zz.o) : B := g ⟨h⟩
theorem Z55 (h : A) (g : Hd A → B := by intro zz; refine find2 (by simp) ?_; exact zz.o) : B := g ⟨h⟩
theorem Z56 (h : A) (g : Hd A → B := by intro zz; refine vq rfl (q_lenstr u9) ?_; exact zz.o) : B := g ⟨h⟩
theorem Z57 (h : A) (g : Hd A → B := by intro zz; refine clp (by exact rfl) q ?_; exact zz.o) : B := g ⟨h⟩
theorem Z58 (h : A) (g : Hd A → B := by intro zz; refine vq rfl q_geq ?_; exact zz.o) : B := g ⟨h⟩
theorem Z59 (h : A) (g : Hd A → B := by intro zz; refine toL (hp _ _ ?_); exact zz.o) : B := g ⟨h⟩
theorem Z60 (h : A) (g : Hd A → B := by intro zz; refine sgo rfl hsp y_move ?_; exact zz.o) : B := g ⟨h⟩
theorem Z61 (h : A) (g : Hd A → B := by intro zz; refine vq rfl (q_buildS pl107 zr107) ?_; exact zz.o) : B := g ⟨h⟩
theorem Z62 (h : A) (g : Hd A → B := by intro zz; refine sv rfl (y_alloc zr27) ?_; exact zz.o) : B := g ⟨h⟩
theorem Z63 (h : A) (g : Hd A → B := by intro zz; refine vq rfl q_gtr ?_; exact zz.o) : B := g ⟨h⟩
theorem Z64 (h : A) (g : Hd A → B := by intro zz; refine vq rfl ((q_lookup2 (zd := .agg [.sl [], .bool false, .nilF]) u93 u3 zr107)) ?_; exact zz.o) : B := g ⟨h⟩
theorem Z65 (h : A) (g : Hd A → B := by intro zz; refine ock (hcl := q12) (hc := ?_); exact zz.o) : B := g ⟨h⟩
theorem Z66 (h : A) (g : Hd A → B := by intro zz; refine gK (tN (zgS ?_)); exact zz.o) : B := g ⟨h⟩
theorem Z67 (h : A) (g : Hd A → B := by intro zz; refine bR (tR ?_); exact zz.o) : B := g ⟨h⟩
theorem Z68 (h : A) (g : Hd A → B := by intro zz; refine vq rfl (qI u22 sz27) ?_; exact zz.o) : B := g ⟨h⟩
theorem Z69 (h : A) (g : Hd A → B := by intro zz; refine ok [(3, 6)] (hc := ?_); exact zz.o) : B := g ⟨h⟩
theorem Z70 (h : A) (g : Hd A → B := by intro zz; refine hr0 _ ?_; exact zz.o) : B := g ⟨h⟩
theorem Z71 (h : A) (g : Hd A → B := by intro zz; refine gK (bN (tN (gR ?_))); exact zz.o) : B := g ⟨h⟩
theorem Z72 (h : A) (g : Hd A → B := by intro zz; refine vq rfl q_neq ?_; exact zz.o) : B := g ⟨h⟩
theorem Z73 (h : A) (g : Hd A → B := by intro zz; refine sgo rfl hsp (y_indexAddr u22 sz27) ?_; exact zz.o) : B := g ⟨h⟩
theorem Z74 (h : A) (g : Hd A → B := by intro zz; refine ovp (hc := ?_); exact zz.o) : B := g ⟨h⟩
theorem Z75 (h : A) (g : Hd A → B := by intro zz; refine cl (by exact rfl) q ?_; exact zz.o) : B := g ⟨h⟩
theorem Z76 (h : A) (g : Hd A → B := by intro zz; refine gP [0, 1, 2, 3, 4, 5, 6, 8] ?_; exact zz.o) : B := g ⟨h⟩
theorem Z77 (h : A) (g : Hd A → B := by intro zz; refine ova (hc := ?_); exact zz.o) : B := g ⟨h⟩
theorem Z78 (h : A) (g : Hd A → B := by intro zz; refine ovk (hc := ?_); exact zz.o) : B := g ⟨h⟩
theorem Z79 (h : A) (g : Hd A → B := by intro zz; refine obk (hc := ?_); exact zz.o) : B := g ⟨h⟩
theorem Z80 (h : A) (g : Hd A → B := by intro zz; refine oak (hc := ?_); exact zz.o) : B := g ⟨h⟩
theorem Z81 (h : A) (g : Hd A → B := by intro zz; refine oek (hc := ?_); exact zz.o) : B := g ⟨h⟩
theorem Z82 (h : A) (g : Hd A → B := by intro zz; refine cP [] ?_; exact zz.o) : B := g ⟨h⟩
theorem Z83 (h : A) (g : Hd A → B := by intro zz; refine Z2 ?_; refine Z8 ?_; exact zz.o) : B := g ⟨h⟩
theorem Z84 (h : A) (g : Hd A → B := by intro zz; refine Z2 ?_; refine Z7 ?_; exact zz.o) : B := g ⟨h⟩
theorem Z85 (h : A) (g : Hd A → B := by intro zz; refine Z83 ?_; refine Z4 ?_; exact zz.o) : B := g ⟨h⟩
theorem Z86 (h : A) (g : Hd A → B := by intro zz; refine Z9 ?_; refine Z11 ?_; exact zz.o) : B := g ⟨h⟩
theorem Z87 (h : A) (g : Hd A → B := by intro zz; refine Z0 ?_; refine Z0 ?_; exact zz.o) : B := g ⟨h⟩
theorem Z88 (h : A) (g : Hd A → B := by intro zz; refine Z3 ?_; refine Z21 ?_; exact zz.o) : B := g ⟨h⟩
theorem Z89 (h : A) (g : Hd A → B := by intro zz; refine Z10 ?_; refine Z86 ?_; exact zz.o) : B := g ⟨h⟩
theorem Z90 (h : A) (g : Hd A → B := by intro zz; refine Z84 ?_; refine Z1 ?_; exact zz.o) : B := g ⟨h⟩
theorem Z91 (h : A) (g : Hd A → B := by intro zz; refine Z5 ?_; refine Z19 ?_; exact zz.o) : B := g ⟨h⟩
theorem Z92 (h : A) (g : Hd A → B := by intro zz; refine Z91 ?_; refine Z6 ?_; exact zz.o) : B := g ⟨h⟩
theorem Z93 (h : A) (g : Hd A → B := by intro zz; refine Z15 ?_; refine Z1 ?_; exact zz.o) : B := g ⟨h⟩
theorem Z94 (h : A) (g : Hd A → B := by intro zz; refine Z93 ?_; refine Z50 ?_; exact zz.o) : B := g ⟨h⟩
theorem Z95 (h : A) (g : Hd A → B := by intro zz; refine Z3 ?_; refine Z3 ?_; exact zz.o) : B := g ⟨h⟩
theorem Z96 (h : A) (g : Hd A → B := by intro zz; refine Z2 ?_; refine Z13 ?_; exact zz.o) : B := g ⟨h⟩
theorem Z97 (h : A) (g : Hd A → B := by intro zz; refine Z2 ?_; refine Z32 ?_; exact zz.o) : B := g ⟨h⟩
theorem Z98 (h : A) (g : Hd A → B := by intro zz; refine Z20 ?_; refine Z23 ?_; exact zz.o) : B := g ⟨h⟩
theorem Z99 (h : A) (g : Hd A → B := by intro zz; refine Z34 ?_; refine Z3 ?_; exact zz.o) : B := g ⟨h⟩
theorem Z100 (h : A) (g : Hd A → B := by intro zz; refine Z5 ?_; refine Z90 ?_; exact zz.o) : B := g ⟨h⟩
theorem Z101 (h : A) (g : Hd A → B := by intro zz; refine Z5 ?_; refine Z1 ?_; exact zz.o) : B := g ⟨h⟩
theorem Z102 (h : A) (g : Hd A → B := by intro zz; refine Z97 ?_; refine Z4 ?_; exact zz.o) : B := g ⟨h⟩
theorem Z103 (h : A) (g : Hd A → B := by intro zz; refine Z2 ?_; refine Z33 ?_; exact zz.o) : B := g ⟨h⟩
theorem Z104 (h : A) (g : Hd A → B := by intro zz; refine Z27 ?_; refine Z30 ?_; exact zz.o) : B := g ⟨h⟩
theorem Z105 (h : A) (g : Hd A → B := by intro zz; refine Z1 ?_; refine Z41 ?_; exact zz.o) : B := g ⟨h⟩
theorem Z106 (h : A) (g : Hd A → B := by intro zz; refine Z5 ?_; refine Z44 ?_; exact zz.o) : B := g ⟨h⟩
theorem Z107 (h : A) (g : Hd A → B := by intro zz; refine Z106 ?_; refine Z35 ?_; exact zz.o) : B := g ⟨h⟩
theorem Z108 (h : A) (g : Hd A → B := by intro zz; refine Z1 ?_; refine Z1 ?_; exact zz.o) : B := g ⟨h⟩
theorem Z109 (h : A) (g : Hd A → B := by intro zz; refine Z42 ?_; refine Z51 ?_; exact zz.o) : B := g ⟨h⟩
theorem Z110 (h : A) (g : Hd A → B := by intro zz; refine Z92 ?_; refine Z84 ?_; exact zz.o) : B := g ⟨h⟩
theorem Z111 (h : A) (g : Hd A → B := by intro zz; refine Z16 ?_; refine Z12 ?_; exact zz.o) : B := g ⟨h⟩
theorem Z112 (h : A) (g : Hd A → B := by intro zz; refine Z99 ?_; refine Z26 ?_; exact zz.o) : B := g ⟨h⟩
theorem Z113 (h : A) (g : Hd A → B := by intro zz; refine Z1 ?_; refine Z28 ?_; exact zz.o) : B := g ⟨h⟩
theorem Z114 (h : A) (g : Hd A → B := by intro zz; refine Z18 ?_; refine Z85 ?_; exact zz.o) : B := g ⟨h⟩
theorem Z115 (h : A) (g : Hd A → B := by intro zz; refine Z87 ?_; refine Z87 ?_; exact zz.o) : B := g ⟨h⟩
theorem Z116 (h : A) (g : Hd A → B := by intro zz; refine Z2 ?_; refine Z12 ?_; exact zz.o) : B := g ⟨h⟩
theorem Z117 (h : A) (g : Hd A → B := by intro zz; refine Z36 ?_; refine Z22 ?_; exact zz.o) : B := g ⟨h⟩
theorem Z118 (h : A) (g : Hd A → B := by intro zz; refine Z109 ?_; refine Z31 ?_; exact zz.o) : B := g ⟨h⟩
theorem Y0 (g : A := by exact en (by exact rfl) rfl) : A := g
theorem Y1 (g : A := by exact en (by exact rfl) (by kernel_rfl)) : A := g
theorem Y2 (g : A := by exact toL (hn _ (acc, z + 1) ⟨hg.trans hgd, Nat.le_succ_of_le hal, han, hat⟩ (by dsimp only; omega) (le_of (hm := mleG rfl)))) : A := g
theorem Y3 (g : A := by exact toL (hn _ (z + 1) hlt (by omega) le_of)) : A := g
theorem Y4 (g : A := by exact enx (by exact rfl) rfl) : A := g
theorem Y5 (g : A := by exact fin1 (by simp) ⟨idxL_found hz2 hx hb1, rfl⟩) : A := g
theorem Y6 (g : A := by exact fin1 (by simp) ⟨idxL_none (hge ▸ hz2), rfl⟩) : A := g
theorem Y7 (g : A := by exact gPan (by rw [hkd]; simp only [Except.bind]; rw [hcq, callQ, if_neg hst, if_neg hit, if_pos hle]; rfl)) : A := g
theorem Y8 (g : A := by exact enm (by exact rfl) rfl (msame rfl)) : A := g
theorem Y9 (g : A := by exact ⟨by rw [rule157, if_pos hn]; simp only [Tr.kids_mk] at hb1 ⊢; simp at hb1; simp [hb1], rfl⟩) : A := g
theorem Y10 (g : A := by exact toL (hn' _ (_ ++ [.str t], z + 1) (argsI_ok hy hkz h30' ht) (by dsimp only; omega) le_of)) : A := g
theorem Y11 (g : A := by exact gPan (by rw [hkd]; simp only [Except.bind]; rw [hcq, callQ, if_neg hst, if_pos hit]; rfl)) : A := g
theorem Y12 (g : A := by exact enm (by exact rfl) rfl (mm1 rfl)) : A := g
theorem Y13 (g : A := by exact toL (hn _ (_ ++ [.str t], z + 1) (kidsI_ok hy hkz ht) (by dsimp only; omega) le_of)) : A := g
theorem Y14 (g : A := by exact enx (by exact rfl) (by rw [hkd]; simp only [Except.bind, opE, if_neg h0, outT])) : A := g
theorem Y15 (g : A := by exact toL (hn _ (z + 1) (idxL_step hz hgx (eq_false_of_ne_true hx)) (by omega) le_of)) : A := g
theorem Y16 (g : A := by exact toL (hn _ (_ ++ [x.d], z + 1) ⟨hstep x hgx, hlt⟩ (by dsimp only; omega) le_of)) : A := g
end Go.Proofs.Ytklkbfpjimeaoaa
namespace Go.Proofs.Ytklkbfpjimeaoaa
open Go Go.Proofs.Ytklkbfpjimeaoaa.E
inductive Tr where
 | mk (op : Int) (name : ByteArray) (num : Int) (kids : List Tr)
mutual
def Tr.d : Tr → D
 | .mk op name num kids => .agg [.int .i64 op, .str name, .int .i64 num, .sl (Tr.ds kids)]
def Tr.ds : List Tr → List D
 | [] => []
 | k :: ks => k.d :: Tr.ds ks
end
theorem Tr.ds_map : ∀ ks : List Tr, Tr.ds ks = ks.map Tr.d
 | [] => rfl
 | k :: ks => by rw [Tr.ds, Tr.ds_map ks]; rfl
theorem Tr.d_mk (op : Int) (name : ByteArray) (num : Int) (kids : List Tr) : (Tr.mk op name num kids).d = .agg [.int .i64 op, .str name, .int .i64 num, .sl (kids.map Tr.d)] := by rw [Tr.d, Tr.ds_map]
theorem Tr.d_agg (t : Tr) : ∃ op name num kids, t.d = .agg [.int .i64 op, .str name, .int .i64 num, .sl (List.map Tr.d kids)] := by
 obtain ⟨op, name, num, kids⟩ := t; exact ⟨op, name, num, kids, Tr.d_mk ..⟩
theorem Tr.d_cells (t : Tr) : t.d.cells.length = 4 := by obtain ⟨op, name, num, kids⟩ := t; rw [Tr.d_mk]; rfl
theorem Tr.ds_cells (ks : List Tr) : ∀ x ∈ ks.map Tr.d, x.cells.length = 4 := fun x hx => by
 obtain ⟨t, _, rfl⟩ := List.mem_map.1 hx; exact t.d_cells
variable {z : Nat}
theorem Tr.ds_get {ks : List Tr} {k : Tr} (h : ks[z]? = some k) : (ks.map Tr.d)[z]? = some k.d := by rw [List.getElem?_map, h]; rfl
mutual
def Tr.size : Tr → Nat
 | .mk _ _ _ ks => 1 + Tr.sizes ks
def Tr.sizes : List Tr → Nat
 | [] => 0
 | k :: ks => k.size + Tr.sizes ks
end
theorem Tr.size_mem : ∀ {ks : List Tr} {k : Tr}, k ∈ ks → k.size ≤ Tr.sizes ks
 | x :: r, k, h => by
  rw [Tr.sizes]
  rcases List.mem_cons.1 h with rfl | h
  · omega
  · have := Tr.size_mem h; omega
theorem Tr.size_pos (t : Tr) : 1 ≤ t.size := by obtain ⟨op, name, num, ks⟩ := t; rw [Tr.size]; omega
theorem Tr.len_sizes : ∀ ks : List Tr, ks.length ≤ Tr.sizes ks
 | [] => by simp
 | k :: ks => by rw [Tr.sizes, List.length_cons]; have := Tr.len_sizes ks; have := k.size_pos; omega
inductive Tr.Ok : Tr → Prop
 | mk {op : Int} {name : ByteArray} {num : Int} {ks : List Tr} (h1 : (Lit.int .i64 op).wf = true) (h2 : name.size ≤ 140737488355328) (h3 : (Lit.int .i64 num).wf = true) (h4 : ks.length ≤ 140737488355328) (h5 : ∀ k ∈ ks, Tr.Ok k) : Tr.Ok (.mk op name num ks)
mutual
def Tr.cnt : Tr → Int → Int
 | .mk _ _ _ ks, m => Tr.cnts ks 1 m
def Tr.cnts : List Tr → Int → Int → Int
 | [], n, _ => n
 | k :: ks, n, m => if n > m then n else Tr.cnts ks (n + k.cnt (m - n)) m
end
mutual
theorem Tr.cnt_bd : ∀ (t : Tr) (m : Int), 0 ≤ m → 1 ≤ t.cnt m ∧ t.cnt m ≤ m + 1
 | .mk _ _ _ ks, m, h => by rw [Tr.cnt]; exact Tr.cnts_bd ks 1 m h (by omega)
theorem Tr.cnts_bd : ∀ (ks : List Tr) (n m : Int), 0 ≤ m → n ≤ m + 1 → n ≤ Tr.cnts ks n m ∧ Tr.cnts ks n m ≤ m + 1
 | [], n, m, h, h2 => by rw [Tr.cnts]; omega
 | k :: ks, n, m, h, h2 => by
  rw [Tr.cnts]
  split
  · omega
  · have h3 := Tr.cnt_bd k (m - n) (by omega)
    have h4 := Tr.cnts_bd ks (n + k.cnt (m - n)) m h (by omega)
    omega
end
mutual
theorem Tr.cnt_eq : ∀ (t : Tr) (m : Int), 0 ≤ m → t.cnt m ≤ m → t.cnt m = t.size
 | .mk _ _ _ ks, m, h, h2 => by
  rw [Tr.cnt] at h2 ⊢
  rw [Tr.cnts_eq ks 1 m h (by omega) h2, Tr.size]; omega
theorem Tr.cnts_eq : ∀ (ks : List Tr) (n m : Int), 0 ≤ m → n ≤ m + 1 → Tr.cnts ks n m ≤ m → Tr.cnts ks n m = n + Tr.sizes ks
 | [], n, m, h, h2, h3 => by rw [Tr.cnts, Tr.sizes]; omega
 | k :: ks, n, m, h, h2, h3 => by
  rw [Tr.cnts] at h3 ⊢
  split at h3
  · omega
  · rename_i hn
    rw [if_neg hn]
    have h4 := Tr.cnt_bd k (m - n) (by omega)
    have h5 := Tr.cnts_bd ks (n + k.cnt (m - n)) m h (by omega)
    rw [Tr.cnts_eq ks _ m h (by omega) h3, Tr.cnt_eq k (m - n) (by omega) (by omega), Tr.sizes]
    omega
end
theorem Tr.cnts_stop (ks : List Tr) {n m : Int} (h : n > m) : Tr.cnts ks n m = n := by
 cases ks with
 | nil => rw [Tr.cnts]
 | cons k ks => rw [Tr.cnts, if_pos h]
theorem Tr.cnts_drop {ks : List Tr} {k : Tr} (h : ks[z]? = some k) (n m : Int) (hn : ¬ n > m) : Tr.cnts (ks.drop z) n m = Tr.cnts (ks.drop (z + 1)) (n + k.cnt (m - n)) m := by
 obtain ⟨hlt, rfl⟩ := List.getElem?_eq_some_iff.1 h
 rw [List.drop_eq_getElem_cons hlt, Tr.cnts, if_neg hn]
mutual
def Tr.long : Tr → Bool
 | .mk _ name _ ks => decide ((name.size : Int) > 300) || Tr.longs ks
def Tr.longs : List Tr → Bool
 | [] => false
 | k :: ks => k.long || Tr.longs ks
end
theorem Tr.longs_any : ∀ ks : List Tr, Tr.longs ks = ks.any Tr.long
 | [] => rfl
 | k :: ks => by rw [Tr.longs, Tr.longs_any ks]; rfl
theorem Tr.long_mk (op : Int) (name : ByteArray) (num : Int) (ks : List Tr) : (Tr.mk op name num ks).long = (decide ((name.size : Int) > 300) || ks.any Tr.long) := by rw [Tr.long, Tr.longs_any]
def idxL {α : Type} (p : α → Bool) (xs : List α) : Int := match xs.findIdx? p with | some i => i | none => -1
theorem idxL_step {α : Type} {p : α → Bool} {xs : List α} {x : α} (h : ∀ i, i < z → ∀ y, xs[i]? = some y → p y = false) (hx : xs[z]? = some x) (hb : p x = false) : ∀ i, i < z + 1 → ∀ y, xs[i]? = some y → p y = false := fun i hi y hy => by
 by_cases hiz : i = z
 · subst hiz; rw [hx] at hy; injection hy with hy; subst hy; exact hb
 · exact h i (by omega) y hy
theorem idxL_found {α : Type} {p : α → Bool} {xs : List α} {x : α} (h : ∀ i, i < z → ∀ y, xs[i]? = some y → p y = false) (hx : xs[z]? = some x) (hb : p x = true) : PV.d (.int .i64 (z : Nat)) = PV.d (.int .i64 (idxL p xs)) := by
 have hlt := (lG hx)
 have hxe : xs[z] = x := by rw [gE hlt] at hx; injection hx
 have : xs.findIdx? p = some z := by
  rw [List.findIdx?_eq_some_iff_getElem]
  exact ⟨hlt, by rw [hxe]; exact hb, fun j hj => by simpa using h j hj xs[j] (gE (by omega))⟩
 simp [idxL, this]
theorem idxL_none {α : Type} {p : α → Bool} {xs : List α} (h : ∀ i, i < xs.length → ∀ y, xs[i]? = some y → p y = false) : PV.d (.int .i64 (-1)) = PV.d (.int .i64 (idxL p xs)) := by
 have : xs.findIdx? p = none := by
  rw [List.findIdx?_eq_none_iff]
  intro x hx
  obtain ⟨i, hi⟩ := List.getElem?_of_mem hx
  exact h i (lG hi) x hi
 simp [idxL, this]
variable {α : Type}
theorem idxL_any (p : α → Bool) (xs : List α) : decide (idxL p xs ≥ 0) = xs.any p := by
 unfold idxL
 cases h : xs.findIdx? p with
 | none =>
  rw [List.findIdx?_eq_none_iff] at h
  simp; exact h
 | some i =>
  rw [List.findIdx?_eq_some_iff_getElem] at h
  obtain ⟨h1, h2, _⟩ := h
  have : xs.any p = true := by rw [List.any_eq_true]; exact ⟨xs[i], List.getElem_mem h1, h2⟩
  rw [this]; simp
def Tr.op : Tr → Int
 | .mk op _ _ _ => op
def Tr.nm : Tr → ByteArray
 | .mk _ nm _ _ => nm
def Tr.nu : Tr → Int
 | .mk _ _ nu _ => nu
def Tr.kids : Tr → List Tr
 | .mk _ _ _ ks => ks
theorem Tr.op_mk (op : Int) (nm : ByteArray) (nu : Int) (ks : List Tr) : (Tr.mk op nm nu ks).op = op := rfl
theorem Tr.nm_mk (op : Int) (nm : ByteArray) (nu : Int) (ks : List Tr) : (Tr.mk op nm nu ks).nm = nm := rfl
theorem Tr.nu_mk (op : Int) (nm : ByteArray) (nu : Int) (ks : List Tr) : (Tr.mk op nm nu ks).nu = nu := rfl
theorem Tr.kids_mk (op : Int) (nm : ByteArray) (nu : Int) (ks : List Tr) : (Tr.mk op nm nu ks).kids = ks := rfl
def isExprB (op : Int) : Bool := decide (op ≥ 1) && decide (op ≤ 19) && (op != 3)
def isStmtB (op : Int) : Bool := decide (op ≥ 50) && decide (op ≤ 66)
theorem c74 (op : Int) : Pf Try.prog 30 [.int .i64 op] (.d (.bool (isExprB op))) := by
 refine pf_body (rvs := [.tmp 2]) [(0, .d (.int .i64 op))] Try.func30 Try.ntmps30 Try.results30 (fun S0 O0 w0 m0 hm0 => ?_)
 refine Z100 ?_;refine Z58 ?_;refine Z113 ?_
 refine sg rfl (fun hg => sP 6 rfl hg q_leq) ?_
 refine Z18 ?_;refine Z113 ?_
 refine sg rfl (fun hg => sP 10 rfl hg q_neq) ?_
 refine Z114 ?_
 exact ⟨by simp [isExprB, Bool.and_assoc], rfl⟩
theorem c95 (op : Int) : Pf Try.prog 47 [.int .i64 op] (.d (.bool (isStmtB op))) := by
 refine pf_body (rvs := [.tmp 2]) [(0, .d (.int .i64 op))] Try.func47 Try.ntmps47 Try.results47 (fun S0 O0 w0 m0 hm0 => ?_)
 refine Z100 ?_;refine Z58 ?_;refine Z113 ?_
 refine sg rfl (fun hg => sP 6 rfl hg q_leq) ?_
 refine Z114 ?_
 exact ⟨by simp [isStmtB], rfl⟩
theorem c125 (ts : List Tr) (g : FuncId) (fa fc : List D) (p : Tr → Bool) (hlim : ts.length ≤ 140737488355328)
 (hcb : ∀ x ∈ ts, Pf Try.prog g (fa ++ [x.d] ++ fc) (.d (.bool (p x)))) : Pf Try.prog 42 [.sl (ts.map Tr.d), .fn (.func g) fa fc] (.d (.int .i64 (idxL p ts))) := by
 refine pf_body (rvs := [.tmp 4]) [(0, .d (.sl (ts.map Tr.d))), (1, .d (.fn (.func g) fa fc))] Try.func42 Try.ntmps42 Try.results42 (fun S0 O0 w0 m0 hm0 => ?_)
 refine Z5 ?_;refine Z96 ?_;refine Z1 ?_;refine Z39 ?_;refine Z105 ?_
 refine g_loop (α := Nat) (fun z => ⟨[(8, .d (.int .i64 (z : Nat))), (7, .d (.int .i64 ((ts.map Tr.d).length : Nat))), (6, .d (.sl (ts.map Tr.d))), (1, .d (.fn (.func g) fa fc)), (0, .d (.sl (ts.map Tr.d)))], []⟩) (fun z => ts.length - z) (fun z => z ≤ ts.length ∧ ∀ i, i < z → ∀ x, ts[i]? = some x → p x = false) 0 ⟨Nat.zero_le _, by simp⟩ (fun z hz Q' hn0 he0 hr0 => ?_) (le_of)
 obtain ⟨hz1, hz2⟩ := hz
 refine Z107 ?_
 refine zgC ?_ ?_ <;> intro hb0
 ·
  have hlt : z < ts.length := by simpa using hb0
  obtain ⟨x, hx⟩ : ∃ x, ts[z]? = some x := ⟨_, gE hlt⟩
  have hmem := mG hx
  have hxd := Tr.ds_get hx
  have hcx := hcb x hmem
  obtain ⟨op, name, num, kids⟩ := x
  rw [Tr.d_mk] at hxd hcx
  refine Z25 ?_;refine Z1 ?_;refine Z90 ?_;refine Z108 ?_;refine Z68 ?_
  first | refine sv rfl (y_load_agg sz27 u27 rfl) ?_ | refine vq rfl (qG (by exact sz27) u27 rfl) ?_
  refine gL (xs := [.tmp 15]) rfl (hcx) ?_
  refine Z12 ?_
  refine zgC ?_ ?_ <;> intro hb1
  ·
   refine Z101 ?_;refine Z103 ?_;refine Z70 ?_;refine Z67 ?_
   exact Y5
  refine Z71 ?_;refine Z94 ?_
  refine hn0 _ (z + 1) ⟨by omega, idxL_step hz2 hx hb1⟩ (by omega) le_of
 have hge : z = ts.length := by
  have : ¬ (z : Int) < (ts.map Tr.d).length := by simpa using hb0
  rw [List.length_map] at this
  omega
 refine Z118 ?_;refine Z83 ?_
 exact Y6
theorem c52 (ts : List Tr) (g : FuncId) (fa fc : List D) (p : Tr → Bool) (hlim : ts.length ≤ 140737488355328)
 (hcb : ∀ x ∈ ts, Pf Try.prog g (fa ++ [x.d] ++ fc) (.d (.bool (p x)))) : Pf Try.prog 20 [.sl (ts.map Tr.d), .fn (.func g) fa fc] (.d (.bool (ts.any p))) := by
 refine pf_body (rvs := [.tmp 4]) [(0, .d (.sl (ts.map Tr.d))), (1, .d (.fn (.func g) fa fc))] Try.func20 Try.ntmps20 Try.results20 (fun S0 O0 w0 m0 hm0 => ?_)
 refine Z100 ?_;refine Z1 ?_
 refine gL (xs := [.tmp 5, .tmp 6]) rfl (c125 ts g fa fc p hlim hcb) ?_
 refine Z58 ?_;refine Z85 ?_
 exact ⟨by rw [idxL_any], rfl⟩
theorem c68n : ∀ (n : Nat) (t : Tr), t.size ≤ n → t.Ok → Pf Try.prog 21 [t.d] (.d (.bool t.long)) := by
 intro n
 induction n with
 | zero => intro t h; exact absurd t.size_pos (by omega)
 | succ n ih =>
  intro t hsz hok
  obtain ⟨op, name, num, ks⟩ := t
  have hkd : ∀ k ∈ ks, k.size ≤ n := fun k hk => by
   have := Tr.size_mem hk
   rw [Tr.size] at hsz
   omega
  rw [Tr.d_mk]
  cases hok with | mk h1 h2 h3 h4 h5 =>
  refine pf_body (rvs := [.tmp 2]) [(0, .d (.agg [.int .i64 op, .str name, .int .i64 num, .sl (ks.map Tr.d)]))] Try.func21 Try.ntmps21 Try.results21 (fun S0 O0 w0 m0 hm0 => ?_)
  refine Z110 ?_
  first | refine vq rfl (q_fieldAddr u27 rfl sz9) ?_ | refine vq rfl (qF u27 rfl sz9) ?_
  first | refine sv rfl (y_load_leaf u9) ?_ | refine vq rfl (qL u9) ?_
  refine Z56 ?_;refine Z63 ?_;refine Z1 ?_
  first | refine sg rfl (fun hg => q_fieldAddr u27 rfl sz22) ?_ | refine sg rfl (fun hg => qF u27 rfl sz22) ?_
  first | refine sg rfl (fun hg => sP 8 rfl hg (qO u22)) ?_ | refine sg rfl (fun hg => sP 8 rfl hg (qL u22)) ?_
  refine g_callg (xs := [.tmp 9, .func 21]) rfl (fun hg => c52 ks 21 [] [] Tr.long h4 (fun x hx => ih x (hkd x hx) (h5 x hx))) ?_
  refine Z16 ?_;refine Z85 ?_
  exact ⟨by rw [Tr.long_mk], rfl⟩
theorem c21n : ∀ (n : Nat) (t : Tr), t.size ≤ n → t.Ok → ∀ most : Int, 0 ≤ most → most ≤ 1000000 → Pf Try.prog 26 [t.d, .int .i64 most] (.d (.int .i64 (t.cnt most))) := by
 intro n
 induction n with
 | zero => intro t h; exact absurd t.size_pos (by omega)
 | succ n ih =>
  intro t hsz hok most hm0' hm1'
  obtain ⟨op, name, num, ks⟩ := t
  have hkd : ∀ k ∈ ks, k.size ≤ n := fun k hk => by
   have := Tr.size_mem hk
   rw [Tr.size] at hsz
   omega
  rw [Tr.d_mk]
  cases hok with | mk h1 h2 h3 h4 h5 =>
  refine pf_body (rvs := [.tmp 4]) [(0, .d (.agg [.int .i64 op, .str name, .int .i64 num, .sl (ks.map Tr.d)])), (1, .d (.int .i64 most))] Try.func26 Try.ntmps26 Try.results26 (fun S0 O0 w0 m0 hm0 => ?_)
  refine Z110 ?_;refine Z96 ?_
  first | refine vq rfl (q_fieldAddr u27 rfl sz22) ?_ | refine vq rfl (qF u27 rfl sz22) ?_
  first | refine sv rfl (y_load_leaf u22) ?_ | refine vq rfl (qL u22) ?_
  refine Z39 ?_;refine Z105 ?_
  refine g_loop (α := Nat × Int) (fun z => ⟨[(11, .d (.int .i64 (z.1 : Nat))), (10, .d (.int .i64 ((ks.map Tr.d).length : Nat))), (9, .d (.sl (ks.map Tr.d))), (5, .d (.int .i64 z.2)), (1, .d (.int .i64 most))], []⟩) (fun z => ks.length - z.1) (fun z => z.1 ≤ ks.length ∧ 1 ≤ z.2 ∧ z.2 ≤ most + 1 ∧ Tr.cnts (ks.drop z.1) z.2 most = Tr.cnts ks 1 most) (0, 1) ⟨Nat.zero_le _, by show (1 : Int) ≤ 1; omega, by show (1 : Int) ≤ most + 1; omega, rfl⟩ (fun z hz Q' hn0 he0 hr0 => ?_) (le_of)
  obtain ⟨z, c⟩ := z
  obtain ⟨hz1, hc1, hc2, hc3⟩ := hz
  replace hz1 : z ≤ ks.length := hz1
  replace hc1 : 1 ≤ c := hc1
  replace hc2 : c ≤ most + 1 := hc2
  replace hc3 : Tr.cnts (ks.drop z) c most = Tr.cnts ks 1 most := hc3
  refine Z107 ?_
  refine zgC ?_ ?_ <;> intro hb0
  ·
   have hlt : z < ks.length := by simpa using hb0
   obtain ⟨k, hk⟩ : ∃ k, ks[z]? = some k := ⟨_, gE hlt⟩
   have hmem := mG hk
   have hxd := Tr.ds_get hk
   have hxa := hxd
   obtain ⟨kop, knm, knu, kks, hka⟩ := k.d_agg
   rw [hka] at hxa
   refine Z25 ?_;refine Z68 ?_
   first | refine sv rfl (y_load_agg sz27 u27 rfl) ?_ | refine vq rfl (qG (by exact sz27) u27 rfl) ?_
   refine Z62 ?_
   first | refine sa rfl (dS sz27) ?_ | refine sa rfl (d_store_take sz27) ?_
   refine Z48 ?_;refine Z13 ?_;refine Z108 ?_;refine Z63 ?_;refine Z12 ?_
   refine zgC ?_ ?_ <;> intro hb1
   ·
    have hnn : c > most := by simpa using hb1
    refine G_exit (thn_exit (blk_other (by decide) (thn_exit ?_)))
    refine Z51 ?_;refine Z31 ?_;refine Z1 ?_;refine Z85 ?_
    exact ⟨by rw [Tr.cnt, ← hc3, Tr.cnts_stop _ hnn], rfl⟩
   have hnn : ¬ c > most := by simpa using hb1
   have hbd := Tr.cnt_bd k (most - c) (by omega)
   refine gK (tN (gR ?_))
   refine Z1 ?_
   first | refine sv rfl (y_load_agg sz27 u27 rfl) ?_ | refine vq rfl (qG (by exact sz27) u27 rfl) ?_
   refine Z108 ?_
   refine vq rfl q_sub ?_
   refine gL (xs := [.tmp 19, .tmp 22]) rfl ((hka ▸ ih k (hkd k hmem) (h5 k hmem) (most - c) (by omega) (by omega))) ?_
   refine Z15 ?_;refine Z2 ?_
   refine gN (bN (tN ?_))
   refine gP [0, 1, 2, 4, 5, 7, 9, 10, 11] ?_
   refine Z22 ?_;refine Z94 ?_
   refine hn0 _ (z + 1, c + k.cnt (most - c)) ⟨by show z + 1 ≤ ks.length; omega, by show 1 ≤ c + k.cnt (most - c); omega, by show c + k.cnt (most - c) ≤ most + 1; omega, by show Tr.cnts (ks.drop (z + 1)) (c + k.cnt (most - c)) most = _; rw [← Tr.cnts_drop hk c most hnn]; exact hc3⟩ (by show ks.length - (z + 1) < ks.length - z; omega) le_of
  have hge : z = ks.length := by
   have : ¬ (z : Int) < (ks.map Tr.d).length := by simpa using hb0
   rw [List.length_map] at this
   omega
  refine Z118 ?_;refine Z1 ?_;refine Z85 ?_
  exact ⟨by rw [Tr.cnt, ← hc3, hge, List.drop_length, Tr.cnts], rfl⟩
def Tr.few (t : Tr) (most : Int) : Bool := !(decide (Tr.cnts [t] 0 most > most) || t.long)
end Go.Proofs.Ytklkbfpjimeaoaa
