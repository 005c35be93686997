/- The sizes and zeros of the types that the walks name. Conditions: none. -/
import Derived.Test.YtphfdmagkgpgfaaProg
import Derived.KernelRfl
import Derived.Test.YtphfdmagkgpgfaaE21
namespace Go.Proofs.Ytphfdmagkgpgfaa
open Go
theorem inf3 : (Try.prog.info? 3).map (fun i => (i.zero, i.size, i.bytes)) = some (some (.int .i64 0), 1, 8) := by kernel_rfl
theorem sz3 : (Try.prog.info? 3).map (·.size) = some 1 := by kernel_rfl
theorem zr3 : (Try.prog.info? 3).map (·.zero) = some (some (.int .i64 0)) := by kernel_rfl
theorem inf4 : (Try.prog.info? 4).map (fun i => (i.zero, i.size, i.bytes)) = some (some (.bool false), 1, 1) := by kernel_rfl
theorem sz4 : (Try.prog.info? 4).map (·.size) = some 1 := by kernel_rfl
theorem zr4 : (Try.prog.info? 4).map (·.zero) = some (some (.bool false)) := by kernel_rfl
theorem inf9 : (Try.prog.info? 9).map (fun i => (i.zero, i.size, i.bytes)) = some (some (.string ⟨#[]⟩), 1, 16) := by kernel_rfl
theorem sz9 : (Try.prog.info? 9).map (·.size) = some 1 := by kernel_rfl
theorem zr9 : (Try.prog.info? 9).map (·.zero) = some (some (.string ⟨#[]⟩)) := by kernel_rfl
theorem inf22 : (Try.prog.info? 22).map (fun i => (i.zero, i.size, i.bytes)) = some (some (.slice none 0 0), 1, 24) := by kernel_rfl
theorem sz22 : (Try.prog.info? 22).map (·.size) = some 1 := by kernel_rfl
theorem zr22 : (Try.prog.info? 22).map (·.zero) = some (some (.slice none 0 0)) := by kernel_rfl
theorem inf24 : (Try.prog.info? 24).map (fun i => (i.zero, i.size, i.bytes)) = some (some (.agg #[.int .i64 0, .string ⟨#[]⟩, .int .i64 0, .slice none 0 0]), 4, 56) := by kernel_rfl
theorem sz24 : (Try.prog.info? 24).map (·.size) = some 4 := by kernel_rfl
theorem zr24 : (Try.prog.info? 24).map (·.zero) = some (some (.agg #[.int .i64 0, .string ⟨#[]⟩, .int .i64 0, .slice none 0 0])) := by kernel_rfl
theorem inf31 : (Try.prog.info? 31).map (fun i => (i.zero, i.size, i.bytes)) = some (some (.slice none 0 0), 1, 24) := by kernel_rfl
theorem sz31 : (Try.prog.info? 31).map (·.size) = some 1 := by kernel_rfl
theorem zr31 : (Try.prog.info? 31).map (·.zero) = some (some (.slice none 0 0)) := by kernel_rfl
theorem inf34 : (Try.prog.info? 34).map (fun i => (i.zero, i.size, i.bytes)) = some (some (.agg #[.string ⟨#[]⟩, .int .i64 0, .bool false]), 3, 32) := by kernel_rfl
theorem sz34 : (Try.prog.info? 34).map (·.size) = some 3 := by kernel_rfl
theorem zr34 : (Try.prog.info? 34).map (·.zero) = some (some (.agg #[.string ⟨#[]⟩, .int .i64 0, .bool false])) := by kernel_rfl
theorem inf41 : (Try.prog.info? 41).map (fun i => (i.zero, i.size, i.bytes)) = some (some (.agg #[.string ⟨#[]⟩, .int .i64 0, .bool false]), 3, 32) := by kernel_rfl
theorem sz41 : (Try.prog.info? 41).map (·.size) = some 3 := by kernel_rfl
theorem zr41 : (Try.prog.info? 41).map (·.zero) = some (some (.agg #[.string ⟨#[]⟩, .int .i64 0, .bool false])) := by kernel_rfl
theorem inf48 : (Try.prog.info? 48).map (fun i => (i.zero, i.size, i.bytes)) = some (some (.agg #[.int .i64 0, .int .i64 0, .int .i64 0, .int .i64 0, .int .i64 0, .string ⟨#[]⟩]), 6, 56) := by kernel_rfl
theorem sz48 : (Try.prog.info? 48).map (·.size) = some 6 := by kernel_rfl
theorem zr48 : (Try.prog.info? 48).map (·.zero) = some (some (.agg #[.int .i64 0, .int .i64 0, .int .i64 0, .int .i64 0, .int .i64 0, .string ⟨#[]⟩])) := by kernel_rfl
theorem inf61 : (Try.prog.info? 61).map (fun i => (i.zero, i.size, i.bytes)) = some (some (.int .u64 0), 1, 8) := by kernel_rfl
theorem sz61 : (Try.prog.info? 61).map (·.size) = some 1 := by kernel_rfl
theorem zr61 : (Try.prog.info? 61).map (·.zero) = some (some (.int .u64 0)) := by kernel_rfl
theorem inf63 : (Try.prog.info? 63).map (fun i => (i.zero, i.size, i.bytes)) = some (some (.agg #[.int .i64 0, .int .i64 0, .int .i64 0, .int .i64 0, .int .i64 0, .string ⟨#[]⟩]), 6, 56) := by kernel_rfl
theorem sz63 : (Try.prog.info? 63).map (·.size) = some 6 := by kernel_rfl
theorem zr63 : (Try.prog.info? 63).map (·.zero) = some (some (.agg #[.int .i64 0, .int .i64 0, .int .i64 0, .int .i64 0, .int .i64 0, .string ⟨#[]⟩])) := by kernel_rfl
theorem inf69 : (Try.prog.info? 69).map (fun i => (i.zero, i.size, i.bytes)) = some (some (.slice none 0 0), 1, 24) := by kernel_rfl
theorem sz69 : (Try.prog.info? 69).map (·.size) = some 1 := by kernel_rfl
theorem zr69 : (Try.prog.info? 69).map (·.zero) = some (some (.slice none 0 0)) := by kernel_rfl
theorem inf71 : (Try.prog.info? 71).map (fun i => (i.zero, i.size, i.bytes)) = some (some (.agg #[.slice none 0 0, .slice none 0 0]), 2, 48) := by kernel_rfl
theorem sz71 : (Try.prog.info? 71).map (·.size) = some 2 := by kernel_rfl
theorem zr71 : (Try.prog.info? 71).map (·.zero) = some (some (.agg #[.slice none 0 0, .slice none 0 0])) := by kernel_rfl
theorem inf79 : (Try.prog.info? 79).map (fun i => (i.zero, i.size, i.bytes)) = some (some (.slice none 0 0), 1, 24) := by kernel_rfl
theorem sz79 : (Try.prog.info? 79).map (·.size) = some 1 := by kernel_rfl
theorem zr79 : (Try.prog.info? 79).map (·.zero) = some (some (.slice none 0 0)) := by kernel_rfl
theorem inf84 : (Try.prog.info? 84).map (fun i => (i.zero, i.size, i.bytes)) = some (some (.agg #[.string ⟨#[]⟩, .string ⟨#[]⟩]), 2, 32) := by kernel_rfl
theorem sz84 : (Try.prog.info? 84).map (·.size) = some 2 := by kernel_rfl
theorem zr84 : (Try.prog.info? 84).map (·.zero) = some (some (.agg #[.string ⟨#[]⟩, .string ⟨#[]⟩])) := by kernel_rfl
theorem inf85 : (Try.prog.info? 85).map (fun i => (i.zero, i.size, i.bytes)) = some (some (.agg #[.string ⟨#[]⟩, .string ⟨#[]⟩, .string ⟨#[]⟩, .string ⟨#[]⟩, .string ⟨#[]⟩, .string ⟨#[]⟩, .string ⟨#[]⟩, .string ⟨#[]⟩, .string ⟨#[]⟩, .string ⟨#[]⟩, .string ⟨#[]⟩, .string ⟨#[]⟩, .string ⟨#[]⟩, .string ⟨#[]⟩, .string ⟨#[]⟩, .string ⟨#[]⟩, .string ⟨#[]⟩, .string ⟨#[]⟩, .string ⟨#[]⟩, .string ⟨#[]⟩, .string ⟨#[]⟩, .string ⟨#[]⟩, .string ⟨#[]⟩, .string ⟨#[]⟩]), 24, 384) := by kernel_rfl
theorem sz85 : (Try.prog.info? 85).map (·.size) = some 24 := by kernel_rfl
theorem zr85 : (Try.prog.info? 85).map (·.zero) = some (some (.agg #[.string ⟨#[]⟩, .string ⟨#[]⟩, .string ⟨#[]⟩, .string ⟨#[]⟩, .string ⟨#[]⟩, .string ⟨#[]⟩, .string ⟨#[]⟩, .string ⟨#[]⟩, .string ⟨#[]⟩, .string ⟨#[]⟩, .string ⟨#[]⟩, .string ⟨#[]⟩, .string ⟨#[]⟩, .string ⟨#[]⟩, .string ⟨#[]⟩, .string ⟨#[]⟩, .string ⟨#[]⟩, .string ⟨#[]⟩, .string ⟨#[]⟩, .string ⟨#[]⟩, .string ⟨#[]⟩, .string ⟨#[]⟩, .string ⟨#[]⟩, .string ⟨#[]⟩])) := by kernel_rfl
theorem inf105 : (Try.prog.info? 105).map (fun i => (i.zero, i.size, i.bytes)) = some (some (.pointer none), 1, 8) := by kernel_rfl
theorem sz105 : (Try.prog.info? 105).map (·.size) = some 1 := by kernel_rfl
theorem zr105 : (Try.prog.info? 105).map (·.zero) = some (some (.pointer none)) := by kernel_rfl
theorem inf106 : (Try.prog.info? 106).map (fun i => (i.zero, i.size, i.bytes)) = some (some (.pointer none), 1, 8) := by kernel_rfl
theorem sz106 : (Try.prog.info? 106).map (·.size) = some 1 := by kernel_rfl
theorem zr106 : (Try.prog.info? 106).map (·.zero) = some (some (.pointer none)) := by kernel_rfl
theorem inf113 : (Try.prog.info? 113).map (fun i => (i.zero, i.size, i.bytes)) = some (some (.agg #[.string ⟨#[]⟩, .int .i64 0, .string ⟨#[]⟩, .int .i64 0, .slice none 0 0]), 5, 72) := by kernel_rfl
theorem sz113 : (Try.prog.info? 113).map (·.size) = some 5 := by kernel_rfl
theorem zr113 : (Try.prog.info? 113).map (·.zero) = some (some (.agg #[.string ⟨#[]⟩, .int .i64 0, .string ⟨#[]⟩, .int .i64 0, .slice none 0 0])) := by kernel_rfl
theorem inf124 : (Try.prog.info? 124).map (fun i => (i.zero, i.size, i.bytes)) = some (some (.agg #[.string ⟨#[]⟩, .pointer none, .pointer none]), 3, 32) := by kernel_rfl
theorem sz124 : (Try.prog.info? 124).map (·.size) = some 3 := by kernel_rfl
theorem zr124 : (Try.prog.info? 124).map (·.zero) = some (some (.agg #[.string ⟨#[]⟩, .pointer none, .pointer none])) := by kernel_rfl
theorem pl24 : E.structPl Try.prog 24 = some [(0, 1), (1, 1), (2, 1), (3, 1)] := by kernel_rfl
theorem pl34 : E.structPl Try.prog 34 = some [(0, 1), (1, 1), (2, 1)] := by kernel_rfl
theorem pl41 : E.structPl Try.prog 41 = some [(0, 1), (1, 1), (2, 1)] := by kernel_rfl
theorem pl48 : E.structPl Try.prog 48 = some [(0, 1), (1, 1), (2, 1), (3, 1), (4, 1), (5, 1)] := by kernel_rfl
theorem pl63 : E.structPl Try.prog 63 = some [(0, 1), (1, 1), (2, 1), (3, 1), (4, 1), (5, 1)] := by kernel_rfl
theorem pl71 : E.structPl Try.prog 71 = some [(0, 1), (1, 1)] := by kernel_rfl
theorem pl84 : E.structPl Try.prog 84 = some [(0, 1), (1, 1)] := by kernel_rfl
theorem pl124 : E.structPl Try.prog 124 = some [(0, 1), (1, 1), (2, 1)] := by kernel_rfl
end Go.Proofs.Ytphfdmagkgpgfaa
