/- The sizes and zeros of the types that the walks name. Conditions: none. -/
import Derived.Test.YtklkbfpjimeaoaaGreatProg
import Derived.KernelRfl
import Derived.Test.YtklkbfpjimeaoaaGreatE28
namespace Go.Proofs.YtklkbfpjimeaoaaGreat
open Go
theorem sz2 : (Tryz.prog.info? 2).map (·.size) = some 1 := by kernel_rfl
theorem sz3 : (Tryz.prog.info? 3).map (·.size) = some 1 := by kernel_rfl
theorem zr3 : (Tryz.prog.info? 3).map (·.zero) = some (some (.int .i64 0)) := by kernel_rfl
theorem sz4 : (Tryz.prog.info? 4).map (·.size) = some 1 := by kernel_rfl
theorem sz5 : (Tryz.prog.info? 5).map (·.size) = some 1 := by kernel_rfl
theorem inf9 : (Tryz.prog.info? 9).map (fun i => (i.zero, i.size, i.bytes)) = some (some (.string ⟨#[]⟩), 1, 16) := by kernel_rfl
theorem sz9 : (Tryz.prog.info? 9).map (·.size) = some 1 := by kernel_rfl
theorem sz22 : (Tryz.prog.info? 22).map (·.size) = some 1 := by kernel_rfl
theorem sz23 : (Tryz.prog.info? 23).map (·.size) = some 1 := by kernel_rfl
theorem sz25 : (Tryz.prog.info? 25).map (·.size) = some 2 := by kernel_rfl
theorem zr25 : (Tryz.prog.info? 25).map (·.zero) = some (some (.agg #[.slice none 0 0, .slice none 0 0])) := by kernel_rfl
theorem inf27 : (Tryz.prog.info? 27).map (fun i => (i.zero, i.size, i.bytes)) = some (some (.agg #[.int .i64 0, .string ⟨#[]⟩, .int .i64 0, .slice none 0 0]), 4, 56) := by kernel_rfl
theorem sz27 : (Tryz.prog.info? 27).map (·.size) = some 4 := by kernel_rfl
theorem zr27 : (Tryz.prog.info? 27).map (·.zero) = some (some (.agg #[.int .i64 0, .string ⟨#[]⟩, .int .i64 0, .slice none 0 0])) := by kernel_rfl
theorem sz48 : (Tryz.prog.info? 48).map (·.size) = some 1 := by kernel_rfl
theorem inf59 : (Tryz.prog.info? 59).map (fun i => (i.zero, i.size, i.bytes)) = some (some (.agg #[.string ⟨#[]⟩, .int .i64 0, .string ⟨#[]⟩, .int .i64 0, .slice none 0 0]), 5, 72) := by kernel_rfl
theorem sz59 : (Tryz.prog.info? 59).map (·.size) = some 5 := by kernel_rfl
theorem zr59 : (Tryz.prog.info? 59).map (·.zero) = some (some (.agg #[.string ⟨#[]⟩, .int .i64 0, .string ⟨#[]⟩, .int .i64 0, .slice none 0 0])) := by kernel_rfl
theorem sz63 : (Tryz.prog.info? 63).map (·.size) = some 1 := by kernel_rfl
theorem zr63 : (Tryz.prog.info? 63).map (·.zero) = some (some (.slice none 0 0)) := by kernel_rfl
theorem inf66 : (Tryz.prog.info? 66).map (fun i => (i.zero, i.size, i.bytes)) = some (some (.agg #[.string ⟨#[]⟩, .int .i64 0, .string ⟨#[]⟩, .int .i64 0, .slice none 0 0]), 5, 72) := by kernel_rfl
theorem sz66 : (Tryz.prog.info? 66).map (·.size) = some 5 := by kernel_rfl
theorem zr66 : (Tryz.prog.info? 66).map (·.zero) = some (some (.agg #[.string ⟨#[]⟩, .int .i64 0, .string ⟨#[]⟩, .int .i64 0, .slice none 0 0])) := by kernel_rfl
theorem sz139 : (Tryz.prog.info? 139).map (·.size) = some 1 := by kernel_rfl
theorem zr139 : (Tryz.prog.info? 139).map (·.zero) = some (some (.pointer none)) := by kernel_rfl
theorem sz141 : (Tryz.prog.info? 141).map (·.size) = some 1 := by kernel_rfl
theorem zr141 : (Tryz.prog.info? 141).map (·.zero) = some (some (.pointer none)) := by kernel_rfl
theorem zr168 : (Tryz.prog.info? 168).map (·.zero) = some (some (.agg #[.string ⟨#[]⟩, .pointer none, .pointer none])) := by kernel_rfl
theorem sz189 : (Tryz.prog.info? 189).map (·.size) = some 3 := by kernel_rfl
theorem zr189 : (Tryz.prog.info? 189).map (·.zero) = some (some (.agg #[.slice none 0 0, .bool false, .nilFunc])) := by kernel_rfl
theorem sz199 : (Tryz.prog.info? 199).map (·.size) = some 3 := by kernel_rfl
theorem zr199 : (Tryz.prog.info? 199).map (·.zero) = some (some (.agg #[.int .i64 0, .int .i64 0, .int .i64 0])) := by kernel_rfl
theorem sz231 : (Tryz.prog.info? 231).map (·.size) = some 3 := by kernel_rfl
theorem zr231 : (Tryz.prog.info? 231).map (·.zero) = some (some (.agg #[.string ⟨#[]⟩, .string ⟨#[]⟩, .int .i64 0])) := by kernel_rfl
theorem zr247 : (Tryz.prog.info? 247).map (·.zero) = some (some (.nilFunc)) := by kernel_rfl
theorem sz251 : (Tryz.prog.info? 251).map (·.size) = some 1 := by kernel_rfl
theorem zr251 : (Tryz.prog.info? 251).map (·.zero) = some (some (.nilFunc)) := by kernel_rfl
theorem sz260 : (Tryz.prog.info? 260).map (·.size) = some 3 := by kernel_rfl
theorem zr260 : (Tryz.prog.info? 260).map (·.zero) = some (some (.agg #[.int .i64 0, .int .i64 0, .int .i64 0])) := by kernel_rfl
theorem sz283 : (Tryz.prog.info? 283).map (·.size) = some 1 := by kernel_rfl
theorem zr283 : (Tryz.prog.info? 283).map (·.zero) = some (some (.nilFunc)) := by kernel_rfl
theorem pl25 : E.structPl Tryz.prog 25 = some [(0, 1), (1, 1)] := by kernel_rfl
theorem pl27 : E.structPl Tryz.prog 27 = some [(0, 1), (1, 1), (2, 1), (3, 1)] := by kernel_rfl
theorem pl66 : E.structPl Tryz.prog 66 = some [(0, 1), (1, 4)] := by kernel_rfl
theorem pl168 : E.structPl Tryz.prog 168 = some [(0, 1), (1, 1), (2, 1)] := by kernel_rfl
theorem pl189 : E.structPl Tryz.prog 189 = some [(0, 1), (1, 1), (2, 1)] := by kernel_rfl
theorem pl199 : E.structPl Tryz.prog 199 = some [(0, 1), (1, 1), (2, 1)] := by kernel_rfl
theorem pl231 : E.structPl Tryz.prog 231 = some [(0, 1), (1, 1), (2, 1)] := by kernel_rfl
theorem pl260 : E.structPl Tryz.prog 260 = some [(0, 1), (1, 1), (2, 1)] := by kernel_rfl
end Go.Proofs.YtklkbfpjimeaoaaGreat
