/- The sizes and zeros of the types that the walks name. Conditions: none. -/
import Derived.Test.YtklkbfpjimeaoaaGreatProg
import Derived.KernelRfl
import Derived.Test.YtklkbfpjimeaoaaGreatE28
namespace Go.Proofs.YtklkbfpjimeaoaaGreat
open Go
theorem inf2 : (Tryz.prog.info? 2).map (fun i => (i.zero, i.size, i.bytes)) = some (some (.int .i64 0), 1, 8) := by kernel_rfl
theorem sz2 : (Tryz.prog.info? 2).map (·.size) = some 1 := by kernel_rfl
theorem zr2 : (Tryz.prog.info? 2).map (·.zero) = some (some (.int .i64 0)) := by kernel_rfl
theorem inf3 : (Tryz.prog.info? 3).map (fun i => (i.zero, i.size, i.bytes)) = some (some (.int .i64 0), 1, 8) := by kernel_rfl
theorem sz3 : (Tryz.prog.info? 3).map (·.size) = some 1 := by kernel_rfl
theorem zr3 : (Tryz.prog.info? 3).map (·.zero) = some (some (.int .i64 0)) := by kernel_rfl
theorem inf4 : (Tryz.prog.info? 4).map (fun i => (i.zero, i.size, i.bytes)) = some (some (.bool false), 1, 1) := by kernel_rfl
theorem sz4 : (Tryz.prog.info? 4).map (·.size) = some 1 := by kernel_rfl
theorem zr4 : (Tryz.prog.info? 4).map (·.zero) = some (some (.bool false)) := by kernel_rfl
theorem inf5 : (Tryz.prog.info? 5).map (fun i => (i.zero, i.size, i.bytes)) = some (some (.int .u8 0), 1, 1) := by kernel_rfl
theorem sz5 : (Tryz.prog.info? 5).map (·.size) = some 1 := by kernel_rfl
theorem zr5 : (Tryz.prog.info? 5).map (·.zero) = some (some (.int .u8 0)) := by kernel_rfl
theorem inf6 : (Tryz.prog.info? 6).map (fun i => (i.zero, i.size, i.bytes)) = some (some (.int .u8 0), 1, 1) := by kernel_rfl
theorem sz6 : (Tryz.prog.info? 6).map (·.size) = some 1 := by kernel_rfl
theorem zr6 : (Tryz.prog.info? 6).map (·.zero) = some (some (.int .u8 0)) := by kernel_rfl
theorem inf7 : (Tryz.prog.info? 7).map (fun i => (i.zero, i.size, i.bytes)) = some (some (.agg #[.int .i64 0, .int .i64 0, .bool false, .int .u8 0]), 4, 24) := by kernel_rfl
theorem sz7 : (Tryz.prog.info? 7).map (·.size) = some 4 := by kernel_rfl
theorem zr7 : (Tryz.prog.info? 7).map (·.zero) = some (some (.agg #[.int .i64 0, .int .i64 0, .bool false, .int .u8 0])) := by kernel_rfl
theorem inf8 : (Tryz.prog.info? 8).map (fun i => (i.zero, i.size, i.bytes)) = some (some (.agg #[.int .i64 0, .int .i64 0, .bool false, .int .u8 0]), 4, 24) := by kernel_rfl
theorem sz8 : (Tryz.prog.info? 8).map (·.size) = some 4 := by kernel_rfl
theorem zr8 : (Tryz.prog.info? 8).map (·.zero) = some (some (.agg #[.int .i64 0, .int .i64 0, .bool false, .int .u8 0])) := by kernel_rfl
theorem inf9 : (Tryz.prog.info? 9).map (fun i => (i.zero, i.size, i.bytes)) = some (some (.string ⟨#[]⟩), 1, 16) := by kernel_rfl
theorem sz9 : (Tryz.prog.info? 9).map (·.size) = some 1 := by kernel_rfl
theorem zr9 : (Tryz.prog.info? 9).map (·.zero) = some (some (.string ⟨#[]⟩)) := by kernel_rfl
theorem inf10 : (Tryz.prog.info? 10).map (fun i => (i.zero, i.size, i.bytes)) = some (some (.string ⟨#[]⟩), 1, 16) := by kernel_rfl
theorem sz10 : (Tryz.prog.info? 10).map (·.size) = some 1 := by kernel_rfl
theorem zr10 : (Tryz.prog.info? 10).map (·.zero) = some (some (.string ⟨#[]⟩)) := by kernel_rfl
theorem inf11 : (Tryz.prog.info? 11).map (fun i => (i.zero, i.size, i.bytes)) = some (some (.string ⟨#[]⟩), 1, 16) := by kernel_rfl
theorem sz11 : (Tryz.prog.info? 11).map (·.size) = some 1 := by kernel_rfl
theorem zr11 : (Tryz.prog.info? 11).map (·.zero) = some (some (.string ⟨#[]⟩)) := by kernel_rfl
theorem inf12 : (Tryz.prog.info? 12).map (fun i => (i.zero, i.size, i.bytes)) = some (some (.int .u64 0), 1, 8) := by kernel_rfl
theorem sz12 : (Tryz.prog.info? 12).map (·.size) = some 1 := by kernel_rfl
theorem zr12 : (Tryz.prog.info? 12).map (·.zero) = some (some (.int .u64 0)) := by kernel_rfl
theorem inf13 : (Tryz.prog.info? 13).map (fun i => (i.zero, i.size, i.bytes)) = some (some (.agg #[.string ⟨#[]⟩, .int .u64 0]), 2, 24) := by kernel_rfl
theorem sz13 : (Tryz.prog.info? 13).map (·.size) = some 2 := by kernel_rfl
theorem zr13 : (Tryz.prog.info? 13).map (·.zero) = some (some (.agg #[.string ⟨#[]⟩, .int .u64 0])) := by kernel_rfl
theorem inf14 : (Tryz.prog.info? 14).map (fun i => (i.zero, i.size, i.bytes)) = some (some (.agg #[.string ⟨#[]⟩, .int .u64 0]), 2, 24) := by kernel_rfl
theorem sz14 : (Tryz.prog.info? 14).map (·.size) = some 2 := by kernel_rfl
theorem zr14 : (Tryz.prog.info? 14).map (·.zero) = some (some (.agg #[.string ⟨#[]⟩, .int .u64 0])) := by kernel_rfl
theorem inf15 : (Tryz.prog.info? 15).map (fun i => (i.zero, i.size, i.bytes)) = some (some (.pointer none), 1, 8) := by kernel_rfl
theorem sz15 : (Tryz.prog.info? 15).map (·.size) = some 1 := by kernel_rfl
theorem zr15 : (Tryz.prog.info? 15).map (·.zero) = some (some (.pointer none)) := by kernel_rfl
theorem inf16 : (Tryz.prog.info? 16).map (fun i => (i.zero, i.size, i.bytes)) = some (some (.pointer none), 1, 8) := by kernel_rfl
theorem sz16 : (Tryz.prog.info? 16).map (·.size) = some 1 := by kernel_rfl
theorem zr16 : (Tryz.prog.info? 16).map (·.zero) = some (some (.pointer none)) := by kernel_rfl
theorem inf17 : (Tryz.prog.info? 17).map (fun i => (i.zero, i.size, i.bytes)) = some (some (.pointer none), 1, 8) := by kernel_rfl
theorem sz17 : (Tryz.prog.info? 17).map (·.size) = some 1 := by kernel_rfl
theorem zr17 : (Tryz.prog.info? 17).map (·.zero) = some (some (.pointer none)) := by kernel_rfl
theorem inf18 : (Tryz.prog.info? 18).map (fun i => (i.zero, i.size, i.bytes)) = some (some (.agg #[.pointer none]), 1, 8) := by kernel_rfl
theorem sz18 : (Tryz.prog.info? 18).map (·.size) = some 1 := by kernel_rfl
theorem zr18 : (Tryz.prog.info? 18).map (·.zero) = some (some (.agg #[.pointer none])) := by kernel_rfl
theorem inf19 : (Tryz.prog.info? 19).map (fun i => (i.zero, i.size, i.bytes)) = some (some (.agg #[.pointer none]), 1, 8) := by kernel_rfl
theorem sz19 : (Tryz.prog.info? 19).map (·.size) = some 1 := by kernel_rfl
theorem zr19 : (Tryz.prog.info? 19).map (·.zero) = some (some (.agg #[.pointer none])) := by kernel_rfl
theorem inf20 : (Tryz.prog.info? 20).map (fun i => (i.zero, i.size, i.bytes)) = some (some (.nilIface), 1, 16) := by kernel_rfl
theorem sz20 : (Tryz.prog.info? 20).map (·.size) = some 1 := by kernel_rfl
theorem zr20 : (Tryz.prog.info? 20).map (·.zero) = some (some (.nilIface)) := by kernel_rfl
theorem inf21 : (Tryz.prog.info? 21).map (fun i => (i.zero, i.size, i.bytes)) = some (some (.int .i32 0), 1, 4) := by kernel_rfl
theorem sz21 : (Tryz.prog.info? 21).map (·.size) = some 1 := by kernel_rfl
theorem zr21 : (Tryz.prog.info? 21).map (·.zero) = some (some (.int .i32 0)) := by kernel_rfl
theorem inf22 : (Tryz.prog.info? 22).map (fun i => (i.zero, i.size, i.bytes)) = some (some (.slice none 0 0), 1, 24) := by kernel_rfl
theorem sz22 : (Tryz.prog.info? 22).map (·.size) = some 1 := by kernel_rfl
theorem zr22 : (Tryz.prog.info? 22).map (·.zero) = some (some (.slice none 0 0)) := by kernel_rfl
theorem inf23 : (Tryz.prog.info? 23).map (fun i => (i.zero, i.size, i.bytes)) = some (some (.slice none 0 0), 1, 24) := by kernel_rfl
theorem sz23 : (Tryz.prog.info? 23).map (·.size) = some 1 := by kernel_rfl
theorem zr23 : (Tryz.prog.info? 23).map (·.zero) = some (some (.slice none 0 0)) := by kernel_rfl
theorem inf24 : (Tryz.prog.info? 24).map (fun i => (i.zero, i.size, i.bytes)) = some (some (.agg #[.slice none 0 0, .slice none 0 0]), 2, 48) := by kernel_rfl
theorem sz24 : (Tryz.prog.info? 24).map (·.size) = some 2 := by kernel_rfl
theorem zr24 : (Tryz.prog.info? 24).map (·.zero) = some (some (.agg #[.slice none 0 0, .slice none 0 0])) := by kernel_rfl
theorem inf25 : (Tryz.prog.info? 25).map (fun i => (i.zero, i.size, i.bytes)) = some (some (.agg #[.slice none 0 0, .slice none 0 0]), 2, 48) := by kernel_rfl
theorem sz25 : (Tryz.prog.info? 25).map (·.size) = some 2 := by kernel_rfl
theorem zr25 : (Tryz.prog.info? 25).map (·.zero) = some (some (.agg #[.slice none 0 0, .slice none 0 0])) := by kernel_rfl
theorem inf26 : (Tryz.prog.info? 26).map (fun i => (i.zero, i.size, i.bytes)) = some (some (.agg #[.int .i64 0, .string ⟨#[]⟩, .int .i64 0, .slice none 0 0]), 4, 56) := by kernel_rfl
theorem sz26 : (Tryz.prog.info? 26).map (·.size) = some 4 := by kernel_rfl
theorem zr26 : (Tryz.prog.info? 26).map (·.zero) = some (some (.agg #[.int .i64 0, .string ⟨#[]⟩, .int .i64 0, .slice none 0 0])) := by kernel_rfl
theorem inf27 : (Tryz.prog.info? 27).map (fun i => (i.zero, i.size, i.bytes)) = some (some (.agg #[.int .i64 0, .string ⟨#[]⟩, .int .i64 0, .slice none 0 0]), 4, 56) := by kernel_rfl
theorem sz27 : (Tryz.prog.info? 27).map (·.size) = some 4 := by kernel_rfl
theorem zr27 : (Tryz.prog.info? 27).map (·.zero) = some (some (.agg #[.int .i64 0, .string ⟨#[]⟩, .int .i64 0, .slice none 0 0])) := by kernel_rfl
theorem inf28 : (Tryz.prog.info? 28).map (fun i => (i.zero, i.size, i.bytes)) = some (some (.slice none 0 0), 1, 24) := by kernel_rfl
theorem sz28 : (Tryz.prog.info? 28).map (·.size) = some 1 := by kernel_rfl
theorem zr28 : (Tryz.prog.info? 28).map (·.zero) = some (some (.slice none 0 0)) := by kernel_rfl
theorem inf33 : (Tryz.prog.info? 33).map (fun i => (i.zero, i.size, i.bytes)) = some (some (.int .i64 0), 1, 8) := by kernel_rfl
theorem sz33 : (Tryz.prog.info? 33).map (·.size) = some 1 := by kernel_rfl
theorem zr33 : (Tryz.prog.info? 33).map (·.zero) = some (some (.int .i64 0)) := by kernel_rfl
theorem inf36 : (Tryz.prog.info? 36).map (fun i => (i.zero, i.size, i.bytes)) = some (some (.slice none 0 0), 1, 24) := by kernel_rfl
theorem sz36 : (Tryz.prog.info? 36).map (·.size) = some 1 := by kernel_rfl
theorem zr36 : (Tryz.prog.info? 36).map (·.zero) = some (some (.slice none 0 0)) := by kernel_rfl
theorem inf48 : (Tryz.prog.info? 48).map (fun i => (i.zero, i.size, i.bytes)) = some (some (.nilFunc), 1, 8) := by kernel_rfl
theorem sz48 : (Tryz.prog.info? 48).map (·.size) = some 1 := by kernel_rfl
theorem zr48 : (Tryz.prog.info? 48).map (·.zero) = some (some (.nilFunc)) := by kernel_rfl
theorem inf49 : (Tryz.prog.info? 49).map (fun i => (i.zero, i.size, i.bytes)) = some (some (.slice none 0 0), 1, 24) := by kernel_rfl
theorem sz49 : (Tryz.prog.info? 49).map (·.size) = some 1 := by kernel_rfl
theorem zr49 : (Tryz.prog.info? 49).map (·.zero) = some (some (.slice none 0 0)) := by kernel_rfl
theorem inf51 : (Tryz.prog.info? 51).map (fun i => (i.zero, i.size, i.bytes)) = some (some (.slice none 0 0), 1, 24) := by kernel_rfl
theorem sz51 : (Tryz.prog.info? 51).map (·.size) = some 1 := by kernel_rfl
theorem zr51 : (Tryz.prog.info? 51).map (·.zero) = some (some (.slice none 0 0)) := by kernel_rfl
theorem inf58 : (Tryz.prog.info? 58).map (fun i => (i.zero, i.size, i.bytes)) = some (some (.agg #[.string ⟨#[]⟩, .int .i64 0, .string ⟨#[]⟩, .int .i64 0, .slice none 0 0]), 5, 72) := by kernel_rfl
theorem sz58 : (Tryz.prog.info? 58).map (·.size) = some 5 := by kernel_rfl
theorem zr58 : (Tryz.prog.info? 58).map (·.zero) = some (some (.agg #[.string ⟨#[]⟩, .int .i64 0, .string ⟨#[]⟩, .int .i64 0, .slice none 0 0])) := by kernel_rfl
theorem inf59 : (Tryz.prog.info? 59).map (fun i => (i.zero, i.size, i.bytes)) = some (some (.agg #[.string ⟨#[]⟩, .int .i64 0, .string ⟨#[]⟩, .int .i64 0, .slice none 0 0]), 5, 72) := by kernel_rfl
theorem sz59 : (Tryz.prog.info? 59).map (·.size) = some 5 := by kernel_rfl
theorem zr59 : (Tryz.prog.info? 59).map (·.zero) = some (some (.agg #[.string ⟨#[]⟩, .int .i64 0, .string ⟨#[]⟩, .int .i64 0, .slice none 0 0])) := by kernel_rfl
theorem inf63 : (Tryz.prog.info? 63).map (fun i => (i.zero, i.size, i.bytes)) = some (some (.slice none 0 0), 1, 24) := by kernel_rfl
theorem sz63 : (Tryz.prog.info? 63).map (·.size) = some 1 := by kernel_rfl
theorem zr63 : (Tryz.prog.info? 63).map (·.zero) = some (some (.slice none 0 0)) := by kernel_rfl
theorem inf66 : (Tryz.prog.info? 66).map (fun i => (i.zero, i.size, i.bytes)) = some (some (.agg #[.string ⟨#[]⟩, .int .i64 0, .string ⟨#[]⟩, .int .i64 0, .slice none 0 0]), 5, 72) := by kernel_rfl
theorem sz66 : (Tryz.prog.info? 66).map (·.size) = some 5 := by kernel_rfl
theorem zr66 : (Tryz.prog.info? 66).map (·.zero) = some (some (.agg #[.string ⟨#[]⟩, .int .i64 0, .string ⟨#[]⟩, .int .i64 0, .slice none 0 0])) := by kernel_rfl
theorem inf73 : (Tryz.prog.info? 73).map (fun i => (i.zero, i.size, i.bytes)) = some (some (.slice none 0 0), 1, 24) := by kernel_rfl
theorem sz73 : (Tryz.prog.info? 73).map (·.size) = some 1 := by kernel_rfl
theorem zr73 : (Tryz.prog.info? 73).map (·.zero) = some (some (.slice none 0 0)) := by kernel_rfl
theorem inf74 : (Tryz.prog.info? 74).map (fun i => (i.zero, i.size, i.bytes)) = some (some (.agg #[.int .i64 0, .slice none 0 0]), 2, 32) := by kernel_rfl
theorem sz74 : (Tryz.prog.info? 74).map (·.size) = some 2 := by kernel_rfl
theorem zr74 : (Tryz.prog.info? 74).map (·.zero) = some (some (.agg #[.int .i64 0, .slice none 0 0])) := by kernel_rfl
theorem inf75 : (Tryz.prog.info? 75).map (fun i => (i.zero, i.size, i.bytes)) = some (some (.agg #[.int .i64 0, .slice none 0 0]), 2, 32) := by kernel_rfl
theorem sz75 : (Tryz.prog.info? 75).map (·.size) = some 2 := by kernel_rfl
theorem zr75 : (Tryz.prog.info? 75).map (·.zero) = some (some (.agg #[.int .i64 0, .slice none 0 0])) := by kernel_rfl
theorem inf79 : (Tryz.prog.info? 79).map (fun i => (i.zero, i.size, i.bytes)) = some (some (.slice none 0 0), 1, 24) := by kernel_rfl
theorem sz79 : (Tryz.prog.info? 79).map (·.size) = some 1 := by kernel_rfl
theorem zr79 : (Tryz.prog.info? 79).map (·.zero) = some (some (.slice none 0 0)) := by kernel_rfl
theorem inf80 : (Tryz.prog.info? 80).map (fun i => (i.zero, i.size, i.bytes)) = some (some (.agg #[.string ⟨#[]⟩, .bool false, .bool false, .slice none 0 0, .int .i64 0, .string ⟨#[]⟩, .int .i64 0, .slice none 0 0, .slice none 0 0, .slice none 0 0]), 10, 152) := by kernel_rfl
theorem sz80 : (Tryz.prog.info? 80).map (·.size) = some 10 := by kernel_rfl
theorem zr80 : (Tryz.prog.info? 80).map (·.zero) = some (some (.agg #[.string ⟨#[]⟩, .bool false, .bool false, .slice none 0 0, .int .i64 0, .string ⟨#[]⟩, .int .i64 0, .slice none 0 0, .slice none 0 0, .slice none 0 0])) := by kernel_rfl
theorem inf81 : (Tryz.prog.info? 81).map (fun i => (i.zero, i.size, i.bytes)) = some (some (.agg #[.string ⟨#[]⟩, .bool false, .bool false, .slice none 0 0, .int .i64 0, .string ⟨#[]⟩, .int .i64 0, .slice none 0 0, .slice none 0 0, .slice none 0 0]), 10, 152) := by kernel_rfl
theorem sz81 : (Tryz.prog.info? 81).map (·.size) = some 10 := by kernel_rfl
theorem zr81 : (Tryz.prog.info? 81).map (·.zero) = some (some (.agg #[.string ⟨#[]⟩, .bool false, .bool false, .slice none 0 0, .int .i64 0, .string ⟨#[]⟩, .int .i64 0, .slice none 0 0, .slice none 0 0, .slice none 0 0])) := by kernel_rfl
theorem inf87 : (Tryz.prog.info? 87).map (fun i => (i.zero, i.size, i.bytes)) = some (some (.agg #[.int .i64 0, .slice none 0 0]), 2, 32) := by kernel_rfl
theorem sz87 : (Tryz.prog.info? 87).map (·.size) = some 2 := by kernel_rfl
theorem zr87 : (Tryz.prog.info? 87).map (·.zero) = some (some (.agg #[.int .i64 0, .slice none 0 0])) := by kernel_rfl
theorem inf101 : (Tryz.prog.info? 101).map (fun i => (i.zero, i.size, i.bytes)) = some (some (.agg #[.string ⟨#[]⟩, .string ⟨#[]⟩, .int .i64 0, .string ⟨#[]⟩, .int .i64 0, .slice none 0 0]), 6, 88) := by kernel_rfl
theorem sz101 : (Tryz.prog.info? 101).map (·.size) = some 6 := by kernel_rfl
theorem zr101 : (Tryz.prog.info? 101).map (·.zero) = some (some (.agg #[.string ⟨#[]⟩, .string ⟨#[]⟩, .int .i64 0, .string ⟨#[]⟩, .int .i64 0, .slice none 0 0])) := by kernel_rfl
theorem inf102 : (Tryz.prog.info? 102).map (fun i => (i.zero, i.size, i.bytes)) = some (some (.agg #[.string ⟨#[]⟩, .string ⟨#[]⟩, .int .i64 0, .string ⟨#[]⟩, .int .i64 0, .slice none 0 0]), 6, 88) := by kernel_rfl
theorem sz102 : (Tryz.prog.info? 102).map (·.size) = some 6 := by kernel_rfl
theorem zr102 : (Tryz.prog.info? 102).map (·.zero) = some (some (.agg #[.string ⟨#[]⟩, .string ⟨#[]⟩, .int .i64 0, .string ⟨#[]⟩, .int .i64 0, .slice none 0 0])) := by kernel_rfl
theorem inf105 : (Tryz.prog.info? 105).map (fun i => (i.zero, i.size, i.bytes)) = some (some (.agg #[.string ⟨#[]⟩, .string ⟨#[]⟩, .bool false]), 3, 40) := by kernel_rfl
theorem sz105 : (Tryz.prog.info? 105).map (·.size) = some 3 := by kernel_rfl
theorem zr105 : (Tryz.prog.info? 105).map (·.zero) = some (some (.agg #[.string ⟨#[]⟩, .string ⟨#[]⟩, .bool false])) := by kernel_rfl
theorem inf106 : (Tryz.prog.info? 106).map (fun i => (i.zero, i.size, i.bytes)) = some (some (.agg #[.string ⟨#[]⟩, .string ⟨#[]⟩, .bool false]), 3, 40) := by kernel_rfl
theorem sz106 : (Tryz.prog.info? 106).map (·.size) = some 3 := by kernel_rfl
theorem zr106 : (Tryz.prog.info? 106).map (·.zero) = some (some (.agg #[.string ⟨#[]⟩, .string ⟨#[]⟩, .bool false])) := by kernel_rfl
theorem inf108 : (Tryz.prog.info? 108).map (fun i => (i.zero, i.size, i.bytes)) = some (some (.agg #[.string ⟨#[]⟩, .string ⟨#[]⟩, .bool false]), 3, 40) := by kernel_rfl
theorem sz108 : (Tryz.prog.info? 108).map (·.size) = some 3 := by kernel_rfl
theorem zr108 : (Tryz.prog.info? 108).map (·.zero) = some (some (.agg #[.string ⟨#[]⟩, .string ⟨#[]⟩, .bool false])) := by kernel_rfl
theorem inf110 : (Tryz.prog.info? 110).map (fun i => (i.zero, i.size, i.bytes)) = some (some (.map none), 1, 8) := by kernel_rfl
theorem sz110 : (Tryz.prog.info? 110).map (·.size) = some 1 := by kernel_rfl
theorem zr110 : (Tryz.prog.info? 110).map (·.zero) = some (some (.map none)) := by kernel_rfl
theorem inf111 : (Tryz.prog.info? 111).map (fun i => (i.zero, i.size, i.bytes)) = some (some (.pointer none), 1, 8) := by kernel_rfl
theorem sz111 : (Tryz.prog.info? 111).map (·.size) = some 1 := by kernel_rfl
theorem zr111 : (Tryz.prog.info? 111).map (·.zero) = some (some (.pointer none)) := by kernel_rfl
theorem inf112 : (Tryz.prog.info? 112).map (fun i => (i.zero, i.size, i.bytes)) = some (some (.agg #[.slice none 0 0, .slice none 0 0, .map none, .pointer none]), 4, 64) := by kernel_rfl
theorem sz112 : (Tryz.prog.info? 112).map (·.size) = some 4 := by kernel_rfl
theorem zr112 : (Tryz.prog.info? 112).map (·.zero) = some (some (.agg #[.slice none 0 0, .slice none 0 0, .map none, .pointer none])) := by kernel_rfl
theorem inf113 : (Tryz.prog.info? 113).map (fun i => (i.zero, i.size, i.bytes)) = some (some (.agg #[.slice none 0 0, .slice none 0 0, .map none, .pointer none]), 4, 64) := by kernel_rfl
theorem sz113 : (Tryz.prog.info? 113).map (·.size) = some 4 := by kernel_rfl
theorem zr113 : (Tryz.prog.info? 113).map (·.zero) = some (some (.agg #[.slice none 0 0, .slice none 0 0, .map none, .pointer none])) := by kernel_rfl
theorem inf115 : (Tryz.prog.info? 115).map (fun i => (i.zero, i.size, i.bytes)) = some (some (.agg #[.int .i64 0, .slice none 0 0]), 2, 32) := by kernel_rfl
theorem sz115 : (Tryz.prog.info? 115).map (·.size) = some 2 := by kernel_rfl
theorem zr115 : (Tryz.prog.info? 115).map (·.zero) = some (some (.agg #[.int .i64 0, .slice none 0 0])) := by kernel_rfl
theorem inf116 : (Tryz.prog.info? 116).map (fun i => (i.zero, i.size, i.bytes)) = some (some (.agg #[.int .i64 0, .slice none 0 0]), 2, 32) := by kernel_rfl
theorem sz116 : (Tryz.prog.info? 116).map (·.size) = some 2 := by kernel_rfl
theorem zr116 : (Tryz.prog.info? 116).map (·.zero) = some (some (.agg #[.int .i64 0, .slice none 0 0])) := by kernel_rfl
theorem inf119 : (Tryz.prog.info? 119).map (fun i => (i.zero, i.size, i.bytes)) = some (some (.agg #[.string ⟨#[]⟩, .string ⟨#[]⟩, .bool false, .pointer none, .int .i64 0, .int .i64 0]), 6, 64) := by kernel_rfl
theorem sz119 : (Tryz.prog.info? 119).map (·.size) = some 6 := by kernel_rfl
theorem zr119 : (Tryz.prog.info? 119).map (·.zero) = some (some (.agg #[.string ⟨#[]⟩, .string ⟨#[]⟩, .bool false, .pointer none, .int .i64 0, .int .i64 0])) := by kernel_rfl
theorem inf120 : (Tryz.prog.info? 120).map (fun i => (i.zero, i.size, i.bytes)) = some (some (.agg #[.string ⟨#[]⟩, .string ⟨#[]⟩, .bool false, .pointer none, .int .i64 0, .int .i64 0]), 6, 64) := by kernel_rfl
theorem sz120 : (Tryz.prog.info? 120).map (·.size) = some 6 := by kernel_rfl
theorem zr120 : (Tryz.prog.info? 120).map (·.zero) = some (some (.agg #[.string ⟨#[]⟩, .string ⟨#[]⟩, .bool false, .pointer none, .int .i64 0, .int .i64 0])) := by kernel_rfl
theorem inf124 : (Tryz.prog.info? 124).map (fun i => (i.zero, i.size, i.bytes)) = some (some (.agg #[.slice none 0 0, .slice none 0 0, .slice none 0 0, .slice none 0 0]), 4, 96) := by kernel_rfl
theorem sz124 : (Tryz.prog.info? 124).map (·.size) = some 4 := by kernel_rfl
theorem zr124 : (Tryz.prog.info? 124).map (·.zero) = some (some (.agg #[.slice none 0 0, .slice none 0 0, .slice none 0 0, .slice none 0 0])) := by kernel_rfl
theorem inf125 : (Tryz.prog.info? 125).map (fun i => (i.zero, i.size, i.bytes)) = some (some (.agg #[.slice none 0 0, .slice none 0 0, .slice none 0 0, .slice none 0 0]), 4, 96) := by kernel_rfl
theorem sz125 : (Tryz.prog.info? 125).map (·.size) = some 4 := by kernel_rfl
theorem zr125 : (Tryz.prog.info? 125).map (·.zero) = some (some (.agg #[.slice none 0 0, .slice none 0 0, .slice none 0 0, .slice none 0 0])) := by kernel_rfl
theorem inf127 : (Tryz.prog.info? 127).map (fun i => (i.zero, i.size, i.bytes)) = some (some (.map none), 1, 8) := by kernel_rfl
theorem sz127 : (Tryz.prog.info? 127).map (·.size) = some 1 := by kernel_rfl
theorem zr127 : (Tryz.prog.info? 127).map (·.zero) = some (some (.map none)) := by kernel_rfl
theorem inf137 : (Tryz.prog.info? 137).map (fun i => (i.zero, i.size, i.bytes)) = some (some (.nilFunc), 1, 8) := by kernel_rfl
theorem sz137 : (Tryz.prog.info? 137).map (·.size) = some 1 := by kernel_rfl
theorem zr137 : (Tryz.prog.info? 137).map (·.zero) = some (some (.nilFunc)) := by kernel_rfl
theorem inf139 : (Tryz.prog.info? 139).map (fun i => (i.zero, i.size, i.bytes)) = some (some (.pointer none), 1, 8) := by kernel_rfl
theorem sz139 : (Tryz.prog.info? 139).map (·.size) = some 1 := by kernel_rfl
theorem zr139 : (Tryz.prog.info? 139).map (·.zero) = some (some (.pointer none)) := by kernel_rfl
theorem inf141 : (Tryz.prog.info? 141).map (fun i => (i.zero, i.size, i.bytes)) = some (some (.pointer none), 1, 8) := by kernel_rfl
theorem sz141 : (Tryz.prog.info? 141).map (·.size) = some 1 := by kernel_rfl
theorem zr141 : (Tryz.prog.info? 141).map (·.zero) = some (some (.pointer none)) := by kernel_rfl
theorem inf149 : (Tryz.prog.info? 149).map (fun i => (i.zero, i.size, i.bytes)) = some (some (.pointer none), 1, 8) := by kernel_rfl
theorem sz149 : (Tryz.prog.info? 149).map (·.size) = some 1 := by kernel_rfl
theorem zr149 : (Tryz.prog.info? 149).map (·.zero) = some (some (.pointer none)) := by kernel_rfl
theorem inf152 : (Tryz.prog.info? 152).map (fun i => (i.zero, i.size, i.bytes)) = some (some (.pointer none), 1, 8) := by kernel_rfl
theorem sz152 : (Tryz.prog.info? 152).map (·.size) = some 1 := by kernel_rfl
theorem zr152 : (Tryz.prog.info? 152).map (·.zero) = some (some (.pointer none)) := by kernel_rfl
theorem inf153 : (Tryz.prog.info? 153).map (fun i => (i.zero, i.size, i.bytes)) = some (some (.agg #[.slice none 0 0, .slice none 0 0, .map none, .pointer none, .string ⟨#[]⟩, .bool false, .bool false, .slice none 0 0, .int .i64 0, .string ⟨#[]⟩, .int .i64 0, .slice none 0 0, .slice none 0 0, .slice none 0 0, .slice none 0 0, .int .i64 0, .pointer none, .int .i64 0, .bool false, .slice none 0 0]), 20, 296) := by kernel_rfl
theorem sz153 : (Tryz.prog.info? 153).map (·.size) = some 20 := by kernel_rfl
theorem zr153 : (Tryz.prog.info? 153).map (·.zero) = some (some (.agg #[.slice none 0 0, .slice none 0 0, .map none, .pointer none, .string ⟨#[]⟩, .bool false, .bool false, .slice none 0 0, .int .i64 0, .string ⟨#[]⟩, .int .i64 0, .slice none 0 0, .slice none 0 0, .slice none 0 0, .slice none 0 0, .int .i64 0, .pointer none, .int .i64 0, .bool false, .slice none 0 0])) := by kernel_rfl
theorem inf154 : (Tryz.prog.info? 154).map (fun i => (i.zero, i.size, i.bytes)) = some (some (.agg #[.slice none 0 0, .slice none 0 0, .map none, .pointer none, .string ⟨#[]⟩, .bool false, .bool false, .slice none 0 0, .int .i64 0, .string ⟨#[]⟩, .int .i64 0, .slice none 0 0, .slice none 0 0, .slice none 0 0, .slice none 0 0, .int .i64 0, .pointer none, .int .i64 0, .bool false, .slice none 0 0]), 20, 296) := by kernel_rfl
theorem sz154 : (Tryz.prog.info? 154).map (·.size) = some 20 := by kernel_rfl
theorem zr154 : (Tryz.prog.info? 154).map (·.zero) = some (some (.agg #[.slice none 0 0, .slice none 0 0, .map none, .pointer none, .string ⟨#[]⟩, .bool false, .bool false, .slice none 0 0, .int .i64 0, .string ⟨#[]⟩, .int .i64 0, .slice none 0 0, .slice none 0 0, .slice none 0 0, .slice none 0 0, .int .i64 0, .pointer none, .int .i64 0, .bool false, .slice none 0 0])) := by kernel_rfl
theorem inf165 : (Tryz.prog.info? 165).map (fun i => (i.zero, i.size, i.bytes)) = some (some (.agg #[.slice none 0 0, .slice none 0 0, .slice none 0 0, .slice none 0 0, .string ⟨#[]⟩, .bool false, .bool false, .slice none 0 0, .int .i64 0, .string ⟨#[]⟩, .int .i64 0, .slice none 0 0, .slice none 0 0, .slice none 0 0, .bool false, .bool false, .slice none 0 0, .int .i64 0, .slice none 0 0, .int .i64 0]), 20, 320) := by kernel_rfl
theorem sz165 : (Tryz.prog.info? 165).map (·.size) = some 20 := by kernel_rfl
theorem zr165 : (Tryz.prog.info? 165).map (·.zero) = some (some (.agg #[.slice none 0 0, .slice none 0 0, .slice none 0 0, .slice none 0 0, .string ⟨#[]⟩, .bool false, .bool false, .slice none 0 0, .int .i64 0, .string ⟨#[]⟩, .int .i64 0, .slice none 0 0, .slice none 0 0, .slice none 0 0, .bool false, .bool false, .slice none 0 0, .int .i64 0, .slice none 0 0, .int .i64 0])) := by kernel_rfl
theorem inf166 : (Tryz.prog.info? 166).map (fun i => (i.zero, i.size, i.bytes)) = some (some (.agg #[.slice none 0 0, .slice none 0 0, .slice none 0 0, .slice none 0 0, .string ⟨#[]⟩, .bool false, .bool false, .slice none 0 0, .int .i64 0, .string ⟨#[]⟩, .int .i64 0, .slice none 0 0, .slice none 0 0, .slice none 0 0, .bool false, .bool false, .slice none 0 0, .int .i64 0, .slice none 0 0, .int .i64 0]), 20, 320) := by kernel_rfl
theorem sz166 : (Tryz.prog.info? 166).map (·.size) = some 20 := by kernel_rfl
theorem zr166 : (Tryz.prog.info? 166).map (·.zero) = some (some (.agg #[.slice none 0 0, .slice none 0 0, .slice none 0 0, .slice none 0 0, .string ⟨#[]⟩, .bool false, .bool false, .slice none 0 0, .int .i64 0, .string ⟨#[]⟩, .int .i64 0, .slice none 0 0, .slice none 0 0, .slice none 0 0, .bool false, .bool false, .slice none 0 0, .int .i64 0, .slice none 0 0, .int .i64 0])) := by kernel_rfl
theorem inf167 : (Tryz.prog.info? 167).map (fun i => (i.zero, i.size, i.bytes)) = some (some (.agg #[.string ⟨#[]⟩, .pointer none, .pointer none]), 3, 32) := by kernel_rfl
theorem sz167 : (Tryz.prog.info? 167).map (·.size) = some 3 := by kernel_rfl
theorem zr167 : (Tryz.prog.info? 167).map (·.zero) = some (some (.agg #[.string ⟨#[]⟩, .pointer none, .pointer none])) := by kernel_rfl
theorem inf168 : (Tryz.prog.info? 168).map (fun i => (i.zero, i.size, i.bytes)) = some (some (.agg #[.string ⟨#[]⟩, .pointer none, .pointer none]), 3, 32) := by kernel_rfl
theorem sz168 : (Tryz.prog.info? 168).map (·.size) = some 3 := by kernel_rfl
theorem zr168 : (Tryz.prog.info? 168).map (·.zero) = some (some (.agg #[.string ⟨#[]⟩, .pointer none, .pointer none])) := by kernel_rfl
theorem inf188 : (Tryz.prog.info? 188).map (fun i => (i.zero, i.size, i.bytes)) = some (some (.agg #[.slice none 0 0, .bool false, .nilFunc]), 3, 40) := by kernel_rfl
theorem sz188 : (Tryz.prog.info? 188).map (·.size) = some 3 := by kernel_rfl
theorem zr188 : (Tryz.prog.info? 188).map (·.zero) = some (some (.agg #[.slice none 0 0, .bool false, .nilFunc])) := by kernel_rfl
theorem inf189 : (Tryz.prog.info? 189).map (fun i => (i.zero, i.size, i.bytes)) = some (some (.agg #[.slice none 0 0, .bool false, .nilFunc]), 3, 40) := by kernel_rfl
theorem sz189 : (Tryz.prog.info? 189).map (·.size) = some 3 := by kernel_rfl
theorem zr189 : (Tryz.prog.info? 189).map (·.zero) = some (some (.agg #[.slice none 0 0, .bool false, .nilFunc])) := by kernel_rfl
theorem inf198 : (Tryz.prog.info? 198).map (fun i => (i.zero, i.size, i.bytes)) = some (some (.agg #[.int .i64 0, .int .i64 0, .int .i64 0]), 3, 24) := by kernel_rfl
theorem sz198 : (Tryz.prog.info? 198).map (·.size) = some 3 := by kernel_rfl
theorem zr198 : (Tryz.prog.info? 198).map (·.zero) = some (some (.agg #[.int .i64 0, .int .i64 0, .int .i64 0])) := by kernel_rfl
theorem inf199 : (Tryz.prog.info? 199).map (fun i => (i.zero, i.size, i.bytes)) = some (some (.agg #[.int .i64 0, .int .i64 0, .int .i64 0]), 3, 24) := by kernel_rfl
theorem sz199 : (Tryz.prog.info? 199).map (·.size) = some 3 := by kernel_rfl
theorem zr199 : (Tryz.prog.info? 199).map (·.zero) = some (some (.agg #[.int .i64 0, .int .i64 0, .int .i64 0])) := by kernel_rfl
theorem inf222 : (Tryz.prog.info? 222).map (fun i => (i.zero, i.size, i.bytes)) = some (some (.map none), 1, 8) := by kernel_rfl
theorem sz222 : (Tryz.prog.info? 222).map (·.size) = some 1 := by kernel_rfl
theorem zr222 : (Tryz.prog.info? 222).map (·.zero) = some (some (.map none)) := by kernel_rfl
theorem inf223 : (Tryz.prog.info? 223).map (fun i => (i.zero, i.size, i.bytes)) = some (some (.map none), 1, 8) := by kernel_rfl
theorem sz223 : (Tryz.prog.info? 223).map (·.size) = some 1 := by kernel_rfl
theorem zr223 : (Tryz.prog.info? 223).map (·.zero) = some (some (.map none)) := by kernel_rfl
theorem inf225 : (Tryz.prog.info? 225).map (fun i => (i.zero, i.size, i.bytes)) = some (some (.agg #[.string ⟨#[]⟩, .string ⟨#[]⟩]), 2, 32) := by kernel_rfl
theorem sz225 : (Tryz.prog.info? 225).map (·.size) = some 2 := by kernel_rfl
theorem zr225 : (Tryz.prog.info? 225).map (·.zero) = some (some (.agg #[.string ⟨#[]⟩, .string ⟨#[]⟩])) := by kernel_rfl
theorem inf227 : (Tryz.prog.info? 227).map (fun i => (i.zero, i.size, i.bytes)) = some (some (.agg #[.string ⟨#[]⟩, .string ⟨#[]⟩, .string ⟨#[]⟩]), 3, 48) := by kernel_rfl
theorem sz227 : (Tryz.prog.info? 227).map (·.size) = some 3 := by kernel_rfl
theorem zr227 : (Tryz.prog.info? 227).map (·.zero) = some (some (.agg #[.string ⟨#[]⟩, .string ⟨#[]⟩, .string ⟨#[]⟩])) := by kernel_rfl
theorem inf228 : (Tryz.prog.info? 228).map (fun i => (i.zero, i.size, i.bytes)) = some (some (.agg #[.string ⟨#[]⟩, .string ⟨#[]⟩, .string ⟨#[]⟩, .string ⟨#[]⟩]), 4, 64) := by kernel_rfl
theorem sz228 : (Tryz.prog.info? 228).map (·.size) = some 4 := by kernel_rfl
theorem zr228 : (Tryz.prog.info? 228).map (·.zero) = some (some (.agg #[.string ⟨#[]⟩, .string ⟨#[]⟩, .string ⟨#[]⟩, .string ⟨#[]⟩])) := by kernel_rfl
theorem inf230 : (Tryz.prog.info? 230).map (fun i => (i.zero, i.size, i.bytes)) = some (some (.agg #[.string ⟨#[]⟩, .string ⟨#[]⟩, .int .i64 0]), 3, 40) := by kernel_rfl
theorem sz230 : (Tryz.prog.info? 230).map (·.size) = some 3 := by kernel_rfl
theorem zr230 : (Tryz.prog.info? 230).map (·.zero) = some (some (.agg #[.string ⟨#[]⟩, .string ⟨#[]⟩, .int .i64 0])) := by kernel_rfl
theorem inf231 : (Tryz.prog.info? 231).map (fun i => (i.zero, i.size, i.bytes)) = some (some (.agg #[.string ⟨#[]⟩, .string ⟨#[]⟩, .int .i64 0]), 3, 40) := by kernel_rfl
theorem sz231 : (Tryz.prog.info? 231).map (·.size) = some 3 := by kernel_rfl
theorem zr231 : (Tryz.prog.info? 231).map (·.zero) = some (some (.agg #[.string ⟨#[]⟩, .string ⟨#[]⟩, .int .i64 0])) := by kernel_rfl
theorem inf232 : (Tryz.prog.info? 232).map (fun i => (i.zero, i.size, i.bytes)) = some (some (.map none), 1, 8) := by kernel_rfl
theorem sz232 : (Tryz.prog.info? 232).map (·.size) = some 1 := by kernel_rfl
theorem zr232 : (Tryz.prog.info? 232).map (·.zero) = some (some (.map none)) := by kernel_rfl
theorem inf243 : (Tryz.prog.info? 243).map (fun i => (i.zero, i.size, i.bytes)) = some (some (.slice none 0 0), 1, 24) := by kernel_rfl
theorem sz243 : (Tryz.prog.info? 243).map (·.size) = some 1 := by kernel_rfl
theorem zr243 : (Tryz.prog.info? 243).map (·.zero) = some (some (.slice none 0 0)) := by kernel_rfl
theorem inf247 : (Tryz.prog.info? 247).map (fun i => (i.zero, i.size, i.bytes)) = some (some (.nilFunc), 1, 8) := by kernel_rfl
theorem sz247 : (Tryz.prog.info? 247).map (·.size) = some 1 := by kernel_rfl
theorem zr247 : (Tryz.prog.info? 247).map (·.zero) = some (some (.nilFunc)) := by kernel_rfl
theorem inf249 : (Tryz.prog.info? 249).map (fun i => (i.zero, i.size, i.bytes)) = some (some (.map none), 1, 8) := by kernel_rfl
theorem sz249 : (Tryz.prog.info? 249).map (·.size) = some 1 := by kernel_rfl
theorem zr249 : (Tryz.prog.info? 249).map (·.zero) = some (some (.map none)) := by kernel_rfl
theorem inf251 : (Tryz.prog.info? 251).map (fun i => (i.zero, i.size, i.bytes)) = some (some (.nilFunc), 1, 8) := by kernel_rfl
theorem sz251 : (Tryz.prog.info? 251).map (·.size) = some 1 := by kernel_rfl
theorem zr251 : (Tryz.prog.info? 251).map (·.zero) = some (some (.nilFunc)) := by kernel_rfl
theorem inf253 : (Tryz.prog.info? 253).map (fun i => (i.zero, i.size, i.bytes)) = some (some (.map none), 1, 8) := by kernel_rfl
theorem sz253 : (Tryz.prog.info? 253).map (·.size) = some 1 := by kernel_rfl
theorem zr253 : (Tryz.prog.info? 253).map (·.zero) = some (some (.map none)) := by kernel_rfl
theorem inf259 : (Tryz.prog.info? 259).map (fun i => (i.zero, i.size, i.bytes)) = some (some (.agg #[.int .i64 0, .int .i64 0, .int .i64 0]), 3, 24) := by kernel_rfl
theorem sz259 : (Tryz.prog.info? 259).map (·.size) = some 3 := by kernel_rfl
theorem zr259 : (Tryz.prog.info? 259).map (·.zero) = some (some (.agg #[.int .i64 0, .int .i64 0, .int .i64 0])) := by kernel_rfl
theorem inf260 : (Tryz.prog.info? 260).map (fun i => (i.zero, i.size, i.bytes)) = some (some (.agg #[.int .i64 0, .int .i64 0, .int .i64 0]), 3, 24) := by kernel_rfl
theorem sz260 : (Tryz.prog.info? 260).map (·.size) = some 3 := by kernel_rfl
theorem zr260 : (Tryz.prog.info? 260).map (·.zero) = some (some (.agg #[.int .i64 0, .int .i64 0, .int .i64 0])) := by kernel_rfl
theorem inf283 : (Tryz.prog.info? 283).map (fun i => (i.zero, i.size, i.bytes)) = some (some (.nilFunc), 1, 8) := by kernel_rfl
theorem sz283 : (Tryz.prog.info? 283).map (·.size) = some 1 := by kernel_rfl
theorem zr283 : (Tryz.prog.info? 283).map (·.zero) = some (some (.nilFunc)) := by kernel_rfl
theorem inf286 : (Tryz.prog.info? 286).map (fun i => (i.zero, i.size, i.bytes)) = some (some (.int .u64 0), 1, 8) := by kernel_rfl
theorem sz286 : (Tryz.prog.info? 286).map (·.size) = some 1 := by kernel_rfl
theorem zr286 : (Tryz.prog.info? 286).map (·.zero) = some (some (.int .u64 0)) := by kernel_rfl
theorem inf304 : (Tryz.prog.info? 304).map (fun i => (i.zero, i.size, i.bytes)) = some (some (.agg #[.pointer none, .pointer none, .pointer none, .string ⟨#[]⟩]), 4, 40) := by kernel_rfl
theorem sz304 : (Tryz.prog.info? 304).map (·.size) = some 4 := by kernel_rfl
theorem zr304 : (Tryz.prog.info? 304).map (·.zero) = some (some (.agg #[.pointer none, .pointer none, .pointer none, .string ⟨#[]⟩])) := by kernel_rfl
theorem inf305 : (Tryz.prog.info? 305).map (fun i => (i.zero, i.size, i.bytes)) = some (some (.agg #[.pointer none, .pointer none, .pointer none, .string ⟨#[]⟩]), 4, 40) := by kernel_rfl
theorem sz305 : (Tryz.prog.info? 305).map (·.size) = some 4 := by kernel_rfl
theorem zr305 : (Tryz.prog.info? 305).map (·.zero) = some (some (.agg #[.pointer none, .pointer none, .pointer none, .string ⟨#[]⟩])) := by kernel_rfl
theorem inf306 : (Tryz.prog.info? 306).map (fun i => (i.zero, i.size, i.bytes)) = some (some (.agg #[]), 0, 0) := by kernel_rfl
theorem sz306 : (Tryz.prog.info? 306).map (·.size) = some 0 := by kernel_rfl
theorem zr306 : (Tryz.prog.info? 306).map (·.zero) = some (some (.agg #[])) := by kernel_rfl
theorem inf307 : (Tryz.prog.info? 307).map (fun i => (i.zero, i.size, i.bytes)) = some (some (.agg #[]), 0, 0) := by kernel_rfl
theorem sz307 : (Tryz.prog.info? 307).map (·.size) = some 0 := by kernel_rfl
theorem zr307 : (Tryz.prog.info? 307).map (·.zero) = some (some (.agg #[])) := by kernel_rfl
theorem inf308 : (Tryz.prog.info? 308).map (fun i => (i.zero, i.size, i.bytes)) = some (some (.agg #[]), 0, 0) := by kernel_rfl
theorem sz308 : (Tryz.prog.info? 308).map (·.size) = some 0 := by kernel_rfl
theorem zr308 : (Tryz.prog.info? 308).map (·.zero) = some (some (.agg #[])) := by kernel_rfl
theorem inf309 : (Tryz.prog.info? 309).map (fun i => (i.zero, i.size, i.bytes)) = some (some (.int .u32 0), 1, 4) := by kernel_rfl
theorem sz309 : (Tryz.prog.info? 309).map (·.size) = some 1 := by kernel_rfl
theorem zr309 : (Tryz.prog.info? 309).map (·.zero) = some (some (.int .u32 0)) := by kernel_rfl
theorem inf310 : (Tryz.prog.info? 310).map (fun i => (i.zero, i.size, i.bytes)) = some (some (.int .u8 0), 1, 1) := by kernel_rfl
theorem sz310 : (Tryz.prog.info? 310).map (·.size) = some 1 := by kernel_rfl
theorem zr310 : (Tryz.prog.info? 310).map (·.zero) = some (some (.int .u8 0)) := by kernel_rfl
theorem inf311 : (Tryz.prog.info? 311).map (fun i => (i.zero, i.size, i.bytes)) = some (some (.int .u8 0), 1, 1) := by kernel_rfl
theorem sz311 : (Tryz.prog.info? 311).map (·.size) = some 1 := by kernel_rfl
theorem zr311 : (Tryz.prog.info? 311).map (·.zero) = some (some (.int .u8 0)) := by kernel_rfl
theorem inf313 : (Tryz.prog.info? 313).map (fun i => (i.zero, i.size, i.bytes)) = some (some (.pointer none), 1, 8) := by kernel_rfl
theorem sz313 : (Tryz.prog.info? 313).map (·.size) = some 1 := by kernel_rfl
theorem zr313 : (Tryz.prog.info? 313).map (·.zero) = some (some (.pointer none)) := by kernel_rfl
theorem inf314 : (Tryz.prog.info? 314).map (fun i => (i.zero, i.size, i.bytes)) = some (some (.int .i32 0), 1, 4) := by kernel_rfl
theorem sz314 : (Tryz.prog.info? 314).map (·.size) = some 1 := by kernel_rfl
theorem zr314 : (Tryz.prog.info? 314).map (·.zero) = some (some (.int .i32 0)) := by kernel_rfl
theorem inf315 : (Tryz.prog.info? 315).map (fun i => (i.zero, i.size, i.bytes)) = some (some (.int .i32 0), 1, 4) := by kernel_rfl
theorem sz315 : (Tryz.prog.info? 315).map (·.size) = some 1 := by kernel_rfl
theorem zr315 : (Tryz.prog.info? 315).map (·.zero) = some (some (.int .i32 0)) := by kernel_rfl
theorem inf316 : (Tryz.prog.info? 316).map (fun i => (i.zero, i.size, i.bytes)) = some (some (.agg #[.int .u64 0, .int .u64 0, .int .u32 0, .int .u8 0, .int .u8 0, .int .u8 0, .int .u8 0, .nilFunc, .pointer none, .int .i32 0, .int .i32 0]), 11, 48) := by kernel_rfl
theorem sz316 : (Tryz.prog.info? 316).map (·.size) = some 11 := by kernel_rfl
theorem zr316 : (Tryz.prog.info? 316).map (·.zero) = some (some (.agg #[.int .u64 0, .int .u64 0, .int .u32 0, .int .u8 0, .int .u8 0, .int .u8 0, .int .u8 0, .nilFunc, .pointer none, .int .i32 0, .int .i32 0])) := by kernel_rfl
theorem inf317 : (Tryz.prog.info? 317).map (fun i => (i.zero, i.size, i.bytes)) = some (some (.agg #[.int .u64 0, .int .u64 0, .int .u32 0, .int .u8 0, .int .u8 0, .int .u8 0, .int .u8 0, .nilFunc, .pointer none, .int .i32 0, .int .i32 0]), 11, 48) := by kernel_rfl
theorem sz317 : (Tryz.prog.info? 317).map (·.size) = some 11 := by kernel_rfl
theorem zr317 : (Tryz.prog.info? 317).map (·.zero) = some (some (.agg #[.int .u64 0, .int .u64 0, .int .u32 0, .int .u8 0, .int .u8 0, .int .u8 0, .int .u8 0, .nilFunc, .pointer none, .int .i32 0, .int .i32 0])) := by kernel_rfl
theorem pl7 : E.structPl Tryz.prog 7 = some [(0, 1), (1, 1), (2, 1), (3, 1)] := by kernel_rfl
theorem pl8 : E.structPl Tryz.prog 8 = some [(0, 1), (1, 1), (2, 1), (3, 1)] := by kernel_rfl
theorem pl13 : E.structPl Tryz.prog 13 = some [(0, 1), (1, 1)] := by kernel_rfl
theorem pl14 : E.structPl Tryz.prog 14 = some [(0, 1), (1, 1)] := by kernel_rfl
theorem pl18 : E.structPl Tryz.prog 18 = some [(0, 1)] := by kernel_rfl
theorem pl19 : E.structPl Tryz.prog 19 = some [(0, 1)] := by kernel_rfl
theorem pl24 : E.structPl Tryz.prog 24 = some [(0, 1), (1, 1)] := by kernel_rfl
theorem pl25 : E.structPl Tryz.prog 25 = some [(0, 1), (1, 1)] := by kernel_rfl
theorem pl26 : E.structPl Tryz.prog 26 = some [(0, 1), (1, 1), (2, 1), (3, 1)] := by kernel_rfl
theorem pl27 : E.structPl Tryz.prog 27 = some [(0, 1), (1, 1), (2, 1), (3, 1)] := by kernel_rfl
theorem pl58 : E.structPl Tryz.prog 58 = some [(0, 1), (1, 4)] := by kernel_rfl
theorem pl59 : E.structPl Tryz.prog 59 = some [(0, 1), (1, 4)] := by kernel_rfl
theorem pl66 : E.structPl Tryz.prog 66 = some [(0, 1), (1, 4)] := by kernel_rfl
theorem pl74 : E.structPl Tryz.prog 74 = some [(0, 1), (1, 1)] := by kernel_rfl
theorem pl75 : E.structPl Tryz.prog 75 = some [(0, 1), (1, 1)] := by kernel_rfl
theorem pl80 : E.structPl Tryz.prog 80 = some [(0, 1), (1, 1), (2, 1), (3, 1), (4, 4), (8, 1), (9, 1)] := by kernel_rfl
theorem pl81 : E.structPl Tryz.prog 81 = some [(0, 1), (1, 1), (2, 1), (3, 1), (4, 4), (8, 1), (9, 1)] := by kernel_rfl
theorem pl87 : E.structPl Tryz.prog 87 = some [(0, 1), (1, 1)] := by kernel_rfl
theorem pl101 : E.structPl Tryz.prog 101 = some [(0, 1), (1, 1), (2, 4)] := by kernel_rfl
theorem pl102 : E.structPl Tryz.prog 102 = some [(0, 1), (1, 1), (2, 4)] := by kernel_rfl
theorem pl105 : E.structPl Tryz.prog 105 = some [(0, 1), (1, 1), (2, 1)] := by kernel_rfl
theorem pl106 : E.structPl Tryz.prog 106 = some [(0, 1), (1, 1), (2, 1)] := by kernel_rfl
theorem pl108 : E.structPl Tryz.prog 108 = some [(0, 1), (1, 1), (2, 1)] := by kernel_rfl
theorem pl112 : E.structPl Tryz.prog 112 = some [(0, 2), (2, 1), (3, 1)] := by kernel_rfl
theorem pl113 : E.structPl Tryz.prog 113 = some [(0, 2), (2, 1), (3, 1)] := by kernel_rfl
theorem pl115 : E.structPl Tryz.prog 115 = some [(0, 1), (1, 1)] := by kernel_rfl
theorem pl116 : E.structPl Tryz.prog 116 = some [(0, 1), (1, 1)] := by kernel_rfl
theorem pl119 : E.structPl Tryz.prog 119 = some [(0, 3), (3, 1), (4, 1), (5, 1)] := by kernel_rfl
theorem pl120 : E.structPl Tryz.prog 120 = some [(0, 3), (3, 1), (4, 1), (5, 1)] := by kernel_rfl
theorem pl124 : E.structPl Tryz.prog 124 = some [(0, 2), (2, 1), (3, 1)] := by kernel_rfl
theorem pl125 : E.structPl Tryz.prog 125 = some [(0, 2), (2, 1), (3, 1)] := by kernel_rfl
theorem pl153 : E.structPl Tryz.prog 153 = some [(0, 4), (4, 10), (14, 1), (15, 1), (16, 1), (17, 1), (18, 1), (19, 1)] := by kernel_rfl
theorem pl154 : E.structPl Tryz.prog 154 = some [(0, 4), (4, 10), (14, 1), (15, 1), (16, 1), (17, 1), (18, 1), (19, 1)] := by kernel_rfl
theorem pl165 : E.structPl Tryz.prog 165 = some [(0, 4), (4, 10), (14, 1), (15, 1), (16, 1), (17, 1), (18, 1), (19, 1)] := by kernel_rfl
theorem pl166 : E.structPl Tryz.prog 166 = some [(0, 4), (4, 10), (14, 1), (15, 1), (16, 1), (17, 1), (18, 1), (19, 1)] := by kernel_rfl
theorem pl167 : E.structPl Tryz.prog 167 = some [(0, 1), (1, 1), (2, 1)] := by kernel_rfl
theorem pl168 : E.structPl Tryz.prog 168 = some [(0, 1), (1, 1), (2, 1)] := by kernel_rfl
theorem pl188 : E.structPl Tryz.prog 188 = some [(0, 1), (1, 1), (2, 1)] := by kernel_rfl
theorem pl189 : E.structPl Tryz.prog 189 = some [(0, 1), (1, 1), (2, 1)] := by kernel_rfl
theorem pl198 : E.structPl Tryz.prog 198 = some [(0, 1), (1, 1), (2, 1)] := by kernel_rfl
theorem pl199 : E.structPl Tryz.prog 199 = some [(0, 1), (1, 1), (2, 1)] := by kernel_rfl
theorem pl230 : E.structPl Tryz.prog 230 = some [(0, 1), (1, 1), (2, 1)] := by kernel_rfl
theorem pl231 : E.structPl Tryz.prog 231 = some [(0, 1), (1, 1), (2, 1)] := by kernel_rfl
theorem pl259 : E.structPl Tryz.prog 259 = some [(0, 1), (1, 1), (2, 1)] := by kernel_rfl
theorem pl260 : E.structPl Tryz.prog 260 = some [(0, 1), (1, 1), (2, 1)] := by kernel_rfl
theorem pl304 : E.structPl Tryz.prog 304 = some [(0, 1), (1, 1), (2, 1), (3, 1)] := by kernel_rfl
theorem pl305 : E.structPl Tryz.prog 305 = some [(0, 1), (1, 1), (2, 1), (3, 1)] := by kernel_rfl
theorem pl307 : E.structPl Tryz.prog 307 = some [(0, 0)] := by kernel_rfl
theorem pl308 : E.structPl Tryz.prog 308 = some [(0, 0)] := by kernel_rfl
theorem pl316 : E.structPl Tryz.prog 316 = some [(0, 1), (1, 1), (2, 1), (3, 1), (4, 1), (5, 1), (6, 1), (7, 1), (8, 1), (9, 1), (10, 1)] := by kernel_rfl
theorem pl317 : E.structPl Tryz.prog 317 = some [(0, 1), (1, 1), (2, 1), (3, 1), (4, 1), (5, 1), (6, 1), (7, 1), (8, 1), (9, 1), (10, 1)] := by kernel_rfl
end Go.Proofs.YtklkbfpjimeaoaaGreat
