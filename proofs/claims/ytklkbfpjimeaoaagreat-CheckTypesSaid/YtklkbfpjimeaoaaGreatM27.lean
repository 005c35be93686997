import Derived.Test.YtklkbfpjimeaoaaGreatM26
import Derived.Test.YtklkbfpjimeaoaaGreatM25
import Derived.Test.YtklkbfpjimeaoaaGreatM18
import Derived.Test.YtklkbfpjimeaoaaGreatM12
import Derived.Defers
import Derived.Recover
import Derived.Tactics
import Derived.Tactics2
import Derived.Laws.Pointers
/- Contracts of functions. Conditions: none. -/
set_option linter.unusedSimpArgs false
set_option linter.unusedVariables false
set_option maxRecDepth 20000
namespace Go.Proofs.YtklkbfpjimeaoaaGreat
open Go Go.Proofs.YtklkbfpjimeaoaaGreat.E
section
abbrev kk (a b : ByteArray) : D := .agg [.str a, .str b]
def rm0 : List (List PV) := [mpc [] [], [.mref 0]]
def rm1 : List (List PV) := [mpc [kk ⟨#[117, 110, 97, 114, 121]⟩ ⟨#[45]⟩] [.mref 3], [.mref 0], [.d (.str ⟨#[117, 110, 97, 114, 121]⟩), .d (.str ⟨#[45]⟩)], mpc [.str ⟨#[105, 110, 116]⟩] [.d (.str ⟨#[105, 110, 116]⟩)]]
def rm2 : List (List PV) := [mpc [kk ⟨#[117, 110, 97, 114, 121]⟩ ⟨#[45]⟩, kk ⟨#[117, 110, 97, 114, 121]⟩ ⟨#[33]⟩] [.mref 3, .mref 5], [.mref 0], [.d (.str ⟨#[117, 110, 97, 114, 121]⟩), .d (.str ⟨#[45]⟩)], mpc [.str ⟨#[105, 110, 116]⟩] [.d (.str ⟨#[105, 110, 116]⟩)], [.d (.str ⟨#[117, 110, 97, 114, 121]⟩), .d (.str ⟨#[33]⟩)], mpc [.str ⟨#[98, 111, 111, 108]⟩] [.d (.str ⟨#[98, 111, 111, 108]⟩)]]
def rm3 : List (List PV) := [mpc [kk ⟨#[117, 110, 97, 114, 121]⟩ ⟨#[45]⟩, kk ⟨#[117, 110, 97, 114, 121]⟩ ⟨#[33]⟩, kk ⟨#[98, 105, 110, 97, 114, 121]⟩ ⟨#[43]⟩, kk ⟨#[98, 105, 110, 97, 114, 121]⟩ ⟨#[45]⟩, kk ⟨#[98, 105, 110, 97, 114, 121]⟩ ⟨#[42]⟩, kk ⟨#[98, 105, 110, 97, 114, 121]⟩ ⟨#[47]⟩, kk ⟨#[98, 105, 110, 97, 114, 121]⟩ ⟨#[37]⟩] [.mref 3, .mref 5, .mref 7, .mref 9, .mref 11, .mref 13, .mref 15], [.mref 0], [.d (.str ⟨#[117, 110, 97, 114, 121]⟩), .d (.str ⟨#[45]⟩)], mpc [.str ⟨#[105, 110, 116]⟩] [.d (.str ⟨#[105, 110, 116]⟩)], [.d (.str ⟨#[117, 110, 97, 114, 121]⟩), .d (.str ⟨#[33]⟩)], mpc [.str ⟨#[98, 111, 111, 108]⟩] [.d (.str ⟨#[98, 111, 111, 108]⟩)], [.d (.str ⟨#[98, 105, 110, 97, 114, 121]⟩), .d (.str ⟨#[43]⟩)], mpc [.str ⟨#[105, 110, 116, 32, 105, 110, 116]⟩] [.d (.str ⟨#[105, 110, 116]⟩)], [.d (.str ⟨#[98, 105, 110, 97, 114, 121]⟩), .d (.str ⟨#[45]⟩)], mpc [.str ⟨#[105, 110, 116, 32, 105, 110, 116]⟩] [.d (.str ⟨#[105, 110, 116]⟩)], [.d (.str ⟨#[98, 105, 110, 97, 114, 121]⟩), .d (.str ⟨#[42]⟩)], mpc [.str ⟨#[105, 110, 116, 32, 105, 110, 116]⟩] [.d (.str ⟨#[105, 110, 116]⟩)], [.d (.str ⟨#[98, 105, 110, 97, 114, 121]⟩), .d (.str ⟨#[47]⟩)], mpc [.str ⟨#[105, 110, 116, 32, 105, 110, 116]⟩] [.d (.str ⟨#[105, 110, 116]⟩)], [.d (.str ⟨#[98, 105, 110, 97, 114, 121]⟩), .d (.str ⟨#[37]⟩)], mpc [.str ⟨#[105, 110, 116, 32, 105, 110, 116]⟩] [.d (.str ⟨#[105, 110, 116]⟩)]]
def rm4 : List (List PV) := [mpc [kk ⟨#[117, 110, 97, 114, 121]⟩ ⟨#[45]⟩, kk ⟨#[117, 110, 97, 114, 121]⟩ ⟨#[33]⟩, kk ⟨#[98, 105, 110, 97, 114, 121]⟩ ⟨#[43]⟩, kk ⟨#[98, 105, 110, 97, 114, 121]⟩ ⟨#[45]⟩, kk ⟨#[98, 105, 110, 97, 114, 121]⟩ ⟨#[42]⟩, kk ⟨#[98, 105, 110, 97, 114, 121]⟩ ⟨#[47]⟩, kk ⟨#[98, 105, 110, 97, 114, 121]⟩ ⟨#[37]⟩, kk ⟨#[98, 105, 110, 97, 114, 121]⟩ ⟨#[61, 61]⟩, kk ⟨#[98, 105, 110, 97, 114, 121]⟩ ⟨#[33, 61]⟩, kk ⟨#[98, 105, 110, 97, 114, 121]⟩ ⟨#[60]⟩, kk ⟨#[98, 105, 110, 97, 114, 121]⟩ ⟨#[60, 61]⟩, kk ⟨#[98, 105, 110, 97, 114, 121]⟩ ⟨#[62]⟩, kk ⟨#[98, 105, 110, 97, 114, 121]⟩ ⟨#[62, 61]⟩] [.mref 3, .mref 5, .mref 7, .mref 9, .mref 11, .mref 13, .mref 15, .mref 17, .mref 19, .mref 21, .mref 23, .mref 25, .mref 27], [.mref 0], [.d (.str ⟨#[117, 110, 97, 114, 121]⟩), .d (.str ⟨#[45]⟩)], mpc [.str ⟨#[105, 110, 116]⟩] [.d (.str ⟨#[105, 110, 116]⟩)], [.d (.str ⟨#[117, 110, 97, 114, 121]⟩), .d (.str ⟨#[33]⟩)], mpc [.str ⟨#[98, 111, 111, 108]⟩] [.d (.str ⟨#[98, 111, 111, 108]⟩)], [.d (.str ⟨#[98, 105, 110, 97, 114, 121]⟩), .d (.str ⟨#[43]⟩)], mpc [.str ⟨#[105, 110, 116, 32, 105, 110, 116]⟩] [.d (.str ⟨#[105, 110, 116]⟩)], [.d (.str ⟨#[98, 105, 110, 97, 114, 121]⟩), .d (.str ⟨#[45]⟩)], mpc [.str ⟨#[105, 110, 116, 32, 105, 110, 116]⟩] [.d (.str ⟨#[105, 110, 116]⟩)], [.d (.str ⟨#[98, 105, 110, 97, 114, 121]⟩), .d (.str ⟨#[42]⟩)], mpc [.str ⟨#[105, 110, 116, 32, 105, 110, 116]⟩] [.d (.str ⟨#[105, 110, 116]⟩)], [.d (.str ⟨#[98, 105, 110, 97, 114, 121]⟩), .d (.str ⟨#[47]⟩)], mpc [.str ⟨#[105, 110, 116, 32, 105, 110, 116]⟩] [.d (.str ⟨#[105, 110, 116]⟩)], [.d (.str ⟨#[98, 105, 110, 97, 114, 121]⟩), .d (.str ⟨#[37]⟩)], mpc [.str ⟨#[105, 110, 116, 32, 105, 110, 116]⟩] [.d (.str ⟨#[105, 110, 116]⟩)], [.d (.str ⟨#[98, 105, 110, 97, 114, 121]⟩), .d (.str ⟨#[61, 61]⟩)], mpc [.str ⟨#[105, 110, 116, 32, 105, 110, 116]⟩] [.d (.str ⟨#[98, 111, 111, 108]⟩)], [.d (.str ⟨#[98, 105, 110, 97, 114, 121]⟩), .d (.str ⟨#[33, 61]⟩)], mpc [.str ⟨#[105, 110, 116, 32, 105, 110, 116]⟩] [.d (.str ⟨#[98, 111, 111, 108]⟩)], [.d (.str ⟨#[98, 105, 110, 97, 114, 121]⟩), .d (.str ⟨#[60]⟩)], mpc [.str ⟨#[105, 110, 116, 32, 105, 110, 116]⟩] [.d (.str ⟨#[98, 111, 111, 108]⟩)], [.d (.str ⟨#[98, 105, 110, 97, 114, 121]⟩), .d (.str ⟨#[60, 61]⟩)], mpc [.str ⟨#[105, 110, 116, 32, 105, 110, 116]⟩] [.d (.str ⟨#[98, 111, 111, 108]⟩)], [.d (.str ⟨#[98, 105, 110, 97, 114, 121]⟩), .d (.str ⟨#[62]⟩)], mpc [.str ⟨#[105, 110, 116, 32, 105, 110, 116]⟩] [.d (.str ⟨#[98, 111, 111, 108]⟩)], [.d (.str ⟨#[98, 105, 110, 97, 114, 121]⟩), .d (.str ⟨#[62, 61]⟩)], mpc [.str ⟨#[105, 110, 116, 32, 105, 110, 116]⟩] [.d (.str ⟨#[98, 111, 111, 108]⟩)]]
def rm5 : List (List PV) := [mpc [kk ⟨#[117, 110, 97, 114, 121]⟩ ⟨#[45]⟩, kk ⟨#[117, 110, 97, 114, 121]⟩ ⟨#[33]⟩, kk ⟨#[98, 105, 110, 97, 114, 121]⟩ ⟨#[43]⟩, kk ⟨#[98, 105, 110, 97, 114, 121]⟩ ⟨#[45]⟩, kk ⟨#[98, 105, 110, 97, 114, 121]⟩ ⟨#[42]⟩, kk ⟨#[98, 105, 110, 97, 114, 121]⟩ ⟨#[47]⟩, kk ⟨#[98, 105, 110, 97, 114, 121]⟩ ⟨#[37]⟩, kk ⟨#[98, 105, 110, 97, 114, 121]⟩ ⟨#[61, 61]⟩, kk ⟨#[98, 105, 110, 97, 114, 121]⟩ ⟨#[33, 61]⟩, kk ⟨#[98, 105, 110, 97, 114, 121]⟩ ⟨#[60]⟩, kk ⟨#[98, 105, 110, 97, 114, 121]⟩ ⟨#[60, 61]⟩, kk ⟨#[98, 105, 110, 97, 114, 121]⟩ ⟨#[62]⟩, kk ⟨#[98, 105, 110, 97, 114, 121]⟩ ⟨#[62, 61]⟩, kk ⟨#[98, 105, 110, 97, 114, 121]⟩ ⟨#[38, 38]⟩, kk ⟨#[98, 105, 110, 97, 114, 121]⟩ ⟨#[124, 124]⟩] [.mref 3, .mref 5, .mref 7, .mref 9, .mref 11, .mref 13, .mref 15, .mref 17, .mref 19, .mref 21, .mref 23, .mref 25, .mref 27, .mref 31, .mref 33], [.mref 0], [.d (.str ⟨#[117, 110, 97, 114, 121]⟩), .d (.str ⟨#[45]⟩)], mpc [.str ⟨#[105, 110, 116]⟩] [.d (.str ⟨#[105, 110, 116]⟩)], [.d (.str ⟨#[117, 110, 97, 114, 121]⟩), .d (.str ⟨#[33]⟩)], mpc [.str ⟨#[98, 111, 111, 108]⟩] [.d (.str ⟨#[98, 111, 111, 108]⟩)], [.d (.str ⟨#[98, 105, 110, 97, 114, 121]⟩), .d (.str ⟨#[43]⟩)], mpc [.str ⟨#[105, 110, 116, 32, 105, 110, 116]⟩] [.d (.str ⟨#[105, 110, 116]⟩)], [.d (.str ⟨#[98, 105, 110, 97, 114, 121]⟩), .d (.str ⟨#[45]⟩)], mpc [.str ⟨#[105, 110, 116, 32, 105, 110, 116]⟩] [.d (.str ⟨#[105, 110, 116]⟩)], [.d (.str ⟨#[98, 105, 110, 97, 114, 121]⟩), .d (.str ⟨#[42]⟩)], mpc [.str ⟨#[105, 110, 116, 32, 105, 110, 116]⟩] [.d (.str ⟨#[105, 110, 116]⟩)], [.d (.str ⟨#[98, 105, 110, 97, 114, 121]⟩), .d (.str ⟨#[47]⟩)], mpc [.str ⟨#[105, 110, 116, 32, 105, 110, 116]⟩] [.d (.str ⟨#[105, 110, 116]⟩)], [.d (.str ⟨#[98, 105, 110, 97, 114, 121]⟩), .d (.str ⟨#[37]⟩)], mpc [.str ⟨#[105, 110, 116, 32, 105, 110, 116]⟩] [.d (.str ⟨#[105, 110, 116]⟩)], [.d (.str ⟨#[98, 105, 110, 97, 114, 121]⟩), .d (.str ⟨#[61, 61]⟩)], mpc [.str ⟨#[105, 110, 116, 32, 105, 110, 116]⟩, .str ⟨#[98, 111, 111, 108, 32, 98, 111, 111, 108]⟩] [.d (.str ⟨#[98, 111, 111, 108]⟩), .d (.str ⟨#[98, 111, 111, 108]⟩)], [.d (.str ⟨#[98, 105, 110, 97, 114, 121]⟩), .d (.str ⟨#[33, 61]⟩)], mpc [.str ⟨#[105, 110, 116, 32, 105, 110, 116]⟩, .str ⟨#[98, 111, 111, 108, 32, 98, 111, 111, 108]⟩] [.d (.str ⟨#[98, 111, 111, 108]⟩), .d (.str ⟨#[98, 111, 111, 108]⟩)], [.d (.str ⟨#[98, 105, 110, 97, 114, 121]⟩), .d (.str ⟨#[60]⟩)], mpc [.str ⟨#[105, 110, 116, 32, 105, 110, 116]⟩] [.d (.str ⟨#[98, 111, 111, 108]⟩)], [.d (.str ⟨#[98, 105, 110, 97, 114, 121]⟩), .d (.str ⟨#[60, 61]⟩)], mpc [.str ⟨#[105, 110, 116, 32, 105, 110, 116]⟩] [.d (.str ⟨#[98, 111, 111, 108]⟩)], [.d (.str ⟨#[98, 105, 110, 97, 114, 121]⟩), .d (.str ⟨#[62]⟩)], mpc [.str ⟨#[105, 110, 116, 32, 105, 110, 116]⟩] [.d (.str ⟨#[98, 111, 111, 108]⟩)], [.d (.str ⟨#[98, 105, 110, 97, 114, 121]⟩), .d (.str ⟨#[62, 61]⟩)], mpc [.str ⟨#[105, 110, 116, 32, 105, 110, 116]⟩] [.d (.str ⟨#[98, 111, 111, 108]⟩)], [.d (.str ⟨#[98, 105, 110, 97, 114, 121]⟩), .d (.str ⟨#[61, 61]⟩)], [.d (.str ⟨#[98, 105, 110, 97, 114, 121]⟩), .d (.str ⟨#[33, 61]⟩)], [.d (.str ⟨#[98, 105, 110, 97, 114, 121]⟩), .d (.str ⟨#[38, 38]⟩)], mpc [.str ⟨#[98, 111, 111, 108, 32, 98, 111, 111, 108]⟩] [.d (.str ⟨#[98, 111, 111, 108]⟩)], [.d (.str ⟨#[98, 105, 110, 97, 114, 121]⟩), .d (.str ⟨#[124, 124]⟩)], mpc [.str ⟨#[98, 111, 111, 108, 32, 98, 111, 111, 108]⟩] [.d (.str ⟨#[98, 111, 111, 108]⟩)]]
set_option maxHeartbeats 4000000 in
theorem c280_0 : Gm Tryz.prog 280 [.d (.str ⟨#[117, 110, 97, 114, 121]⟩), .d (.str ⟨#[105, 110, 116]⟩), .d (.str ⟨#[105, 110, 116]⟩), .d (.sl [.str ⟨#[45]⟩]), .ref 1 0] rm0 (.tup []) rm1 := by
 refine gmB 2 Tryz.func280 Tryz.ntmps280 Tryz.results280 (fun S0 O0 w0 m0 hm0 => ?_)
 unfold rm0
 repeat' first | refine st (by exact rfl) ?_ | refine me (by exact rfl) ?_ | refine lo C225 (hg := ?_) | refine mu C225 (hg := ?_) | refine mu C9 (hg := ?_) | refine el (by exact rfl) rfl ?_ (by decide) | refine ct (by exact rfl) ?_ | refine cf (by exact rfl) ?_ | refine gRn 8 ?_ | fail
 exact Y13
set_option maxHeartbeats 4000000 in
theorem c280_1 : Gm Tryz.prog 280 [.d (.str ⟨#[117, 110, 97, 114, 121]⟩), .d (.str ⟨#[98, 111, 111, 108]⟩), .d (.str ⟨#[98, 111, 111, 108]⟩), .d (.sl [.str ⟨#[33]⟩]), .ref 1 0] rm1 (.tup []) rm2 := by
 refine gmB 4 Tryz.func280 Tryz.ntmps280 Tryz.results280 (fun S0 O0 w0 m0 hm0 => ?_)
 unfold rm1
 repeat' first | refine st (by exact rfl) ?_ | refine me (by exact rfl) ?_ | refine lo C225 (hg := ?_) | refine mu C225 (hg := ?_) | refine mu C9 (hg := ?_) | refine el (by exact rfl) rfl ?_ (by decide) | refine ct (by exact rfl) ?_ | refine cf (by exact rfl) ?_ | refine gRn 8 ?_ | fail
 exact Y13
set_option maxHeartbeats 4000000 in
theorem c280_2 : Gm Tryz.prog 280 [.d (.str ⟨#[98, 105, 110, 97, 114, 121]⟩), .d (.str ⟨#[105, 110, 116]⟩), .d (.str ⟨#[105, 110, 116, 32, 105, 110, 116]⟩), .d (.sl [.str ⟨#[43]⟩, .str ⟨#[45]⟩, .str ⟨#[42]⟩, .str ⟨#[47]⟩, .str ⟨#[37]⟩]), .ref 1 0] rm2 (.tup []) rm3 := by
 refine gmB 6 Tryz.func280 Tryz.ntmps280 Tryz.results280 (fun S0 O0 w0 m0 hm0 => ?_)
 unfold rm2
 repeat' first | refine st (by exact rfl) ?_ | refine me (by exact rfl) ?_ | refine lo C225 (hg := ?_) | refine mu C225 (hg := ?_) | refine mu C9 (hg := ?_) | refine el (by exact rfl) rfl ?_ (by decide) | refine ct (by exact rfl) ?_ | refine cf (by exact rfl) ?_ | refine gRn 8 ?_ | fail
 exact Y13
set_option maxHeartbeats 4000000 in
theorem c280_3 : Gm Tryz.prog 280 [.d (.str ⟨#[98, 105, 110, 97, 114, 121]⟩), .d (.str ⟨#[98, 111, 111, 108]⟩), .d (.str ⟨#[105, 110, 116, 32, 105, 110, 116]⟩), .d (.sl [.str ⟨#[61, 61]⟩, .str ⟨#[33, 61]⟩, .str ⟨#[60]⟩, .str ⟨#[60, 61]⟩, .str ⟨#[62]⟩, .str ⟨#[62, 61]⟩]), .ref 1 0] rm3 (.tup []) rm4 := by
 refine gmB 16 Tryz.func280 Tryz.ntmps280 Tryz.results280 (fun S0 O0 w0 m0 hm0 => ?_)
 unfold rm3
 repeat' first | refine st (by exact rfl) ?_ | refine me (by exact rfl) ?_ | refine lo C225 (hg := ?_) | refine mu C225 (hg := ?_) | refine mu C9 (hg := ?_) | refine el (by exact rfl) rfl ?_ (by decide) | refine ct (by exact rfl) ?_ | refine cf (by exact rfl) ?_ | refine gRn 8 ?_ | fail
 exact Y13
set_option maxHeartbeats 4000000 in
theorem c280_4 : Gm Tryz.prog 280 [.d (.str ⟨#[98, 105, 110, 97, 114, 121]⟩), .d (.str ⟨#[98, 111, 111, 108]⟩), .d (.str ⟨#[98, 111, 111, 108, 32, 98, 111, 111, 108]⟩), .d (.sl [.str ⟨#[61, 61]⟩, .str ⟨#[33, 61]⟩, .str ⟨#[38, 38]⟩, .str ⟨#[124, 124]⟩]), .ref 1 0] rm4 (.tup []) rm5 := by
 refine gmB 28 Tryz.func280 Tryz.ntmps280 Tryz.results280 (fun S0 O0 w0 m0 hm0 => ?_)
 unfold rm4
 repeat' first | refine st (by exact rfl) ?_ | refine me (by exact rfl) ?_ | refine lo C225 (hg := ?_) | refine mu C225 (hg := ?_) | refine mu C9 (hg := ?_) | refine el (by exact rfl) rfl ?_ (by decide) | refine ct (by exact rfl) ?_ | refine cf (by exact rfl) ?_ | refine gRn 8 ?_ | fail
 exact Y13
end
section
def rulesM : List (D × D) := [(kk ⟨#[117, 110, 97, 114, 121]⟩ ⟨#[45]⟩, .map [(.str ⟨#[105, 110, 116]⟩, .str ⟨#[105, 110, 116]⟩)]),
 (kk ⟨#[117, 110, 97, 114, 121]⟩ ⟨#[33]⟩, .map [(.str ⟨#[98, 111, 111, 108]⟩, .str ⟨#[98, 111, 111, 108]⟩)]),
 (kk ⟨#[98, 105, 110, 97, 114, 121]⟩ ⟨#[43]⟩, .map [(.str ⟨#[105, 110, 116, 32, 105, 110, 116]⟩, .str ⟨#[105, 110, 116]⟩)]),
 (kk ⟨#[98, 105, 110, 97, 114, 121]⟩ ⟨#[45]⟩, .map [(.str ⟨#[105, 110, 116, 32, 105, 110, 116]⟩, .str ⟨#[105, 110, 116]⟩)]),
 (kk ⟨#[98, 105, 110, 97, 114, 121]⟩ ⟨#[42]⟩, .map [(.str ⟨#[105, 110, 116, 32, 105, 110, 116]⟩, .str ⟨#[105, 110, 116]⟩)]),
 (kk ⟨#[98, 105, 110, 97, 114, 121]⟩ ⟨#[47]⟩, .map [(.str ⟨#[105, 110, 116, 32, 105, 110, 116]⟩, .str ⟨#[105, 110, 116]⟩)]),
 (kk ⟨#[98, 105, 110, 97, 114, 121]⟩ ⟨#[37]⟩, .map [(.str ⟨#[105, 110, 116, 32, 105, 110, 116]⟩, .str ⟨#[105, 110, 116]⟩)]),
 (kk ⟨#[98, 105, 110, 97, 114, 121]⟩ ⟨#[61, 61]⟩, .map [(.str ⟨#[105, 110, 116, 32, 105, 110, 116]⟩, .str ⟨#[98, 111, 111, 108]⟩), (.str ⟨#[98, 111, 111, 108, 32, 98, 111, 111, 108]⟩, .str ⟨#[98, 111, 111, 108]⟩)]),
 (kk ⟨#[98, 105, 110, 97, 114, 121]⟩ ⟨#[33, 61]⟩, .map [(.str ⟨#[105, 110, 116, 32, 105, 110, 116]⟩, .str ⟨#[98, 111, 111, 108]⟩), (.str ⟨#[98, 111, 111, 108, 32, 98, 111, 111, 108]⟩, .str ⟨#[98, 111, 111, 108]⟩)]),
 (kk ⟨#[98, 105, 110, 97, 114, 121]⟩ ⟨#[60]⟩, .map [(.str ⟨#[105, 110, 116, 32, 105, 110, 116]⟩, .str ⟨#[98, 111, 111, 108]⟩)]),
 (kk ⟨#[98, 105, 110, 97, 114, 121]⟩ ⟨#[60, 61]⟩, .map [(.str ⟨#[105, 110, 116, 32, 105, 110, 116]⟩, .str ⟨#[98, 111, 111, 108]⟩)]),
 (kk ⟨#[98, 105, 110, 97, 114, 121]⟩ ⟨#[62]⟩, .map [(.str ⟨#[105, 110, 116, 32, 105, 110, 116]⟩, .str ⟨#[98, 111, 111, 108]⟩)]),
 (kk ⟨#[98, 105, 110, 97, 114, 121]⟩ ⟨#[62, 61]⟩, .map [(.str ⟨#[105, 110, 116, 32, 105, 110, 116]⟩, .str ⟨#[98, 111, 111, 108]⟩)]),
 (kk ⟨#[98, 105, 110, 97, 114, 121]⟩ ⟨#[38, 38]⟩, .map [(.str ⟨#[98, 111, 111, 108, 32, 98, 111, 111, 108]⟩, .str ⟨#[98, 111, 111, 108]⟩)]),
 (kk ⟨#[98, 105, 110, 97, 114, 121]⟩ ⟨#[124, 124]⟩, .map [(.str ⟨#[98, 111, 111, 108, 32, 98, 111, 111, 108]⟩, .str ⟨#[98, 111, 111, 108]⟩)])]
set_option maxHeartbeats 4000000 in
theorem c220 : Pf Tryz.prog 220 [] (.d (.map rulesM)) := by
 refine pfb Tryz.func220 Tryz.ntmps220 Tryz.results220 (fun S0 O0 w0 m0 hm0 => ?_)
 repeat' first | refine st (by exact rfl) ?_ | refine bs (by exact rfl) ?_ | refine cm (by exact rfl) c280_0 ?_ | refine cm (by exact rfl) c280_1 ?_ | refine cm (by exact rfl) c280_2 ?_ | refine cm (by exact rfl) c280_3 ?_ | fail
 refine cm (by exact rfl) c280_4 ?_
 repeat' first | refine fm 2 strB (fun k h => (C9.ok k h).2) (hlo := by exact rfl) (hg := ?_) | refine fg 2 (by exact rfl) (hlo := by exact rfl) (hg := ?_) | fail
 refine st (by exact rfl) (st (by exact rfl) (st (by exact rfl) (st (by exact rfl) ?_)))
 refine st (by exact rfl) (st (by exact rfl) ?_)
 refine fg 1 (by exact rfl) ?_
 refine fm 0 pairB (fun k h => (C225.ok k h).2) (hg := ?_)
 repeat' first | refine st (by exact rfl) ?_ | fail
 exact Y1
end
section
def fmHide (l : KL) : List Fm → KL
 | [] => l
 | f :: r => fmHide (hideK f.nm l) r
theorem KOk.fm : ∀ (l : List Fm) {c : KL}, KOk c → KOk (fmHide c l)
 | [], _, h => h
 | f :: r, _, h => by rw [fmHide]; exact KOk.fm r (h.hide _)
end
section
def sInt : ByteArray := ⟨#[105, 110, 116]⟩
def sBool : ByteArray := ⟨#[98, 111, 111, 108]⟩
def sRange : ByteArray := ⟨#[114, 97, 110, 103, 101]⟩
def sDom1 : ByteArray := ⟨#[100, 111, 109, 97, 105, 110, 49]⟩
def sDom2 : ByteArray := ⟨#[100, 111, 109, 97, 105, 110, 50]⟩
def sArr1 : ByteArray := ⟨#[97, 114, 114, 97, 121, 49]⟩
def sArr2 : ByteArray := ⟨#[97, 114, 114, 97, 121, 50]⟩
def sSync : ByteArray := ⟨#[115, 121, 110, 99]⟩
def sAtomic : ByteArray := ⟨#[97, 116, 111, 109, 105, 99]⟩
def sVoid : ByteArray := ⟨#[118, 111, 105, 100]⟩
def sSize : ByteArray := ⟨#[115, 105, 122, 101]⟩
def sDomain : ByteArray := ⟨#[100, 111, 109, 97, 105, 110]⟩
def sParam : ByteArray := ⟨#[112, 97, 114, 97, 109]⟩
def sType : ByteArray := ⟨#[116, 121, 112, 101]⟩
def sArray : ByteArray := ⟨#[97, 114, 114, 97, 121]⟩
def isDomB (s : ByteArray) : Bool := decide (s = sDom1) || decide (s = sDom2)
def isArrB (s : ByteArray) : Bool := decide (s = sArr1) || decide (s = sArr2)
def basicB (s : ByteArray) : Bool := decide (s = sInt) || (decide (s = sBool) || (decide (s = sRange) || (decide (s = sDom1) || (decide (s = sDom2) || (decide (s = sArr1) || (decide (s = sArr2) || (decide (s = sSync) || (decide (s = sAtomic) || decide (s = sVoid)))))))))
def whenS (b : Bool) (t : ByteArray) : ByteArray := if b = true then t else ⟨#[]⟩
theorem c141 (s : ByteArray) : Pf Tryz.prog 141 [.str s] (.d (.bool (isDomB s))) := by
 refine pfb Tryz.func141 Tryz.ntmps141 Tryz.results141 (fun S0 O0 w0 m0 hm0 => ?_)
 repeat' first | refine st (by exact rfl) ?_ | fail
 exact Y1
theorem c143 (s : ByteArray) : Pf Tryz.prog 143 [.str s] (.d (.bool (isArrB s))) := by
 refine pfb Tryz.func143 Tryz.ntmps143 Tryz.results143 (fun S0 O0 w0 m0 hm0 => ?_)
 repeat' first | refine st (by exact rfl) ?_ | fail
 exact Y1
theorem c142 (s : ByteArray) : Pf Tryz.prog 142 [.str s] (.d (.bool (basicB s))) := by
 refine pfb Tryz.func142 Tryz.ntmps142 Tryz.results142 (fun S0 O0 w0 m0 hm0 => ?_)
 repeat' first | refine st (by exact rfl) ?_ | refine cd (by exact rfl) (fun hb => ?_) (fun hb => ?_) | fail
 all_goals refine en (by exact rfl) ?_
 all_goals (simp only [decide_eq_true_eq, decide_eq_false_iff_not] at *; simp only [basicB, sInt, sBool, sRange, sDom1, sDom2, sArr1, sArr2, sSync, sAtomic, sVoid]; simp_all)
theorem c219 (b : Bool) (s : ByteArray) : Pf Tryz.prog 219 [.bool b, .str s] (.d (.str (whenS b s))) := by
 refine pfb Tryz.func219 Tryz.ntmps219 Tryz.results219 (fun S0 O0 w0 m0 hm0 => ?_)
 repeat' first | refine st (by exact rfl) ?_ | refine cd (by exact rfl) ?_ ?_ <;> intro hb | fail
 all_goals refine en (by exact rfl) ?_
 all_goals simp_all [whenS]
theorem c281 (s t : ByteArray) : Pf Tryz.prog 281 [.str s, .ptr (.str t)] (.d (.bool (!decide (s = t)))) := by
 refine pfb Tryz.func281 Tryz.ntmps281 Tryz.results281 (fun S0 O0 w0 m0 hm0 => ?_)
 repeat' first | refine st (by exact rfl) ?_ | fail
 exact Y1
theorem c124 (q : Pc) (nm : ByteArray) : Pf Tryz.prog 124 [q.d, .ptr (.str nm)] (.d (.bool (decide (q.nm = nm)))) := by
 unfold Pc.d
 refine pfb Tryz.func124 Tryz.ntmps124 Tryz.results124 (fun S0 O0 w0 m0 hm0 => ?_)
 repeat' first | refine st (by exact rfl) ?_ | fail
 exact Y1
theorem c50 (p : Pg) (nm : ByteArray) (hlim : p.procs.length ≤ 140737488355328) : Pf Tryz.prog 50 [p.d, .str nm] (.d (.int .i64 (idxL (fun q => decide (q.nm = nm)) p.procs))) := by
 unfold Pg.d
 refine pfb Tryz.func50 Tryz.ntmps50 Tryz.results50 (fun S0 O0 w0 m0 hm0 => ?_)
 repeat' first | refine st (by exact rfl) ?_ | fail
 refine fz false (by exact rfl) ?_
 refine cl (by exact rfl) (c123g p.procs 124 [] [.ptr (.str nm)] (fun q => decide (q.nm = nm)) hlim fun q _ => c124 q nm) ?_
 repeat' first | refine st (by exact rfl) ?_ | fail
 exact Y1
structure Lc where
 nm : ByteArray
 ty : ByteArray
 con : Bool
 block : Int
 level : Int
def locD : List Lc → D
 | [] => .nil
 | x :: r => .ptr (.agg [.str x.nm, .str x.ty, .bool x.con, locD r, .int .i64 x.block, .int .i64 x.level])
def findL (nm : ByteArray) : List Lc → List Lc
 | [] => []
 | x :: r => if x.nm = nm then x :: r else findL nm r
theorem c200L (ls : List Lc) (nm : ByteArray) : Pf Tryz.prog 200 [locD ls, .str nm] (.d (locD (findL nm ls))) := by
 refine pfb Tryz.func200 Tryz.ntmps200 Tryz.results200 (fun S0 O0 w0 m0 hm0 => ?_)
 repeat' first | refine st (by exact rfl) ?_ | fail
 refine gLo (fun z : List Lc => ⟨[(0, .d (locD z)), (1, .d (.str nm))], []⟩) List.length (fun z => findL nm z = findL nm ls) ls rfl le_of (fun z hz Q' hn he hr hp => ?_)
 cases z with
 | nil =>
  dsimp only [locD]
  repeat' first | refine st (by exact rfl) ?_ | refine sk (by exact rfl) rfl ?_ | fail
  refine cf (by exact rfl) ?_ rfl
  repeat' first | refine st (by exact rfl) ?_ | fail
  refine Z68 ?_
  repeat' first | refine st (by exact rfl) ?_ | fail
  exact en (by exact rfl) (by rw [← hz]; rfl)
 | cons x r =>
  dsimp only [locD]
  repeat' first | refine st (by exact rfl) ?_ | fail
  refine cd (by exact rfl) (fun hb => ?_) (fun hb => ?_)
  · repeat' first | refine st (by exact rfl) ?_ | fail
    rcases r with _ | ⟨y, r⟩
    · dsimp only [locD]
      repeat' first | refine st (by exact rfl) ?_ | fail
      refine toL (hn _ [] ?_ (Nat.lt_succ_self _) le_of)
      rw [← hz]
      exact (if_neg (by simpa using hb)).symm
    · dsimp only [locD]
      repeat' first | refine st (by exact rfl) ?_ | fail
      refine toL (hn _ (y :: r) ?_ (Nat.lt_succ_self _) le_of)
      rw [← hz]
      exact (if_neg (by simpa using hb)).symm
  · repeat' first | refine st (by exact rfl) ?_ | fail
    refine Z68 ?_
    repeat' first | refine st (by exact rfl) ?_ | fail
    refine en (by exact rfl) ?_
    rw [← hz]
    show PV.d (locD (x :: r)) = PV.d (locD (if x.nm = nm then x :: r else findL nm r))
    rw [if_pos (by simpa using hb)]
end
section
theorem catch_idle (p : Addr) (w : World) : CallsD Tryz.prog 140 #[.pointer (some p)] .returning w fun e u' w' => e = .returned (.tuple #[]) ∧ u' = .returning ∧ w' = w := by
 refine callsD_of_wpS Tryz.func140 rfl fun c₀ cs hu => ?_
 apply wpS_seq
 apply wpS_region
 simp [wpOpsS, go_sem, recoverD, hu, Tryz.ntmps140, Exit.thenS]
 apply wpS_seq
 apply wpS_region
 simp [wpOpsS, go_sem, recoverD, hu, Tryz.ntmps140, Exit.thenS]
 refine wpS_cond (t := false) (by simp [Act.eval, Array.replicate]) ?_
 simp only [Bool.false_eq_true, if_false]
 refine wpS_of_wp (wp_skip ?_)
 cases c₀
 simp_all [bodyPostS, results, Tryz.results140]
theorem neqW (u : Value) (w : World) : (binOp .neq 20 (.iface 116 u) .nilIface).run Tryz.prog w = .ok (.bool true) w := by kernel_rfl
def wrongW (e : Int) : Value := .iface 116 (.agg #[.int .i64 e, .slice none 0 0])
set_option maxHeartbeats 1000000 in
theorem catch_rest (e : Int) {S : Reg} {O : Owns} {m : List Nat} {w : World} {B : List PV} (hm : m.length = 2) : ∀ c, (∃ b x, Tryz.prog.funcs[140]? = some b ∧ b.body = some (.seq x c)) →
 G ⟨Tryz.prog, 16, S, O, w, m, [], []⟩ c (fun ex s' => ex = .normal ∧ ∃ Y, s'.mem = [B, [.d (.int .i64 e), .d (.sl [])], Y]) ⟨[(0, .ref 1 0), (1, .d (.iface 116 (.agg [.int .i64 e, .sl []])))], [B, [.d (.int .i64 0), .nils]]⟩ := by
 rintro c ⟨b, x, hb, hc⟩
 rw [Tryz.func140] at hb
 injection hb with hb
 subst hb
 injection hc with hc
 injection hc with _ hc
 subst hc
 refine Z173 ?_
 refine vq rfl ((q_neqI neqW)) ?_
 refine Z9 ?_
 refine zgC ?_ ?_ <;> intro hb0
 ·
  refine Z173 ?_
  refine vq rfl ((q_tassert u116)) ?_
  refine Z2 ?_;refine Z197 ?_
  refine sv rfl (y_alloc zr116) ?_
  refine sa rfl (dS sz116) ?_
  refine Z189 ?_;refine Z54 ?_;refine Z9 ?_
  refine zgC ?_ ?_ <;> intro hb1
  · exact absurd hb1 (by decide)
  refine gK (tN (gR ?_))
  refine sv rfl (y_load_agg sz116 u116 rfl) ?_
  refine sa rfl (dS sz116) ?_
  refine Z59 ?_
  exact ⟨rfl, _, rfl⟩
 exact absurd hb0 (by decide)
theorem rd_nilS {w : World} {S : Reg} : Rd w S (.sl []) (.slice none 0 0) := .sl [] none 0 1 (Nat.le_refl _) (Nat.zero_le _) (by simp) (fun _ => rfl) (fun ad h => by cases h) (fun ad _ _ _ _ _ h => by cases h)
theorem rd_wrong {w : World} {S : Reg} (e : Int) : Rd w S (.iface 116 (.agg [.int .i64 e, .sl []])) (wrongW e) := .iface _ _ _ (.agg _ _ rfl (fun i v hv => by
 match i with
 | 0 => simp at hv; subst hv; rfl
 | 1 => simp at hv; subst hv; rfl
 | i + 2 => simp at hv) fun i d v hd hv => by
 match i with
 | 0 => simp at hd hv; subst hd; subst hv; exact .int _ _
 | 1 => simp at hd hv; subst hd; subst hv; exact rd_nilS
 | i + 2 => simp at hd)
set_option maxHeartbeats 1000000 in
theorem catch_panic (e : Int) {S : Reg} {O : Owns} {m : List Nat} {w : World} {b : D} (henv : Env S O w S O m [[.d b], [.d (.int .i64 0), .nils]] w) {r : Nat} (hr : m[1]? = some r) :
 CallsD Tryz.prog 140 #[.pointer (some ⟨r, 0, none⟩)] (.panicking (chain1 (wrongW e))) w fun en u' w' => en = .returned (.tuple #[]) ∧ u' = .panicking [{ v := wrongW e, recovered := true }] ∧
  ∃ S' O', Env S O w S' O' m [[.d b], [.d (.int .i64 e), .d (.sl [])]] w' := by
 refine callsD_of_wpS Tryz.func140 rfl fun c₀ cs hu => ?_
 apply wpS_seq
 apply wpS_region
 simp [wpOpsS, go_sem, recoverD, hu, Tryz.ntmps140, Exit.thenS, chain1]
 refine wpS_of_wp ?_
 have hm : m.length = 2 := henv.mlen
 refine wp_mono (catch_rest e (S := S) (O := O) (w := w) (B := [.d b]) hm _ ⟨_, _, Tryz.func140, rfl⟩ _ w ⟨S, O, m, henv, rfl, by simp, List.prefix_refl _, fun i p hp => ?_⟩) ?_
 · match i with
   | 0 => 
    have h1 : PV.ref 1 0 = p := by simpa [GS.get] using hp
    subst h1
    exact .ref _ 1 0 r hr
   | 1 =>
    have h1 : PV.d (.iface 116 (.agg [.int .i64 e, .sl []])) = p := by simpa [GS.get, List.lookup] using hp
    subst h1
    exact .d _ _ _ (rd_wrong e)
   | i + 2 => simp [GS.get, List.lookup] at hp
 · rintro ex a' w' ⟨s', ⟨rfl, Y, hY⟩, S', O', m', hr'⟩
   have henv' := hr'.env
   rw [hY] at henv'
   have h2 := henv'.less (mem' := [[.d b], [.d (.int .i64 e), .d (.sl [])]]) (.cons (.cons (.inl rfl) rfl .nil) (.cons (.cons (.inl rfl) rfl (.cons (.inl rfl) rfl .nil)) .nil))
   have h3 : m'.take 2 = m := by
    have := List.prefix_iff_eq_take.1 hr'.pre
    rw [show (m : List Nat).length = 2 from hm] at this
    exact this.symm
   refine ⟨hr'.defers, _, rfl, _, by simp [results, Tryz.results140], rfl, rfl, S', O', ?_⟩
   rw [← h3]; exact h2
end
section
def wrongD (e : Int) : D := .agg [.int .i64 e, .sl []]
set_option maxHeartbeats 2000000 in
theorem c75_rest (g : FuncId) (n e b b' : D) (out : PV ⊕ Value) (herr : out = .inl (.tup []) ∨ ∃ x, out = .inr (wrongW x)) (hg : Xm Tryz.prog g [.d n, .d e, .ref 0 0] [[.d b]] out [[.d b']]) {S : Reg} {O : Owns} {m : List Nat} {w : World} {ds : List Deferred} (hm : m.length = 2) :
 ∀ c, (∃ f x y, Tryz.prog.funcs[75]? = some f ∧ f.body = some (.seq x (.seq y c))) →
 G ⟨Tryz.prog, 7, S, O, w, m, [], ds⟩ c (fun ex s' => (ex = .ret ∧ out = .inl (.tup []) ∧ s' = ⟨[(2, .ref 1 0)], [[.d b'], [.d (.int .i64 0), .d (.sl [])]]⟩) ∨ ∃ x, ex = .panic (chain1 (wrongW x)) ∧ out = .inr (wrongW x) ∧ s'.mem = [[.d b'], [.d (.int .i64 0), .nils]] ∧ s'.get 2 = some (.ref 1 0))
  ⟨[(3, .fn (.func 140) [] [.ref 1 0]), (2, .ref 1 0), (0, .fn (.func g) [] [.d n, .d e, .ref 0 0])], [[.d b], [.d (.int .i64 0), .nils]]⟩ := by
 rintro c ⟨f, x, y, hf, hc⟩
 rw [Tryz.func75] at hf
 injection hf with hf
 subst hf
 injection hc with hc
 injection hc with _ hc
 injection hc with _ hc
 subst hc
 refine Z173 ?_
 obtain ⟨⟨fn, hfn, hbd, hnm⟩, hgx⟩ := hg
 refine GOps_callx (t := 5) [0] [.d n, .d e, .ref 0 0] [[.d b]] rfl rfl rfl rfl rfl rfl (by decide) (by simp) rfl rfl rfl hfn hbd hnm (oR rfl) hgx (fun r mem' hr => ?_) (fun v mem' hv => ?_)
 · obtain ⟨h1, rfl⟩ := hr
   refine ⟨rfl, ?_⟩
   rcases herr with h2 | ⟨x, h2⟩
   · rw [h2] at h1
     injection h1 with h1
     subst h1
     refine Z10 ?_
     refine vq rfl ((q_buildP pl116 zr116)) ?_
     refine sa rfl (dS sz116) ?_
     refine Z9 ?_
     refine G_le (s' := ⟨[(2, .ref 1 0)], [[.d b'], [.d (.int .i64 0), .d (.sl [])]]⟩) (le_of (hk := by show m.length ≤ 2; omega)) (gT ?_)
     exact .inl ⟨rfl, h2, rfl⟩
   · rw [h2] at h1; cases h1
 · obtain ⟨h1, rfl⟩ := hv
   refine ⟨rfl, ?_⟩
   rcases herr with h2 | ⟨x, h2⟩
   · rw [h2] at h1; cases h1
   · rw [h2] at h1
     injection h1 with h1
     subst h1
     exact .inr ⟨x, rfl, h2, rfl, rfl⟩
theorem Fin.run {P : Program} {n k : Nat} {S S' : Reg} {O O' : Owns} {w w' : World} {m m' : List Nat} {ds : List Deferred} {fn : Func} {rvs : List ResultVar} {R : PV → List (List PV) → Prop} {e : Exit} {s' : GS} {a' : Act} (hk : m.length ≤ k) (hres : fn.results = rvs.toArray) (hf : Fin P rvs k R e s')
 (hr' : Rep ⟨P, n, S, O, w, m, [], ds⟩ S' O' m' s' a' w') : ∃ v r mem' O'', (results fn a'.tmps).run P w' = .ok v w' ∧ R r mem' ∧ Env S O w S' O'' (m'.take mem'.length) mem' w' ∧ m <+: m'.take mem'.length ∧ RP w' S' O'' (m'.take mem'.length) [2] r v := by
 obtain ⟨he, hfin⟩ := hf
 rcases hfin with ⟨ps, mem', hL, hlen, hms, hrf, hR⟩ | ⟨t, k, xs, mem', hrv, hst, hlen, hms, hR⟩
 · obtain ⟨v, hrun, hrp⟩ := hL.run hr' hres O'
   exact ⟨v, _, mem', O', hrun, hR, hr'.env.less hms, List.prefix_take_iff.2 ⟨hr'.pre, Nat.le_trans hk hlen⟩, hrp.take mem'.length hrf⟩
 · have hsl := hr'.slots t _ hst
   have hres' : fn.results = #[.tmp t] := by rw [hres, hrv]
   refine ⟨a'.tmps.getD t undef, _, mem', reo O' (renTR t), by simp [results, hres'], hR, (hr'.env.less hms).relab (renTR t) (fun _ => if_neg (by simp)) (fun i j q => if_neg (end_ne q j i t)),
    List.prefix_take_iff.2 ⟨hr'.pre, Nat.le_trans hk hlen⟩, (hsl.move (l' := [2]) rfl (renTR t) (by simp [renTR])).take _ rfl⟩
theorem gr_use {K : Ctx} {c : Code} {Qr : Exit → Act → World → Prop} {s : GS} (h : E.GR K c Qr s) {a : Act} {w : World} (ha : At K s a w) : c.wp K.P Qr a w := h a w ha
set_option maxHeartbeats 4000000 in
theorem c75 (g : FuncId) (n e b b' : D) (out : PV ⊕ Value) (ex : Int) (herr : (out = .inl (.tup []) ∧ ex = 0) ∨ out = .inr (wrongW ex)) (hg : Xm Tryz.prog g [.d n, .d e, .ref 0 0] [[.d b]] out [[.d b']]) :
 Gm Tryz.prog 75 [.fn (.func g) [] [.d n, .d e, .ref 0 0]] [[.d b]] (.d (wrongD ex)) [[.d b']] := by
 refine ⟨⟨_, Tryz.func75, rfl, rfl⟩, fun w S O m vals henv hvs hargs => ?_⟩
 refine calls_of_wp_defers Tryz.func75 rfl ?_
 have hat : At ⟨Tryz.prog, 7, S, O, w, m, [], []⟩ ⟨[(0, .fn (.func g) [] [.d n, .d e, .ref 0 0])], [[.d b]]⟩ { tmps := vals ++ Array.replicate (7 - vals.size) undef, defers := [] } w := by
  refine ⟨S, O, m, henv, rfl, by simp [hvs], List.prefix_refl _, fun i p hp => ?_⟩
  have hlt : 0 < vals.size := by rw [hvs]; exact Nat.one_pos
  match i with
  | 0 =>
   have h1 : PV.fn (.func g) [] [.d n, .d e, .ref 0 0] = p := by simpa [GS.get] using hp
   subst h1
   rw [Array.getD_eq_getD_getElem?, Array.getElem?_append_left hlt, Array.getElem?_eq_getElem hlt]
   exact hargs 0 _ _ rfl (Array.getElem?_eq_getElem hlt)
  | i + 1 => simp [GS.get, List.lookup] at hp
 rw [Tryz.ntmps75]
 refine gr_use (K := ⟨Tryz.prog, 7, S, O, w, m, [], []⟩) ?_ hat
 refine GR_seq ?_
 refine Z17 ?_
 refine sv rfl (y_alloc zr116) ?_
 refine gN ⟨rfl, ?_⟩
 refine GR_seqr ?_
 refine GR_region 2 [0, 1] rfl rfl ?_
 refine GROps_val rfl (y_makeFunc (xs := []) (ys := [.tmp 2])) ?_
 refine GROps_defer rfl rfl (fun S1 O1 m1 a1 w1 vc hr hvc hcap hr1 => ?_)
 refine ⟨rfl, ?_⟩
 have hm1 : m1.length = 2 := hr.env.mlen
 have hvc1 : ∃ r, m1[1]? = some r ∧ vc = #[.pointer (some ⟨r, 0, none⟩)] := by
  have h0 : 0 < vc.size := by rw [hvc]; exact Nat.one_pos
  obtain ⟨l, hl⟩ := hcap 0 _ vc[0] rfl (Array.getElem?_eq_getElem h0)
  generalize hv : vc[0] = v at hl
  cases hl with | ref _ _ _ r h1 =>
  refine ⟨r, h1, ?_⟩
  have hvc2 : vc.size = 1 := hvc
  apply Array.ext
  · exact hvc2
  · intro i h2 h3
    have : i = 0 := by omega
    subst this
    simpa using hv
 obtain ⟨r, hr1m, rfl⟩ := hvc1
 have herr' : out = .inl (.tup []) ∨ ∃ x, out = .inr (wrongW x) := herr.imp (fun h => h.1) fun h => ⟨_, h⟩
 refine wp_mono (c75_rest g n e b b' out herr' hg hm1 _ ⟨_, _, _, Tryz.func75, rfl⟩ _ w1 ⟨S1, O1, m1, hr1⟩) ?_
 rintro ex2 a2 w2 ⟨s2, hq, S2, O2, m2, hr2⟩
 rcases hq with ⟨rfl, ho, rfl⟩ | ⟨x, rfl, ho, hmem2, hget2⟩
 · have hd := hr2.defers
   replace hd : a2.defers = [{ target := .fn (.func 140) #[.pointer (some ⟨r, 0, none⟩)], args := #[] }] := hd
   show Leaves Tryz.prog Tryz.f75 a2.tmps _ a2.defers .returning w2
   rw [hd]
   refine leaves_cons (f := 140) (args := #[.pointer (some ⟨r, 0, none⟩)]) (by simp) (by simp [go_sem]) ?_
   refine (catch_idle ⟨r, 0, none⟩ w2).mono ?_
   rintro e' u' w' ⟨rfl, rfl, rfl⟩
   have hr3 : Rep ⟨Tryz.prog, 7, S, O, w, m, [], [{ target := .fn (.func 140) #[.pointer (some ⟨r, 0, none⟩)], args := #[] }]⟩ S2 O2 m2 _ a2 w' := ⟨hr.env.trans hr2.env, hd, hr2.size, hr.pre.trans hr2.pre, hr2.slots⟩
   have hx0 : ex = 0 := by
    rcases herr with h | h
    · exact h.2
    · rw [ho] at h; cases h
   subst hx0
   obtain ⟨v, r', mem', O'', h1, ⟨h2, h3⟩, h4, h5, h6⟩ := Fin.run (k := 1) (fn := Tryz.f75) (rvs := [.cell 2 116]) (R := fun q mm => q = .d (wrongD 0) ∧ mm = [[.d b']]) (e := .ret) (by rw [henv.mlen]; exact Nat.le_refl 1) Tryz.results75 (fincm [[.d b']] sz116 u116 (.inr rfl) ⟨rfl, rfl⟩) hr3
   exact ⟨v, h1, v, r', mem', S2, O'', _, rfl, ⟨h2, h3⟩, h4, h5, h6⟩
 · have hd := hr2.defers
   replace hd : a2.defers = [{ target := .fn (.func 140) #[.pointer (some ⟨r, 0, none⟩)], args := #[] }] := hd
   show Leaves Tryz.prog Tryz.f75 a2.tmps _ a2.defers (.panicking (chain1 (wrongW x))) w2
   rw [hd]
   refine leaves_cons (f := 140) (args := #[.pointer (some ⟨r, 0, none⟩)]) (by simp) (by simp [go_sem]) ?_
   have hrm2 : m2[1]? = some r := by
    obtain ⟨t, ht⟩ := hr2.pre
    replace ht : m1 ++ t = m2 := ht
    rw [← ht, List.getElem?_append_left (by omega)]; exact hr1m
   have hex : ex = x := by
    rcases herr with h | h
    · rw [ho] at h; cases h.1
    · rw [ho] at h
      injection h with h
      unfold wrongW at h
      simpa using h.symm
   subst hex
   have henv2 := hr2.env
   rw [hmem2] at henv2
   refine (catch_panic ex (b := b') henv2.rebase hrm2).mono ?_
   rintro e' u' w' ⟨rfl, rfl, S3, O3, henv3⟩
   have hr3 : Rep ⟨Tryz.prog, 7, S, O, w, m, [], [{ target := .fn (.func 140) #[.pointer (some ⟨r, 0, none⟩)], args := #[] }]⟩ S3 O3 m2 ⟨[(2, .ref 1 0)], [[.d b'], [.d (.int .i64 ex), .d (.sl [])]]⟩ a2 w' := by
    refine ⟨hr.env.trans (henv2.trans henv3), hd, hr2.size, hr.pre.trans hr2.pre, fun i p hp => ?_⟩
    by_cases hi : i = 2
    · subst hi
      have h1 : PV.ref 1 0 = p := by simpa [GS.get, List.lookup] using hp
      subst h1
      have h2 := hr2.slots 2 _ hget2
      generalize a2.tmps.getD 2 undef = v2 at h2
      cases h2 with | ref _ _ _ r2 h3 => exact .ref _ 1 0 r2 h3
    · exfalso
      have hb : (i == 2) = false := by simpa using hi
      simp [GS.get, List.lookup, hb] at hp
   obtain ⟨v, r', mem', O'', h1, ⟨h2, h3⟩, h4, h5, h6⟩ := Fin.run (k := 1) (fn := Tryz.f75) (rvs := [.cell 2 116]) (R := fun q mm => q = .d (wrongD ex) ∧ mm = [[.d b']]) (e := .ret) (by rw [henv.mlen]; exact Nat.le_refl 1) Tryz.results75 (fincm [[.d b']] sz116 u116 (.inr rfl) ⟨rfl, rfl⟩) hr3
   exact ⟨v, h1, v, r', mem', S3, O'', _, rfl, ⟨h2, h3⟩, h4, h5, h6⟩
end
section
theorem rp_wrong {w : World} {S : Reg} {O : Owns} {m l : List Nat} {e : Int} {v : Value} (h : RP w S O m l (.agg [.d (.int .i64 e), .nils]) v) : v = .agg #[.int .i64 e, .slice none 0 0] := by
 cases h with | agg _ _ vs hl ho h =>
 have h0 : 0 < vs.size := by rw [hl]; simp
 have h1 : 1 < vs.size := by rw [hl]; simp
 have g0 := h 0 _ vs[0] rfl (Array.getElem?_eq_getElem h0)
 have g1 := h 1 _ vs[1] rfl (Array.getElem?_eq_getElem h1)
 congr 1
 apply Array.ext
 · simpa using hl
 · intro i hi _
   have hi2 : i < 2 := by rw [hl] at hi; exact hi
   match i, hi2 with
   | 0, _ =>
    generalize vs[0] = u at g0
    cases g0 with | d _ _ _ g => cases g; rfl
   | 1, _ =>
    generalize vs[1] = u at g1
    cases g1; rfl
theorem GOps_wrong {K : Ctx} {ops : Array Oper} {Q : Exit → GS → Prop} {s : GS} {j k : Nat} {t u : Nat} {e : Int} {rt ty : TypeId} {p1 p2 : String} {a1 a2 : Array Edge} (hP : K.P = Tryz.prog)
 (h1 : ops[j]? = some ⟨some u, .makeInterface 116 (.tmp t), rt, p1, a1, none⟩) (h2 : ops[k]? = some ⟨none, .panic (.tmp u), ty, p2, a2, none⟩) (hg : s.get t = some (.agg [.d (.int .i64 e), .nils])) (hu : u < K.n) (h : Q (.panic (chain1 (wrongW e))) (s.set u .undef)) : GOps K ops Q [j, k] s := by
 rintro a w ⟨S, O, m, hr⟩
 have hv : a.eval (.tmp t) = .agg #[.int .i64 e, .slice none 0 0] := by
  have h3 := rp_wrong (hr.slots t _ hg)
  rw [← h3]
  simp [Act.eval, Array.getD_eq_getD_getElem?]
 have hrun : (execOp a.eval ⟨some u, .makeInterface 116 (.tmp t), rt, p1, a1, none⟩).run K.P w = .ok (.value (wrongW e)) w := by
  rw [hP]
  simp only [execOp, hv]
  simp [Instr.makeInterface, run_underlying u116, wrongW]
 simp only [wpOps, h1, h2, Region.wanted, if_true]
 refine .inl ?_
 simp only [Oper.wp, hrun, Oper.upon_value]
 refine .inl ?_
 have hsz : u < a.tmps.size := by rw [hr.size]; exact hu
 have hev : (a.put (some u) (wrongW e)).eval (.tmp u) = wrongW e := by simp [Act.eval, Act.put, hsz]
 simp only [execOp, hev]
 refine (show (∃ s', Q (.panic (chain1 (wrongW e))) s' ∧ At K s' (a.put (some u) (wrongW e)) w) from ⟨_, h, S, O, m, hr.put hu (.undef _ _)⟩)
theorem c119f (e : Int) : Px Tryz.prog 119 [.bool false, .int .i64 e] (.inr (wrongW e)) := by
 refine px_body (rvs := []) [(0, .d (.bool false)), (1, .d (.int .i64 e))] Tryz.func119 Tryz.ntmps119 Tryz.results119 (fun S0 O0 w0 m0 hm0 => ?_)
 refine Z173 ?_;refine Z54 ?_;refine Z9 ?_
 refine zgC ?_ ?_ <;> intro hb0
 · refine gR ?_
   refine Z2 ?_
   refine vq rfl ((q_buildP pl116 zr116)) ?_
   refine GOps_wrong rfl rfl rfl rfl (oR rfl) ?_
   exact fx_panic ⟨rfl, rfl⟩
 · exact absurd hb0 (by decide)
theorem c119t (e : Int) : Px Tryz.prog 119 [.bool true, .int .i64 e] (.inl (.tup [])) := by
 refine px_body (rvs := []) [(0, .d (.bool true)), (1, .d (.int .i64 e))] Tryz.func119 Tryz.ntmps119 Tryz.results119 (fun S0 O0 w0 m0 hm0 => ?_)
 refine Z173 ?_;refine Z54 ?_;refine Z9 ?_
 refine zgC ?_ ?_ <;> intro hb0
 · exact absurd hb0 (by decide)
 · refine gK ?_
   exact fx_normal (finm (n := 0) (mem' := []) (.inl rfl) ⟨rfl, rfl⟩)
end
section
abbrev sX : ByteArray := ⟨#[120]⟩
abbrev awX : D := .agg [.int .i64 4, .str sX, .int .i64 0, .sl []]
abbrev awO : D := .agg [.int .i64 1, .str ⟨#[]⟩, .int .i64 1, .sl []]
abbrev awE : D := .agg [.int .i64 6, .str ⟨#[43]⟩, .int .i64 0, .sl [awX, awO]]
abbrev awN (t : ByteArray) : D := .agg [.sl [], .sl [], .map [], .ptr (.agg [.str sX, .str t, .bool false, .nil, .int .i64 0, .int .i64 0])]
abbrev awTr : Tr := .mk 6 ⟨#[43]⟩ 0 [.mk 4 sX 0 [], .mk 1 ⟨#[]⟩ 1 []]
theorem awTrOk : awTr.Ok := .mk (by decide) (by decide) (by decide) (by decide) (by
 intro k hk
 simp only [List.mem_cons, List.not_mem_nil, or_false] at hk
 rcases hk with rfl | rfl
 · exact .mk (by decide) (by decide) (by decide) (by decide) (by simp)
 · exact .mk (by decide) (by decide) (by decide) (by decide) (by simp))
theorem aw24 : Pf Tryz.prog 24 [awE] (.d (.int .i64 0)) := by
 have h := c24 awTr awTrOk (by decide)
 have h1 : awTr.d = awE := by simp [Tr.d, Tr.ds]
 have h2 : nodeE awTr = 0 := by kernel_rfl
 rw [h1, h2] at h
 exact h
theorem c221_0 : Pf Tryz.prog 221 [.sl [.str ⟨#[105, 110, 116]⟩, .str ⟨#[105, 110, 116]⟩]] (.d (.str ⟨#[105, 110, 116, 32, 105, 110, 116]⟩)) := by
 refine pfb Tryz.func221 Tryz.ntmps221 Tryz.results221 (fun S0 O0 w0 m0 hm0 => ?_)
 repeat' first | refine st (by exact rfl) ?_ | refine ct (by exact rfl) ?_ | refine cf (by exact rfl) ?_ | refine el (by exact rfl) rfl ?_ (by decide) | refine qu (by exact rfl) (by decide) ?_ | refine gRn 4 ?_ | fail
 exact Y2
set_option maxHeartbeats 4000000 in
theorem c146_0 : Pf Tryz.prog 146 [awE, .sl [.str ⟨#[105, 110, 116]⟩, .str ⟨#[105, 110, 116]⟩]] (.d (.str ⟨#[105, 110, 116]⟩)) := by
 refine pfb Tryz.func146 Tryz.ntmps146 Tryz.results146 (fun S0 O0 w0 m0 hm0 => ?_)
 repeat' first | refine st (by exact rfl) ?_ | refine ct (by exact rfl) ?_ | refine cf (by exact rfl) ?_ | refine el (by exact rfl) rfl ?_ (by decide) | refine qu (by exact rfl) (by decide) ?_ | refine gRn 4 ?_ | fail
 refine Z168 ?_;refine Z129 ?_;refine Z3 ?_;refine Z169 ?_
 refine oc (hcl := c221_0) (hc := ?_)
 refine ols C9 (hc := ?_)
 refine Z138 ?_
 repeat' first | refine st (by exact rfl) ?_ | refine ct (by exact rfl) ?_ | refine cf (by exact rfl) ?_ | refine el (by exact rfl) rfl ?_ (by decide) | refine qu (by exact rfl) (by decide) ?_ | refine gRn 4 ?_ | fail
 exact Y2
theorem c144_0 : Pf Tryz.prog 144 [awN sInt, .str sX] (.d (.agg [.str sX, .str ⟨#[105, 110, 116]⟩, .bool false])) := by
 refine pfb Tryz.func144 Tryz.ntmps144 Tryz.results144 (fun S0 O0 w0 m0 hm0 => ?_)
 repeat' first | refine st (by exact rfl) ?_ | refine ct (by exact rfl) ?_ | refine cf (by exact rfl) ?_ | refine el (by exact rfl) rfl ?_ (by decide) | refine qu (by exact rfl) (by decide) ?_ | refine gRn 4 ?_ | fail
 refine cl (by exact rfl) (c200L [⟨sX, sInt, false, 0, 0⟩] sX) ?_
 repeat' first | refine st (by exact rfl) ?_ | refine ct (by exact rfl) ?_ | refine cf (by exact rfl) ?_ | refine el (by exact rfl) rfl ?_ (by decide) | refine qu (by exact rfl) (by decide) ?_ | refine gRn 4 ?_ | fail
 exact Y2
theorem c80x_0 : Pf Tryz.prog 80 [awN sInt, awX, .bool false] (.d (.str sInt)) := by
 refine pfb Tryz.func80 Tryz.ntmps80 Tryz.results80 (fun S0 O0 w0 m0 hm0 => ?_)
 repeat' first | refine st (by exact rfl) ?_ | refine ct (by exact rfl) ?_ | refine cf (by exact rfl) ?_ | refine el (by exact rfl) rfl ?_ (by decide) | refine qu (by exact rfl) (by decide) ?_ | refine gRn 4 ?_ | fail
 refine cl (by exact rfl) c144_0 ?_
 repeat' first | refine st (by exact rfl) ?_ | refine ct (by exact rfl) ?_ | refine cf (by exact rfl) ?_ | refine el (by exact rfl) rfl ?_ (by decide) | refine qu (by exact rfl) (by decide) ?_ | refine gRn 4 ?_ | fail
 exact Y2
theorem c80o_0 : Pf Tryz.prog 80 [awN sInt, awO, .bool false] (.d (.str sInt)) := by
 refine pfb Tryz.func80 Tryz.ntmps80 Tryz.results80 (fun S0 O0 w0 m0 hm0 => ?_)
 repeat' first | refine st (by exact rfl) ?_ | refine ct (by exact rfl) ?_ | refine cf (by exact rfl) ?_ | refine el (by exact rfl) rfl ?_ (by decide) | refine qu (by exact rfl) (by decide) ?_ | refine gRn 4 ?_ | fail
 exact Y2
theorem c80_0 : Px Tryz.prog 80 [awN sInt, awE, .bool false] (.inl (.d (.str sInt))) := by
 refine pxB Tryz.func80 Tryz.ntmps80 Tryz.results80 (fun S0 O0 w0 m0 hm0 => ?_)
 repeat' first | refine st (by exact rfl) ?_ | refine ct (by exact rfl) ?_ | refine cf (by exact rfl) ?_ | refine el (by exact rfl) rfl ?_ (by decide) | refine qu (by exact rfl) (by decide) ?_ | refine gRn 4 ?_ | refine cl (by exact rfl) c80x_0 ?_ | refine cl (by exact rfl) c80o_0 ?_ | refine bs (by exact rfl) ?_ | refine ap (by exact rfl) ?_ | refine cl (by exact rfl) c146_0 ?_ | fail
 refine cl (by exact rfl) (c119t 13).inl ?_
 repeat' first | refine st (by exact rfl) ?_ | fail
 exact Y7
theorem x79_0 : Xm Tryz.prog 79 [.d (.ptr (awN sInt)), .d (.ptr awE), .ref 0 0] [[.d (.str ⟨#[]⟩)]] (.inl (.tup [])) [[.d (.str sInt)]] := by
 refine xmB 1 Tryz.func79 Tryz.ntmps79 Tryz.results79 (fun S0 O0 w0 m0 hm0 => ?_)
 repeat' first | refine st (by exact rfl) ?_ | fail
 refine cl (by exact rfl) c80_0.inl ?_
 repeat' first | refine st (by exact rfl) ?_ | fail
 exact enxm (by exact rfl) rfl (msame rfl)
set_option maxHeartbeats 4000000 in
theorem c18_0 : Pf Tryz.prog 18 [.agg [.sl [], .sl []], awE, .sl [.agg [.str sX, .str sInt, .bool false]]] (.tup [.d (.str sInt), .d (.int .i64 0)]) := by
 refine pfb Tryz.func18 Tryz.ntmps18 Tryz.results18 (fun S0 O0 w0 m0 hm0 => ?_)
 repeat' first | refine st (by exact rfl) ?_ | fail
 refine Z69 ?_;refine Z69 ?_
 refine cl (by exact rfl) aw24 ?_
 repeat' first | refine st (by exact rfl) ?_ | refine ct (by exact rfl) ?_ | refine cf (by exact rfl) ?_ | refine el (by exact rfl) rfl ?_ (by decide) | refine qu (by exact rfl) (by decide) ?_ | refine gRn 4 ?_ | fail
 refine cl (by exact rfl) (c74 6) ?_
 repeat' (fail_if_success with_reducible refine ar 22 ?_); first | refine fm 0 strB (fun k h => (C9.ok k h).2) (hg := ?_) | refine fz true (s := ⟨_, [_, _, _]⟩) (by exact rfl) ?_ | refine st (by exact rfl) ?_ | refine ct (by exact rfl) ?_ | refine cf (by exact rfl) ?_ | refine el (by exact rfl) rfl ?_ (by decide) | refine qu (by exact rfl) (by decide) ?_ | refine gRn 4 ?_ | fail
 refine Z69 ?_;refine Z69 ?_
 repeat' first | refine st (by exact rfl) ?_ | refine ct (by exact rfl) ?_ | refine cf (by exact rfl) ?_ | refine el (by exact rfl) rfl ?_ (by decide) | refine qu (by exact rfl) (by decide) ?_ | refine gRn 4 ?_ | fail
 refine cm (by exact rfl) (c75 79 (.ptr (awN sInt)) (.ptr awE) (.str ⟨#[]⟩) (.str sInt) (.inl (.tup [])) 0 (.inl ⟨rfl, rfl⟩) x79_0) ?_
 repeat' first | refine st (by exact rfl) ?_ | refine ct (by exact rfl) ?_ | refine cf (by exact rfl) ?_ | refine el (by exact rfl) rfl ?_ (by decide) | refine qu (by exact rfl) (by decide) ?_ | refine gRn 4 ?_ | fail
 skip
 exact Y2
theorem c221_1 : Pf Tryz.prog 221 [.sl [.str ⟨#[98, 111, 111, 108]⟩, .str ⟨#[105, 110, 116]⟩]] (.d (.str ⟨#[98, 111, 111, 108, 32, 105, 110, 116]⟩)) := by
 refine pfb Tryz.func221 Tryz.ntmps221 Tryz.results221 (fun S0 O0 w0 m0 hm0 => ?_)
 repeat' first | refine st (by exact rfl) ?_ | refine ct (by exact rfl) ?_ | refine cf (by exact rfl) ?_ | refine el (by exact rfl) rfl ?_ (by decide) | refine qu (by exact rfl) (by decide) ?_ | refine gRn 4 ?_ | fail
 exact Y2
set_option maxHeartbeats 4000000 in
theorem c146_1 : Pf Tryz.prog 146 [awE, .sl [.str ⟨#[98, 111, 111, 108]⟩, .str ⟨#[105, 110, 116]⟩]] (.d (.str ⟨#[]⟩)) := by
 refine pfb Tryz.func146 Tryz.ntmps146 Tryz.results146 (fun S0 O0 w0 m0 hm0 => ?_)
 repeat' first | refine st (by exact rfl) ?_ | refine ct (by exact rfl) ?_ | refine cf (by exact rfl) ?_ | refine el (by exact rfl) rfl ?_ (by decide) | refine qu (by exact rfl) (by decide) ?_ | refine gRn 4 ?_ | fail
 refine Z168 ?_;refine Z129 ?_;refine Z3 ?_;refine Z169 ?_
 refine oc (hcl := c221_1) (hc := ?_)
 refine ols C9 (hc := ?_)
 refine Z138 ?_
 repeat' first | refine st (by exact rfl) ?_ | refine ct (by exact rfl) ?_ | refine cf (by exact rfl) ?_ | refine el (by exact rfl) rfl ?_ (by decide) | refine qu (by exact rfl) (by decide) ?_ | refine gRn 4 ?_ | fail
 exact Y2
theorem c144_1 : Pf Tryz.prog 144 [awN sBool, .str sX] (.d (.agg [.str sX, .str ⟨#[98, 111, 111, 108]⟩, .bool false])) := by
 refine pfb Tryz.func144 Tryz.ntmps144 Tryz.results144 (fun S0 O0 w0 m0 hm0 => ?_)
 repeat' first | refine st (by exact rfl) ?_ | refine ct (by exact rfl) ?_ | refine cf (by exact rfl) ?_ | refine el (by exact rfl) rfl ?_ (by decide) | refine qu (by exact rfl) (by decide) ?_ | refine gRn 4 ?_ | fail
 refine cl (by exact rfl) (c200L [⟨sX, sBool, false, 0, 0⟩] sX) ?_
 repeat' first | refine st (by exact rfl) ?_ | refine ct (by exact rfl) ?_ | refine cf (by exact rfl) ?_ | refine el (by exact rfl) rfl ?_ (by decide) | refine qu (by exact rfl) (by decide) ?_ | refine gRn 4 ?_ | fail
 exact Y2
theorem c80x_1 : Pf Tryz.prog 80 [awN sBool, awX, .bool false] (.d (.str sBool)) := by
 refine pfb Tryz.func80 Tryz.ntmps80 Tryz.results80 (fun S0 O0 w0 m0 hm0 => ?_)
 repeat' first | refine st (by exact rfl) ?_ | refine ct (by exact rfl) ?_ | refine cf (by exact rfl) ?_ | refine el (by exact rfl) rfl ?_ (by decide) | refine qu (by exact rfl) (by decide) ?_ | refine gRn 4 ?_ | fail
 refine cl (by exact rfl) c144_1 ?_
 repeat' first | refine st (by exact rfl) ?_ | refine ct (by exact rfl) ?_ | refine cf (by exact rfl) ?_ | refine el (by exact rfl) rfl ?_ (by decide) | refine qu (by exact rfl) (by decide) ?_ | refine gRn 4 ?_ | fail
 exact Y2
theorem c80o_1 : Pf Tryz.prog 80 [awN sBool, awO, .bool false] (.d (.str sInt)) := by
 refine pfb Tryz.func80 Tryz.ntmps80 Tryz.results80 (fun S0 O0 w0 m0 hm0 => ?_)
 repeat' first | refine st (by exact rfl) ?_ | refine ct (by exact rfl) ?_ | refine cf (by exact rfl) ?_ | refine el (by exact rfl) rfl ?_ (by decide) | refine qu (by exact rfl) (by decide) ?_ | refine gRn 4 ?_ | fail
 exact Y2
theorem c80_1 : Px Tryz.prog 80 [awN sBool, awE, .bool false] (.inr (wrongW 13)) := by
 refine pxB Tryz.func80 Tryz.ntmps80 Tryz.results80 (fun S0 O0 w0 m0 hm0 => ?_)
 repeat' first | refine st (by exact rfl) ?_ | refine ct (by exact rfl) ?_ | refine cf (by exact rfl) ?_ | refine el (by exact rfl) rfl ?_ (by decide) | refine qu (by exact rfl) (by decide) ?_ | refine gRn 4 ?_ | refine cl (by exact rfl) c80x_1 ?_ | refine cl (by exact rfl) c80o_1 ?_ | refine bs (by exact rfl) ?_ | refine ap (by exact rfl) ?_ | refine cl (by exact rfl) c146_1 ?_ | fail
 refine clp (by exact rfl) (c119f 13) ?_
 repeat' first | refine st (by exact rfl) ?_ | fail
 exact gPan rfl
theorem x79_1 : Xm Tryz.prog 79 [.d (.ptr (awN sBool)), .d (.ptr awE), .ref 0 0] [[.d (.str ⟨#[]⟩)]] (.inr (wrongW 13)) [[.d (.str ⟨#[]⟩)]] := by
 refine xmB 1 Tryz.func79 Tryz.ntmps79 Tryz.results79 (fun S0 O0 w0 m0 hm0 => ?_)
 repeat' first | refine st (by exact rfl) ?_ | fail
 refine clp (by exact rfl) c80_1 ?_
 repeat' first | refine st (by exact rfl) ?_ | fail
 exact gPanM rfl (msame rfl) (Nat.le_refl _)
set_option maxHeartbeats 4000000 in
theorem c18_1 : Pf Tryz.prog 18 [.agg [.sl [], .sl []], awE, .sl [.agg [.str sX, .str sBool, .bool false]]] (.tup [.d (.str ⟨#[]⟩), .d (.int .i64 13)]) := by
 refine pfb Tryz.func18 Tryz.ntmps18 Tryz.results18 (fun S0 O0 w0 m0 hm0 => ?_)
 repeat' first | refine st (by exact rfl) ?_ | fail
 refine Z69 ?_;refine Z69 ?_
 refine cl (by exact rfl) aw24 ?_
 repeat' first | refine st (by exact rfl) ?_ | refine ct (by exact rfl) ?_ | refine cf (by exact rfl) ?_ | refine el (by exact rfl) rfl ?_ (by decide) | refine qu (by exact rfl) (by decide) ?_ | refine gRn 4 ?_ | fail
 refine cl (by exact rfl) (c74 6) ?_
 repeat' (fail_if_success with_reducible refine ar 22 ?_); first | refine fm 0 strB (fun k h => (C9.ok k h).2) (hg := ?_) | refine fz true (s := ⟨_, [_, _, _]⟩) (by exact rfl) ?_ | refine st (by exact rfl) ?_ | refine ct (by exact rfl) ?_ | refine cf (by exact rfl) ?_ | refine el (by exact rfl) rfl ?_ (by decide) | refine qu (by exact rfl) (by decide) ?_ | refine gRn 4 ?_ | fail
 refine Z69 ?_;refine Z69 ?_
 repeat' first | refine st (by exact rfl) ?_ | refine ct (by exact rfl) ?_ | refine cf (by exact rfl) ?_ | refine el (by exact rfl) rfl ?_ (by decide) | refine qu (by exact rfl) (by decide) ?_ | refine gRn 4 ?_ | fail
 refine cm (by exact rfl) (c75 79 (.ptr (awN sBool)) (.ptr awE) (.str ⟨#[]⟩) (.str ⟨#[]⟩) (.inr (wrongW 13)) 13 (.inr rfl) x79_1) ?_
 repeat' first | refine st (by exact rfl) ?_ | refine ct (by exact rfl) ?_ | refine cf (by exact rfl) ?_ | refine el (by exact rfl) rfl ?_ (by decide) | refine qu (by exact rfl) (by decide) ?_ | refine gRn 4 ?_ | fail
 refine Z27 ?_
 iterate 4 refine ov (hc := ?_)
 refine Z28 ?_
 repeat' first | refine st (by exact rfl) ?_ | refine ct (by exact rfl) ?_ | refine cf (by exact rfl) ?_ | refine el (by exact rfl) rfl ?_ (by decide) | refine qu (by exact rfl) (by decide) ?_ | refine gRn 4 ?_ | fail
 exact Y2
theorem c17 : Pf Tryz.prog 17 [] (.d (.bool true)) := by
 refine pfb Tryz.func17 Tryz.ntmps17 Tryz.results17 (fun S0 O0 w0 m0 hm0 => ?_)
 repeat' first | refine st (by exact rfl) ?_ | refine bs (by exact rfl) ?_ | refine cl (by exact rfl) c18_0 ?_ | refine cl (by exact rfl) c18_1 ?_ | fail
 exact Y2
end
section
def allB (ts : List ByteArray) (s : ByteArray) : Bool := !(ts.any fun t => !decide (t = s))
theorem c222 (ts : List ByteArray) (s : ByteArray) (hl : ts.length ≤ 140737488355328) : Pf Tryz.prog 222 [.sl (ts.map .str), .str s] (.d (.bool (allB ts s))) := by
 refine pfb Tryz.func222 Tryz.ntmps222 Tryz.results222 (fun S0 O0 w0 m0 hm0 => ?_)
 repeat' (fail_if_success with_reducible refine ar 1 ?_); first | refine st (by exact rfl) ?_ | fail
 refine fz false (by exact rfl) ?_
 repeat' first | refine st (by exact rfl) ?_ | fail
 refine cl (by exact rfl) (c230 ts 281 [] [.ptr (.str s)] (fun t => !decide (t = s)) hl fun t _ => c281 t s) ?_
 repeat' first | refine st (by exact rfl) ?_ | fail
 exact Y1
def fieldT (nm t : ByteArray) : ByteArray :=
 if (decide (nm = sSize) && ((decide (t = sRange) || isDomB t) || isArrB t)) = true then sInt
 else if (decide (nm = sDomain) && isArrB t) = true then sDomain ++ t.extract 5 t.size
 else if ((!decide (nm = sSize) && !decide (nm = sDomain)) && decide (t = sRange)) = true then sInt else ⟨#[]⟩
variable {t : ByteArray}
theorem isArrB_size (h : isArrB t = true) : t.size = 6 := by
 unfold isArrB at h
 rw [Bool.or_eq_true, decide_eq_true_eq, decide_eq_true_eq] at h
 rcases h with rfl | rfl <;> rfl
variable {nm : ByteArray}
theorem fieldT1 (h1 : (decide (nm = sSize) && ((decide (t = sRange) || isDomB t) || isArrB t)) = true) : fieldT nm t = sInt := if_pos h1
theorem fieldT2 (h1 : (decide (nm = sSize) && ((decide (t = sRange) || isDomB t) || isArrB t)) = false) (h2 : (decide (nm = sDomain) && isArrB t) = true) : fieldT nm t = sDomain ++ t.extract 5 t.size := by rw [fieldT, if_neg (by rw [h1]; decide), if_pos h2]
theorem fieldT3 (h1 : (decide (nm = sSize) && ((decide (t = sRange) || isDomB t) || isArrB t)) = false) (h2 : (decide (nm = sDomain) && isArrB t) = false) (h3 : ((!decide (nm = sSize) && !decide (nm = sDomain)) && decide (t = sRange)) = true) : fieldT nm t = sInt := by rw [fieldT, if_neg (by rw [h1]; decide), if_neg (by rw [h2]; decide), if_pos h3]
theorem fieldT4 (h1 : (decide (nm = sSize) && ((decide (t = sRange) || isDomB t) || isArrB t)) = false) (h2 : (decide (nm = sDomain) && isArrB t) = false) (h3 : ((!decide (nm = sSize) && !decide (nm = sDomain)) && decide (t = sRange)) = false) : fieldT nm t = ⟨#[]⟩ := by rw [fieldT, if_neg (by rw [h1]; decide), if_neg (by rw [h2]; decide), if_neg (by rw [h3]; decide)]
theorem c223 (nm t : ByteArray) : Pf Tryz.prog 223 [.str nm, .str t] (.d (.str (fieldT nm t))) := by
 refine pfb Tryz.func223 Tryz.ntmps223 Tryz.results223 (fun S0 O0 w0 m0 hm0 => ?_)
 repeat' first | refine st (by exact rfl) ?_ | refine clg (by exact rfl) (fun _ => c141 t) ?_ | refine clg (by exact rfl) (fun _ => c143 t) ?_ | refine cd (by exact rfl) (fun hb => ?_) (fun hb => ?_) | fail
 · exact en (by exact rfl) (congrArg (fun s => PV.d (D.str s)) (fieldT1 hb).symm)
 · have hs := isArrB_size (Bool.and_eq_true_iff.1 (by assumption)).2
   refine qu (by exact rfl) (by omega) (qu (by exact rfl) ?_ ?_)
   · rw [ByteArray.size_extract, hs]; decide
   · repeat' first | refine st (by exact rfl) ?_ | fail
     exact en (by exact rfl) (congrArg (fun s => PV.d (D.str s)) (fieldT2 (by assumption) hb).symm)
 · rename_i h1 h2
   exact en (by exact rfl) (congrArg (fun s => PV.d (D.str s)) (fieldT3 h1 h2 hb).symm)
 · rename_i h1 h2
   exact en (by exact rfl) (congrArg (fun s => PV.d (D.str s)) (fieldT4 h1 h2 hb).symm)
def staticB (f : Fm) : Bool := (decide (f.intent = sParam) || decide (f.intent = sType)) || !basicB f.ty.nm
theorem c209 (f : Fm) : Pf Tryz.prog 209 [f.d] (.d (.bool (staticB f))) := by
 unfold Fm.d
 refine pfb Tryz.func209 Tryz.ntmps209 Tryz.results209 (fun S0 O0 w0 m0 hm0 => ?_)
 repeat' first | refine st (by exact rfl) ?_ | refine clg (by exact rfl) (fun _ => c142 f.ty.nm) ?_ | fail
 exact Y1
end
end Go.Proofs.YtklkbfpjimeaoaaGreat
