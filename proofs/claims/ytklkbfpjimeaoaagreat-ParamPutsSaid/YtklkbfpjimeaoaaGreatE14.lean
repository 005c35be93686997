/- THE ENGINE, part 14: plain lemmas for walks: counters, searches. Conditions: none. -/
import Derived.Test.YtklkbfpjimeaoaaGreatE13
import Derived.IntWalk
namespace Go.Proofs.YtklkbfpjimeaoaaGreat.E
open Go
end Go.Proofs.YtklkbfpjimeaoaaGreat.E
