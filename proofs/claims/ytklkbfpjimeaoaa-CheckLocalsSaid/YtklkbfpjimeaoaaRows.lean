/-
  NARROWER THAN 'FOR EVERY INPUT', by the rows' own cells (each row's printed sentence says how): CheckLocals: loops · CheckFree: loops.
  DERIVED. THE GIVEN ROWS OF THIS SEAT. 2 by the template 'for every input the law returns true; each argument reads behind the call as it read before'; 0 by the template 'total and deterministic' (their statements: YtklkbfpjimeaoaaTotals.lean).
  GIVEN WITH THE SEED: the statements are not yours to turn. If you find one false, say at which input.
  Laid BY PROGRAM, IN A SANDBOX (cutbox-rows.mjs): the forced cells as the released guide's own fill.sh prints them over the translation 59e5a453cb33995b… (all of the seat's roots in one cut). By AI agents, Wed Nov 11 2026. No macro, syntax, notation, axiom, sorry.
-/
import Derived.Test.YtklkbfpjimeaoaaChecked
import GoSem.Claim
import GoSem.ClaimJoined
import GoSem.ClaimMapViews
import Derived.JoinedTies
import Derived.KernelRfl
namespace Go.Proofs.Ytklkbfpjimeaoaa
/- THE CELL 'sum', in the pinned program and in every row, IS THE sha256 OF THE DUMP (.gsa) THAT YtklkbfpjimeaoaaProg.lean LOADS. Nothing in Lean hashes anything: it is a label: what it is worth is what the hold of that sum in a sandbox is worth. -/
noncomputable def Try.pinned : Pinned := { name := "ytklkbfpjimeaoaa", sum := "59e5a453cb33995b24a57b5562d36ebe3aedced3a2407edf2355d2cabb305f73", checked := Try.checked }
namespace Rows
def none {H : Type} : Left H := { results := [], args := [] }

/-- 'raddlelaw13.CheckLocals': WHATEVER THE INPUT: true; the input reads as it did. -/
def checkLocalsSpec : ChangeSpec := { name := "checkLocals", fn := fun _ => fun
  | [d1, d2, d3, d4] => { results := [.lit (.bool true)], args := [d1, d2, d3, d4] }
  | _ => none }
def checkLocalsRow : OpenClaim := { program := "ytklkbfpjimeaoaa", sum := "59e5a453cb33995b24a57b5562d36ebe3aedced3a2407edf2355d2cabb305f73", func := "raddle/raddlelaw13.CheckLocals", spec := "checkLocals", unfollowed := true, recurses := true, loops := true, plainKeys := false, apart := false }
def CheckLocalsSaid : Prop := checkLocalsRow.holds Try.pinned (OpenSpec.ofChange checkLocalsSpec)

/-- ITS FALSE NEIGHBOUR: 'it returns false'. Refute it at one input. -/
def checkLocalsWrong : ChangeSpec := { name := "checkLocals", fn := fun _ => fun
  | [d1, d2, d3, d4] => { results := [.lit (.bool false)], args := [d1, d2, d3, d4] }
  | _ => none }
def CheckLocalsWrongFalsely : Prop := checkLocalsRow.holds Try.pinned (OpenSpec.ofChange checkLocalsWrong)

/-- 'raddlelaw13.CheckFree': WHATEVER THE INPUT: true; the input reads as it did. -/
def checkFreeSpec : ChangeSpec := { name := "checkFree", fn := fun _ => fun
  | [d1, d2] => { results := [.lit (.bool true)], args := [d1, d2] }
  | _ => none }
def checkFreeRow : OpenClaim := { program := "ytklkbfpjimeaoaa", sum := "59e5a453cb33995b24a57b5562d36ebe3aedced3a2407edf2355d2cabb305f73", func := "raddle/raddlelaw13.CheckFree", spec := "checkFree", unfollowed := true, recurses := true, loops := true, plainKeys := false, apart := false }
def CheckFreeSaid : Prop := checkFreeRow.holds Try.pinned (OpenSpec.ofChange checkFreeSpec)

/-- ITS FALSE NEIGHBOUR: 'it returns false'. Refute it at one input. -/
def checkFreeWrong : ChangeSpec := { name := "checkFree", fn := fun _ => fun
  | [d1, d2] => { results := [.lit (.bool false)], args := [d1, d2] }
  | _ => none }
def CheckFreeWrongFalsely : Prop := checkFreeRow.holds Try.pinned (OpenSpec.ofChange checkFreeWrong)

/- THE SECOND FORM. 'bulk': how many values and letters a reading holds, each counted each time it is reached (what is shared counts as often as it is met; a slice's spare places count too). A statement '..UptoSaid' is the law's where the arguments, and the package variables that the reading takes, are together of bulk at most 1048576: NARROWER than '..Said'. Prove '..Said' where nothing that the law and all that it calls make is longer than what came in: it says more and counts as full. Else prove '..UptoSaid'. A law counts once. -/
mutual
def uptoBulk {H : Type} : DataW H → Nat
  | .lit (.string bytes) => bytes.length + 1
  | .lit _ => 1
  | .nil => 1
  | .ptr d => uptoBulk d + 1
  | .slice elems spare => uptoBulkAll elems + uptoBulkAll spare + 1
  | .agg parts => uptoBulkAll parts + 1
  | .iface _ d => uptoBulk d + 1
  | .map entries => uptoBulkEntries entries + 1
  | .held _ => 1
def uptoBulkAll {H : Type} : List (DataW H) → Nat
  | [] => 0
  | d :: r => uptoBulk d + uptoBulkAll r
def uptoBulkEntries {H : Type} : List (Lit × DataW H) → Nat
  | [] => 0
  | x :: r => uptoBulkEntry x + uptoBulkEntries r
def uptoBulkEntry {H : Type} : Lit × DataW H → Nat
  | (.string bytes, d) => bytes.length + uptoBulk d + 1
  | (_, d) => uptoBulk d + 1
 end
def uptoSmall : (H : Type) → List (DataW H) → Bool := fun _ ds => decide (uptoBulkAll ds ≤ 1048576)
def OpenSpec.upto (s : _root_.Go.ChangeSpec) : _root_.Go.OpenSpec := { _root_.Go.OpenSpec.ofChange s with cond := some uptoSmall }

/-- 'raddlelaw13.CheckLocals', WHERE WHAT IT READS IS OF BULK AT MOST 1048576: true; the input reads as it did. -/
def checkLocalsUptoRow : OpenClaim := { program := "ytklkbfpjimeaoaa", sum := "59e5a453cb33995b24a57b5562d36ebe3aedced3a2407edf2355d2cabb305f73", func := "raddle/raddlelaw13.CheckLocals", spec := "checkLocals", unfollowed := true, recurses := true, loops := true, plainKeys := false, apart := false, narrowed := true }
def CheckLocalsUptoSaid : Prop := checkLocalsUptoRow.holds Try.pinned (OpenSpec.upto checkLocalsSpec)

/-- 'raddlelaw13.CheckFree', WHERE WHAT IT READS IS OF BULK AT MOST 1048576: true; the input reads as it did. -/
def checkFreeUptoRow : OpenClaim := { program := "ytklkbfpjimeaoaa", sum := "59e5a453cb33995b24a57b5562d36ebe3aedced3a2407edf2355d2cabb305f73", func := "raddle/raddlelaw13.CheckFree", spec := "checkFree", unfollowed := true, recurses := true, loops := true, plainKeys := false, apart := false, narrowed := true }
def CheckFreeUptoSaid : Prop := checkFreeUptoRow.holds Try.pinned (OpenSpec.upto checkFreeSpec)

end Rows
end Go.Proofs.Ytklkbfpjimeaoaa
