/-
  NARROWER THAN 'FOR EVERY INPUT', by the rows' own cells (each row's printed sentence says how): CheckTypes: loops · CheckForms: loops · ParamExprs: loops · ParamEvals: loops · ParamPuts: loops · ParamBlocks: loops · CheckUnused: loops · CheckBlocks: loops · CheckPrograms: loops · ParamFolds: loops · ParamFold: loops.
  DERIVED. THE GIVEN ROWS OF THIS SEAT. 11 by the template 'for every input the law returns true; each argument reads behind the call as it read before'; 0 by the template 'total and deterministic' (their statements: YtklkbfpjimeaoaaGreatTotals.lean).
  GIVEN WITH THE SEED: the statements are not yours to turn. If you find one false, say at which input.
  Laid BY PROGRAM, IN A SANDBOX (cutbox-rows.mjs): the forced cells as the released guide's own fill.sh prints them over the translation a464850ed5319dad… (all of the seat's roots in one cut). By AI agents, Wed Nov 11 2026. No macro, syntax, notation, axiom, sorry.
-/
import Derived.Test.YtklkbfpjimeaoaaGreatChecked
import GoSem.Claim
import GoSem.ClaimJoined
import GoSem.ClaimMapViews
import Derived.JoinedTies
import Derived.KernelRfl
namespace Go.Proofs.YtklkbfpjimeaoaaGreat
/- THE CELL 'sum', in the pinned program and in every row, IS THE sha256 OF THE DUMP (.gsa) THAT YtklkbfpjimeaoaaGreatProg.lean LOADS. Nothing in Lean hashes anything: it is a label: what it is worth is what the hold of that sum in a sandbox is worth. -/
noncomputable def Tryz.pinned : Pinned := { name := "ytklkbfpjimeaoaagreat", sum := "a464850ed5319dad3b5bbfbf3cc7b2bc7e51e1a3dc574989d0c5de0d9861d447", checked := Tryz.checked }
namespace Rows
def none {H : Type} : Left H := { results := [], args := [] }

/-- 'raddlelaw13.CheckTypes': WHATEVER THE INPUT: true; the input reads as it did. -/
def checkTypesSpec : ChangeSpec := { name := "checkTypes", fn := fun _ => fun
  | [d1, d2, d3] => { results := [.lit (.bool true)], args := [d1, d2, d3] }
  | _ => none }
def checkTypesRow : OpenClaim := { program := "ytklkbfpjimeaoaagreat", sum := "a464850ed5319dad3b5bbfbf3cc7b2bc7e51e1a3dc574989d0c5de0d9861d447", func := "raddle/raddlelaw13.CheckTypes", spec := "checkTypes", unfollowed := true, recurses := true, loops := true, plainKeys := false, apart := false }
def CheckTypesSaid : Prop := checkTypesRow.holds Tryz.pinned (OpenSpec.ofChange checkTypesSpec)

/-- ITS FALSE NEIGHBOUR: 'it returns false'. Refute it at one input. -/
def checkTypesWrong : ChangeSpec := { name := "checkTypes", fn := fun _ => fun
  | [d1, d2, d3] => { results := [.lit (.bool false)], args := [d1, d2, d3] }
  | _ => none }
def CheckTypesWrongFalsely : Prop := checkTypesRow.holds Tryz.pinned (OpenSpec.ofChange checkTypesWrong)

/-- 'raddlelaw13.CheckForms': WHATEVER THE INPUT: true; the input reads as it did. -/
def checkFormsSpec : ChangeSpec := { name := "checkForms", fn := fun _ => fun
  | [d1, d2] => { results := [.lit (.bool true)], args := [d1, d2] }
  | _ => none }
def checkFormsRow : OpenClaim := { program := "ytklkbfpjimeaoaagreat", sum := "a464850ed5319dad3b5bbfbf3cc7b2bc7e51e1a3dc574989d0c5de0d9861d447", func := "raddle/raddlelaw13.CheckForms", spec := "checkForms", unfollowed := true, recurses := true, loops := true, plainKeys := false, apart := false }
def CheckFormsSaid : Prop := checkFormsRow.holds Tryz.pinned (OpenSpec.ofChange checkFormsSpec)

/-- ITS FALSE NEIGHBOUR: 'it returns false'. Refute it at one input. -/
def checkFormsWrong : ChangeSpec := { name := "checkForms", fn := fun _ => fun
  | [d1, d2] => { results := [.lit (.bool false)], args := [d1, d2] }
  | _ => none }
def CheckFormsWrongFalsely : Prop := checkFormsRow.holds Tryz.pinned (OpenSpec.ofChange checkFormsWrong)

/-- 'raddlelaw12.ParamExprs': WHATEVER THE INPUT: true; the input reads as it did. -/
def paramExprsSpec : ChangeSpec := { name := "paramExprs", fn := fun _ => fun
  | [d] => { results := [.lit (.bool true)], args := [d] }
  | _ => none }
def paramExprsRow : OpenClaim := { program := "ytklkbfpjimeaoaagreat", sum := "a464850ed5319dad3b5bbfbf3cc7b2bc7e51e1a3dc574989d0c5de0d9861d447", func := "raddle/raddlelaw12.ParamExprs", spec := "paramExprs", unfollowed := true, recurses := true, loops := true, plainKeys := false, apart := false }
def ParamExprsSaid : Prop := paramExprsRow.holds Tryz.pinned (OpenSpec.ofChange paramExprsSpec)

/-- ITS FALSE NEIGHBOUR: 'it returns false'. Refute it at one input. -/
def paramExprsWrong : ChangeSpec := { name := "paramExprs", fn := fun _ => fun
  | [d] => { results := [.lit (.bool false)], args := [d] }
  | _ => none }
def ParamExprsWrongFalsely : Prop := paramExprsRow.holds Tryz.pinned (OpenSpec.ofChange paramExprsWrong)

/-- 'raddlelaw12.ParamEvals': WHATEVER THE INPUT: true; the input reads as it did. -/
def paramEvalsSpec : ChangeSpec := { name := "paramEvals", fn := fun _ => fun
  | [d1, d2] => { results := [.lit (.bool true)], args := [d1, d2] }
  | _ => none }
def paramEvalsRow : OpenClaim := { program := "ytklkbfpjimeaoaagreat", sum := "a464850ed5319dad3b5bbfbf3cc7b2bc7e51e1a3dc574989d0c5de0d9861d447", func := "raddle/raddlelaw12.ParamEvals", spec := "paramEvals", unfollowed := true, recurses := true, loops := true, plainKeys := false, apart := false }
def ParamEvalsSaid : Prop := paramEvalsRow.holds Tryz.pinned (OpenSpec.ofChange paramEvalsSpec)

/-- ITS FALSE NEIGHBOUR: 'it returns false'. Refute it at one input. -/
def paramEvalsWrong : ChangeSpec := { name := "paramEvals", fn := fun _ => fun
  | [d1, d2] => { results := [.lit (.bool false)], args := [d1, d2] }
  | _ => none }
def ParamEvalsWrongFalsely : Prop := paramEvalsRow.holds Tryz.pinned (OpenSpec.ofChange paramEvalsWrong)

/-- 'raddlelaw12.ParamPuts': WHATEVER THE INPUT: true; the input reads as it did. -/
def paramPutsSpec : ChangeSpec := { name := "paramPuts", fn := fun _ => fun
  | [d1, d2, d3] => { results := [.lit (.bool true)], args := [d1, d2, d3] }
  | _ => none }
def paramPutsRow : OpenClaim := { program := "ytklkbfpjimeaoaagreat", sum := "a464850ed5319dad3b5bbfbf3cc7b2bc7e51e1a3dc574989d0c5de0d9861d447", func := "raddle/raddlelaw12.ParamPuts", spec := "paramPuts", unfollowed := true, recurses := true, loops := true, plainKeys := false, apart := false }
def ParamPutsSaid : Prop := paramPutsRow.holds Tryz.pinned (OpenSpec.ofChange paramPutsSpec)

/-- ITS FALSE NEIGHBOUR: 'it returns false'. Refute it at one input. -/
def paramPutsWrong : ChangeSpec := { name := "paramPuts", fn := fun _ => fun
  | [d1, d2, d3] => { results := [.lit (.bool false)], args := [d1, d2, d3] }
  | _ => none }
def ParamPutsWrongFalsely : Prop := paramPutsRow.holds Tryz.pinned (OpenSpec.ofChange paramPutsWrong)

/-- 'raddlelaw12.ParamBlocks': WHATEVER THE INPUT: true; the input reads as it did. -/
def paramBlocksSpec : ChangeSpec := { name := "paramBlocks", fn := fun _ => fun
  | [d1, d2] => { results := [.lit (.bool true)], args := [d1, d2] }
  | _ => none }
def paramBlocksRow : OpenClaim := { program := "ytklkbfpjimeaoaagreat", sum := "a464850ed5319dad3b5bbfbf3cc7b2bc7e51e1a3dc574989d0c5de0d9861d447", func := "raddle/raddlelaw12.ParamBlocks", spec := "paramBlocks", unfollowed := true, recurses := true, loops := true, plainKeys := false, apart := false }
def ParamBlocksSaid : Prop := paramBlocksRow.holds Tryz.pinned (OpenSpec.ofChange paramBlocksSpec)

/-- ITS FALSE NEIGHBOUR: 'it returns false'. Refute it at one input. -/
def paramBlocksWrong : ChangeSpec := { name := "paramBlocks", fn := fun _ => fun
  | [d1, d2] => { results := [.lit (.bool false)], args := [d1, d2] }
  | _ => none }
def ParamBlocksWrongFalsely : Prop := paramBlocksRow.holds Tryz.pinned (OpenSpec.ofChange paramBlocksWrong)

/-- 'raddlelaw13.CheckUnused': WHATEVER THE INPUT: true; the input reads as it did. -/
def checkUnusedSpec : ChangeSpec := { name := "checkUnused", fn := fun _ => fun
  | [d1, d2, d3] => { results := [.lit (.bool true)], args := [d1, d2, d3] }
  | _ => none }
def checkUnusedRow : OpenClaim := { program := "ytklkbfpjimeaoaagreat", sum := "a464850ed5319dad3b5bbfbf3cc7b2bc7e51e1a3dc574989d0c5de0d9861d447", func := "raddle/raddlelaw13.CheckUnused", spec := "checkUnused", unfollowed := true, recurses := true, loops := true, plainKeys := false, apart := false }
def CheckUnusedSaid : Prop := checkUnusedRow.holds Tryz.pinned (OpenSpec.ofChange checkUnusedSpec)

/-- ITS FALSE NEIGHBOUR: 'it returns false'. Refute it at one input. -/
def checkUnusedWrong : ChangeSpec := { name := "checkUnused", fn := fun _ => fun
  | [d1, d2, d3] => { results := [.lit (.bool false)], args := [d1, d2, d3] }
  | _ => none }
def CheckUnusedWrongFalsely : Prop := checkUnusedRow.holds Tryz.pinned (OpenSpec.ofChange checkUnusedWrong)

/-- 'raddlelaw13.CheckBlocks': WHATEVER THE INPUT: true; the input reads as it did. -/
def checkBlocksSpec : ChangeSpec := { name := "checkBlocks", fn := fun _ => fun
  | [d1, d2] => { results := [.lit (.bool true)], args := [d1, d2] }
  | _ => none }
def checkBlocksRow : OpenClaim := { program := "ytklkbfpjimeaoaagreat", sum := "a464850ed5319dad3b5bbfbf3cc7b2bc7e51e1a3dc574989d0c5de0d9861d447", func := "raddle/raddlelaw13.CheckBlocks", spec := "checkBlocks", unfollowed := true, recurses := true, loops := true, plainKeys := false, apart := false }
def CheckBlocksSaid : Prop := checkBlocksRow.holds Tryz.pinned (OpenSpec.ofChange checkBlocksSpec)

/-- ITS FALSE NEIGHBOUR: 'it returns false'. Refute it at one input. -/
def checkBlocksWrong : ChangeSpec := { name := "checkBlocks", fn := fun _ => fun
  | [d1, d2] => { results := [.lit (.bool false)], args := [d1, d2] }
  | _ => none }
def CheckBlocksWrongFalsely : Prop := checkBlocksRow.holds Tryz.pinned (OpenSpec.ofChange checkBlocksWrong)

/-- 'raddlelaw13.CheckPrograms': WHATEVER THE INPUT: true; the input reads as it did. -/
def checkProgramsSpec : ChangeSpec := { name := "checkPrograms", fn := fun _ => fun
  | [d1, d2] => { results := [.lit (.bool true)], args := [d1, d2] }
  | _ => none }
def checkProgramsRow : OpenClaim := { program := "ytklkbfpjimeaoaagreat", sum := "a464850ed5319dad3b5bbfbf3cc7b2bc7e51e1a3dc574989d0c5de0d9861d447", func := "raddle/raddlelaw13.CheckPrograms", spec := "checkPrograms", unfollowed := true, recurses := true, loops := true, plainKeys := false, apart := false }
def CheckProgramsSaid : Prop := checkProgramsRow.holds Tryz.pinned (OpenSpec.ofChange checkProgramsSpec)

/-- ITS FALSE NEIGHBOUR: 'it returns false'. Refute it at one input. -/
def checkProgramsWrong : ChangeSpec := { name := "checkPrograms", fn := fun _ => fun
  | [d1, d2] => { results := [.lit (.bool false)], args := [d1, d2] }
  | _ => none }
def CheckProgramsWrongFalsely : Prop := checkProgramsRow.holds Tryz.pinned (OpenSpec.ofChange checkProgramsWrong)

/-- 'raddlelaw12.ParamFolds': WHATEVER THE INPUT: true; the input reads as it did. -/
def paramFoldsSpec : ChangeSpec := { name := "paramFolds", fn := fun _ => fun
  | [d] => { results := [.lit (.bool true)], args := [d] }
  | _ => none }
def paramFoldsRow : OpenClaim := { program := "ytklkbfpjimeaoaagreat", sum := "a464850ed5319dad3b5bbfbf3cc7b2bc7e51e1a3dc574989d0c5de0d9861d447", func := "raddle/raddlelaw12.ParamFolds", spec := "paramFolds", unfollowed := true, recurses := true, loops := true, plainKeys := false, apart := false }
def ParamFoldsSaid : Prop := paramFoldsRow.holds Tryz.pinned (OpenSpec.ofChange paramFoldsSpec)

/-- ITS FALSE NEIGHBOUR: 'it returns false'. Refute it at one input. -/
def paramFoldsWrong : ChangeSpec := { name := "paramFolds", fn := fun _ => fun
  | [d] => { results := [.lit (.bool false)], args := [d] }
  | _ => none }
def ParamFoldsWrongFalsely : Prop := paramFoldsRow.holds Tryz.pinned (OpenSpec.ofChange paramFoldsWrong)

/-- 'raddlelaw12.ParamFold': WHATEVER THE INPUT: true; the input reads as it did. -/
def paramFoldSpec : ChangeSpec := { name := "paramFold", fn := fun _ => fun
  | [d] => { results := [.lit (.bool true)], args := [d] }
  | _ => none }
def paramFoldRow : OpenClaim := { program := "ytklkbfpjimeaoaagreat", sum := "a464850ed5319dad3b5bbfbf3cc7b2bc7e51e1a3dc574989d0c5de0d9861d447", func := "raddle/raddlelaw12.ParamFold", spec := "paramFold", unfollowed := true, recurses := true, loops := true, plainKeys := false, apart := false }
def ParamFoldSaid : Prop := paramFoldRow.holds Tryz.pinned (OpenSpec.ofChange paramFoldSpec)

/-- ITS FALSE NEIGHBOUR: 'it returns false'. Refute it at one input. -/
def paramFoldWrong : ChangeSpec := { name := "paramFold", fn := fun _ => fun
  | [d] => { results := [.lit (.bool false)], args := [d] }
  | _ => none }
def ParamFoldWrongFalsely : Prop := paramFoldRow.holds Tryz.pinned (OpenSpec.ofChange paramFoldWrong)

/- THE SECOND FORM. 'bulk': how many values and letters a reading holds, each counted each time it is reached (what is shared counts as often as it is met; a slice's spare places count too). A statement '..UptoSaid' is the law's where the arguments, and the package variables that the reading takes, are together of bulk at most 1048576: NARROWER than '..Said'. Prove '..Said' where nothing that the law and all that it calls make is longer than what came in: it says more and counts as full. Else prove '..UptoSaid'. A law counts once. -/
mutual
def uptoBulk {H : Type} : DataW H → Nat
  | .lit (.string bytes) => bytes.length + 1
  | .lit _ => 1
  | .nil => 1
  | .ptr d => uptoBulk d + 1
  | .slice elems spare => uptoBulkAll elems + uptoBulkAll spare + 1
  | .agg parts => uptoBulkAll parts + 1
  | .iface _ d => uptoBulk d + 1
  | .map entries => uptoBulkEntries entries + 1
  | .held _ => 1
def uptoBulkAll {H : Type} : List (DataW H) → Nat
  | [] => 0
  | d :: r => uptoBulk d + uptoBulkAll r
def uptoBulkEntries {H : Type} : List (Lit × DataW H) → Nat
  | [] => 0
  | x :: r => uptoBulkEntry x + uptoBulkEntries r
def uptoBulkEntry {H : Type} : Lit × DataW H → Nat
  | (.string bytes, d) => bytes.length + uptoBulk d + 1
  | (_, d) => uptoBulk d + 1
 end
def uptoSmall : (H : Type) → List (DataW H) → Bool := fun _ ds => decide (uptoBulkAll ds ≤ 1048576)
def OpenSpec.upto (s : _root_.Go.ChangeSpec) : _root_.Go.OpenSpec := { _root_.Go.OpenSpec.ofChange s with cond := some uptoSmall }

/-- 'raddlelaw13.CheckTypes', WHERE WHAT IT READS IS OF BULK AT MOST 1048576: true; the input reads as it did. -/
def checkTypesUptoRow : OpenClaim := { program := "ytklkbfpjimeaoaagreat", sum := "a464850ed5319dad3b5bbfbf3cc7b2bc7e51e1a3dc574989d0c5de0d9861d447", func := "raddle/raddlelaw13.CheckTypes", spec := "checkTypes", unfollowed := true, recurses := true, loops := true, plainKeys := false, apart := false, narrowed := true }
def CheckTypesUptoSaid : Prop := checkTypesUptoRow.holds Tryz.pinned (OpenSpec.upto checkTypesSpec)

/-- 'raddlelaw13.CheckForms', WHERE WHAT IT READS IS OF BULK AT MOST 1048576: true; the input reads as it did. -/
def checkFormsUptoRow : OpenClaim := { program := "ytklkbfpjimeaoaagreat", sum := "a464850ed5319dad3b5bbfbf3cc7b2bc7e51e1a3dc574989d0c5de0d9861d447", func := "raddle/raddlelaw13.CheckForms", spec := "checkForms", unfollowed := true, recurses := true, loops := true, plainKeys := false, apart := false, narrowed := true }
def CheckFormsUptoSaid : Prop := checkFormsUptoRow.holds Tryz.pinned (OpenSpec.upto checkFormsSpec)

/-- 'raddlelaw12.ParamExprs', WHERE WHAT IT READS IS OF BULK AT MOST 1048576: true; the input reads as it did. -/
def paramExprsUptoRow : OpenClaim := { program := "ytklkbfpjimeaoaagreat", sum := "a464850ed5319dad3b5bbfbf3cc7b2bc7e51e1a3dc574989d0c5de0d9861d447", func := "raddle/raddlelaw12.ParamExprs", spec := "paramExprs", unfollowed := true, recurses := true, loops := true, plainKeys := false, apart := false, narrowed := true }
def ParamExprsUptoSaid : Prop := paramExprsUptoRow.holds Tryz.pinned (OpenSpec.upto paramExprsSpec)

/-- 'raddlelaw12.ParamEvals', WHERE WHAT IT READS IS OF BULK AT MOST 1048576: true; the input reads as it did. -/
def paramEvalsUptoRow : OpenClaim := { program := "ytklkbfpjimeaoaagreat", sum := "a464850ed5319dad3b5bbfbf3cc7b2bc7e51e1a3dc574989d0c5de0d9861d447", func := "raddle/raddlelaw12.ParamEvals", spec := "paramEvals", unfollowed := true, recurses := true, loops := true, plainKeys := false, apart := false, narrowed := true }
def ParamEvalsUptoSaid : Prop := paramEvalsUptoRow.holds Tryz.pinned (OpenSpec.upto paramEvalsSpec)

/-- 'raddlelaw12.ParamPuts', WHERE WHAT IT READS IS OF BULK AT MOST 1048576: true; the input reads as it did. -/
def paramPutsUptoRow : OpenClaim := { program := "ytklkbfpjimeaoaagreat", sum := "a464850ed5319dad3b5bbfbf3cc7b2bc7e51e1a3dc574989d0c5de0d9861d447", func := "raddle/raddlelaw12.ParamPuts", spec := "paramPuts", unfollowed := true, recurses := true, loops := true, plainKeys := false, apart := false, narrowed := true }
def ParamPutsUptoSaid : Prop := paramPutsUptoRow.holds Tryz.pinned (OpenSpec.upto paramPutsSpec)

/-- 'raddlelaw12.ParamBlocks', WHERE WHAT IT READS IS OF BULK AT MOST 1048576: true; the input reads as it did. -/
def paramBlocksUptoRow : OpenClaim := { program := "ytklkbfpjimeaoaagreat", sum := "a464850ed5319dad3b5bbfbf3cc7b2bc7e51e1a3dc574989d0c5de0d9861d447", func := "raddle/raddlelaw12.ParamBlocks", spec := "paramBlocks", unfollowed := true, recurses := true, loops := true, plainKeys := false, apart := false, narrowed := true }
def ParamBlocksUptoSaid : Prop := paramBlocksUptoRow.holds Tryz.pinned (OpenSpec.upto paramBlocksSpec)

/-- 'raddlelaw13.CheckUnused', WHERE WHAT IT READS IS OF BULK AT MOST 1048576: true; the input reads as it did. -/
def checkUnusedUptoRow : OpenClaim := { program := "ytklkbfpjimeaoaagreat", sum := "a464850ed5319dad3b5bbfbf3cc7b2bc7e51e1a3dc574989d0c5de0d9861d447", func := "raddle/raddlelaw13.CheckUnused", spec := "checkUnused", unfollowed := true, recurses := true, loops := true, plainKeys := false, apart := false, narrowed := true }
def CheckUnusedUptoSaid : Prop := checkUnusedUptoRow.holds Tryz.pinned (OpenSpec.upto checkUnusedSpec)

/-- 'raddlelaw13.CheckBlocks', WHERE WHAT IT READS IS OF BULK AT MOST 1048576: true; the input reads as it did. -/
def checkBlocksUptoRow : OpenClaim := { program := "ytklkbfpjimeaoaagreat", sum := "a464850ed5319dad3b5bbfbf3cc7b2bc7e51e1a3dc574989d0c5de0d9861d447", func := "raddle/raddlelaw13.CheckBlocks", spec := "checkBlocks", unfollowed := true, recurses := true, loops := true, plainKeys := false, apart := false, narrowed := true }
def CheckBlocksUptoSaid : Prop := checkBlocksUptoRow.holds Tryz.pinned (OpenSpec.upto checkBlocksSpec)

/-- 'raddlelaw13.CheckPrograms', WHERE WHAT IT READS IS OF BULK AT MOST 1048576: true; the input reads as it did. -/
def checkProgramsUptoRow : OpenClaim := { program := "ytklkbfpjimeaoaagreat", sum := "a464850ed5319dad3b5bbfbf3cc7b2bc7e51e1a3dc574989d0c5de0d9861d447", func := "raddle/raddlelaw13.CheckPrograms", spec := "checkPrograms", unfollowed := true, recurses := true, loops := true, plainKeys := false, apart := false, narrowed := true }
def CheckProgramsUptoSaid : Prop := checkProgramsUptoRow.holds Tryz.pinned (OpenSpec.upto checkProgramsSpec)

/-- 'raddlelaw12.ParamFolds', WHERE WHAT IT READS IS OF BULK AT MOST 1048576: true; the input reads as it did. -/
def paramFoldsUptoRow : OpenClaim := { program := "ytklkbfpjimeaoaagreat", sum := "a464850ed5319dad3b5bbfbf3cc7b2bc7e51e1a3dc574989d0c5de0d9861d447", func := "raddle/raddlelaw12.ParamFolds", spec := "paramFolds", unfollowed := true, recurses := true, loops := true, plainKeys := false, apart := false, narrowed := true }
def ParamFoldsUptoSaid : Prop := paramFoldsUptoRow.holds Tryz.pinned (OpenSpec.upto paramFoldsSpec)

/-- 'raddlelaw12.ParamFold', WHERE WHAT IT READS IS OF BULK AT MOST 1048576: true; the input reads as it did. -/
def paramFoldUptoRow : OpenClaim := { program := "ytklkbfpjimeaoaagreat", sum := "a464850ed5319dad3b5bbfbf3cc7b2bc7e51e1a3dc574989d0c5de0d9861d447", func := "raddle/raddlelaw12.ParamFold", spec := "paramFold", unfollowed := true, recurses := true, loops := true, plainKeys := false, apart := false, narrowed := true }
def ParamFoldUptoSaid : Prop := paramFoldUptoRow.holds Tryz.pinned (OpenSpec.upto paramFoldSpec)

end Rows
end Go.Proofs.YtklkbfpjimeaoaaGreat
