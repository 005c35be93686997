/-
  NARROWER THAN 'FOR EVERY INPUT', by the rows' own cells (each row's printed sentence says how): InlineRenames: loops · InlineNames: loops.
  DERIVED. THE GIVEN ROWS OF THIS SEAT. 6 by the template 'for every input the law returns true; each argument reads behind the call as it read before'; 0 by the template 'total and deterministic' (their statements: YtphfdmagkgpgfaaTotals.lean).
  GIVEN WITH THE SEED: the statements are not yours to turn. If you find one false, say at which input.
  Laid BY PROGRAM, IN A SANDBOX (cutbox-rows.mjs): the forced cells as the released guide's own fill.sh prints them over the translation 6bce77958c48648b… (all of the seat's roots in one cut). By AI agents, Wed Nov 11 2026. No macro, syntax, notation, axiom, sorry.
-/
import Derived.Test.YtphfdmagkgpgfaaChecked
import GoSem.Claim
import GoSem.ClaimJoined
import GoSem.ClaimMapViews
import Derived.JoinedTies
import Derived.KernelRfl
namespace Go.Proofs.Ytphfdmagkgpgfaa
/- THE CELL 'sum', in the pinned program and in every row, IS THE sha256 OF THE DUMP (.gsa) THAT YtphfdmagkgpgfaaProg.lean LOADS. Nothing in Lean hashes anything: it is a label: what it is worth is what the hold of that sum in a sandbox is worth. -/
noncomputable def Try.pinned : Pinned := { name := "ytphfdmagkgpgfaa", sum := "6bce77958c48648b43c0e78119d99599bd91105f7cd0eb17c885c072de74edc2", checked := Try.checked }
namespace Rows
def none {H : Type} : Left H := { results := [], args := [] }

/-- 'raddlelaw16.InlineRenames': WHATEVER THE INPUT: true; the input reads as it did. -/
def inlineRenamesSpec : ChangeSpec := { name := "inlineRenames", fn := fun _ => fun
  | [d1, d2] => { results := [.lit (.bool true)], args := [d1, d2] }
  | _ => none }
def inlineRenamesRow : OpenClaim := { program := "ytphfdmagkgpgfaa", sum := "6bce77958c48648b43c0e78119d99599bd91105f7cd0eb17c885c072de74edc2", func := "raddle/raddlelaw16.InlineRenames", spec := "inlineRenames", unfollowed := true, recurses := true, loops := true, apart := false }
def InlineRenamesSaid : Prop := inlineRenamesRow.holds Try.pinned (OpenSpec.ofChange inlineRenamesSpec)

/-- ITS FALSE NEIGHBOUR: 'it returns false'. Refute it at one input. -/
def inlineRenamesWrong : ChangeSpec := { name := "inlineRenames", fn := fun _ => fun
  | [d1, d2] => { results := [.lit (.bool false)], args := [d1, d2] }
  | _ => none }
def InlineRenamesWrongFalsely : Prop := inlineRenamesRow.holds Try.pinned (OpenSpec.ofChange inlineRenamesWrong)

/-- 'raddlelaw16.InlineNames': WHATEVER THE INPUT: true; the input reads as it did. -/
def inlineNamesSpec : ChangeSpec := { name := "inlineNames", fn := fun _ => fun
  | [d1, d2] => { results := [.lit (.bool true)], args := [d1, d2] }
  | _ => none }
def inlineNamesRow : OpenClaim := { program := "ytphfdmagkgpgfaa", sum := "6bce77958c48648b43c0e78119d99599bd91105f7cd0eb17c885c072de74edc2", func := "raddle/raddlelaw16.InlineNames", spec := "inlineNames", unfollowed := true, recurses := true, loops := true, apart := false }
def InlineNamesSaid : Prop := inlineNamesRow.holds Try.pinned (OpenSpec.ofChange inlineNamesSpec)

/-- ITS FALSE NEIGHBOUR: 'it returns false'. Refute it at one input. -/
def inlineNamesWrong : ChangeSpec := { name := "inlineNames", fn := fun _ => fun
  | [d1, d2] => { results := [.lit (.bool false)], args := [d1, d2] }
  | _ => none }
def InlineNamesWrongFalsely : Prop := inlineNamesRow.holds Try.pinned (OpenSpec.ofChange inlineNamesWrong)

/-- 'raddlelaw27.WordNames': WHATEVER THE INPUT: true; the input reads as it did. -/
def wordNamesSpec : ChangeSpec := { name := "wordNames", fn := fun _ => fun
  | [d] => { results := [.lit (.bool true)], args := [d] }
  | _ => none }
def wordNamesRow : OpenClaim := { program := "ytphfdmagkgpgfaa", sum := "6bce77958c48648b43c0e78119d99599bd91105f7cd0eb17c885c072de74edc2", func := "raddle/raddlelaw27.WordNames", spec := "wordNames", inPlace := ["internal/bytealg.IndexByteString"], unfollowed := true, recurses := true, apart := false }
def WordNamesSaid : Prop := wordNamesRow.holds Try.pinned (OpenSpec.ofChange wordNamesSpec)

/-- ITS FALSE NEIGHBOUR: 'it returns false'. Refute it at one input. -/
def wordNamesWrong : ChangeSpec := { name := "wordNames", fn := fun _ => fun
  | [d] => { results := [.lit (.bool false)], args := [d] }
  | _ => none }
def WordNamesWrongFalsely : Prop := wordNamesRow.holds Try.pinned (OpenSpec.ofChange wordNamesWrong)

/-- 'raddlelaw27.WordServices': WHATEVER THE INPUT: true; the input reads as it did. -/
def wordServicesSpec : ChangeSpec := { name := "wordServices", fn := fun _ => fun
  | [d] => { results := [.lit (.bool true)], args := [d] }
  | _ => none }
def wordServicesRow : OpenClaim := { program := "ytphfdmagkgpgfaa", sum := "6bce77958c48648b43c0e78119d99599bd91105f7cd0eb17c885c072de74edc2", func := "raddle/raddlelaw27.WordServices", spec := "wordServices", inPlace := ["internal/bytealg.IndexByteString"], unfollowed := true, recurses := true, apart := false }
def WordServicesSaid : Prop := wordServicesRow.holds Try.pinned (OpenSpec.ofChange wordServicesSpec)

/-- ITS FALSE NEIGHBOUR: 'it returns false'. Refute it at one input. -/
def wordServicesWrong : ChangeSpec := { name := "wordServices", fn := fun _ => fun
  | [d] => { results := [.lit (.bool false)], args := [d] }
  | _ => none }
def WordServicesWrongFalsely : Prop := wordServicesRow.holds Try.pinned (OpenSpec.ofChange wordServicesWrong)

/-- 'raddlelaw27.WordCodes': WHATEVER THE INPUT: true; the input reads as it did. -/
def wordCodesSpec : ChangeSpec := { name := "wordCodes", fn := fun _ => fun
  | [d1, d2] => { results := [.lit (.bool true)], args := [d1, d2] }
  | _ => none }
def wordCodesRow : OpenClaim := { program := "ytphfdmagkgpgfaa", sum := "6bce77958c48648b43c0e78119d99599bd91105f7cd0eb17c885c072de74edc2", func := "raddle/raddlelaw27.WordCodes", spec := "wordCodes", inPlace := ["internal/bytealg.IndexByteString"], unfollowed := true, recurses := true, apart := false }
def WordCodesSaid : Prop := wordCodesRow.holds Try.pinned (OpenSpec.ofChange wordCodesSpec)

/-- ITS FALSE NEIGHBOUR: 'it returns false'. Refute it at one input. -/
def wordCodesWrong : ChangeSpec := { name := "wordCodes", fn := fun _ => fun
  | [d1, d2] => { results := [.lit (.bool false)], args := [d1, d2] }
  | _ => none }
def WordCodesWrongFalsely : Prop := wordCodesRow.holds Try.pinned (OpenSpec.ofChange wordCodesWrong)

/-- 'raddlelaw27.WordWords': WHATEVER THE INPUT: true; the input reads as it did. -/
def wordWordsSpec : ChangeSpec := { name := "wordWords", fn := fun _ => fun
  | [d1, d2, d3] => { results := [.lit (.bool true)], args := [d1, d2, d3] }
  | _ => none }
def wordWordsRow : OpenClaim := { program := "ytphfdmagkgpgfaa", sum := "6bce77958c48648b43c0e78119d99599bd91105f7cd0eb17c885c072de74edc2", func := "raddle/raddlelaw27.WordWords", spec := "wordWords", inPlace := ["internal/bytealg.IndexByteString"], unfollowed := true, recurses := true, apart := false }
def WordWordsSaid : Prop := wordWordsRow.holds Try.pinned (OpenSpec.ofChange wordWordsSpec)

/-- ITS FALSE NEIGHBOUR: 'it returns false'. Refute it at one input. -/
def wordWordsWrong : ChangeSpec := { name := "wordWords", fn := fun _ => fun
  | [d1, d2, d3] => { results := [.lit (.bool false)], args := [d1, d2, d3] }
  | _ => none }
def WordWordsWrongFalsely : Prop := wordWordsRow.holds Try.pinned (OpenSpec.ofChange wordWordsWrong)

/- THE SECOND FORM. 'bulk': how many values and letters a reading holds, each counted each time it is reached (what is shared counts as often as it is met; a slice's spare places count too). A statement '..UptoSaid' is the law's where the arguments, and the package variables that the reading takes, are together of bulk at most 1048576: NARROWER than '..Said'. Prove '..Said' where nothing that the law and all that it calls make is longer than what came in: it says more and counts as full. Else prove '..UptoSaid'. A law counts once. -/
mutual
def uptoBulk {H : Type} : DataW H → Nat
  | .lit (.string bytes) => bytes.length + 1
  | .lit _ => 1
  | .nil => 1
  | .ptr d => uptoBulk d + 1
  | .slice elems spare => uptoBulkAll elems + uptoBulkAll spare + 1
  | .agg parts => uptoBulkAll parts + 1
  | .iface _ d => uptoBulk d + 1
  | .map entries => uptoBulkEntries entries + 1
  | .held _ => 1
def uptoBulkAll {H : Type} : List (DataW H) → Nat
  | [] => 0
  | d :: r => uptoBulk d + uptoBulkAll r
def uptoBulkEntries {H : Type} : List (Lit × DataW H) → Nat
  | [] => 0
  | x :: r => uptoBulkEntry x + uptoBulkEntries r
def uptoBulkEntry {H : Type} : Lit × DataW H → Nat
  | (.string bytes, d) => bytes.length + uptoBulk d + 1
  | (_, d) => uptoBulk d + 1
 end
def uptoSmall : (H : Type) → List (DataW H) → Bool := fun _ ds => decide (uptoBulkAll ds ≤ 1048576)
def OpenSpec.upto (s : _root_.Go.ChangeSpec) : _root_.Go.OpenSpec := { _root_.Go.OpenSpec.ofChange s with cond := some uptoSmall }

/-- 'raddlelaw16.InlineRenames', WHERE WHAT IT READS IS OF BULK AT MOST 1048576: true; the input reads as it did. -/
def inlineRenamesUptoRow : OpenClaim := { program := "ytphfdmagkgpgfaa", sum := "6bce77958c48648b43c0e78119d99599bd91105f7cd0eb17c885c072de74edc2", func := "raddle/raddlelaw16.InlineRenames", spec := "inlineRenames", unfollowed := true, recurses := true, loops := true, apart := false, narrowed := true }
def InlineRenamesUptoSaid : Prop := inlineRenamesUptoRow.holds Try.pinned (OpenSpec.upto inlineRenamesSpec)

/-- 'raddlelaw16.InlineNames', WHERE WHAT IT READS IS OF BULK AT MOST 1048576: true; the input reads as it did. -/
def inlineNamesUptoRow : OpenClaim := { program := "ytphfdmagkgpgfaa", sum := "6bce77958c48648b43c0e78119d99599bd91105f7cd0eb17c885c072de74edc2", func := "raddle/raddlelaw16.InlineNames", spec := "inlineNames", unfollowed := true, recurses := true, loops := true, apart := false, narrowed := true }
def InlineNamesUptoSaid : Prop := inlineNamesUptoRow.holds Try.pinned (OpenSpec.upto inlineNamesSpec)

/-- 'raddlelaw27.WordNames', WHERE WHAT IT READS IS OF BULK AT MOST 1048576: true; the input reads as it did. -/
def wordNamesUptoRow : OpenClaim := { program := "ytphfdmagkgpgfaa", sum := "6bce77958c48648b43c0e78119d99599bd91105f7cd0eb17c885c072de74edc2", func := "raddle/raddlelaw27.WordNames", spec := "wordNames", inPlace := ["internal/bytealg.IndexByteString"], unfollowed := true, recurses := true, apart := false, narrowed := true }
def WordNamesUptoSaid : Prop := wordNamesUptoRow.holds Try.pinned (OpenSpec.upto wordNamesSpec)

/-- 'raddlelaw27.WordServices', WHERE WHAT IT READS IS OF BULK AT MOST 1048576: true; the input reads as it did. -/
def wordServicesUptoRow : OpenClaim := { program := "ytphfdmagkgpgfaa", sum := "6bce77958c48648b43c0e78119d99599bd91105f7cd0eb17c885c072de74edc2", func := "raddle/raddlelaw27.WordServices", spec := "wordServices", inPlace := ["internal/bytealg.IndexByteString"], unfollowed := true, recurses := true, apart := false, narrowed := true }
def WordServicesUptoSaid : Prop := wordServicesUptoRow.holds Try.pinned (OpenSpec.upto wordServicesSpec)

/-- 'raddlelaw27.WordCodes', WHERE WHAT IT READS IS OF BULK AT MOST 1048576: true; the input reads as it did. -/
def wordCodesUptoRow : OpenClaim := { program := "ytphfdmagkgpgfaa", sum := "6bce77958c48648b43c0e78119d99599bd91105f7cd0eb17c885c072de74edc2", func := "raddle/raddlelaw27.WordCodes", spec := "wordCodes", inPlace := ["internal/bytealg.IndexByteString"], unfollowed := true, recurses := true, apart := false, narrowed := true }
def WordCodesUptoSaid : Prop := wordCodesUptoRow.holds Try.pinned (OpenSpec.upto wordCodesSpec)

/-- 'raddlelaw27.WordWords', WHERE WHAT IT READS IS OF BULK AT MOST 1048576: true; the input reads as it did. -/
def wordWordsUptoRow : OpenClaim := { program := "ytphfdmagkgpgfaa", sum := "6bce77958c48648b43c0e78119d99599bd91105f7cd0eb17c885c072de74edc2", func := "raddle/raddlelaw27.WordWords", spec := "wordWords", inPlace := ["internal/bytealg.IndexByteString"], unfollowed := true, recurses := true, apart := false, narrowed := true }
def WordWordsUptoSaid : Prop := wordWordsUptoRow.holds Try.pinned (OpenSpec.upto wordWordsSpec)

end Rows
end Go.Proofs.Ytphfdmagkgpgfaa
