/-
  NARROWER THAN 'FOR EVERY INPUT', by the rows' own cells (each row's printed sentence says how): LinkPackets: laid · LinkActs: laid · LinkCuts: laid · LinkOrder: laid · LinkPlays: laid · LinkAll: laid.
  DERIVED. THE GIVEN ROWS OF THIS SEAT. 6 by the template 'for every input the law returns true; each argument reads behind the call as it read before'; 0 by the template 'total and deterministic' (their statements: YtoonleefemkalaaDoorTotals.lean).
  GIVEN WITH THE SEED: the statements are not yours to turn. If you find one false, say at which input.
  Laid BY PROGRAM, IN A SANDBOX (cutbox-rows.mjs): the forced cells as the released guide's own fill.sh prints them over the translation ab3b3eeff1e275d2… (all of the seat's roots in one cut). By AI agents, Wed Nov 11 2026. No macro, syntax, notation, axiom, sorry.
-/
import Derived.Test.YtoonleefemkalaaDoorChecked
import GoSem.Claim
import GoSem.ClaimJoined
import GoSem.ClaimMapViews
import Derived.JoinedTies
import Derived.KernelRfl
namespace Go.Proofs.YtoonleefemkalaaDoor
/- THE CELL 'sum', in the pinned program and in every row, IS THE sha256 OF THE DUMP (.gsa) THAT YtoonleefemkalaaDoorProg.lean LOADS. Nothing in Lean hashes anything: it is a label: what it is worth is what the hold of that sum in a sandbox is worth. -/
noncomputable def Tryd.pinned : Pinned := { name := "ytoonleefemkalaadoor", sum := "ab3b3eeff1e275d2bce92ced1e1bce104f194561136d6d50fe9149c8dc01d9fd", checked := Tryd.checked }
namespace Rows
def none {H : Type} : Left H := { results := [], args := [] }

/- WHAT THE LISTED PACKAGE-LEVEL VARIABLES READ AS WHEN THE CALL BEGINS. Each datum BY PROGRAM (the guide's laid-datum.mjs) off the statement by which the dump's own 'gosem.cut.vars' lays the variable. In a bare row this is a premise. The card (YtoonleefemkalaaDoorCards.lean) ties it to the program's text. -/
def laid_errors_errorType {H : Type} : DataW H := .iface "internal/reflectlite.rtype" (.agg [.ptr (.lit (.string [101, 114, 114, 111, 114]))])

/-- 'raddlelaw31.LinkPackets': WHATEVER THE INPUT: true; the input reads as it did. -/
def linkPacketsSpec : ChangeSpec := { name := "linkPackets", fn := fun _ => fun
  | [d1, d2] => { results := [.lit (.bool true)], args := [d1, d2] }
  | _ => none }
def linkPacketsRow : OpenClaim := { program := "ytoonleefemkalaadoor", sum := "ab3b3eeff1e275d2bce92ced1e1bce104f194561136d6d50fe9149c8dc01d9fd", func := "raddle/raddlelaw31.LinkPackets", spec := "linkPackets", inPlace := ["internal/reflectlite.ValueOf", "(internal/reflectlite.Value).Type", "(internal/reflectlite.Value).IsNil", "internal/reflectlite.TypeOf", "(internal/reflectlite.Value).Elem", "(internal/reflectlite.Value).Set", "slices.overlaps[raddle/link.Packet]"], unfollowed := true, recurses := true, named := ["errors.errorType"], apart := false, laid := [("errors.errorType", laid_errors_errorType)] }
def LinkPacketsSaid : Prop := linkPacketsRow.holds Tryd.pinned (OpenSpec.ofChange linkPacketsSpec)

/-- ITS FALSE NEIGHBOUR: 'it returns false'. Refute it at one input. -/
def linkPacketsWrong : ChangeSpec := { name := "linkPackets", fn := fun _ => fun
  | [d1, d2] => { results := [.lit (.bool false)], args := [d1, d2] }
  | _ => none }
def LinkPacketsWrongFalsely : Prop := linkPacketsRow.holds Tryd.pinned (OpenSpec.ofChange linkPacketsWrong)

/-- 'raddlelaw31.LinkActs': WHATEVER THE INPUT: true; the input reads as it did. -/
def linkActsSpec : ChangeSpec := { name := "linkActs", fn := fun _ => fun
  | [d1, d2, d3, d4] => { results := [.lit (.bool true)], args := [d1, d2, d3, d4] }
  | _ => none }
def linkActsRow : OpenClaim := { program := "ytoonleefemkalaadoor", sum := "ab3b3eeff1e275d2bce92ced1e1bce104f194561136d6d50fe9149c8dc01d9fd", func := "raddle/raddlelaw31.LinkActs", spec := "linkActs", inPlace := ["internal/reflectlite.ValueOf", "(internal/reflectlite.Value).Type", "(internal/reflectlite.Value).IsNil", "internal/reflectlite.TypeOf", "(internal/reflectlite.Value).Elem", "(internal/reflectlite.Value).Set", "slices.overlaps[raddle/link.Packet]"], unfollowed := true, recurses := true, named := ["errors.errorType"], apart := false, laid := [("errors.errorType", laid_errors_errorType)] }
def LinkActsSaid : Prop := linkActsRow.holds Tryd.pinned (OpenSpec.ofChange linkActsSpec)

/-- ITS FALSE NEIGHBOUR: 'it returns false'. Refute it at one input. -/
def linkActsWrong : ChangeSpec := { name := "linkActs", fn := fun _ => fun
  | [d1, d2, d3, d4] => { results := [.lit (.bool false)], args := [d1, d2, d3, d4] }
  | _ => none }
def LinkActsWrongFalsely : Prop := linkActsRow.holds Tryd.pinned (OpenSpec.ofChange linkActsWrong)

/-- 'raddlelaw31.LinkCuts': WHATEVER THE INPUT: true; the input reads as it did. -/
def linkCutsSpec : ChangeSpec := { name := "linkCuts", fn := fun _ => fun
  | [d1, d2] => { results := [.lit (.bool true)], args := [d1, d2] }
  | _ => none }
def linkCutsRow : OpenClaim := { program := "ytoonleefemkalaadoor", sum := "ab3b3eeff1e275d2bce92ced1e1bce104f194561136d6d50fe9149c8dc01d9fd", func := "raddle/raddlelaw31.LinkCuts", spec := "linkCuts", inPlace := ["internal/reflectlite.ValueOf", "(internal/reflectlite.Value).Type", "(internal/reflectlite.Value).IsNil", "internal/reflectlite.TypeOf", "(internal/reflectlite.Value).Elem", "(internal/reflectlite.Value).Set", "slices.overlaps[raddle/link.Packet]"], unfollowed := true, recurses := true, named := ["errors.errorType"], apart := false, laid := [("errors.errorType", laid_errors_errorType)] }
def LinkCutsSaid : Prop := linkCutsRow.holds Tryd.pinned (OpenSpec.ofChange linkCutsSpec)

/-- ITS FALSE NEIGHBOUR: 'it returns false'. Refute it at one input. -/
def linkCutsWrong : ChangeSpec := { name := "linkCuts", fn := fun _ => fun
  | [d1, d2] => { results := [.lit (.bool false)], args := [d1, d2] }
  | _ => none }
def LinkCutsWrongFalsely : Prop := linkCutsRow.holds Tryd.pinned (OpenSpec.ofChange linkCutsWrong)

/-- 'raddlelaw31.LinkOrder': WHATEVER THE INPUT: true; the input reads as it did. -/
def linkOrderSpec : ChangeSpec := { name := "linkOrder", fn := fun _ => fun
  | [d1, d2, d3] => { results := [.lit (.bool true)], args := [d1, d2, d3] }
  | _ => none }
def linkOrderRow : OpenClaim := { program := "ytoonleefemkalaadoor", sum := "ab3b3eeff1e275d2bce92ced1e1bce104f194561136d6d50fe9149c8dc01d9fd", func := "raddle/raddlelaw31.LinkOrder", spec := "linkOrder", inPlace := ["internal/reflectlite.ValueOf", "(internal/reflectlite.Value).Type", "(internal/reflectlite.Value).IsNil", "internal/reflectlite.TypeOf", "(internal/reflectlite.Value).Elem", "(internal/reflectlite.Value).Set", "slices.overlaps[raddle/link.Packet]"], unfollowed := true, recurses := true, named := ["errors.errorType"], apart := false, laid := [("errors.errorType", laid_errors_errorType)] }
def LinkOrderSaid : Prop := linkOrderRow.holds Tryd.pinned (OpenSpec.ofChange linkOrderSpec)

/-- ITS FALSE NEIGHBOUR: 'it returns false'. Refute it at one input. -/
def linkOrderWrong : ChangeSpec := { name := "linkOrder", fn := fun _ => fun
  | [d1, d2, d3] => { results := [.lit (.bool false)], args := [d1, d2, d3] }
  | _ => none }
def LinkOrderWrongFalsely : Prop := linkOrderRow.holds Tryd.pinned (OpenSpec.ofChange linkOrderWrong)

/-- 'raddlelaw31.LinkPlays': WHATEVER THE INPUT: true; the input reads as it did. -/
def linkPlaysSpec : ChangeSpec := { name := "linkPlays", fn := fun _ => fun
  | [d1, d2] => { results := [.lit (.bool true)], args := [d1, d2] }
  | _ => none }
def linkPlaysRow : OpenClaim := { program := "ytoonleefemkalaadoor", sum := "ab3b3eeff1e275d2bce92ced1e1bce104f194561136d6d50fe9149c8dc01d9fd", func := "raddle/raddlelaw31.LinkPlays", spec := "linkPlays", inPlace := ["internal/reflectlite.ValueOf", "(internal/reflectlite.Value).Type", "(internal/reflectlite.Value).IsNil", "internal/reflectlite.TypeOf", "(internal/reflectlite.Value).Elem", "(internal/reflectlite.Value).Set", "slices.overlaps[raddle/link.Packet]"], unfollowed := true, recurses := true, named := ["errors.errorType"], apart := false, laid := [("errors.errorType", laid_errors_errorType)] }
def LinkPlaysSaid : Prop := linkPlaysRow.holds Tryd.pinned (OpenSpec.ofChange linkPlaysSpec)

/-- ITS FALSE NEIGHBOUR: 'it returns false'. Refute it at one input. -/
def linkPlaysWrong : ChangeSpec := { name := "linkPlays", fn := fun _ => fun
  | [d1, d2] => { results := [.lit (.bool false)], args := [d1, d2] }
  | _ => none }
def LinkPlaysWrongFalsely : Prop := linkPlaysRow.holds Tryd.pinned (OpenSpec.ofChange linkPlaysWrong)

/-- 'raddlelaw31.LinkAll': WHATEVER THE INPUT: true; the input reads as it did. -/
def linkAllSpec : ChangeSpec := { name := "linkAll", fn := fun _ => fun
  | [d1, d2, d3] => { results := [.lit (.bool true)], args := [d1, d2, d3] }
  | _ => none }
def linkAllRow : OpenClaim := { program := "ytoonleefemkalaadoor", sum := "ab3b3eeff1e275d2bce92ced1e1bce104f194561136d6d50fe9149c8dc01d9fd", func := "raddle/raddlelaw31.LinkAll", spec := "linkAll", inPlace := ["internal/reflectlite.ValueOf", "(internal/reflectlite.Value).Type", "(internal/reflectlite.Value).IsNil", "internal/reflectlite.TypeOf", "(internal/reflectlite.Value).Elem", "(internal/reflectlite.Value).Set", "slices.overlaps[raddle/link.Packet]"], unfollowed := true, recurses := true, named := ["errors.errorType"], apart := false, laid := [("errors.errorType", laid_errors_errorType)] }
def LinkAllSaid : Prop := linkAllRow.holds Tryd.pinned (OpenSpec.ofChange linkAllSpec)

/-- ITS FALSE NEIGHBOUR: 'it returns false'. Refute it at one input. -/
def linkAllWrong : ChangeSpec := { name := "linkAll", fn := fun _ => fun
  | [d1, d2, d3] => { results := [.lit (.bool false)], args := [d1, d2, d3] }
  | _ => none }
def LinkAllWrongFalsely : Prop := linkAllRow.holds Tryd.pinned (OpenSpec.ofChange linkAllWrong)

/- THE SECOND FORM. 'bulk': how many values and letters a reading holds, each counted each time it is reached (what is shared counts as often as it is met; a slice's spare places count too). A statement '..UptoSaid' is the law's where the arguments, and the package variables that the reading takes, are together of bulk at most 1048576: NARROWER than '..Said'. Prove '..Said' where nothing that the law and all that it calls make is longer than what came in: it says more and counts as full. Else prove '..UptoSaid'. A law counts once. -/
mutual
def uptoBulk {H : Type} : DataW H → Nat
  | .lit (.string bytes) => bytes.length + 1
  | .lit _ => 1
  | .nil => 1
  | .ptr d => uptoBulk d + 1
  | .slice elems spare => uptoBulkAll elems + uptoBulkAll spare + 1
  | .agg parts => uptoBulkAll parts + 1
  | .iface _ d => uptoBulk d + 1
  | .map entries => uptoBulkEntries entries + 1
  | .held _ => 1
def uptoBulkAll {H : Type} : List (DataW H) → Nat
  | [] => 0
  | d :: r => uptoBulk d + uptoBulkAll r
def uptoBulkEntries {H : Type} : List (Lit × DataW H) → Nat
  | [] => 0
  | x :: r => uptoBulkEntry x + uptoBulkEntries r
def uptoBulkEntry {H : Type} : Lit × DataW H → Nat
  | (.string bytes, d) => bytes.length + uptoBulk d + 1
  | (_, d) => uptoBulk d + 1
 end
def uptoSmall : (H : Type) → List (DataW H) → Bool := fun _ ds => decide (uptoBulkAll ds ≤ 1048576)
def OpenSpec.upto (s : _root_.Go.ChangeSpec) : _root_.Go.OpenSpec := { _root_.Go.OpenSpec.ofChange s with cond := some uptoSmall }

/-- 'raddlelaw31.LinkPackets', WHERE WHAT IT READS IS OF BULK AT MOST 1048576: true; the input reads as it did. -/
def linkPacketsUptoRow : OpenClaim := { program := "ytoonleefemkalaadoor", sum := "ab3b3eeff1e275d2bce92ced1e1bce104f194561136d6d50fe9149c8dc01d9fd", func := "raddle/raddlelaw31.LinkPackets", spec := "linkPackets", inPlace := ["internal/reflectlite.ValueOf", "(internal/reflectlite.Value).Type", "(internal/reflectlite.Value).IsNil", "internal/reflectlite.TypeOf", "(internal/reflectlite.Value).Elem", "(internal/reflectlite.Value).Set", "slices.overlaps[raddle/link.Packet]"], unfollowed := true, recurses := true, named := ["errors.errorType"], apart := false, laid := [("errors.errorType", laid_errors_errorType)], narrowed := true }
def LinkPacketsUptoSaid : Prop := linkPacketsUptoRow.holds Tryd.pinned (OpenSpec.upto linkPacketsSpec)

/-- 'raddlelaw31.LinkActs', WHERE WHAT IT READS IS OF BULK AT MOST 1048576: true; the input reads as it did. -/
def linkActsUptoRow : OpenClaim := { program := "ytoonleefemkalaadoor", sum := "ab3b3eeff1e275d2bce92ced1e1bce104f194561136d6d50fe9149c8dc01d9fd", func := "raddle/raddlelaw31.LinkActs", spec := "linkActs", inPlace := ["internal/reflectlite.ValueOf", "(internal/reflectlite.Value).Type", "(internal/reflectlite.Value).IsNil", "internal/reflectlite.TypeOf", "(internal/reflectlite.Value).Elem", "(internal/reflectlite.Value).Set", "slices.overlaps[raddle/link.Packet]"], unfollowed := true, recurses := true, named := ["errors.errorType"], apart := false, laid := [("errors.errorType", laid_errors_errorType)], narrowed := true }
def LinkActsUptoSaid : Prop := linkActsUptoRow.holds Tryd.pinned (OpenSpec.upto linkActsSpec)

/-- 'raddlelaw31.LinkCuts', WHERE WHAT IT READS IS OF BULK AT MOST 1048576: true; the input reads as it did. -/
def linkCutsUptoRow : OpenClaim := { program := "ytoonleefemkalaadoor", sum := "ab3b3eeff1e275d2bce92ced1e1bce104f194561136d6d50fe9149c8dc01d9fd", func := "raddle/raddlelaw31.LinkCuts", spec := "linkCuts", inPlace := ["internal/reflectlite.ValueOf", "(internal/reflectlite.Value).Type", "(internal/reflectlite.Value).IsNil", "internal/reflectlite.TypeOf", "(internal/reflectlite.Value).Elem", "(internal/reflectlite.Value).Set", "slices.overlaps[raddle/link.Packet]"], unfollowed := true, recurses := true, named := ["errors.errorType"], apart := false, laid := [("errors.errorType", laid_errors_errorType)], narrowed := true }
def LinkCutsUptoSaid : Prop := linkCutsUptoRow.holds Tryd.pinned (OpenSpec.upto linkCutsSpec)

/-- 'raddlelaw31.LinkOrder', WHERE WHAT IT READS IS OF BULK AT MOST 1048576: true; the input reads as it did. -/
def linkOrderUptoRow : OpenClaim := { program := "ytoonleefemkalaadoor", sum := "ab3b3eeff1e275d2bce92ced1e1bce104f194561136d6d50fe9149c8dc01d9fd", func := "raddle/raddlelaw31.LinkOrder", spec := "linkOrder", inPlace := ["internal/reflectlite.ValueOf", "(internal/reflectlite.Value).Type", "(internal/reflectlite.Value).IsNil", "internal/reflectlite.TypeOf", "(internal/reflectlite.Value).Elem", "(internal/reflectlite.Value).Set", "slices.overlaps[raddle/link.Packet]"], unfollowed := true, recurses := true, named := ["errors.errorType"], apart := false, laid := [("errors.errorType", laid_errors_errorType)], narrowed := true }
def LinkOrderUptoSaid : Prop := linkOrderUptoRow.holds Tryd.pinned (OpenSpec.upto linkOrderSpec)

/-- 'raddlelaw31.LinkPlays', WHERE WHAT IT READS IS OF BULK AT MOST 1048576: true; the input reads as it did. -/
def linkPlaysUptoRow : OpenClaim := { program := "ytoonleefemkalaadoor", sum := "ab3b3eeff1e275d2bce92ced1e1bce104f194561136d6d50fe9149c8dc01d9fd", func := "raddle/raddlelaw31.LinkPlays", spec := "linkPlays", inPlace := ["internal/reflectlite.ValueOf", "(internal/reflectlite.Value).Type", "(internal/reflectlite.Value).IsNil", "internal/reflectlite.TypeOf", "(internal/reflectlite.Value).Elem", "(internal/reflectlite.Value).Set", "slices.overlaps[raddle/link.Packet]"], unfollowed := true, recurses := true, named := ["errors.errorType"], apart := false, laid := [("errors.errorType", laid_errors_errorType)], narrowed := true }
def LinkPlaysUptoSaid : Prop := linkPlaysUptoRow.holds Tryd.pinned (OpenSpec.upto linkPlaysSpec)

/-- 'raddlelaw31.LinkAll', WHERE WHAT IT READS IS OF BULK AT MOST 1048576: true; the input reads as it did. -/
def linkAllUptoRow : OpenClaim := { program := "ytoonleefemkalaadoor", sum := "ab3b3eeff1e275d2bce92ced1e1bce104f194561136d6d50fe9149c8dc01d9fd", func := "raddle/raddlelaw31.LinkAll", spec := "linkAll", inPlace := ["internal/reflectlite.ValueOf", "(internal/reflectlite.Value).Type", "(internal/reflectlite.Value).IsNil", "internal/reflectlite.TypeOf", "(internal/reflectlite.Value).Elem", "(internal/reflectlite.Value).Set", "slices.overlaps[raddle/link.Packet]"], unfollowed := true, recurses := true, named := ["errors.errorType"], apart := false, laid := [("errors.errorType", laid_errors_errorType)], narrowed := true }
def LinkAllUptoSaid : Prop := linkAllUptoRow.holds Tryd.pinned (OpenSpec.upto linkAllSpec)

end Rows
end Go.Proofs.YtoonleefemkalaaDoor
