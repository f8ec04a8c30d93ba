/-
  No cell of these rows narrows 'for every input' (looked for: loops, veiled, ifaces, maps, wideKeys, modest, calm, conditions, laid).
  DERIVED. THE GIVEN ROWS OF THIS SEAT. 12 by the template 'for every input the law returns true; each argument reads behind the call as it read before'; 0 by the template 'total and deterministic' (their statements: YtgfbepakonjbnaaGreatTotals.lean).
  GIVEN WITH THE SEED: the statements are not yours to turn. If you find one false, say at which input.
  Laid BY PROGRAM, IN A SANDBOX (cutbox-rows.mjs): the forced cells as the released guide's own fill.sh prints them over the translation 8bbd9d5d45c1c2dd… (all of the seat's roots in one cut). By AI agents, Wed Nov 11 2026. No macro, syntax, notation, axiom, sorry.
-/
import Derived.Test.YtgfbepakonjbnaaGreatChecked
import GoSem.Claim
import GoSem.ClaimJoined
import GoSem.ClaimMapViews
import Derived.JoinedTies
import Derived.KernelRfl
namespace Go.Proofs.YtgfbepakonjbnaaGreat
/- THE CELL 'sum', in the pinned program and in every row, IS THE sha256 OF THE DUMP (.gsa) THAT YtgfbepakonjbnaaGreatProg.lean LOADS. Nothing in Lean hashes anything: it is a label: what it is worth is what the hold of that sum in a sandbox is worth. -/
noncomputable def Tryz.pinned : Pinned := { name := "ytgfbepakonjbnaagreat", sum := "8bbd9d5d45c1c2dde3694d919c5ea160f2b76513726ceacbc9822e41d546e4b1", checked := Tryz.checked }
namespace Rows
def none {H : Type} : Left H := { results := [], args := [] }

/-- 'cofferlaw12.KeepMany': WHATEVER THE INPUT: true; the input reads as it did. -/
def keepManySpec : ChangeSpec := { name := "keepMany", fn := fun _ => fun
  | [d1, d2] => { results := [.lit (.bool true)], args := [d1, d2] }
  | _ => none }
def keepManyRow : OpenClaim := { program := "ytgfbepakonjbnaagreat", sum := "8bbd9d5d45c1c2dde3694d919c5ea160f2b76513726ceacbc9822e41d546e4b1", func := "coffer/cofferlaw12.KeepMany", spec := "keepMany", inPlace := ["internal/bytealg.Compare", "slices.overlaps[coffer/api.ID]", "slices.overlaps[coffer/api.Val]", "slices.overlaps[uint32]"], unfollowed := true, recurses := true, apart := false }
def KeepManySaid : Prop := keepManyRow.holds Tryz.pinned (OpenSpec.ofChange keepManySpec)

/-- ITS FALSE NEIGHBOUR: 'it returns false'. Refute it at one input. -/
def keepManyWrong : ChangeSpec := { name := "keepMany", fn := fun _ => fun
  | [d1, d2] => { results := [.lit (.bool false)], args := [d1, d2] }
  | _ => none }
def KeepManyWrongFalsely : Prop := keepManyRow.holds Tryz.pinned (OpenSpec.ofChange keepManyWrong)

/-- 'cofferlaw12.KeepScans': WHATEVER THE INPUT: true; the input reads as it did. -/
def keepScansSpec : ChangeSpec := { name := "keepScans", fn := fun _ => fun
  | [d1, d2] => { results := [.lit (.bool true)], args := [d1, d2] }
  | _ => none }
def keepScansRow : OpenClaim := { program := "ytgfbepakonjbnaagreat", sum := "8bbd9d5d45c1c2dde3694d919c5ea160f2b76513726ceacbc9822e41d546e4b1", func := "coffer/cofferlaw12.KeepScans", spec := "keepScans", inPlace := ["internal/bytealg.Compare", "slices.overlaps[coffer/api.ID]", "slices.overlaps[coffer/api.Val]", "slices.overlaps[uint32]"], unfollowed := true, recurses := true, apart := false }
def KeepScansSaid : Prop := keepScansRow.holds Tryz.pinned (OpenSpec.ofChange keepScansSpec)

/-- ITS FALSE NEIGHBOUR: 'it returns false'. Refute it at one input. -/
def keepScansWrong : ChangeSpec := { name := "keepScans", fn := fun _ => fun
  | [d1, d2] => { results := [.lit (.bool false)], args := [d1, d2] }
  | _ => none }
def KeepScansWrongFalsely : Prop := keepScansRow.holds Tryz.pinned (OpenSpec.ofChange keepScansWrong)

/-- 'cofferlaw12.KeepOrders': WHATEVER THE INPUT: true; the input reads as it did. -/
def keepOrdersSpec : ChangeSpec := { name := "keepOrders", fn := fun _ => fun
  | [d1, d2] => { results := [.lit (.bool true)], args := [d1, d2] }
  | _ => none }
def keepOrdersRow : OpenClaim := { program := "ytgfbepakonjbnaagreat", sum := "8bbd9d5d45c1c2dde3694d919c5ea160f2b76513726ceacbc9822e41d546e4b1", func := "coffer/cofferlaw12.KeepOrders", spec := "keepOrders", inPlace := ["internal/bytealg.Compare", "slices.overlaps[coffer/api.ID]", "slices.overlaps[coffer/api.Val]", "slices.overlaps[uint32]"], unfollowed := true, recurses := true, apart := false }
def KeepOrdersSaid : Prop := keepOrdersRow.holds Tryz.pinned (OpenSpec.ofChange keepOrdersSpec)

/-- ITS FALSE NEIGHBOUR: 'it returns false'. Refute it at one input. -/
def keepOrdersWrong : ChangeSpec := { name := "keepOrders", fn := fun _ => fun
  | [d1, d2] => { results := [.lit (.bool false)], args := [d1, d2] }
  | _ => none }
def KeepOrdersWrongFalsely : Prop := keepOrdersRow.holds Tryz.pinned (OpenSpec.ofChange keepOrdersWrong)

/-- 'cofferlaw12.KeepOwn': WHATEVER THE INPUT: true; the input reads as it did. -/
def keepOwnSpec : ChangeSpec := { name := "keepOwn", fn := fun _ => fun
  | [d1, d2] => { results := [.lit (.bool true)], args := [d1, d2] }
  | _ => none }
def keepOwnRow : OpenClaim := { program := "ytgfbepakonjbnaagreat", sum := "8bbd9d5d45c1c2dde3694d919c5ea160f2b76513726ceacbc9822e41d546e4b1", func := "coffer/cofferlaw12.KeepOwn", spec := "keepOwn", inPlace := ["internal/bytealg.Compare", "slices.overlaps[coffer/api.ID]", "slices.overlaps[coffer/api.Val]", "slices.overlaps[uint32]"], unfollowed := true, recurses := true, apart := false }
def KeepOwnSaid : Prop := keepOwnRow.holds Tryz.pinned (OpenSpec.ofChange keepOwnSpec)

/-- ITS FALSE NEIGHBOUR: 'it returns false'. Refute it at one input. -/
def keepOwnWrong : ChangeSpec := { name := "keepOwn", fn := fun _ => fun
  | [d1, d2] => { results := [.lit (.bool false)], args := [d1, d2] }
  | _ => none }
def KeepOwnWrongFalsely : Prop := keepOwnRow.holds Tryz.pinned (OpenSpec.ofChange keepOwnWrong)

/-- 'cofferlaw12.KeepAll': WHATEVER THE INPUT: true; the input reads as it did. -/
def keepAllSpec : ChangeSpec := { name := "keepAll", fn := fun _ => fun
  | [d] => { results := [.lit (.bool true)], args := [d] }
  | _ => none }
def keepAllRow : OpenClaim := { program := "ytgfbepakonjbnaagreat", sum := "8bbd9d5d45c1c2dde3694d919c5ea160f2b76513726ceacbc9822e41d546e4b1", func := "coffer/cofferlaw12.KeepAll", spec := "keepAll", inPlace := ["internal/bytealg.Compare", "slices.overlaps[coffer/api.ID]", "slices.overlaps[coffer/api.Val]", "slices.overlaps[uint32]"], unfollowed := true, recurses := true, apart := false }
def KeepAllSaid : Prop := keepAllRow.holds Tryz.pinned (OpenSpec.ofChange keepAllSpec)

/-- ITS FALSE NEIGHBOUR: 'it returns false'. Refute it at one input. -/
def keepAllWrong : ChangeSpec := { name := "keepAll", fn := fun _ => fun
  | [d] => { results := [.lit (.bool false)], args := [d] }
  | _ => none }
def KeepAllWrongFalsely : Prop := keepAllRow.holds Tryz.pinned (OpenSpec.ofChange keepAllWrong)

/-- 'cofferlaw12.KeepFull': WHATEVER THE INPUT: true; the input reads as it did. -/
def keepFullSpec : ChangeSpec := { name := "keepFull", fn := fun _ => fun
  | [d1, d2] => { results := [.lit (.bool true)], args := [d1, d2] }
  | _ => none }
def keepFullRow : OpenClaim := { program := "ytgfbepakonjbnaagreat", sum := "8bbd9d5d45c1c2dde3694d919c5ea160f2b76513726ceacbc9822e41d546e4b1", func := "coffer/cofferlaw12.KeepFull", spec := "keepFull", inPlace := ["internal/bytealg.Compare", "slices.overlaps[coffer/api.ID]", "slices.overlaps[coffer/api.Val]", "slices.overlaps[uint32]"], unfollowed := true, recurses := true, apart := false }
def KeepFullSaid : Prop := keepFullRow.holds Tryz.pinned (OpenSpec.ofChange keepFullSpec)

/-- ITS FALSE NEIGHBOUR: 'it returns false'. Refute it at one input. -/
def keepFullWrong : ChangeSpec := { name := "keepFull", fn := fun _ => fun
  | [d1, d2] => { results := [.lit (.bool false)], args := [d1, d2] }
  | _ => none }
def KeepFullWrongFalsely : Prop := keepFullRow.holds Tryz.pinned (OpenSpec.ofChange keepFullWrong)

/-- 'cofferlaw12.KeepMoves': WHATEVER THE INPUT: true; the input reads as it did. -/
def keepMovesSpec : ChangeSpec := { name := "keepMoves", fn := fun _ => fun
  | [d1, d2] => { results := [.lit (.bool true)], args := [d1, d2] }
  | _ => none }
def keepMovesRow : OpenClaim := { program := "ytgfbepakonjbnaagreat", sum := "8bbd9d5d45c1c2dde3694d919c5ea160f2b76513726ceacbc9822e41d546e4b1", func := "coffer/cofferlaw12.KeepMoves", spec := "keepMoves", inPlace := ["internal/bytealg.Compare", "slices.overlaps[coffer/api.ID]", "slices.overlaps[coffer/api.Val]", "slices.overlaps[uint32]"], unfollowed := true, recurses := true, apart := false }
def KeepMovesSaid : Prop := keepMovesRow.holds Tryz.pinned (OpenSpec.ofChange keepMovesSpec)

/-- ITS FALSE NEIGHBOUR: 'it returns false'. Refute it at one input. -/
def keepMovesWrong : ChangeSpec := { name := "keepMoves", fn := fun _ => fun
  | [d1, d2] => { results := [.lit (.bool false)], args := [d1, d2] }
  | _ => none }
def KeepMovesWrongFalsely : Prop := keepMovesRow.holds Tryz.pinned (OpenSpec.ofChange keepMovesWrong)

/-- 'cofferlaw12.KeepCrash': WHATEVER THE INPUT: true; the input reads as it did. -/
def keepCrashSpec : ChangeSpec := { name := "keepCrash", fn := fun _ => fun
  | [d1, d2, d3, d4] => { results := [.lit (.bool true)], args := [d1, d2, d3, d4] }
  | _ => none }
def keepCrashRow : OpenClaim := { program := "ytgfbepakonjbnaagreat", sum := "8bbd9d5d45c1c2dde3694d919c5ea160f2b76513726ceacbc9822e41d546e4b1", func := "coffer/cofferlaw12.KeepCrash", spec := "keepCrash", inPlace := ["internal/bytealg.Compare", "slices.overlaps[coffer/api.ID]", "slices.overlaps[coffer/api.Val]", "slices.overlaps[uint32]"], unfollowed := true, recurses := true, apart := false }
def KeepCrashSaid : Prop := keepCrashRow.holds Tryz.pinned (OpenSpec.ofChange keepCrashSpec)

/-- ITS FALSE NEIGHBOUR: 'it returns false'. Refute it at one input. -/
def keepCrashWrong : ChangeSpec := { name := "keepCrash", fn := fun _ => fun
  | [d1, d2, d3, d4] => { results := [.lit (.bool false)], args := [d1, d2, d3, d4] }
  | _ => none }
def KeepCrashWrongFalsely : Prop := keepCrashRow.holds Tryz.pinned (OpenSpec.ofChange keepCrashWrong)

/-- 'cofferlaw11.PackAll': WHATEVER THE INPUT: true; the input reads as it did. -/
def packAllSpec : ChangeSpec := { name := "packAll", fn := fun _ => fun
  | [d1, d2] => { results := [.lit (.bool true)], args := [d1, d2] }
  | _ => none }
def packAllRow : OpenClaim := { program := "ytgfbepakonjbnaagreat", sum := "8bbd9d5d45c1c2dde3694d919c5ea160f2b76513726ceacbc9822e41d546e4b1", func := "coffer/cofferlaw11.PackAll", spec := "packAll", unfollowed := true, recurses := true, apart := false }
def PackAllSaid : Prop := packAllRow.holds Tryz.pinned (OpenSpec.ofChange packAllSpec)

/-- ITS FALSE NEIGHBOUR: 'it returns false'. Refute it at one input. -/
def packAllWrong : ChangeSpec := { name := "packAll", fn := fun _ => fun
  | [d1, d2] => { results := [.lit (.bool false)], args := [d1, d2] }
  | _ => none }
def PackAllWrongFalsely : Prop := packAllRow.holds Tryz.pinned (OpenSpec.ofChange packAllWrong)

/-- 'cofferlaw9.TreeShape': WHATEVER THE INPUT: true; the input reads as it did. -/
def treeShapeSpec : ChangeSpec := { name := "treeShape", fn := fun _ => fun
  | [d1, d2] => { results := [.lit (.bool true)], args := [d1, d2] }
  | _ => none }
def treeShapeRow : OpenClaim := { program := "ytgfbepakonjbnaagreat", sum := "8bbd9d5d45c1c2dde3694d919c5ea160f2b76513726ceacbc9822e41d546e4b1", func := "coffer/cofferlaw9.TreeShape", spec := "treeShape", inPlace := ["internal/bytealg.Compare", "slices.overlaps[coffer/api.ID]", "slices.overlaps[coffer/api.Val]", "slices.overlaps[uint32]"], unfollowed := true, recurses := true, apart := false }
def TreeShapeSaid : Prop := treeShapeRow.holds Tryz.pinned (OpenSpec.ofChange treeShapeSpec)

/-- ITS FALSE NEIGHBOUR: 'it returns false'. Refute it at one input. -/
def treeShapeWrong : ChangeSpec := { name := "treeShape", fn := fun _ => fun
  | [d1, d2] => { results := [.lit (.bool false)], args := [d1, d2] }
  | _ => none }
def TreeShapeWrongFalsely : Prop := treeShapeRow.holds Tryz.pinned (OpenSpec.ofChange treeShapeWrong)

/-- 'cofferlaw9.TreeAll': WHATEVER THE INPUT: true; the input reads as it did. -/
def treeAllSpec : ChangeSpec := { name := "treeAll", fn := fun _ => fun
  | [d] => { results := [.lit (.bool true)], args := [d] }
  | _ => none }
def treeAllRow : OpenClaim := { program := "ytgfbepakonjbnaagreat", sum := "8bbd9d5d45c1c2dde3694d919c5ea160f2b76513726ceacbc9822e41d546e4b1", func := "coffer/cofferlaw9.TreeAll", spec := "treeAll", inPlace := ["internal/bytealg.Compare", "slices.overlaps[coffer/api.ID]", "slices.overlaps[coffer/api.Val]", "slices.overlaps[uint32]"], unfollowed := true, recurses := true, apart := false }
def TreeAllSaid : Prop := treeAllRow.holds Tryz.pinned (OpenSpec.ofChange treeAllSpec)

/-- ITS FALSE NEIGHBOUR: 'it returns false'. Refute it at one input. -/
def treeAllWrong : ChangeSpec := { name := "treeAll", fn := fun _ => fun
  | [d] => { results := [.lit (.bool false)], args := [d] }
  | _ => none }
def TreeAllWrongFalsely : Prop := treeAllRow.holds Tryz.pinned (OpenSpec.ofChange treeAllWrong)

/-- 'cofferlaw7.TxnAll': WHATEVER THE INPUT: true; the input reads as it did. -/
def txnAllSpec : ChangeSpec := { name := "txnAll", fn := fun _ => fun
  | [d] => { results := [.lit (.bool true)], args := [d] }
  | _ => none }
def txnAllRow : OpenClaim := { program := "ytgfbepakonjbnaagreat", sum := "8bbd9d5d45c1c2dde3694d919c5ea160f2b76513726ceacbc9822e41d546e4b1", func := "coffer/cofferlaw7.TxnAll", spec := "txnAll", unfollowed := true, recurses := true, apart := false }
def TxnAllSaid : Prop := txnAllRow.holds Tryz.pinned (OpenSpec.ofChange txnAllSpec)

/-- ITS FALSE NEIGHBOUR: 'it returns false'. Refute it at one input. -/
def txnAllWrong : ChangeSpec := { name := "txnAll", fn := fun _ => fun
  | [d] => { results := [.lit (.bool false)], args := [d] }
  | _ => none }
def TxnAllWrongFalsely : Prop := txnAllRow.holds Tryz.pinned (OpenSpec.ofChange txnAllWrong)

/- THE SECOND FORM. 'bulk': how many values and letters a reading holds, each counted each time it is reached (what is shared counts as often as it is met; a slice's spare places count too). A statement '..UptoSaid' is the law's where the arguments, and the package variables that the reading takes, are together of bulk at most 1048576: NARROWER than '..Said'. Prove '..Said' where nothing that the law and all that it calls make is longer than what came in: it says more and counts as full. Else prove '..UptoSaid'. A law counts once. -/
mutual
def uptoBulk {H : Type} : DataW H → Nat
  | .lit (.string bytes) => bytes.length + 1
  | .lit _ => 1
  | .nil => 1
  | .ptr d => uptoBulk d + 1
  | .slice elems spare => uptoBulkAll elems + uptoBulkAll spare + 1
  | .agg parts => uptoBulkAll parts + 1
  | .iface _ d => uptoBulk d + 1
  | .map entries => uptoBulkEntries entries + 1
  | .held _ => 1
def uptoBulkAll {H : Type} : List (DataW H) → Nat
  | [] => 0
  | d :: r => uptoBulk d + uptoBulkAll r
def uptoBulkEntries {H : Type} : List (Lit × DataW H) → Nat
  | [] => 0
  | x :: r => uptoBulkEntry x + uptoBulkEntries r
def uptoBulkEntry {H : Type} : Lit × DataW H → Nat
  | (.string bytes, d) => bytes.length + uptoBulk d + 1
  | (_, d) => uptoBulk d + 1
 end
def uptoSmall : (H : Type) → List (DataW H) → Bool := fun _ ds => decide (uptoBulkAll ds ≤ 1048576)
def OpenSpec.upto (s : _root_.Go.ChangeSpec) : _root_.Go.OpenSpec := { _root_.Go.OpenSpec.ofChange s with cond := some uptoSmall }

/-- 'cofferlaw12.KeepMany', WHERE WHAT IT READS IS OF BULK AT MOST 1048576: true; the input reads as it did. -/
def keepManyUptoRow : OpenClaim := { program := "ytgfbepakonjbnaagreat", sum := "8bbd9d5d45c1c2dde3694d919c5ea160f2b76513726ceacbc9822e41d546e4b1", func := "coffer/cofferlaw12.KeepMany", spec := "keepMany", inPlace := ["internal/bytealg.Compare", "slices.overlaps[coffer/api.ID]", "slices.overlaps[coffer/api.Val]", "slices.overlaps[uint32]"], unfollowed := true, recurses := true, apart := false, narrowed := true }
def KeepManyUptoSaid : Prop := keepManyUptoRow.holds Tryz.pinned (OpenSpec.upto keepManySpec)

/-- 'cofferlaw12.KeepScans', WHERE WHAT IT READS IS OF BULK AT MOST 1048576: true; the input reads as it did. -/
def keepScansUptoRow : OpenClaim := { program := "ytgfbepakonjbnaagreat", sum := "8bbd9d5d45c1c2dde3694d919c5ea160f2b76513726ceacbc9822e41d546e4b1", func := "coffer/cofferlaw12.KeepScans", spec := "keepScans", inPlace := ["internal/bytealg.Compare", "slices.overlaps[coffer/api.ID]", "slices.overlaps[coffer/api.Val]", "slices.overlaps[uint32]"], unfollowed := true, recurses := true, apart := false, narrowed := true }
def KeepScansUptoSaid : Prop := keepScansUptoRow.holds Tryz.pinned (OpenSpec.upto keepScansSpec)

/-- 'cofferlaw12.KeepOrders', WHERE WHAT IT READS IS OF BULK AT MOST 1048576: true; the input reads as it did. -/
def keepOrdersUptoRow : OpenClaim := { program := "ytgfbepakonjbnaagreat", sum := "8bbd9d5d45c1c2dde3694d919c5ea160f2b76513726ceacbc9822e41d546e4b1", func := "coffer/cofferlaw12.KeepOrders", spec := "keepOrders", inPlace := ["internal/bytealg.Compare", "slices.overlaps[coffer/api.ID]", "slices.overlaps[coffer/api.Val]", "slices.overlaps[uint32]"], unfollowed := true, recurses := true, apart := false, narrowed := true }
def KeepOrdersUptoSaid : Prop := keepOrdersUptoRow.holds Tryz.pinned (OpenSpec.upto keepOrdersSpec)

/-- 'cofferlaw12.KeepOwn', WHERE WHAT IT READS IS OF BULK AT MOST 1048576: true; the input reads as it did. -/
def keepOwnUptoRow : OpenClaim := { program := "ytgfbepakonjbnaagreat", sum := "8bbd9d5d45c1c2dde3694d919c5ea160f2b76513726ceacbc9822e41d546e4b1", func := "coffer/cofferlaw12.KeepOwn", spec := "keepOwn", inPlace := ["internal/bytealg.Compare", "slices.overlaps[coffer/api.ID]", "slices.overlaps[coffer/api.Val]", "slices.overlaps[uint32]"], unfollowed := true, recurses := true, apart := false, narrowed := true }
def KeepOwnUptoSaid : Prop := keepOwnUptoRow.holds Tryz.pinned (OpenSpec.upto keepOwnSpec)

/-- 'cofferlaw12.KeepAll', WHERE WHAT IT READS IS OF BULK AT MOST 1048576: true; the input reads as it did. -/
def keepAllUptoRow : OpenClaim := { program := "ytgfbepakonjbnaagreat", sum := "8bbd9d5d45c1c2dde3694d919c5ea160f2b76513726ceacbc9822e41d546e4b1", func := "coffer/cofferlaw12.KeepAll", spec := "keepAll", inPlace := ["internal/bytealg.Compare", "slices.overlaps[coffer/api.ID]", "slices.overlaps[coffer/api.Val]", "slices.overlaps[uint32]"], unfollowed := true, recurses := true, apart := false, narrowed := true }
def KeepAllUptoSaid : Prop := keepAllUptoRow.holds Tryz.pinned (OpenSpec.upto keepAllSpec)

/-- 'cofferlaw12.KeepFull', WHERE WHAT IT READS IS OF BULK AT MOST 1048576: true; the input reads as it did. -/
def keepFullUptoRow : OpenClaim := { program := "ytgfbepakonjbnaagreat", sum := "8bbd9d5d45c1c2dde3694d919c5ea160f2b76513726ceacbc9822e41d546e4b1", func := "coffer/cofferlaw12.KeepFull", spec := "keepFull", inPlace := ["internal/bytealg.Compare", "slices.overlaps[coffer/api.ID]", "slices.overlaps[coffer/api.Val]", "slices.overlaps[uint32]"], unfollowed := true, recurses := true, apart := false, narrowed := true }
def KeepFullUptoSaid : Prop := keepFullUptoRow.holds Tryz.pinned (OpenSpec.upto keepFullSpec)

/-- 'cofferlaw12.KeepMoves', WHERE WHAT IT READS IS OF BULK AT MOST 1048576: true; the input reads as it did. -/
def keepMovesUptoRow : OpenClaim := { program := "ytgfbepakonjbnaagreat", sum := "8bbd9d5d45c1c2dde3694d919c5ea160f2b76513726ceacbc9822e41d546e4b1", func := "coffer/cofferlaw12.KeepMoves", spec := "keepMoves", inPlace := ["internal/bytealg.Compare", "slices.overlaps[coffer/api.ID]", "slices.overlaps[coffer/api.Val]", "slices.overlaps[uint32]"], unfollowed := true, recurses := true, apart := false, narrowed := true }
def KeepMovesUptoSaid : Prop := keepMovesUptoRow.holds Tryz.pinned (OpenSpec.upto keepMovesSpec)

/-- 'cofferlaw12.KeepCrash', WHERE WHAT IT READS IS OF BULK AT MOST 1048576: true; the input reads as it did. -/
def keepCrashUptoRow : OpenClaim := { program := "ytgfbepakonjbnaagreat", sum := "8bbd9d5d45c1c2dde3694d919c5ea160f2b76513726ceacbc9822e41d546e4b1", func := "coffer/cofferlaw12.KeepCrash", spec := "keepCrash", inPlace := ["internal/bytealg.Compare", "slices.overlaps[coffer/api.ID]", "slices.overlaps[coffer/api.Val]", "slices.overlaps[uint32]"], unfollowed := true, recurses := true, apart := false, narrowed := true }
def KeepCrashUptoSaid : Prop := keepCrashUptoRow.holds Tryz.pinned (OpenSpec.upto keepCrashSpec)

/-- 'cofferlaw11.PackAll', WHERE WHAT IT READS IS OF BULK AT MOST 1048576: true; the input reads as it did. -/
def packAllUptoRow : OpenClaim := { program := "ytgfbepakonjbnaagreat", sum := "8bbd9d5d45c1c2dde3694d919c5ea160f2b76513726ceacbc9822e41d546e4b1", func := "coffer/cofferlaw11.PackAll", spec := "packAll", unfollowed := true, recurses := true, apart := false, narrowed := true }
def PackAllUptoSaid : Prop := packAllUptoRow.holds Tryz.pinned (OpenSpec.upto packAllSpec)

/-- 'cofferlaw9.TreeShape', WHERE WHAT IT READS IS OF BULK AT MOST 1048576: true; the input reads as it did. -/
def treeShapeUptoRow : OpenClaim := { program := "ytgfbepakonjbnaagreat", sum := "8bbd9d5d45c1c2dde3694d919c5ea160f2b76513726ceacbc9822e41d546e4b1", func := "coffer/cofferlaw9.TreeShape", spec := "treeShape", inPlace := ["internal/bytealg.Compare", "slices.overlaps[coffer/api.ID]", "slices.overlaps[coffer/api.Val]", "slices.overlaps[uint32]"], unfollowed := true, recurses := true, apart := false, narrowed := true }
def TreeShapeUptoSaid : Prop := treeShapeUptoRow.holds Tryz.pinned (OpenSpec.upto treeShapeSpec)

/-- 'cofferlaw9.TreeAll', WHERE WHAT IT READS IS OF BULK AT MOST 1048576: true; the input reads as it did. -/
def treeAllUptoRow : OpenClaim := { program := "ytgfbepakonjbnaagreat", sum := "8bbd9d5d45c1c2dde3694d919c5ea160f2b76513726ceacbc9822e41d546e4b1", func := "coffer/cofferlaw9.TreeAll", spec := "treeAll", inPlace := ["internal/bytealg.Compare", "slices.overlaps[coffer/api.ID]", "slices.overlaps[coffer/api.Val]", "slices.overlaps[uint32]"], unfollowed := true, recurses := true, apart := false, narrowed := true }
def TreeAllUptoSaid : Prop := treeAllUptoRow.holds Tryz.pinned (OpenSpec.upto treeAllSpec)

/-- 'cofferlaw7.TxnAll', WHERE WHAT IT READS IS OF BULK AT MOST 1048576: true; the input reads as it did. -/
def txnAllUptoRow : OpenClaim := { program := "ytgfbepakonjbnaagreat", sum := "8bbd9d5d45c1c2dde3694d919c5ea160f2b76513726ceacbc9822e41d546e4b1", func := "coffer/cofferlaw7.TxnAll", spec := "txnAll", unfollowed := true, recurses := true, apart := false, narrowed := true }
def TxnAllUptoSaid : Prop := txnAllUptoRow.holds Tryz.pinned (OpenSpec.upto txnAllSpec)

end Rows
end Go.Proofs.YtgfbepakonjbnaaGreat
