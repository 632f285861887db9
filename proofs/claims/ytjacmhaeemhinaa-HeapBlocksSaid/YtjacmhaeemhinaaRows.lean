/-
  No cell of these rows narrows 'for every input' (looked for: loops, veiled, ifaces, maps, wideKeys, modest, calm, conditions, laid).
  DERIVED. THE GIVEN ROWS OF THIS SEAT. 6 by the template 'for every input the law returns true; each argument reads behind the call as it read before'; 0 by the template 'total and deterministic' (their statements: YtjacmhaeemhinaaTotals.lean).
  GIVEN WITH THE SEED: the statements are not yours to turn. If you find one false, say at which input.
  Laid BY PROGRAM, IN A SANDBOX (cutbox-rows.mjs): the forced cells as the released guide's own fill.sh prints them over the translation 71f9f9eb30a80f6f… (all of the seat's roots in one cut). By AI agents, Wed Nov 11 2026. No macro, syntax, notation, axiom, sorry.
-/
import Derived.Test.YtjacmhaeemhinaaChecked
import GoSem.Claim
import GoSem.ClaimJoined
import GoSem.ClaimMapViews
import Derived.JoinedTies
import Derived.KernelRfl
namespace Go.Proofs.Ytjacmhaeemhinaa
/- THE CELL 'sum', in the pinned program and in every row, IS THE sha256 OF THE DUMP (.gsa) THAT YtjacmhaeemhinaaProg.lean LOADS. Nothing in Lean hashes anything: it is a label: what it is worth is what the hold of that sum in a sandbox is worth. -/
noncomputable def Try.pinned : Pinned := { name := "ytjacmhaeemhinaa", sum := "71f9f9eb30a80f6f09518c8face7db61303bcc0bb5ec352af31dfcab3a46bb5c", checked := Try.checked }
namespace Rows
def none {H : Type} : Left H := { results := [], args := [] }

/-- 'caravellaw10.HeapRight': WHATEVER THE INPUT: true; the input reads as it did. -/
def heapRightSpec : ChangeSpec := { name := "heapRight", fn := fun _ => fun
  | [d] => { results := [.lit (.bool true)], args := [d] }
  | _ => none }
def heapRightRow : OpenClaim := { program := "ytjacmhaeemhinaa", sum := "71f9f9eb30a80f6f09518c8face7db61303bcc0bb5ec352af31dfcab3a46bb5c", func := "caravel/caravellaw10.HeapRight", spec := "heapRight", inPlace := ["slices.overlaps[caravel/api.Block]"], unfollowed := true, recurses := true, apart := false }
def HeapRightSaid : Prop := heapRightRow.holds Try.pinned (OpenSpec.ofChange heapRightSpec)

/-- ITS FALSE NEIGHBOUR: 'it returns false'. Refute it at one input. -/
def heapRightWrong : ChangeSpec := { name := "heapRight", fn := fun _ => fun
  | [d] => { results := [.lit (.bool false)], args := [d] }
  | _ => none }
def HeapRightWrongFalsely : Prop := heapRightRow.holds Try.pinned (OpenSpec.ofChange heapRightWrong)

/-- 'caravellaw10.HeapBlocks': WHATEVER THE INPUT: true; the input reads as it did. -/
def heapBlocksSpec : ChangeSpec := { name := "heapBlocks", fn := fun _ => fun
  | [d1, d2] => { results := [.lit (.bool true)], args := [d1, d2] }
  | _ => none }
def heapBlocksRow : OpenClaim := { program := "ytjacmhaeemhinaa", sum := "71f9f9eb30a80f6f09518c8face7db61303bcc0bb5ec352af31dfcab3a46bb5c", func := "caravel/caravellaw10.HeapBlocks", spec := "heapBlocks", inPlace := ["slices.overlaps[caravel/api.Block]"], unfollowed := true, recurses := true, apart := false }
def HeapBlocksSaid : Prop := heapBlocksRow.holds Try.pinned (OpenSpec.ofChange heapBlocksSpec)

/-- ITS FALSE NEIGHBOUR: 'it returns false'. Refute it at one input. -/
def heapBlocksWrong : ChangeSpec := { name := "heapBlocks", fn := fun _ => fun
  | [d1, d2] => { results := [.lit (.bool false)], args := [d1, d2] }
  | _ => none }
def HeapBlocksWrongFalsely : Prop := heapBlocksRow.holds Try.pinned (OpenSpec.ofChange heapBlocksWrong)

/-- 'caravellaw10.HeapBack': WHATEVER THE INPUT: true; the input reads as it did. -/
def heapBackSpec : ChangeSpec := { name := "heapBack", fn := fun _ => fun
  | [d1, d2, d3] => { results := [.lit (.bool true)], args := [d1, d2, d3] }
  | _ => none }
def heapBackRow : OpenClaim := { program := "ytjacmhaeemhinaa", sum := "71f9f9eb30a80f6f09518c8face7db61303bcc0bb5ec352af31dfcab3a46bb5c", func := "caravel/caravellaw10.HeapBack", spec := "heapBack", inPlace := ["slices.overlaps[caravel/api.Block]"], unfollowed := true, recurses := true, apart := false }
def HeapBackSaid : Prop := heapBackRow.holds Try.pinned (OpenSpec.ofChange heapBackSpec)

/-- ITS FALSE NEIGHBOUR: 'it returns false'. Refute it at one input. -/
def heapBackWrong : ChangeSpec := { name := "heapBack", fn := fun _ => fun
  | [d1, d2, d3] => { results := [.lit (.bool false)], args := [d1, d2, d3] }
  | _ => none }
def HeapBackWrongFalsely : Prop := heapBackRow.holds Try.pinned (OpenSpec.ofChange heapBackWrong)

/-- 'caravellaw10.HeapTells': WHATEVER THE INPUT: true; the input reads as it did. -/
def heapTellsSpec : ChangeSpec := { name := "heapTells", fn := fun _ => fun
  | [d1, d2] => { results := [.lit (.bool true)], args := [d1, d2] }
  | _ => none }
def heapTellsRow : OpenClaim := { program := "ytjacmhaeemhinaa", sum := "71f9f9eb30a80f6f09518c8face7db61303bcc0bb5ec352af31dfcab3a46bb5c", func := "caravel/caravellaw10.HeapTells", spec := "heapTells", inPlace := ["slices.overlaps[caravel/api.Block]"], unfollowed := true, recurses := true, apart := false }
def HeapTellsSaid : Prop := heapTellsRow.holds Try.pinned (OpenSpec.ofChange heapTellsSpec)

/-- ITS FALSE NEIGHBOUR: 'it returns false'. Refute it at one input. -/
def heapTellsWrong : ChangeSpec := { name := "heapTells", fn := fun _ => fun
  | [d1, d2] => { results := [.lit (.bool false)], args := [d1, d2] }
  | _ => none }
def HeapTellsWrongFalsely : Prop := heapTellsRow.holds Try.pinned (OpenSpec.ofChange heapTellsWrong)

/-- 'caravellaw10.HeapLooks': WHATEVER THE INPUT: true; the input reads as it did. -/
def heapLooksSpec : ChangeSpec := { name := "heapLooks", fn := fun _ => fun
  | [d1, d2, d3] => { results := [.lit (.bool true)], args := [d1, d2, d3] }
  | _ => none }
def heapLooksRow : OpenClaim := { program := "ytjacmhaeemhinaa", sum := "71f9f9eb30a80f6f09518c8face7db61303bcc0bb5ec352af31dfcab3a46bb5c", func := "caravel/caravellaw10.HeapLooks", spec := "heapLooks", inPlace := ["slices.overlaps[caravel/api.Block]"], unfollowed := true, recurses := true, apart := false }
def HeapLooksSaid : Prop := heapLooksRow.holds Try.pinned (OpenSpec.ofChange heapLooksSpec)

/-- ITS FALSE NEIGHBOUR: 'it returns false'. Refute it at one input. -/
def heapLooksWrong : ChangeSpec := { name := "heapLooks", fn := fun _ => fun
  | [d1, d2, d3] => { results := [.lit (.bool false)], args := [d1, d2, d3] }
  | _ => none }
def HeapLooksWrongFalsely : Prop := heapLooksRow.holds Try.pinned (OpenSpec.ofChange heapLooksWrong)

/-- 'caravellaw10.HeapPlays': WHATEVER THE INPUT: true; the input reads as it did. -/
def heapPlaysSpec : ChangeSpec := { name := "heapPlays", fn := fun _ => fun
  | [d1, d2] => { results := [.lit (.bool true)], args := [d1, d2] }
  | _ => none }
def heapPlaysRow : OpenClaim := { program := "ytjacmhaeemhinaa", sum := "71f9f9eb30a80f6f09518c8face7db61303bcc0bb5ec352af31dfcab3a46bb5c", func := "caravel/caravellaw10.HeapPlays", spec := "heapPlays", inPlace := ["slices.overlaps[caravel/api.Block]"], unfollowed := true, recurses := true, apart := false }
def HeapPlaysSaid : Prop := heapPlaysRow.holds Try.pinned (OpenSpec.ofChange heapPlaysSpec)

/-- ITS FALSE NEIGHBOUR: 'it returns false'. Refute it at one input. -/
def heapPlaysWrong : ChangeSpec := { name := "heapPlays", fn := fun _ => fun
  | [d1, d2] => { results := [.lit (.bool false)], args := [d1, d2] }
  | _ => none }
def HeapPlaysWrongFalsely : Prop := heapPlaysRow.holds Try.pinned (OpenSpec.ofChange heapPlaysWrong)

/- THE SECOND FORM. 'bulk': how many values and letters a reading holds, each counted each time it is reached (what is shared counts as often as it is met; a slice's spare places count too). A statement '..UptoSaid' is the law's where the arguments, and the package variables that the reading takes, are together of bulk at most 1048576: NARROWER than '..Said'. Prove '..Said' where nothing that the law and all that it calls make is longer than what came in: it says more and counts as full. Else prove '..UptoSaid'. A law counts once. -/
mutual
def uptoBulk {H : Type} : DataW H → Nat
  | .lit (.string bytes) => bytes.length + 1
  | .lit _ => 1
  | .nil => 1
  | .ptr d => uptoBulk d + 1
  | .slice elems spare => uptoBulkAll elems + uptoBulkAll spare + 1
  | .agg parts => uptoBulkAll parts + 1
  | .iface _ d => uptoBulk d + 1
  | .map entries => uptoBulkEntries entries + 1
  | .held _ => 1
def uptoBulkAll {H : Type} : List (DataW H) → Nat
  | [] => 0
  | d :: r => uptoBulk d + uptoBulkAll r
def uptoBulkEntries {H : Type} : List (Lit × DataW H) → Nat
  | [] => 0
  | x :: r => uptoBulkEntry x + uptoBulkEntries r
def uptoBulkEntry {H : Type} : Lit × DataW H → Nat
  | (.string bytes, d) => bytes.length + uptoBulk d + 1
  | (_, d) => uptoBulk d + 1
 end
def uptoSmall : (H : Type) → List (DataW H) → Bool := fun _ ds => decide (uptoBulkAll ds ≤ 1048576)
def OpenSpec.upto (s : _root_.Go.ChangeSpec) : _root_.Go.OpenSpec := { _root_.Go.OpenSpec.ofChange s with cond := some uptoSmall }

/-- 'caravellaw10.HeapRight', WHERE WHAT IT READS IS OF BULK AT MOST 1048576: true; the input reads as it did. -/
def heapRightUptoRow : OpenClaim := { program := "ytjacmhaeemhinaa", sum := "71f9f9eb30a80f6f09518c8face7db61303bcc0bb5ec352af31dfcab3a46bb5c", func := "caravel/caravellaw10.HeapRight", spec := "heapRight", inPlace := ["slices.overlaps[caravel/api.Block]"], unfollowed := true, recurses := true, apart := false, narrowed := true }
def HeapRightUptoSaid : Prop := heapRightUptoRow.holds Try.pinned (OpenSpec.upto heapRightSpec)

/-- 'caravellaw10.HeapBlocks', WHERE WHAT IT READS IS OF BULK AT MOST 1048576: true; the input reads as it did. -/
def heapBlocksUptoRow : OpenClaim := { program := "ytjacmhaeemhinaa", sum := "71f9f9eb30a80f6f09518c8face7db61303bcc0bb5ec352af31dfcab3a46bb5c", func := "caravel/caravellaw10.HeapBlocks", spec := "heapBlocks", inPlace := ["slices.overlaps[caravel/api.Block]"], unfollowed := true, recurses := true, apart := false, narrowed := true }
def HeapBlocksUptoSaid : Prop := heapBlocksUptoRow.holds Try.pinned (OpenSpec.upto heapBlocksSpec)

/-- 'caravellaw10.HeapBack', WHERE WHAT IT READS IS OF BULK AT MOST 1048576: true; the input reads as it did. -/
def heapBackUptoRow : OpenClaim := { program := "ytjacmhaeemhinaa", sum := "71f9f9eb30a80f6f09518c8face7db61303bcc0bb5ec352af31dfcab3a46bb5c", func := "caravel/caravellaw10.HeapBack", spec := "heapBack", inPlace := ["slices.overlaps[caravel/api.Block]"], unfollowed := true, recurses := true, apart := false, narrowed := true }
def HeapBackUptoSaid : Prop := heapBackUptoRow.holds Try.pinned (OpenSpec.upto heapBackSpec)

/-- 'caravellaw10.HeapTells', WHERE WHAT IT READS IS OF BULK AT MOST 1048576: true; the input reads as it did. -/
def heapTellsUptoRow : OpenClaim := { program := "ytjacmhaeemhinaa", sum := "71f9f9eb30a80f6f09518c8face7db61303bcc0bb5ec352af31dfcab3a46bb5c", func := "caravel/caravellaw10.HeapTells", spec := "heapTells", inPlace := ["slices.overlaps[caravel/api.Block]"], unfollowed := true, recurses := true, apart := false, narrowed := true }
def HeapTellsUptoSaid : Prop := heapTellsUptoRow.holds Try.pinned (OpenSpec.upto heapTellsSpec)

/-- 'caravellaw10.HeapLooks', WHERE WHAT IT READS IS OF BULK AT MOST 1048576: true; the input reads as it did. -/
def heapLooksUptoRow : OpenClaim := { program := "ytjacmhaeemhinaa", sum := "71f9f9eb30a80f6f09518c8face7db61303bcc0bb5ec352af31dfcab3a46bb5c", func := "caravel/caravellaw10.HeapLooks", spec := "heapLooks", inPlace := ["slices.overlaps[caravel/api.Block]"], unfollowed := true, recurses := true, apart := false, narrowed := true }
def HeapLooksUptoSaid : Prop := heapLooksUptoRow.holds Try.pinned (OpenSpec.upto heapLooksSpec)

/-- 'caravellaw10.HeapPlays', WHERE WHAT IT READS IS OF BULK AT MOST 1048576: true; the input reads as it did. -/
def heapPlaysUptoRow : OpenClaim := { program := "ytjacmhaeemhinaa", sum := "71f9f9eb30a80f6f09518c8face7db61303bcc0bb5ec352af31dfcab3a46bb5c", func := "caravel/caravellaw10.HeapPlays", spec := "heapPlays", inPlace := ["slices.overlaps[caravel/api.Block]"], unfollowed := true, recurses := true, apart := false, narrowed := true }
def HeapPlaysUptoSaid : Prop := heapPlaysUptoRow.holds Try.pinned (OpenSpec.upto heapPlaysSpec)

end Rows
end Go.Proofs.Ytjacmhaeemhinaa
