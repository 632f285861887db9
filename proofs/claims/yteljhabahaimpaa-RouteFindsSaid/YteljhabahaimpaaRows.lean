/-
  No cell of these rows narrows 'for every input' (looked for: loops, veiled, ifaces, maps, wideKeys, modest, calm, conditions, laid).
  DERIVED. THE GIVEN ROWS OF THIS SEAT. 4 by the template 'for every input the law returns true; each argument reads behind the call as it read before'; 0 by the template 'total and deterministic' (their statements: YteljhabahaimpaaTotals.lean).
  GIVEN WITH THE SEED: the statements are not yours to turn. If you find one false, say at which input.
  Laid BY PROGRAM, IN A SANDBOX (cutbox-rows.mjs): the forced cells as the released guide's own fill.sh prints them over the translation c2cae5ca128f6c50… (all of the seat's roots in one cut). By AI agents, Wed Nov 11 2026. No macro, syntax, notation, axiom, sorry.
-/
import Derived.Test.YteljhabahaimpaaChecked
import GoSem.Claim
import GoSem.ClaimJoined
import GoSem.ClaimMapViews
import Derived.JoinedTies
import Derived.KernelRfl
namespace Go.Proofs.Yteljhabahaimpaa
/- THE CELL 'sum', in the pinned program and in every row, IS THE sha256 OF THE DUMP (.gsa) THAT YteljhabahaimpaaProg.lean LOADS. Nothing in Lean hashes anything: it is a label: what it is worth is what the hold of that sum in a sandbox is worth. -/
noncomputable def Try.pinned : Pinned := { name := "yteljhabahaimpaa", sum := "c2cae5ca128f6c509c1ed7f1e647eac0ce9ec67c4f9de5f5abf005ecac3a6a5b", checked := Try.checked }
namespace Rows
def none {H : Type} : Left H := { results := [], args := [] }

/-- 'caravellaw14.RouteFinds': WHATEVER THE INPUT: true; the input reads as it did. -/
def routeFindsSpec : ChangeSpec := { name := "routeFinds", fn := fun _ => fun
  | [d1, d2] => { results := [.lit (.bool true)], args := [d1, d2] }
  | _ => none }
def routeFindsRow : OpenClaim := { program := "yteljhabahaimpaa", sum := "c2cae5ca128f6c509c1ed7f1e647eac0ce9ec67c4f9de5f5abf005ecac3a6a5b", func := "caravel/caravellaw14.RouteFinds", spec := "routeFinds", inPlace := ["slices.overlaps[caravel/api.Route]"], unfollowed := true, recurses := true, apart := false }
def RouteFindsSaid : Prop := routeFindsRow.holds Try.pinned (OpenSpec.ofChange routeFindsSpec)

/-- ITS FALSE NEIGHBOUR: 'it returns false'. Refute it at one input. -/
def routeFindsWrong : ChangeSpec := { name := "routeFinds", fn := fun _ => fun
  | [d1, d2] => { results := [.lit (.bool false)], args := [d1, d2] }
  | _ => none }
def RouteFindsWrongFalsely : Prop := routeFindsRow.holds Try.pinned (OpenSpec.ofChange routeFindsWrong)

/-- 'caravellaw14.RouteRight': WHATEVER THE INPUT: true; the input reads as it did. -/
def routeRightSpec : ChangeSpec := { name := "routeRight", fn := fun _ => fun
  | [d] => { results := [.lit (.bool true)], args := [d] }
  | _ => none }
def routeRightRow : OpenClaim := { program := "yteljhabahaimpaa", sum := "c2cae5ca128f6c509c1ed7f1e647eac0ce9ec67c4f9de5f5abf005ecac3a6a5b", func := "caravel/caravellaw14.RouteRight", spec := "routeRight", inPlace := ["slices.overlaps[caravel/api.Route]"], unfollowed := true, recurses := true, apart := false }
def RouteRightSaid : Prop := routeRightRow.holds Try.pinned (OpenSpec.ofChange routeRightSpec)

/-- ITS FALSE NEIGHBOUR: 'it returns false'. Refute it at one input. -/
def routeRightWrong : ChangeSpec := { name := "routeRight", fn := fun _ => fun
  | [d] => { results := [.lit (.bool false)], args := [d] }
  | _ => none }
def RouteRightWrongFalsely : Prop := routeRightRow.holds Try.pinned (OpenSpec.ofChange routeRightWrong)

/-- 'caravellaw14.RoutePlays': WHATEVER THE INPUT: true; the input reads as it did. -/
def routePlaysSpec : ChangeSpec := { name := "routePlays", fn := fun _ => fun
  | [d] => { results := [.lit (.bool true)], args := [d] }
  | _ => none }
def routePlaysRow : OpenClaim := { program := "yteljhabahaimpaa", sum := "c2cae5ca128f6c509c1ed7f1e647eac0ce9ec67c4f9de5f5abf005ecac3a6a5b", func := "caravel/caravellaw14.RoutePlays", spec := "routePlays", inPlace := ["slices.overlaps[caravel/api.Route]"], unfollowed := true, recurses := true, apart := false }
def RoutePlaysSaid : Prop := routePlaysRow.holds Try.pinned (OpenSpec.ofChange routePlaysSpec)

/-- ITS FALSE NEIGHBOUR: 'it returns false'. Refute it at one input. -/
def routePlaysWrong : ChangeSpec := { name := "routePlays", fn := fun _ => fun
  | [d] => { results := [.lit (.bool false)], args := [d] }
  | _ => none }
def RoutePlaysWrongFalsely : Prop := routePlaysRow.holds Try.pinned (OpenSpec.ofChange routePlaysWrong)

/-- 'caravellaw14.RouteOrder': WHATEVER THE INPUT: true; the input reads as it did. -/
def routeOrderSpec : ChangeSpec := { name := "routeOrder", fn := fun _ => fun
  | [d1, d2] => { results := [.lit (.bool true)], args := [d1, d2] }
  | _ => none }
def routeOrderRow : OpenClaim := { program := "yteljhabahaimpaa", sum := "c2cae5ca128f6c509c1ed7f1e647eac0ce9ec67c4f9de5f5abf005ecac3a6a5b", func := "caravel/caravellaw14.RouteOrder", spec := "routeOrder", inPlace := ["slices.overlaps[caravel/api.Route]"], unfollowed := true, recurses := true, apart := false }
def RouteOrderSaid : Prop := routeOrderRow.holds Try.pinned (OpenSpec.ofChange routeOrderSpec)

/-- ITS FALSE NEIGHBOUR: 'it returns false'. Refute it at one input. -/
def routeOrderWrong : ChangeSpec := { name := "routeOrder", fn := fun _ => fun
  | [d1, d2] => { results := [.lit (.bool false)], args := [d1, d2] }
  | _ => none }
def RouteOrderWrongFalsely : Prop := routeOrderRow.holds Try.pinned (OpenSpec.ofChange routeOrderWrong)

/- THE SECOND FORM. 'bulk': how many values and letters a reading holds, each counted each time it is reached (what is shared counts as often as it is met; a slice's spare places count too). A statement '..UptoSaid' is the law's where the arguments, and the package variables that the reading takes, are together of bulk at most 1048576: NARROWER than '..Said'. Prove '..Said' where nothing that the law and all that it calls make is longer than what came in: it says more and counts as full. Else prove '..UptoSaid'. A law counts once. -/
mutual
def uptoBulk {H : Type} : DataW H → Nat
  | .lit (.string bytes) => bytes.length + 1
  | .lit _ => 1
  | .nil => 1
  | .ptr d => uptoBulk d + 1
  | .slice elems spare => uptoBulkAll elems + uptoBulkAll spare + 1
  | .agg parts => uptoBulkAll parts + 1
  | .iface _ d => uptoBulk d + 1
  | .map entries => uptoBulkEntries entries + 1
  | .held _ => 1
def uptoBulkAll {H : Type} : List (DataW H) → Nat
  | [] => 0
  | d :: r => uptoBulk d + uptoBulkAll r
def uptoBulkEntries {H : Type} : List (Lit × DataW H) → Nat
  | [] => 0
  | x :: r => uptoBulkEntry x + uptoBulkEntries r
def uptoBulkEntry {H : Type} : Lit × DataW H → Nat
  | (.string bytes, d) => bytes.length + uptoBulk d + 1
  | (_, d) => uptoBulk d + 1
 end
def uptoSmall : (H : Type) → List (DataW H) → Bool := fun _ ds => decide (uptoBulkAll ds ≤ 1048576)
def OpenSpec.upto (s : _root_.Go.ChangeSpec) : _root_.Go.OpenSpec := { _root_.Go.OpenSpec.ofChange s with cond := some uptoSmall }

/-- 'caravellaw14.RouteFinds', WHERE WHAT IT READS IS OF BULK AT MOST 1048576: true; the input reads as it did. -/
def routeFindsUptoRow : OpenClaim := { program := "yteljhabahaimpaa", sum := "c2cae5ca128f6c509c1ed7f1e647eac0ce9ec67c4f9de5f5abf005ecac3a6a5b", func := "caravel/caravellaw14.RouteFinds", spec := "routeFinds", inPlace := ["slices.overlaps[caravel/api.Route]"], unfollowed := true, recurses := true, apart := false, narrowed := true }
def RouteFindsUptoSaid : Prop := routeFindsUptoRow.holds Try.pinned (OpenSpec.upto routeFindsSpec)

/-- 'caravellaw14.RouteRight', WHERE WHAT IT READS IS OF BULK AT MOST 1048576: true; the input reads as it did. -/
def routeRightUptoRow : OpenClaim := { program := "yteljhabahaimpaa", sum := "c2cae5ca128f6c509c1ed7f1e647eac0ce9ec67c4f9de5f5abf005ecac3a6a5b", func := "caravel/caravellaw14.RouteRight", spec := "routeRight", inPlace := ["slices.overlaps[caravel/api.Route]"], unfollowed := true, recurses := true, apart := false, narrowed := true }
def RouteRightUptoSaid : Prop := routeRightUptoRow.holds Try.pinned (OpenSpec.upto routeRightSpec)

/-- 'caravellaw14.RoutePlays', WHERE WHAT IT READS IS OF BULK AT MOST 1048576: true; the input reads as it did. -/
def routePlaysUptoRow : OpenClaim := { program := "yteljhabahaimpaa", sum := "c2cae5ca128f6c509c1ed7f1e647eac0ce9ec67c4f9de5f5abf005ecac3a6a5b", func := "caravel/caravellaw14.RoutePlays", spec := "routePlays", inPlace := ["slices.overlaps[caravel/api.Route]"], unfollowed := true, recurses := true, apart := false, narrowed := true }
def RoutePlaysUptoSaid : Prop := routePlaysUptoRow.holds Try.pinned (OpenSpec.upto routePlaysSpec)

/-- 'caravellaw14.RouteOrder', WHERE WHAT IT READS IS OF BULK AT MOST 1048576: true; the input reads as it did. -/
def routeOrderUptoRow : OpenClaim := { program := "yteljhabahaimpaa", sum := "c2cae5ca128f6c509c1ed7f1e647eac0ce9ec67c4f9de5f5abf005ecac3a6a5b", func := "caravel/caravellaw14.RouteOrder", spec := "routeOrder", inPlace := ["slices.overlaps[caravel/api.Route]"], unfollowed := true, recurses := true, apart := false, narrowed := true }
def RouteOrderUptoSaid : Prop := routeOrderUptoRow.holds Try.pinned (OpenSpec.upto routeOrderSpec)

end Rows
end Go.Proofs.Yteljhabahaimpaa
