/-
  No cell of these rows narrows 'for every input' (looked for: loops, veiled, ifaces, maps, wideKeys, modest, calm, conditions, laid).
  DERIVED. THE GIVEN ROWS OF THIS SEAT. 4 by the template 'for every input the law returns true; each argument reads behind the call as it read before'; 0 by the template 'total and deterministic' (their statements: YtmmfmiamkgmikaaGreatTotals.lean).
  GIVEN WITH THE SEED: the statements are not yours to turn. If you find one false, say at which input.
  Laid BY PROGRAM, IN A SANDBOX (cutbox-rows.mjs): the forced cells as the released guide's own fill.sh prints them over the translation 52bbec24b6d8dc0a… (all of the seat's roots in one cut). By AI agents, Wed Nov 11 2026. No macro, syntax, notation, axiom, sorry.
-/
import Derived.Test.YtmmfmiamkgmikaaGreatChecked
import GoSem.Claim
import GoSem.ClaimJoined
import GoSem.ClaimMapViews
import Derived.JoinedTies
import Derived.KernelRfl
namespace Go.Proofs.YtmmfmiamkgmikaaGreat
/- THE CELL 'sum', in the pinned program and in every row, IS THE sha256 OF THE DUMP (.gsa) THAT YtmmfmiamkgmikaaGreatProg.lean LOADS. Nothing in Lean hashes anything: it is a label: what it is worth is what the hold of that sum in a sandbox is worth. -/
noncomputable def Tryz.pinned : Pinned := { name := "ytmmfmiamkgmikaagreat", sum := "52bbec24b6d8dc0aa4ef59171754fa9fb9c411afd4565072f095441619e5d087", checked := Tryz.checked }
namespace Rows
def none {H : Type} : Left H := { results := [], args := [] }

/-- 'reevelaw23.WsetKnown': WHATEVER THE INPUT: true; the input reads as it did. -/
def wsetKnownSpec : ChangeSpec := { name := "wsetKnown", fn := fun _ => fun
  | [] => { results := [.lit (.bool true)], args := [] }
  | _ => none }
def wsetKnownRow : OpenClaim := { program := "ytmmfmiamkgmikaagreat", sum := "52bbec24b6d8dc0aa4ef59171754fa9fb9c411afd4565072f095441619e5d087", func := "reeve/reevelaw23.WsetKnown", spec := "wsetKnown", inPlace := ["math.archTrunc", "math.Float64bits", "math.Float64frombits", "internal/bytealg.IndexByteString", "internal/bytealg.IndexString"], unfollowed := true, recurses := true, named := ["internal/bytealg.MaxLen"], apart := false }
def WsetKnownSaid : Prop := wsetKnownRow.holds Tryz.pinned (OpenSpec.ofChange wsetKnownSpec)

/-- ITS FALSE NEIGHBOUR: 'it returns false'. Refute it at one input. -/
def wsetKnownWrong : ChangeSpec := { name := "wsetKnown", fn := fun _ => fun
  | [] => { results := [.lit (.bool false)], args := [] }
  | _ => none }
def WsetKnownWrongFalsely : Prop := wsetKnownRow.holds Tryz.pinned (OpenSpec.ofChange wsetKnownWrong)

/-- 'reevelaw25.GearKnown': WHATEVER THE INPUT: true; the input reads as it did. -/
def gearKnownSpec : ChangeSpec := { name := "gearKnown", fn := fun _ => fun
  | [] => { results := [.lit (.bool true)], args := [] }
  | _ => none }
def gearKnownRow : OpenClaim := { program := "ytmmfmiamkgmikaagreat", sum := "52bbec24b6d8dc0aa4ef59171754fa9fb9c411afd4565072f095441619e5d087", func := "reeve/reevelaw25.GearKnown", spec := "gearKnown", inPlace := ["math.archTrunc", "math.Float64bits", "math.Float64frombits", "internal/bytealg.IndexByteString", "internal/bytealg.IndexString"], unfollowed := true, recurses := true, named := ["internal/bytealg.MaxLen"], apart := false }
def GearKnownSaid : Prop := gearKnownRow.holds Tryz.pinned (OpenSpec.ofChange gearKnownSpec)

/-- ITS FALSE NEIGHBOUR: 'it returns false'. Refute it at one input. -/
def gearKnownWrong : ChangeSpec := { name := "gearKnown", fn := fun _ => fun
  | [] => { results := [.lit (.bool false)], args := [] }
  | _ => none }
def GearKnownWrongFalsely : Prop := gearKnownRow.holds Tryz.pinned (OpenSpec.ofChange gearKnownWrong)

/-- 'reevelaw26.BootKnown': WHATEVER THE INPUT: true; the input reads as it did. -/
def bootKnownSpec : ChangeSpec := { name := "bootKnown", fn := fun _ => fun
  | [] => { results := [.lit (.bool true)], args := [] }
  | _ => none }
def bootKnownRow : OpenClaim := { program := "ytmmfmiamkgmikaagreat", sum := "52bbec24b6d8dc0aa4ef59171754fa9fb9c411afd4565072f095441619e5d087", func := "reeve/reevelaw26.BootKnown", spec := "bootKnown", inPlace := ["math.archTrunc", "math.Float64bits", "math.Float64frombits", "internal/bytealg.IndexByteString", "internal/bytealg.IndexString"], unfollowed := true, recurses := true, named := ["internal/bytealg.MaxLen"], apart := false }
def BootKnownSaid : Prop := bootKnownRow.holds Tryz.pinned (OpenSpec.ofChange bootKnownSpec)

/-- ITS FALSE NEIGHBOUR: 'it returns false'. Refute it at one input. -/
def bootKnownWrong : ChangeSpec := { name := "bootKnown", fn := fun _ => fun
  | [] => { results := [.lit (.bool false)], args := [] }
  | _ => none }
def BootKnownWrongFalsely : Prop := bootKnownRow.holds Tryz.pinned (OpenSpec.ofChange bootKnownWrong)

/-- 'reevelaw27.KernKnown': WHATEVER THE INPUT: true; the input reads as it did. -/
def kernKnownSpec : ChangeSpec := { name := "kernKnown", fn := fun _ => fun
  | [] => { results := [.lit (.bool true)], args := [] }
  | _ => none }
def kernKnownRow : OpenClaim := { program := "ytmmfmiamkgmikaagreat", sum := "52bbec24b6d8dc0aa4ef59171754fa9fb9c411afd4565072f095441619e5d087", func := "reeve/reevelaw27.KernKnown", spec := "kernKnown", inPlace := ["math.archTrunc", "math.Float64bits", "math.Float64frombits", "internal/bytealg.IndexByteString", "internal/bytealg.IndexString"], unfollowed := true, recurses := true, named := ["internal/bytealg.MaxLen"], apart := false }
def KernKnownSaid : Prop := kernKnownRow.holds Tryz.pinned (OpenSpec.ofChange kernKnownSpec)

/-- ITS FALSE NEIGHBOUR: 'it returns false'. Refute it at one input. -/
def kernKnownWrong : ChangeSpec := { name := "kernKnown", fn := fun _ => fun
  | [] => { results := [.lit (.bool false)], args := [] }
  | _ => none }
def KernKnownWrongFalsely : Prop := kernKnownRow.holds Tryz.pinned (OpenSpec.ofChange kernKnownWrong)

/- THE SECOND FORM. 'bulk': how many values and letters a reading holds, each counted each time it is reached (what is shared counts as often as it is met; a slice's spare places count too). A statement '..UptoSaid' is the law's where the arguments, and the package variables that the reading takes, are together of bulk at most 1048576: NARROWER than '..Said'. Prove '..Said' where nothing that the law and all that it calls make is longer than what came in: it says more and counts as full. Else prove '..UptoSaid'. A law counts once. -/
mutual
def uptoBulk {H : Type} : DataW H → Nat
  | .lit (.string bytes) => bytes.length + 1
  | .lit _ => 1
  | .nil => 1
  | .ptr d => uptoBulk d + 1
  | .slice elems spare => uptoBulkAll elems + uptoBulkAll spare + 1
  | .agg parts => uptoBulkAll parts + 1
  | .iface _ d => uptoBulk d + 1
  | .map entries => uptoBulkEntries entries + 1
  | .held _ => 1
def uptoBulkAll {H : Type} : List (DataW H) → Nat
  | [] => 0
  | d :: r => uptoBulk d + uptoBulkAll r
def uptoBulkEntries {H : Type} : List (Lit × DataW H) → Nat
  | [] => 0
  | x :: r => uptoBulkEntry x + uptoBulkEntries r
def uptoBulkEntry {H : Type} : Lit × DataW H → Nat
  | (.string bytes, d) => bytes.length + uptoBulk d + 1
  | (_, d) => uptoBulk d + 1
 end
def uptoSmall : (H : Type) → List (DataW H) → Bool := fun _ ds => decide (uptoBulkAll ds ≤ 1048576)
def OpenSpec.upto (s : _root_.Go.ChangeSpec) : _root_.Go.OpenSpec := { _root_.Go.OpenSpec.ofChange s with cond := some uptoSmall }

/-- 'reevelaw23.WsetKnown', WHERE WHAT IT READS IS OF BULK AT MOST 1048576: true; the input reads as it did. -/
def wsetKnownUptoRow : OpenClaim := { program := "ytmmfmiamkgmikaagreat", sum := "52bbec24b6d8dc0aa4ef59171754fa9fb9c411afd4565072f095441619e5d087", func := "reeve/reevelaw23.WsetKnown", spec := "wsetKnown", inPlace := ["math.archTrunc", "math.Float64bits", "math.Float64frombits", "internal/bytealg.IndexByteString", "internal/bytealg.IndexString"], unfollowed := true, recurses := true, named := ["internal/bytealg.MaxLen"], apart := false, narrowed := true }
def WsetKnownUptoSaid : Prop := wsetKnownUptoRow.holds Tryz.pinned (OpenSpec.upto wsetKnownSpec)

/-- 'reevelaw25.GearKnown', WHERE WHAT IT READS IS OF BULK AT MOST 1048576: true; the input reads as it did. -/
def gearKnownUptoRow : OpenClaim := { program := "ytmmfmiamkgmikaagreat", sum := "52bbec24b6d8dc0aa4ef59171754fa9fb9c411afd4565072f095441619e5d087", func := "reeve/reevelaw25.GearKnown", spec := "gearKnown", inPlace := ["math.archTrunc", "math.Float64bits", "math.Float64frombits", "internal/bytealg.IndexByteString", "internal/bytealg.IndexString"], unfollowed := true, recurses := true, named := ["internal/bytealg.MaxLen"], apart := false, narrowed := true }
def GearKnownUptoSaid : Prop := gearKnownUptoRow.holds Tryz.pinned (OpenSpec.upto gearKnownSpec)

/-- 'reevelaw26.BootKnown', WHERE WHAT IT READS IS OF BULK AT MOST 1048576: true; the input reads as it did. -/
def bootKnownUptoRow : OpenClaim := { program := "ytmmfmiamkgmikaagreat", sum := "52bbec24b6d8dc0aa4ef59171754fa9fb9c411afd4565072f095441619e5d087", func := "reeve/reevelaw26.BootKnown", spec := "bootKnown", inPlace := ["math.archTrunc", "math.Float64bits", "math.Float64frombits", "internal/bytealg.IndexByteString", "internal/bytealg.IndexString"], unfollowed := true, recurses := true, named := ["internal/bytealg.MaxLen"], apart := false, narrowed := true }
def BootKnownUptoSaid : Prop := bootKnownUptoRow.holds Tryz.pinned (OpenSpec.upto bootKnownSpec)

/-- 'reevelaw27.KernKnown', WHERE WHAT IT READS IS OF BULK AT MOST 1048576: true; the input reads as it did. -/
def kernKnownUptoRow : OpenClaim := { program := "ytmmfmiamkgmikaagreat", sum := "52bbec24b6d8dc0aa4ef59171754fa9fb9c411afd4565072f095441619e5d087", func := "reeve/reevelaw27.KernKnown", spec := "kernKnown", inPlace := ["math.archTrunc", "math.Float64bits", "math.Float64frombits", "internal/bytealg.IndexByteString", "internal/bytealg.IndexString"], unfollowed := true, recurses := true, named := ["internal/bytealg.MaxLen"], apart := false, narrowed := true }
def KernKnownUptoSaid : Prop := kernKnownUptoRow.holds Tryz.pinned (OpenSpec.upto kernKnownSpec)

end Rows
end Go.Proofs.YtmmfmiamkgmikaaGreat
