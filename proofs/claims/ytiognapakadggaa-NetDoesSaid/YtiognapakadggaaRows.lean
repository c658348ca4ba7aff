/-
  No cell of these rows narrows 'for every input' (looked for: loops, veiled, ifaces, maps, wideKeys, modest, calm, conditions, laid).
  DERIVED. THE GIVEN ROWS OF THIS SEAT. 4 by the template 'for every input the law returns true; each argument reads behind the call as it read before'; 0 by the template 'total and deterministic' (their statements: YtiognapakadggaaTotals.lean).
  GIVEN WITH THE SEED: the statements are not yours to turn. If you find one false, say at which input.
  Laid BY PROGRAM, IN A SANDBOX (cutbox-rows.mjs): the forced cells as the released guide's own fill.sh prints them over the translation 504380657ea5d335… (all of the seat's roots in one cut). By AI agents, Wed Nov 11 2026. No macro, syntax, notation, axiom, sorry.
-/
import Derived.Test.YtiognapakadggaaChecked
import GoSem.Claim
import GoSem.ClaimJoined
import GoSem.ClaimMapViews
import Derived.JoinedTies
import Derived.KernelRfl
namespace Go.Proofs.Ytiognapakadggaa
/- THE CELL 'sum', in the pinned program and in every row, IS THE sha256 OF THE DUMP (.gsa) THAT YtiognapakadggaaProg.lean LOADS. Nothing in Lean hashes anything: it is a label: what it is worth is what the hold of that sum in a sandbox is worth. -/
noncomputable def Try.pinned : Pinned := { name := "ytiognapakadggaa", sum := "504380657ea5d3352291c592a9fa0b0cad3e04f81f79d7cb3ed8f30197891e1a", checked := Try.checked }
namespace Rows
def none {H : Type} : Left H := { results := [], args := [] }

/-- 'linesidelaw22.NetAll': WHATEVER THE INPUT: true; the input reads as it did. -/
def netAllSpec : ChangeSpec := { name := "netAll", fn := fun _ => fun
  | [d1, d2, d3] => { results := [.lit (.bool true)], args := [d1, d2, d3] }
  | _ => none }
def netAllRow : OpenClaim := { program := "ytiognapakadggaa", sum := "504380657ea5d3352291c592a9fa0b0cad3e04f81f79d7cb3ed8f30197891e1a", func := "lineside/linesidelaw22.NetAll", spec := "netAll", unfollowed := true, recurses := true, apart := false }
def NetAllSaid : Prop := netAllRow.holds Try.pinned (OpenSpec.ofChange netAllSpec)

/-- ITS FALSE NEIGHBOUR: 'it returns false'. Refute it at one input. -/
def netAllWrong : ChangeSpec := { name := "netAll", fn := fun _ => fun
  | [d1, d2, d3] => { results := [.lit (.bool false)], args := [d1, d2, d3] }
  | _ => none }
def NetAllWrongFalsely : Prop := netAllRow.holds Try.pinned (OpenSpec.ofChange netAllWrong)

/-- 'linesidelaw22.NetClears': WHATEVER THE INPUT: true; the input reads as it did. -/
def netClearsSpec : ChangeSpec := { name := "netClears", fn := fun _ => fun
  | [d1, d2, d3] => { results := [.lit (.bool true)], args := [d1, d2, d3] }
  | _ => none }
def netClearsRow : OpenClaim := { program := "ytiognapakadggaa", sum := "504380657ea5d3352291c592a9fa0b0cad3e04f81f79d7cb3ed8f30197891e1a", func := "lineside/linesidelaw22.NetClears", spec := "netClears", unfollowed := true, recurses := true, apart := false }
def NetClearsSaid : Prop := netClearsRow.holds Try.pinned (OpenSpec.ofChange netClearsSpec)

/-- ITS FALSE NEIGHBOUR: 'it returns false'. Refute it at one input. -/
def netClearsWrong : ChangeSpec := { name := "netClears", fn := fun _ => fun
  | [d1, d2, d3] => { results := [.lit (.bool false)], args := [d1, d2, d3] }
  | _ => none }
def NetClearsWrongFalsely : Prop := netClearsRow.holds Try.pinned (OpenSpec.ofChange netClearsWrong)

/-- 'linesidelaw22.NetDoes': WHATEVER THE INPUT: true; the input reads as it did. -/
def netDoesSpec : ChangeSpec := { name := "netDoes", fn := fun _ => fun
  | [d1, d2] => { results := [.lit (.bool true)], args := [d1, d2] }
  | _ => none }
def netDoesRow : OpenClaim := { program := "ytiognapakadggaa", sum := "504380657ea5d3352291c592a9fa0b0cad3e04f81f79d7cb3ed8f30197891e1a", func := "lineside/linesidelaw22.NetDoes", spec := "netDoes", unfollowed := true, recurses := true, apart := false }
def NetDoesSaid : Prop := netDoesRow.holds Try.pinned (OpenSpec.ofChange netDoesSpec)

/-- ITS FALSE NEIGHBOUR: 'it returns false'. Refute it at one input. -/
def netDoesWrong : ChangeSpec := { name := "netDoes", fn := fun _ => fun
  | [d1, d2] => { results := [.lit (.bool false)], args := [d1, d2] }
  | _ => none }
def NetDoesWrongFalsely : Prop := netDoesRow.holds Try.pinned (OpenSpec.ofChange netDoesWrong)

/-- 'linesidelaw22.NetOnly': WHATEVER THE INPUT: true; the input reads as it did. -/
def netOnlySpec : ChangeSpec := { name := "netOnly", fn := fun _ => fun
  | [d] => { results := [.lit (.bool true)], args := [d] }
  | _ => none }
def netOnlyRow : OpenClaim := { program := "ytiognapakadggaa", sum := "504380657ea5d3352291c592a9fa0b0cad3e04f81f79d7cb3ed8f30197891e1a", func := "lineside/linesidelaw22.NetOnly", spec := "netOnly", unfollowed := true, recurses := true, apart := false }
def NetOnlySaid : Prop := netOnlyRow.holds Try.pinned (OpenSpec.ofChange netOnlySpec)

/-- ITS FALSE NEIGHBOUR: 'it returns false'. Refute it at one input. -/
def netOnlyWrong : ChangeSpec := { name := "netOnly", fn := fun _ => fun
  | [d] => { results := [.lit (.bool false)], args := [d] }
  | _ => none }
def NetOnlyWrongFalsely : Prop := netOnlyRow.holds Try.pinned (OpenSpec.ofChange netOnlyWrong)

/- THE SECOND FORM. 'bulk': how many values and letters a reading holds, each counted each time it is reached (what is shared counts as often as it is met; a slice's spare places count too). A statement '..UptoSaid' is the law's where the arguments, and the package variables that the reading takes, are together of bulk at most 1048576: NARROWER than '..Said'. Prove '..Said' where nothing that the law and all that it calls make is longer than what came in: it says more and counts as full. Else prove '..UptoSaid'. A law counts once. -/
mutual
def uptoBulk {H : Type} : DataW H → Nat
  | .lit (.string bytes) => bytes.length + 1
  | .lit _ => 1
  | .nil => 1
  | .ptr d => uptoBulk d + 1
  | .slice elems spare => uptoBulkAll elems + uptoBulkAll spare + 1
  | .agg parts => uptoBulkAll parts + 1
  | .iface _ d => uptoBulk d + 1
  | .map entries => uptoBulkEntries entries + 1
  | .held _ => 1
def uptoBulkAll {H : Type} : List (DataW H) → Nat
  | [] => 0
  | d :: r => uptoBulk d + uptoBulkAll r
def uptoBulkEntries {H : Type} : List (Lit × DataW H) → Nat
  | [] => 0
  | x :: r => uptoBulkEntry x + uptoBulkEntries r
def uptoBulkEntry {H : Type} : Lit × DataW H → Nat
  | (.string bytes, d) => bytes.length + uptoBulk d + 1
  | (_, d) => uptoBulk d + 1
 end
def uptoSmall : (H : Type) → List (DataW H) → Bool := fun _ ds => decide (uptoBulkAll ds ≤ 1048576)
def OpenSpec.upto (s : _root_.Go.ChangeSpec) : _root_.Go.OpenSpec := { _root_.Go.OpenSpec.ofChange s with cond := some uptoSmall }

/-- 'linesidelaw22.NetAll', WHERE WHAT IT READS IS OF BULK AT MOST 1048576: true; the input reads as it did. -/
def netAllUptoRow : OpenClaim := { program := "ytiognapakadggaa", sum := "504380657ea5d3352291c592a9fa0b0cad3e04f81f79d7cb3ed8f30197891e1a", func := "lineside/linesidelaw22.NetAll", spec := "netAll", unfollowed := true, recurses := true, apart := false, narrowed := true }
def NetAllUptoSaid : Prop := netAllUptoRow.holds Try.pinned (OpenSpec.upto netAllSpec)

/-- 'linesidelaw22.NetClears', WHERE WHAT IT READS IS OF BULK AT MOST 1048576: true; the input reads as it did. -/
def netClearsUptoRow : OpenClaim := { program := "ytiognapakadggaa", sum := "504380657ea5d3352291c592a9fa0b0cad3e04f81f79d7cb3ed8f30197891e1a", func := "lineside/linesidelaw22.NetClears", spec := "netClears", unfollowed := true, recurses := true, apart := false, narrowed := true }
def NetClearsUptoSaid : Prop := netClearsUptoRow.holds Try.pinned (OpenSpec.upto netClearsSpec)

/-- 'linesidelaw22.NetDoes', WHERE WHAT IT READS IS OF BULK AT MOST 1048576: true; the input reads as it did. -/
def netDoesUptoRow : OpenClaim := { program := "ytiognapakadggaa", sum := "504380657ea5d3352291c592a9fa0b0cad3e04f81f79d7cb3ed8f30197891e1a", func := "lineside/linesidelaw22.NetDoes", spec := "netDoes", unfollowed := true, recurses := true, apart := false, narrowed := true }
def NetDoesUptoSaid : Prop := netDoesUptoRow.holds Try.pinned (OpenSpec.upto netDoesSpec)

/-- 'linesidelaw22.NetOnly', WHERE WHAT IT READS IS OF BULK AT MOST 1048576: true; the input reads as it did. -/
def netOnlyUptoRow : OpenClaim := { program := "ytiognapakadggaa", sum := "504380657ea5d3352291c592a9fa0b0cad3e04f81f79d7cb3ed8f30197891e1a", func := "lineside/linesidelaw22.NetOnly", spec := "netOnly", unfollowed := true, recurses := true, apart := false, narrowed := true }
def NetOnlyUptoSaid : Prop := netOnlyUptoRow.holds Try.pinned (OpenSpec.upto netOnlySpec)

end Rows
end Go.Proofs.Ytiognapakadggaa
