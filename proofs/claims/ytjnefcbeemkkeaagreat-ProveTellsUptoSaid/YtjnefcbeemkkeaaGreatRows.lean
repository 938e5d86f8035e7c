/-
  NARROWER THAN 'FOR EVERY INPUT', by the rows' own cells (each row's printed sentence says how): ProveValid: loops.
  DERIVED. THE GIVEN ROWS OF THIS SEAT. 3 by the template 'for every input the law returns true; each argument reads behind the call as it read before'; 0 by the template 'total and deterministic' (their statements: YtjnefcbeemkkeaaGreatTotals.lean).
  GIVEN WITH THE SEED: the statements are not yours to turn. If you find one false, say at which input.
  Laid BY PROGRAM, IN A SANDBOX (cutbox-rows.mjs): the forced cells as the released guide's own fill.sh prints them over the translation 637c78045a576bbf… (all of the seat's roots in one cut). By AI agents, Wed Nov 11 2026. No macro, syntax, notation, axiom, sorry.
-/
import Derived.Test.YtjnefcbeemkkeaaGreatChecked
import GoSem.Claim
import GoSem.ClaimJoined
import GoSem.ClaimMapViews
import Derived.JoinedTies
import Derived.KernelRfl
namespace Go.Proofs.YtjnefcbeemkkeaaGreat
/- THE CELL 'sum', in the pinned program and in every row, IS THE sha256 OF THE DUMP (.gsa) THAT YtjnefcbeemkkeaaGreatProg.lean LOADS. Nothing in Lean hashes anything: it is a label: what it is worth is what the hold of that sum in a sandbox is worth. -/
noncomputable def Tryz.pinned : Pinned := { name := "ytjnefcbeemkkeaagreat", sum := "637c78045a576bbfd79338d2489b8b8d3d692ba80d8fa951aea9deb0635a5526", checked := Tryz.checked }
namespace Rows
def none {H : Type} : Left H := { results := [], args := [] }

/-- 'auspicelaw25.ProveMeans': WHATEVER THE INPUT: true; the input reads as it did. -/
def proveMeansSpec : ChangeSpec := { name := "proveMeans", fn := fun _ => fun
  | [d] => { results := [.lit (.bool true)], args := [d] }
  | _ => none }
def proveMeansRow : OpenClaim := { program := "ytjnefcbeemkkeaagreat", sum := "637c78045a576bbfd79338d2489b8b8d3d692ba80d8fa951aea9deb0635a5526", func := "auspice/auspicelaw25.ProveMeans", spec := "proveMeans", inPlace := ["math.Float64frombits", "math.Float64bits"], unfollowed := true, recurses := true, apart := false }
def ProveMeansSaid : Prop := proveMeansRow.holds Tryz.pinned (OpenSpec.ofChange proveMeansSpec)

/-- ITS FALSE NEIGHBOUR: 'it returns false'. Refute it at one input. -/
def proveMeansWrong : ChangeSpec := { name := "proveMeans", fn := fun _ => fun
  | [d] => { results := [.lit (.bool false)], args := [d] }
  | _ => none }
def ProveMeansWrongFalsely : Prop := proveMeansRow.holds Tryz.pinned (OpenSpec.ofChange proveMeansWrong)

/-- 'auspicelaw25.ProveValid': WHATEVER THE INPUT: true; the input reads as it did. -/
def proveValidSpec : ChangeSpec := { name := "proveValid", fn := fun _ => fun
  | [d1, d2] => { results := [.lit (.bool true)], args := [d1, d2] }
  | _ => none }
def proveValidRow : OpenClaim := { program := "ytjnefcbeemkkeaagreat", sum := "637c78045a576bbfd79338d2489b8b8d3d692ba80d8fa951aea9deb0635a5526", func := "auspice/auspicelaw25.ProveValid", spec := "proveValid", inPlace := ["math.Float64frombits", "math.Float64bits"], unfollowed := true, recurses := true, loops := true, apart := false }
def ProveValidSaid : Prop := proveValidRow.holds Tryz.pinned (OpenSpec.ofChange proveValidSpec)

/-- ITS FALSE NEIGHBOUR: 'it returns false'. Refute it at one input. -/
def proveValidWrong : ChangeSpec := { name := "proveValid", fn := fun _ => fun
  | [d1, d2] => { results := [.lit (.bool false)], args := [d1, d2] }
  | _ => none }
def ProveValidWrongFalsely : Prop := proveValidRow.holds Tryz.pinned (OpenSpec.ofChange proveValidWrong)

/-- 'auspicelaw25.ProveTells': WHATEVER THE INPUT: true; the input reads as it did. -/
def proveTellsSpec : ChangeSpec := { name := "proveTells", fn := fun _ => fun
  | [d1, d2] => { results := [.lit (.bool true)], args := [d1, d2] }
  | _ => none }
def proveTellsRow : OpenClaim := { program := "ytjnefcbeemkkeaagreat", sum := "637c78045a576bbfd79338d2489b8b8d3d692ba80d8fa951aea9deb0635a5526", func := "auspice/auspicelaw25.ProveTells", spec := "proveTells", inPlace := ["math.Float64frombits", "math.Float64bits"], unfollowed := true, recurses := true, apart := false }
def ProveTellsSaid : Prop := proveTellsRow.holds Tryz.pinned (OpenSpec.ofChange proveTellsSpec)

/-- ITS FALSE NEIGHBOUR: 'it returns false'. Refute it at one input. -/
def proveTellsWrong : ChangeSpec := { name := "proveTells", fn := fun _ => fun
  | [d1, d2] => { results := [.lit (.bool false)], args := [d1, d2] }
  | _ => none }
def ProveTellsWrongFalsely : Prop := proveTellsRow.holds Tryz.pinned (OpenSpec.ofChange proveTellsWrong)

/- THE SECOND FORM. 'bulk': how many values and letters a reading holds, each counted each time it is reached (what is shared counts as often as it is met; a slice's spare places count too). A statement '..UptoSaid' is the law's where the arguments, and the package variables that the reading takes, are together of bulk at most 1048576: NARROWER than '..Said'. Prove '..Said' where nothing that the law and all that it calls make is longer than what came in: it says more and counts as full. Else prove '..UptoSaid'. A law counts once. -/
mutual
def uptoBulk {H : Type} : DataW H → Nat
  | .lit (.string bytes) => bytes.length + 1
  | .lit _ => 1
  | .nil => 1
  | .ptr d => uptoBulk d + 1
  | .slice elems spare => uptoBulkAll elems + uptoBulkAll spare + 1
  | .agg parts => uptoBulkAll parts + 1
  | .iface _ d => uptoBulk d + 1
  | .map entries => uptoBulkEntries entries + 1
  | .held _ => 1
def uptoBulkAll {H : Type} : List (DataW H) → Nat
  | [] => 0
  | d :: r => uptoBulk d + uptoBulkAll r
def uptoBulkEntries {H : Type} : List (Lit × DataW H) → Nat
  | [] => 0
  | x :: r => uptoBulkEntry x + uptoBulkEntries r
def uptoBulkEntry {H : Type} : Lit × DataW H → Nat
  | (.string bytes, d) => bytes.length + uptoBulk d + 1
  | (_, d) => uptoBulk d + 1
 end
def uptoSmall : (H : Type) → List (DataW H) → Bool := fun _ ds => decide (uptoBulkAll ds ≤ 1048576)
def OpenSpec.upto (s : _root_.Go.ChangeSpec) : _root_.Go.OpenSpec := { _root_.Go.OpenSpec.ofChange s with cond := some uptoSmall }

/-- 'auspicelaw25.ProveMeans', WHERE WHAT IT READS IS OF BULK AT MOST 1048576: true; the input reads as it did. -/
def proveMeansUptoRow : OpenClaim := { program := "ytjnefcbeemkkeaagreat", sum := "637c78045a576bbfd79338d2489b8b8d3d692ba80d8fa951aea9deb0635a5526", func := "auspice/auspicelaw25.ProveMeans", spec := "proveMeans", inPlace := ["math.Float64frombits", "math.Float64bits"], unfollowed := true, recurses := true, apart := false, narrowed := true }
def ProveMeansUptoSaid : Prop := proveMeansUptoRow.holds Tryz.pinned (OpenSpec.upto proveMeansSpec)

/-- 'auspicelaw25.ProveValid', WHERE WHAT IT READS IS OF BULK AT MOST 1048576: true; the input reads as it did. -/
def proveValidUptoRow : OpenClaim := { program := "ytjnefcbeemkkeaagreat", sum := "637c78045a576bbfd79338d2489b8b8d3d692ba80d8fa951aea9deb0635a5526", func := "auspice/auspicelaw25.ProveValid", spec := "proveValid", inPlace := ["math.Float64frombits", "math.Float64bits"], unfollowed := true, recurses := true, loops := true, apart := false, narrowed := true }
def ProveValidUptoSaid : Prop := proveValidUptoRow.holds Tryz.pinned (OpenSpec.upto proveValidSpec)

/-- 'auspicelaw25.ProveTells', WHERE WHAT IT READS IS OF BULK AT MOST 1048576: true; the input reads as it did. -/
def proveTellsUptoRow : OpenClaim := { program := "ytjnefcbeemkkeaagreat", sum := "637c78045a576bbfd79338d2489b8b8d3d692ba80d8fa951aea9deb0635a5526", func := "auspice/auspicelaw25.ProveTells", spec := "proveTells", inPlace := ["math.Float64frombits", "math.Float64bits"], unfollowed := true, recurses := true, apart := false, narrowed := true }
def ProveTellsUptoSaid : Prop := proveTellsUptoRow.holds Tryz.pinned (OpenSpec.upto proveTellsSpec)

end Rows
end Go.Proofs.YtjnefcbeemkkeaaGreat
