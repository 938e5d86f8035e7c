/-
  NARROWER THAN 'FOR EVERY INPUT', by the rows' own cells (each row's printed sentence says how): SsaMakes: loops · SsaShares: loops · SsaNeeds: loops.
  DERIVED. THE GIVEN ROWS OF THIS SEAT. 5 by the template 'for every input the law returns true; each argument reads behind the call as it read before'; 0 by the template 'total and deterministic' (their statements: YtebmcaceklbopaaTotals.lean).
  GIVEN WITH THE SEED: the statements are not yours to turn. If you find one false, say at which input.
  Laid BY PROGRAM, IN A SANDBOX (cutbox-rows.mjs): the forced cells as the released guide's own fill.sh prints them over the translation 85ad7e31176cbcbf… (all of the seat's roots in one cut). By AI agents, Wed Nov 11 2026. No macro, syntax, notation, axiom, sorry.
-/
import Derived.Test.YtebmcaceklbopaaChecked
import GoSem.Claim
import GoSem.ClaimJoined
import GoSem.ClaimMapViews
import Derived.JoinedTies
import Derived.KernelRfl
namespace Go.Proofs.Ytebmcaceklbopaa
/- THE CELL 'sum', in the pinned program and in every row, IS THE sha256 OF THE DUMP (.gsa) THAT YtebmcaceklbopaaProg.lean LOADS. Nothing in Lean hashes anything: it is a label: what it is worth is what the hold of that sum in a sandbox is worth. -/
noncomputable def Try.pinned : Pinned := { name := "ytebmcaceklbopaa", sum := "85ad7e31176cbcbf0ef8eed570337bc3d004aac50d8583254d2167b5bc5c9c9c", checked := Try.checked }
namespace Rows
def none {H : Type} : Left H := { results := [], args := [] }

/-- 'auspicelaw17.SsaMakes': WHATEVER THE INPUT: true; the input reads as it did. -/
def ssaMakesSpec : ChangeSpec := { name := "ssaMakes", fn := fun _ => fun
  | [d1, d2] => { results := [.lit (.bool true)], args := [d1, d2] }
  | _ => none }
def ssaMakesRow : OpenClaim := { program := "ytebmcaceklbopaa", sum := "85ad7e31176cbcbf0ef8eed570337bc3d004aac50d8583254d2167b5bc5c9c9c", func := "auspice/auspicelaw17.SsaMakes", spec := "ssaMakes", unfollowed := true, recurses := true, loops := true, plainKeys := false, apart := false }
def SsaMakesSaid : Prop := ssaMakesRow.holds Try.pinned (OpenSpec.ofChange ssaMakesSpec)

/-- ITS FALSE NEIGHBOUR: 'it returns false'. Refute it at one input. -/
def ssaMakesWrong : ChangeSpec := { name := "ssaMakes", fn := fun _ => fun
  | [d1, d2] => { results := [.lit (.bool false)], args := [d1, d2] }
  | _ => none }
def SsaMakesWrongFalsely : Prop := ssaMakesRow.holds Try.pinned (OpenSpec.ofChange ssaMakesWrong)

/-- 'auspicelaw17.SsaTells': WHATEVER THE INPUT: true; the input reads as it did. -/
def ssaTellsSpec : ChangeSpec := { name := "ssaTells", fn := fun _ => fun
  | [d] => { results := [.lit (.bool true)], args := [d] }
  | _ => none }
def ssaTellsRow : OpenClaim := { program := "ytebmcaceklbopaa", sum := "85ad7e31176cbcbf0ef8eed570337bc3d004aac50d8583254d2167b5bc5c9c9c", func := "auspice/auspicelaw17.SsaTells", spec := "ssaTells", unfollowed := true, recurses := true, plainKeys := false, apart := false }
def SsaTellsSaid : Prop := ssaTellsRow.holds Try.pinned (OpenSpec.ofChange ssaTellsSpec)

/-- ITS FALSE NEIGHBOUR: 'it returns false'. Refute it at one input. -/
def ssaTellsWrong : ChangeSpec := { name := "ssaTells", fn := fun _ => fun
  | [d] => { results := [.lit (.bool false)], args := [d] }
  | _ => none }
def SsaTellsWrongFalsely : Prop := ssaTellsRow.holds Try.pinned (OpenSpec.ofChange ssaTellsWrong)

/-- 'auspicelaw17.SsaShares': WHATEVER THE INPUT: true; the input reads as it did. -/
def ssaSharesSpec : ChangeSpec := { name := "ssaShares", fn := fun _ => fun
  | [d] => { results := [.lit (.bool true)], args := [d] }
  | _ => none }
def ssaSharesRow : OpenClaim := { program := "ytebmcaceklbopaa", sum := "85ad7e31176cbcbf0ef8eed570337bc3d004aac50d8583254d2167b5bc5c9c9c", func := "auspice/auspicelaw17.SsaShares", spec := "ssaShares", unfollowed := true, recurses := true, loops := true, plainKeys := false, apart := false }
def SsaSharesSaid : Prop := ssaSharesRow.holds Try.pinned (OpenSpec.ofChange ssaSharesSpec)

/-- ITS FALSE NEIGHBOUR: 'it returns false'. Refute it at one input. -/
def ssaSharesWrong : ChangeSpec := { name := "ssaShares", fn := fun _ => fun
  | [d] => { results := [.lit (.bool false)], args := [d] }
  | _ => none }
def SsaSharesWrongFalsely : Prop := ssaSharesRow.holds Try.pinned (OpenSpec.ofChange ssaSharesWrong)

/-- 'auspicelaw17.SsaDrops': WHATEVER THE INPUT: true; the input reads as it did. -/
def ssaDropsSpec : ChangeSpec := { name := "ssaDrops", fn := fun _ => fun
  | [d] => { results := [.lit (.bool true)], args := [d] }
  | _ => none }
def ssaDropsRow : OpenClaim := { program := "ytebmcaceklbopaa", sum := "85ad7e31176cbcbf0ef8eed570337bc3d004aac50d8583254d2167b5bc5c9c9c", func := "auspice/auspicelaw17.SsaDrops", spec := "ssaDrops", unfollowed := true, recurses := true, plainKeys := false, apart := false }
def SsaDropsSaid : Prop := ssaDropsRow.holds Try.pinned (OpenSpec.ofChange ssaDropsSpec)

/-- ITS FALSE NEIGHBOUR: 'it returns false'. Refute it at one input. -/
def ssaDropsWrong : ChangeSpec := { name := "ssaDrops", fn := fun _ => fun
  | [d] => { results := [.lit (.bool false)], args := [d] }
  | _ => none }
def SsaDropsWrongFalsely : Prop := ssaDropsRow.holds Try.pinned (OpenSpec.ofChange ssaDropsWrong)

/-- 'auspicelaw17.SsaNeeds': WHATEVER THE INPUT: true; the input reads as it did. -/
def ssaNeedsSpec : ChangeSpec := { name := "ssaNeeds", fn := fun _ => fun
  | [d1, d2, d3] => { results := [.lit (.bool true)], args := [d1, d2, d3] }
  | _ => none }
def ssaNeedsRow : OpenClaim := { program := "ytebmcaceklbopaa", sum := "85ad7e31176cbcbf0ef8eed570337bc3d004aac50d8583254d2167b5bc5c9c9c", func := "auspice/auspicelaw17.SsaNeeds", spec := "ssaNeeds", unfollowed := true, recurses := true, loops := true, plainKeys := false, apart := false }
def SsaNeedsSaid : Prop := ssaNeedsRow.holds Try.pinned (OpenSpec.ofChange ssaNeedsSpec)

/-- ITS FALSE NEIGHBOUR: 'it returns false'. Refute it at one input. -/
def ssaNeedsWrong : ChangeSpec := { name := "ssaNeeds", fn := fun _ => fun
  | [d1, d2, d3] => { results := [.lit (.bool false)], args := [d1, d2, d3] }
  | _ => none }
def SsaNeedsWrongFalsely : Prop := ssaNeedsRow.holds Try.pinned (OpenSpec.ofChange ssaNeedsWrong)

/- THE SECOND FORM. 'bulk': how many values and letters a reading holds, each counted each time it is reached (what is shared counts as often as it is met; a slice's spare places count too). A statement '..UptoSaid' is the law's where the arguments, and the package variables that the reading takes, are together of bulk at most 1048576: NARROWER than '..Said'. Prove '..Said' where nothing that the law and all that it calls make is longer than what came in: it says more and counts as full. Else prove '..UptoSaid'. A law counts once. -/
mutual
def uptoBulk {H : Type} : DataW H → Nat
  | .lit (.string bytes) => bytes.length + 1
  | .lit _ => 1
  | .nil => 1
  | .ptr d => uptoBulk d + 1
  | .slice elems spare => uptoBulkAll elems + uptoBulkAll spare + 1
  | .agg parts => uptoBulkAll parts + 1
  | .iface _ d => uptoBulk d + 1
  | .map entries => uptoBulkEntries entries + 1
  | .held _ => 1
def uptoBulkAll {H : Type} : List (DataW H) → Nat
  | [] => 0
  | d :: r => uptoBulk d + uptoBulkAll r
def uptoBulkEntries {H : Type} : List (Lit × DataW H) → Nat
  | [] => 0
  | x :: r => uptoBulkEntry x + uptoBulkEntries r
def uptoBulkEntry {H : Type} : Lit × DataW H → Nat
  | (.string bytes, d) => bytes.length + uptoBulk d + 1
  | (_, d) => uptoBulk d + 1
 end
def uptoSmall : (H : Type) → List (DataW H) → Bool := fun _ ds => decide (uptoBulkAll ds ≤ 1048576)
def OpenSpec.upto (s : _root_.Go.ChangeSpec) : _root_.Go.OpenSpec := { _root_.Go.OpenSpec.ofChange s with cond := some uptoSmall }

/-- 'auspicelaw17.SsaMakes', WHERE WHAT IT READS IS OF BULK AT MOST 1048576: true; the input reads as it did. -/
def ssaMakesUptoRow : OpenClaim := { program := "ytebmcaceklbopaa", sum := "85ad7e31176cbcbf0ef8eed570337bc3d004aac50d8583254d2167b5bc5c9c9c", func := "auspice/auspicelaw17.SsaMakes", spec := "ssaMakes", unfollowed := true, recurses := true, loops := true, plainKeys := false, apart := false, narrowed := true }
def SsaMakesUptoSaid : Prop := ssaMakesUptoRow.holds Try.pinned (OpenSpec.upto ssaMakesSpec)

/-- 'auspicelaw17.SsaTells', WHERE WHAT IT READS IS OF BULK AT MOST 1048576: true; the input reads as it did. -/
def ssaTellsUptoRow : OpenClaim := { program := "ytebmcaceklbopaa", sum := "85ad7e31176cbcbf0ef8eed570337bc3d004aac50d8583254d2167b5bc5c9c9c", func := "auspice/auspicelaw17.SsaTells", spec := "ssaTells", unfollowed := true, recurses := true, plainKeys := false, apart := false, narrowed := true }
def SsaTellsUptoSaid : Prop := ssaTellsUptoRow.holds Try.pinned (OpenSpec.upto ssaTellsSpec)

/-- 'auspicelaw17.SsaShares', WHERE WHAT IT READS IS OF BULK AT MOST 1048576: true; the input reads as it did. -/
def ssaSharesUptoRow : OpenClaim := { program := "ytebmcaceklbopaa", sum := "85ad7e31176cbcbf0ef8eed570337bc3d004aac50d8583254d2167b5bc5c9c9c", func := "auspice/auspicelaw17.SsaShares", spec := "ssaShares", unfollowed := true, recurses := true, loops := true, plainKeys := false, apart := false, narrowed := true }
def SsaSharesUptoSaid : Prop := ssaSharesUptoRow.holds Try.pinned (OpenSpec.upto ssaSharesSpec)

/-- 'auspicelaw17.SsaDrops', WHERE WHAT IT READS IS OF BULK AT MOST 1048576: true; the input reads as it did. -/
def ssaDropsUptoRow : OpenClaim := { program := "ytebmcaceklbopaa", sum := "85ad7e31176cbcbf0ef8eed570337bc3d004aac50d8583254d2167b5bc5c9c9c", func := "auspice/auspicelaw17.SsaDrops", spec := "ssaDrops", unfollowed := true, recurses := true, plainKeys := false, apart := false, narrowed := true }
def SsaDropsUptoSaid : Prop := ssaDropsUptoRow.holds Try.pinned (OpenSpec.upto ssaDropsSpec)

/-- 'auspicelaw17.SsaNeeds', WHERE WHAT IT READS IS OF BULK AT MOST 1048576: true; the input reads as it did. -/
def ssaNeedsUptoRow : OpenClaim := { program := "ytebmcaceklbopaa", sum := "85ad7e31176cbcbf0ef8eed570337bc3d004aac50d8583254d2167b5bc5c9c9c", func := "auspice/auspicelaw17.SsaNeeds", spec := "ssaNeeds", unfollowed := true, recurses := true, loops := true, plainKeys := false, apart := false, narrowed := true }
def SsaNeedsUptoSaid : Prop := ssaNeedsUptoRow.holds Try.pinned (OpenSpec.upto ssaNeedsSpec)

end Rows
end Go.Proofs.Ytebmcaceklbopaa
