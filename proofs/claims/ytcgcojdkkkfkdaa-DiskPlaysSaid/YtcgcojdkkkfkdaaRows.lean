/-
  No cell of these rows narrows 'for every input' (looked for: loops, veiled, ifaces, maps, wideKeys, modest, calm, conditions, laid).
  DERIVED. THE GIVEN ROWS OF THIS SEAT. 6 by the template 'for every input the law returns true; each argument reads behind the call as it read before'; 0 by the template 'total and deterministic' (their statements: YtcgcojdkkkfkdaaTotals.lean).
  GIVEN WITH THE SEED: the statements are not yours to turn. If you find one false, say at which input.
  Laid BY PROGRAM, IN A SANDBOX (cutbox-rows.mjs): the forced cells as the released guide's own fill.sh prints them over the translation c7eed4a403f3df61… (all of the seat's roots in one cut). By AI agents, Wed Nov 11 2026. No macro, syntax, notation, axiom, sorry.
-/
import Derived.Test.YtcgcojdkkkfkdaaChecked
import GoSem.Claim
import GoSem.ClaimJoined
import GoSem.ClaimMapViews
import Derived.JoinedTies
import Derived.KernelRfl
namespace Go.Proofs.Ytcgcojdkkkfkdaa
/- THE CELL 'sum', in the pinned program and in every row, IS THE sha256 OF THE DUMP (.gsa) THAT YtcgcojdkkkfkdaaProg.lean LOADS. Nothing in Lean hashes anything: it is a label: what it is worth is what the hold of that sum in a sandbox is worth. -/
noncomputable def Try.pinned : Pinned := { name := "ytcgcojdkkkfkdaa", sum := "c7eed4a403f3df619aebea209d768293bc1b9f9ed4f35c4f8067d7ece8f716b5", checked := Try.checked }
namespace Rows
def none {H : Type} : Left H := { results := [], args := [] }

/-- 'majordomolaw01.DiskPlays': WHATEVER THE INPUT: true; the input reads as it did. -/
def diskPlaysSpec : ChangeSpec := { name := "diskPlays", fn := fun _ => fun
  | [d1, d2] => { results := [.lit (.bool true)], args := [d1, d2] }
  | _ => none }
def diskPlaysRow : OpenClaim := { program := "ytcgcojdkkkfkdaa", sum := "c7eed4a403f3df619aebea209d768293bc1b9f9ed4f35c4f8067d7ece8f716b5", func := "majordomo/majordomolaw01.DiskPlays", spec := "diskPlays", inPlace := ["maps.clone"], apart := false }
def DiskPlaysSaid : Prop := diskPlaysRow.holds Try.pinned (OpenSpec.ofChange diskPlaysSpec)

/-- ITS FALSE NEIGHBOUR: 'it returns false'. Refute it at one input. -/
def diskPlaysWrong : ChangeSpec := { name := "diskPlays", fn := fun _ => fun
  | [d1, d2] => { results := [.lit (.bool false)], args := [d1, d2] }
  | _ => none }
def DiskPlaysWrongFalsely : Prop := diskPlaysRow.holds Try.pinned (OpenSpec.ofChange diskPlaysWrong)

/-- 'majordomolaw08.GraphOrders': WHATEVER THE INPUT: true; the input reads as it did. -/
def graphOrdersSpec : ChangeSpec := { name := "graphOrders", fn := fun _ => fun
  | [d1, d2] => { results := [.lit (.bool true)], args := [d1, d2] }
  | _ => none }
def graphOrdersRow : OpenClaim := { program := "ytcgcojdkkkfkdaa", sum := "c7eed4a403f3df619aebea209d768293bc1b9f9ed4f35c4f8067d7ece8f716b5", func := "majordomo/majordomolaw08.GraphOrders", spec := "graphOrders", unfollowed := true, recurses := true, apart := false }
def GraphOrdersSaid : Prop := graphOrdersRow.holds Try.pinned (OpenSpec.ofChange graphOrdersSpec)

/-- ITS FALSE NEIGHBOUR: 'it returns false'. Refute it at one input. -/
def graphOrdersWrong : ChangeSpec := { name := "graphOrders", fn := fun _ => fun
  | [d1, d2] => { results := [.lit (.bool false)], args := [d1, d2] }
  | _ => none }
def GraphOrdersWrongFalsely : Prop := graphOrdersRow.holds Try.pinned (OpenSpec.ofChange graphOrdersWrong)

/-- 'majordomolaw08.GraphGoes': WHATEVER THE INPUT: true; the input reads as it did. -/
def graphGoesSpec : ChangeSpec := { name := "graphGoes", fn := fun _ => fun
  | [d1, d2] => { results := [.lit (.bool true)], args := [d1, d2] }
  | _ => none }
def graphGoesRow : OpenClaim := { program := "ytcgcojdkkkfkdaa", sum := "c7eed4a403f3df619aebea209d768293bc1b9f9ed4f35c4f8067d7ece8f716b5", func := "majordomo/majordomolaw08.GraphGoes", spec := "graphGoes", unfollowed := true, recurses := true, apart := false }
def GraphGoesSaid : Prop := graphGoesRow.holds Try.pinned (OpenSpec.ofChange graphGoesSpec)

/-- ITS FALSE NEIGHBOUR: 'it returns false'. Refute it at one input. -/
def graphGoesWrong : ChangeSpec := { name := "graphGoes", fn := fun _ => fun
  | [d1, d2] => { results := [.lit (.bool false)], args := [d1, d2] }
  | _ => none }
def GraphGoesWrongFalsely : Prop := graphGoesRow.holds Try.pinned (OpenSpec.ofChange graphGoesWrong)

/-- 'majordomolaw08.GraphBehind': WHATEVER THE INPUT: true; the input reads as it did. -/
def graphBehindSpec : ChangeSpec := { name := "graphBehind", fn := fun _ => fun
  | [d1, d2, d3] => { results := [.lit (.bool true)], args := [d1, d2, d3] }
  | _ => none }
def graphBehindRow : OpenClaim := { program := "ytcgcojdkkkfkdaa", sum := "c7eed4a403f3df619aebea209d768293bc1b9f9ed4f35c4f8067d7ece8f716b5", func := "majordomo/majordomolaw08.GraphBehind", spec := "graphBehind", unfollowed := true, recurses := true, apart := false }
def GraphBehindSaid : Prop := graphBehindRow.holds Try.pinned (OpenSpec.ofChange graphBehindSpec)

/-- ITS FALSE NEIGHBOUR: 'it returns false'. Refute it at one input. -/
def graphBehindWrong : ChangeSpec := { name := "graphBehind", fn := fun _ => fun
  | [d1, d2, d3] => { results := [.lit (.bool false)], args := [d1, d2, d3] }
  | _ => none }
def GraphBehindWrongFalsely : Prop := graphBehindRow.holds Try.pinned (OpenSpec.ofChange graphBehindWrong)

/-- 'majordomolaw08.GraphMore': WHATEVER THE INPUT: true; the input reads as it did. -/
def graphMoreSpec : ChangeSpec := { name := "graphMore", fn := fun _ => fun
  | [d1, d2, d3] => { results := [.lit (.bool true)], args := [d1, d2, d3] }
  | _ => none }
def graphMoreRow : OpenClaim := { program := "ytcgcojdkkkfkdaa", sum := "c7eed4a403f3df619aebea209d768293bc1b9f9ed4f35c4f8067d7ece8f716b5", func := "majordomo/majordomolaw08.GraphMore", spec := "graphMore", unfollowed := true, recurses := true, apart := false }
def GraphMoreSaid : Prop := graphMoreRow.holds Try.pinned (OpenSpec.ofChange graphMoreSpec)

/-- ITS FALSE NEIGHBOUR: 'it returns false'. Refute it at one input. -/
def graphMoreWrong : ChangeSpec := { name := "graphMore", fn := fun _ => fun
  | [d1, d2, d3] => { results := [.lit (.bool false)], args := [d1, d2, d3] }
  | _ => none }
def GraphMoreWrongFalsely : Prop := graphMoreRow.holds Try.pinned (OpenSpec.ofChange graphMoreWrong)

/-- 'majordomolaw08.GraphFewer': WHATEVER THE INPUT: true; the input reads as it did. -/
def graphFewerSpec : ChangeSpec := { name := "graphFewer", fn := fun _ => fun
  | [d1, d2, d3] => { results := [.lit (.bool true)], args := [d1, d2, d3] }
  | _ => none }
def graphFewerRow : OpenClaim := { program := "ytcgcojdkkkfkdaa", sum := "c7eed4a403f3df619aebea209d768293bc1b9f9ed4f35c4f8067d7ece8f716b5", func := "majordomo/majordomolaw08.GraphFewer", spec := "graphFewer", unfollowed := true, recurses := true, apart := false }
def GraphFewerSaid : Prop := graphFewerRow.holds Try.pinned (OpenSpec.ofChange graphFewerSpec)

/-- ITS FALSE NEIGHBOUR: 'it returns false'. Refute it at one input. -/
def graphFewerWrong : ChangeSpec := { name := "graphFewer", fn := fun _ => fun
  | [d1, d2, d3] => { results := [.lit (.bool false)], args := [d1, d2, d3] }
  | _ => none }
def GraphFewerWrongFalsely : Prop := graphFewerRow.holds Try.pinned (OpenSpec.ofChange graphFewerWrong)

/- THE SECOND FORM. 'bulk': how many values and letters a reading holds, each counted each time it is reached (what is shared counts as often as it is met; a slice's spare places count too). A statement '..UptoSaid' is the law's where the arguments, and the package variables that the reading takes, are together of bulk at most 1048576: NARROWER than '..Said'. Prove '..Said' where nothing that the law and all that it calls make is longer than what came in: it says more and counts as full. Else prove '..UptoSaid'. A law counts once. -/
mutual
def uptoBulk {H : Type} : DataW H → Nat
  | .lit (.string bytes) => bytes.length + 1
  | .lit _ => 1
  | .nil => 1
  | .ptr d => uptoBulk d + 1
  | .slice elems spare => uptoBulkAll elems + uptoBulkAll spare + 1
  | .agg parts => uptoBulkAll parts + 1
  | .iface _ d => uptoBulk d + 1
  | .map entries => uptoBulkEntries entries + 1
  | .held _ => 1
def uptoBulkAll {H : Type} : List (DataW H) → Nat
  | [] => 0
  | d :: r => uptoBulk d + uptoBulkAll r
def uptoBulkEntries {H : Type} : List (Lit × DataW H) → Nat
  | [] => 0
  | x :: r => uptoBulkEntry x + uptoBulkEntries r
def uptoBulkEntry {H : Type} : Lit × DataW H → Nat
  | (.string bytes, d) => bytes.length + uptoBulk d + 1
  | (_, d) => uptoBulk d + 1
 end
def uptoSmall : (H : Type) → List (DataW H) → Bool := fun _ ds => decide (uptoBulkAll ds ≤ 1048576)
def OpenSpec.upto (s : _root_.Go.ChangeSpec) : _root_.Go.OpenSpec := { _root_.Go.OpenSpec.ofChange s with cond := some uptoSmall }

/-- 'majordomolaw01.DiskPlays', WHERE WHAT IT READS IS OF BULK AT MOST 1048576: true; the input reads as it did. -/
def diskPlaysUptoRow : OpenClaim := { program := "ytcgcojdkkkfkdaa", sum := "c7eed4a403f3df619aebea209d768293bc1b9f9ed4f35c4f8067d7ece8f716b5", func := "majordomo/majordomolaw01.DiskPlays", spec := "diskPlays", inPlace := ["maps.clone"], apart := false, narrowed := true }
def DiskPlaysUptoSaid : Prop := diskPlaysUptoRow.holds Try.pinned (OpenSpec.upto diskPlaysSpec)

/-- 'majordomolaw08.GraphOrders', WHERE WHAT IT READS IS OF BULK AT MOST 1048576: true; the input reads as it did. -/
def graphOrdersUptoRow : OpenClaim := { program := "ytcgcojdkkkfkdaa", sum := "c7eed4a403f3df619aebea209d768293bc1b9f9ed4f35c4f8067d7ece8f716b5", func := "majordomo/majordomolaw08.GraphOrders", spec := "graphOrders", unfollowed := true, recurses := true, apart := false, narrowed := true }
def GraphOrdersUptoSaid : Prop := graphOrdersUptoRow.holds Try.pinned (OpenSpec.upto graphOrdersSpec)

/-- 'majordomolaw08.GraphGoes', WHERE WHAT IT READS IS OF BULK AT MOST 1048576: true; the input reads as it did. -/
def graphGoesUptoRow : OpenClaim := { program := "ytcgcojdkkkfkdaa", sum := "c7eed4a403f3df619aebea209d768293bc1b9f9ed4f35c4f8067d7ece8f716b5", func := "majordomo/majordomolaw08.GraphGoes", spec := "graphGoes", unfollowed := true, recurses := true, apart := false, narrowed := true }
def GraphGoesUptoSaid : Prop := graphGoesUptoRow.holds Try.pinned (OpenSpec.upto graphGoesSpec)

/-- 'majordomolaw08.GraphBehind', WHERE WHAT IT READS IS OF BULK AT MOST 1048576: true; the input reads as it did. -/
def graphBehindUptoRow : OpenClaim := { program := "ytcgcojdkkkfkdaa", sum := "c7eed4a403f3df619aebea209d768293bc1b9f9ed4f35c4f8067d7ece8f716b5", func := "majordomo/majordomolaw08.GraphBehind", spec := "graphBehind", unfollowed := true, recurses := true, apart := false, narrowed := true }
def GraphBehindUptoSaid : Prop := graphBehindUptoRow.holds Try.pinned (OpenSpec.upto graphBehindSpec)

/-- 'majordomolaw08.GraphMore', WHERE WHAT IT READS IS OF BULK AT MOST 1048576: true; the input reads as it did. -/
def graphMoreUptoRow : OpenClaim := { program := "ytcgcojdkkkfkdaa", sum := "c7eed4a403f3df619aebea209d768293bc1b9f9ed4f35c4f8067d7ece8f716b5", func := "majordomo/majordomolaw08.GraphMore", spec := "graphMore", unfollowed := true, recurses := true, apart := false, narrowed := true }
def GraphMoreUptoSaid : Prop := graphMoreUptoRow.holds Try.pinned (OpenSpec.upto graphMoreSpec)

/-- 'majordomolaw08.GraphFewer', WHERE WHAT IT READS IS OF BULK AT MOST 1048576: true; the input reads as it did. -/
def graphFewerUptoRow : OpenClaim := { program := "ytcgcojdkkkfkdaa", sum := "c7eed4a403f3df619aebea209d768293bc1b9f9ed4f35c4f8067d7ece8f716b5", func := "majordomo/majordomolaw08.GraphFewer", spec := "graphFewer", unfollowed := true, recurses := true, apart := false, narrowed := true }
def GraphFewerUptoSaid : Prop := graphFewerUptoRow.holds Try.pinned (OpenSpec.upto graphFewerSpec)

end Rows
end Go.Proofs.Ytcgcojdkkkfkdaa
