/-
  No cell of these rows narrows 'for every input' (looked for: loops, veiled, ifaces, maps, wideKeys, modest, calm, conditions, laid).
  DERIVED. THE GIVEN ROWS OF THIS SEAT. 3 by the template 'for every input the law returns true; each argument reads behind the call as it read before'; 0 by the template 'total and deterministic' (their statements: YtgopidgphmkmlaaGreatTotals.lean).
  GIVEN WITH THE SEED: the statements are not yours to turn. If you find one false, say at which input.
  Laid BY PROGRAM, IN A SANDBOX (cutbox-rows.mjs): the forced cells as the released guide's own fill.sh prints them over the translation 84e65a6e697e273c… (all of the seat's roots in one cut). By AI agents, Wed Nov 11 2026. No macro, syntax, notation, axiom, sorry.
-/
import Derived.Test.YtgopidgphmkmlaaGreatChecked
import GoSem.Claim
import GoSem.ClaimJoined
import GoSem.ClaimMapViews
import Derived.JoinedTies
import Derived.KernelRfl
namespace Go.Proofs.YtgopidgphmkmlaaGreat
/- THE CELL 'sum', in the pinned program and in every row, IS THE sha256 OF THE DUMP (.gsa) THAT YtgopidgphmkmlaaGreatProg.lean LOADS. Nothing in Lean hashes anything: it is a label: what it is worth is what the hold of that sum in a sandbox is worth. -/
noncomputable def Tryz.pinned : Pinned := { name := "ytgopidgphmkmlaagreat", sum := "84e65a6e697e273cabd328834fdea564a32eba108192ab3462238adbf68f280a", checked := Tryz.checked }
namespace Rows
def none {H : Type} : Left H := { results := [], args := [] }

/-- 'truantlaw17.WatchExact': WHATEVER THE INPUT: true; the input reads as it did. -/
def watchExactSpec : ChangeSpec := { name := "watchExact", fn := fun _ => fun
  | [d1, d2, d3] => { results := [.lit (.bool true)], args := [d1, d2, d3] }
  | _ => none }
def watchExactRow : OpenClaim := { program := "ytgopidgphmkmlaagreat", sum := "84e65a6e697e273cabd328834fdea564a32eba108192ab3462238adbf68f280a", func := "truant/truantlaw17.WatchExact", spec := "watchExact", unfollowed := true, recurses := true, apart := false }
def WatchExactSaid : Prop := watchExactRow.holds Tryz.pinned (OpenSpec.ofChange watchExactSpec)

/-- ITS FALSE NEIGHBOUR: 'it returns false'. Refute it at one input. -/
def watchExactWrong : ChangeSpec := { name := "watchExact", fn := fun _ => fun
  | [d1, d2, d3] => { results := [.lit (.bool false)], args := [d1, d2, d3] }
  | _ => none }
def WatchExactWrongFalsely : Prop := watchExactRow.holds Tryz.pinned (OpenSpec.ofChange watchExactWrong)

/-- 'truantlaw17.WatchRows': WHATEVER THE INPUT: true; the input reads as it did. -/
def watchRowsSpec : ChangeSpec := { name := "watchRows", fn := fun _ => fun
  | [d1, d2] => { results := [.lit (.bool true)], args := [d1, d2] }
  | _ => none }
def watchRowsRow : OpenClaim := { program := "ytgopidgphmkmlaagreat", sum := "84e65a6e697e273cabd328834fdea564a32eba108192ab3462238adbf68f280a", func := "truant/truantlaw17.WatchRows", spec := "watchRows", unfollowed := true, recurses := true, apart := false }
def WatchRowsSaid : Prop := watchRowsRow.holds Tryz.pinned (OpenSpec.ofChange watchRowsSpec)

/-- ITS FALSE NEIGHBOUR: 'it returns false'. Refute it at one input. -/
def watchRowsWrong : ChangeSpec := { name := "watchRows", fn := fun _ => fun
  | [d1, d2] => { results := [.lit (.bool false)], args := [d1, d2] }
  | _ => none }
def WatchRowsWrongFalsely : Prop := watchRowsRow.holds Tryz.pinned (OpenSpec.ofChange watchRowsWrong)

/-- 'truantlaw17.WatchRises': WHATEVER THE INPUT: true; the input reads as it did. -/
def watchRisesSpec : ChangeSpec := { name := "watchRises", fn := fun _ => fun
  | [d1, d2, d3, d4] => { results := [.lit (.bool true)], args := [d1, d2, d3, d4] }
  | _ => none }
def watchRisesRow : OpenClaim := { program := "ytgopidgphmkmlaagreat", sum := "84e65a6e697e273cabd328834fdea564a32eba108192ab3462238adbf68f280a", func := "truant/truantlaw17.WatchRises", spec := "watchRises", unfollowed := true, recurses := true, apart := false }
def WatchRisesSaid : Prop := watchRisesRow.holds Tryz.pinned (OpenSpec.ofChange watchRisesSpec)

/-- ITS FALSE NEIGHBOUR: 'it returns false'. Refute it at one input. -/
def watchRisesWrong : ChangeSpec := { name := "watchRises", fn := fun _ => fun
  | [d1, d2, d3, d4] => { results := [.lit (.bool false)], args := [d1, d2, d3, d4] }
  | _ => none }
def WatchRisesWrongFalsely : Prop := watchRisesRow.holds Tryz.pinned (OpenSpec.ofChange watchRisesWrong)

/- THE SECOND FORM. 'bulk': how many values and letters a reading holds, each counted each time it is reached (what is shared counts as often as it is met; a slice's spare places count too). A statement '..UptoSaid' is the law's where the arguments, and the package variables that the reading takes, are together of bulk at most 1048576: NARROWER than '..Said'. Prove '..Said' where nothing that the law and all that it calls make is longer than what came in: it says more and counts as full. Else prove '..UptoSaid'. A law counts once. -/
mutual
def uptoBulk {H : Type} : DataW H → Nat
  | .lit (.string bytes) => bytes.length + 1
  | .lit _ => 1
  | .nil => 1
  | .ptr d => uptoBulk d + 1
  | .slice elems spare => uptoBulkAll elems + uptoBulkAll spare + 1
  | .agg parts => uptoBulkAll parts + 1
  | .iface _ d => uptoBulk d + 1
  | .map entries => uptoBulkEntries entries + 1
  | .held _ => 1
def uptoBulkAll {H : Type} : List (DataW H) → Nat
  | [] => 0
  | d :: r => uptoBulk d + uptoBulkAll r
def uptoBulkEntries {H : Type} : List (Lit × DataW H) → Nat
  | [] => 0
  | x :: r => uptoBulkEntry x + uptoBulkEntries r
def uptoBulkEntry {H : Type} : Lit × DataW H → Nat
  | (.string bytes, d) => bytes.length + uptoBulk d + 1
  | (_, d) => uptoBulk d + 1
 end
def uptoSmall : (H : Type) → List (DataW H) → Bool := fun _ ds => decide (uptoBulkAll ds ≤ 1048576)
def OpenSpec.upto (s : _root_.Go.ChangeSpec) : _root_.Go.OpenSpec := { _root_.Go.OpenSpec.ofChange s with cond := some uptoSmall }

/-- 'truantlaw17.WatchExact', WHERE WHAT IT READS IS OF BULK AT MOST 1048576: true; the input reads as it did. -/
def watchExactUptoRow : OpenClaim := { program := "ytgopidgphmkmlaagreat", sum := "84e65a6e697e273cabd328834fdea564a32eba108192ab3462238adbf68f280a", func := "truant/truantlaw17.WatchExact", spec := "watchExact", unfollowed := true, recurses := true, apart := false, narrowed := true }
def WatchExactUptoSaid : Prop := watchExactUptoRow.holds Tryz.pinned (OpenSpec.upto watchExactSpec)

/-- 'truantlaw17.WatchRows', WHERE WHAT IT READS IS OF BULK AT MOST 1048576: true; the input reads as it did. -/
def watchRowsUptoRow : OpenClaim := { program := "ytgopidgphmkmlaagreat", sum := "84e65a6e697e273cabd328834fdea564a32eba108192ab3462238adbf68f280a", func := "truant/truantlaw17.WatchRows", spec := "watchRows", unfollowed := true, recurses := true, apart := false, narrowed := true }
def WatchRowsUptoSaid : Prop := watchRowsUptoRow.holds Tryz.pinned (OpenSpec.upto watchRowsSpec)

/-- 'truantlaw17.WatchRises', WHERE WHAT IT READS IS OF BULK AT MOST 1048576: true; the input reads as it did. -/
def watchRisesUptoRow : OpenClaim := { program := "ytgopidgphmkmlaagreat", sum := "84e65a6e697e273cabd328834fdea564a32eba108192ab3462238adbf68f280a", func := "truant/truantlaw17.WatchRises", spec := "watchRises", unfollowed := true, recurses := true, apart := false, narrowed := true }
def WatchRisesUptoSaid : Prop := watchRisesUptoRow.holds Tryz.pinned (OpenSpec.upto watchRisesSpec)

end Rows
end Go.Proofs.YtgopidgphmkmlaaGreat
