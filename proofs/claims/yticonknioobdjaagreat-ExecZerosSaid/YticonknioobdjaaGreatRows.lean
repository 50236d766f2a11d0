/-
  No cell of these rows narrows 'for every input' (looked for: loops, veiled, ifaces, maps, wideKeys, modest, calm, conditions, laid).
  DERIVED. THE GIVEN ROWS OF THIS SEAT. 6 by the template 'for every input the law returns true; each argument reads behind the call as it read before'; 0 by the template 'total and deterministic' (their statements: YticonknioobdjaaGreatTotals.lean).
  GIVEN WITH THE SEED: the statements are not yours to turn. If you find one false, say at which input.
  Laid BY PROGRAM, IN A SANDBOX (cutbox-rows.mjs): the forced cells as the released guide's own fill.sh prints them over the translation fecd2e1a0ebfa6e2… (all of the seat's roots in one cut). By AI agents, Wed Nov 11 2026. No macro, syntax, notation, axiom, sorry.
-/
import Derived.Test.YticonknioobdjaaGreatChecked
import GoSem.Claim
import GoSem.ClaimJoined
import GoSem.ClaimMapViews
import Derived.JoinedTies
import Derived.KernelRfl
namespace Go.Proofs.YticonknioobdjaaGreat
/- THE CELL 'sum', in the pinned program and in every row, IS THE sha256 OF THE DUMP (.gsa) THAT YticonknioobdjaaGreatProg.lean LOADS. Nothing in Lean hashes anything: it is a label: what it is worth is what the hold of that sum in a sandbox is worth. -/
noncomputable def Tryz.pinned : Pinned := { name := "yticonknioobdjaagreat", sum := "fecd2e1a0ebfa6e23cb277becce08fe912bad7ceecd907615a627bd470096bc6", checked := Tryz.checked }
namespace Rows
def none {H : Type} : Left H := { results := [], args := [] }

/-- 'truantlaw13.ExecExact': WHATEVER THE INPUT: true; the input reads as it did. -/
def execExactSpec : ChangeSpec := { name := "execExact", fn := fun _ => fun
  | [d1, d2, d3] => { results := [.lit (.bool true)], args := [d1, d2, d3] }
  | _ => none }
def execExactRow : OpenClaim := { program := "yticonknioobdjaagreat", sum := "fecd2e1a0ebfa6e23cb277becce08fe912bad7ceecd907615a627bd470096bc6", func := "truant/truantlaw13.ExecExact", spec := "execExact", unfollowed := true, recurses := true, apart := false }
def ExecExactSaid : Prop := execExactRow.holds Tryz.pinned (OpenSpec.ofChange execExactSpec)

/-- ITS FALSE NEIGHBOUR: 'it returns false'. Refute it at one input. -/
def execExactWrong : ChangeSpec := { name := "execExact", fn := fun _ => fun
  | [d1, d2, d3] => { results := [.lit (.bool false)], args := [d1, d2, d3] }
  | _ => none }
def ExecExactWrongFalsely : Prop := execExactRow.holds Tryz.pinned (OpenSpec.ofChange execExactWrong)

/-- 'truantlaw13.ExecZeros': WHATEVER THE INPUT: true; the input reads as it did. -/
def execZerosSpec : ChangeSpec := { name := "execZeros", fn := fun _ => fun
  | [d1, d2, d3, d4] => { results := [.lit (.bool true)], args := [d1, d2, d3, d4] }
  | _ => none }
def execZerosRow : OpenClaim := { program := "yticonknioobdjaagreat", sum := "fecd2e1a0ebfa6e23cb277becce08fe912bad7ceecd907615a627bd470096bc6", func := "truant/truantlaw13.ExecZeros", spec := "execZeros", unfollowed := true, recurses := true, apart := false }
def ExecZerosSaid : Prop := execZerosRow.holds Tryz.pinned (OpenSpec.ofChange execZerosSpec)

/-- ITS FALSE NEIGHBOUR: 'it returns false'. Refute it at one input. -/
def execZerosWrong : ChangeSpec := { name := "execZeros", fn := fun _ => fun
  | [d1, d2, d3, d4] => { results := [.lit (.bool false)], args := [d1, d2, d3, d4] }
  | _ => none }
def ExecZerosWrongFalsely : Prop := execZerosRow.holds Tryz.pinned (OpenSpec.ofChange execZerosWrong)

/-- 'truantlaw13.ExecMore': WHATEVER THE INPUT: true; the input reads as it did. -/
def execMoreSpec : ChangeSpec := { name := "execMore", fn := fun _ => fun
  | [d1, d2, d3, d4] => { results := [.lit (.bool true)], args := [d1, d2, d3, d4] }
  | _ => none }
def execMoreRow : OpenClaim := { program := "yticonknioobdjaagreat", sum := "fecd2e1a0ebfa6e23cb277becce08fe912bad7ceecd907615a627bd470096bc6", func := "truant/truantlaw13.ExecMore", spec := "execMore", unfollowed := true, recurses := true, apart := false }
def ExecMoreSaid : Prop := execMoreRow.holds Tryz.pinned (OpenSpec.ofChange execMoreSpec)

/-- ITS FALSE NEIGHBOUR: 'it returns false'. Refute it at one input. -/
def execMoreWrong : ChangeSpec := { name := "execMore", fn := fun _ => fun
  | [d1, d2, d3, d4] => { results := [.lit (.bool false)], args := [d1, d2, d3, d4] }
  | _ => none }
def ExecMoreWrongFalsely : Prop := execMoreRow.holds Tryz.pinned (OpenSpec.ofChange execMoreWrong)

/-- 'truantlaw13.ExecHeap': WHATEVER THE INPUT: true; the input reads as it did. -/
def execHeapSpec : ChangeSpec := { name := "execHeap", fn := fun _ => fun
  | [d1, d2, d3] => { results := [.lit (.bool true)], args := [d1, d2, d3] }
  | _ => none }
def execHeapRow : OpenClaim := { program := "yticonknioobdjaagreat", sum := "fecd2e1a0ebfa6e23cb277becce08fe912bad7ceecd907615a627bd470096bc6", func := "truant/truantlaw13.ExecHeap", spec := "execHeap", unfollowed := true, recurses := true, apart := false }
def ExecHeapSaid : Prop := execHeapRow.holds Tryz.pinned (OpenSpec.ofChange execHeapSpec)

/-- ITS FALSE NEIGHBOUR: 'it returns false'. Refute it at one input. -/
def execHeapWrong : ChangeSpec := { name := "execHeap", fn := fun _ => fun
  | [d1, d2, d3] => { results := [.lit (.bool false)], args := [d1, d2, d3] }
  | _ => none }
def ExecHeapWrongFalsely : Prop := execHeapRow.holds Tryz.pinned (OpenSpec.ofChange execHeapWrong)

/-- 'truantlaw17.WatchExact': WHATEVER THE INPUT: true; the input reads as it did. -/
def watchExactSpec : ChangeSpec := { name := "watchExact", fn := fun _ => fun
  | [d1, d2, d3] => { results := [.lit (.bool true)], args := [d1, d2, d3] }
  | _ => none }
def watchExactRow : OpenClaim := { program := "yticonknioobdjaagreat", sum := "fecd2e1a0ebfa6e23cb277becce08fe912bad7ceecd907615a627bd470096bc6", func := "truant/truantlaw17.WatchExact", spec := "watchExact", unfollowed := true, recurses := true, apart := false }
def WatchExactSaid : Prop := watchExactRow.holds Tryz.pinned (OpenSpec.ofChange watchExactSpec)

/-- ITS FALSE NEIGHBOUR: 'it returns false'. Refute it at one input. -/
def watchExactWrong : ChangeSpec := { name := "watchExact", fn := fun _ => fun
  | [d1, d2, d3] => { results := [.lit (.bool false)], args := [d1, d2, d3] }
  | _ => none }
def WatchExactWrongFalsely : Prop := watchExactRow.holds Tryz.pinned (OpenSpec.ofChange watchExactWrong)

/-- 'truantlaw17.WatchRises': WHATEVER THE INPUT: true; the input reads as it did. -/
def watchRisesSpec : ChangeSpec := { name := "watchRises", fn := fun _ => fun
  | [d1, d2, d3, d4] => { results := [.lit (.bool true)], args := [d1, d2, d3, d4] }
  | _ => none }
def watchRisesRow : OpenClaim := { program := "yticonknioobdjaagreat", sum := "fecd2e1a0ebfa6e23cb277becce08fe912bad7ceecd907615a627bd470096bc6", func := "truant/truantlaw17.WatchRises", spec := "watchRises", unfollowed := true, recurses := true, apart := false }
def WatchRisesSaid : Prop := watchRisesRow.holds Tryz.pinned (OpenSpec.ofChange watchRisesSpec)

/-- ITS FALSE NEIGHBOUR: 'it returns false'. Refute it at one input. -/
def watchRisesWrong : ChangeSpec := { name := "watchRises", fn := fun _ => fun
  | [d1, d2, d3, d4] => { results := [.lit (.bool false)], args := [d1, d2, d3, d4] }
  | _ => none }
def WatchRisesWrongFalsely : Prop := watchRisesRow.holds Tryz.pinned (OpenSpec.ofChange watchRisesWrong)

/- THE SECOND FORM. 'bulk': how many values and letters a reading holds, each counted each time it is reached (what is shared counts as often as it is met; a slice's spare places count too). A statement '..UptoSaid' is the law's where the arguments, and the package variables that the reading takes, are together of bulk at most 1048576: NARROWER than '..Said'. Prove '..Said' where nothing that the law and all that it calls make is longer than what came in: it says more and counts as full. Else prove '..UptoSaid'. A law counts once. -/
mutual
def uptoBulk {H : Type} : DataW H → Nat
  | .lit (.string bytes) => bytes.length + 1
  | .lit _ => 1
  | .nil => 1
  | .ptr d => uptoBulk d + 1
  | .slice elems spare => uptoBulkAll elems + uptoBulkAll spare + 1
  | .agg parts => uptoBulkAll parts + 1
  | .iface _ d => uptoBulk d + 1
  | .map entries => uptoBulkEntries entries + 1
  | .held _ => 1
def uptoBulkAll {H : Type} : List (DataW H) → Nat
  | [] => 0
  | d :: r => uptoBulk d + uptoBulkAll r
def uptoBulkEntries {H : Type} : List (Lit × DataW H) → Nat
  | [] => 0
  | x :: r => uptoBulkEntry x + uptoBulkEntries r
def uptoBulkEntry {H : Type} : Lit × DataW H → Nat
  | (.string bytes, d) => bytes.length + uptoBulk d + 1
  | (_, d) => uptoBulk d + 1
 end
def uptoSmall : (H : Type) → List (DataW H) → Bool := fun _ ds => decide (uptoBulkAll ds ≤ 1048576)
def OpenSpec.upto (s : _root_.Go.ChangeSpec) : _root_.Go.OpenSpec := { _root_.Go.OpenSpec.ofChange s with cond := some uptoSmall }

/-- 'truantlaw13.ExecExact', WHERE WHAT IT READS IS OF BULK AT MOST 1048576: true; the input reads as it did. -/
def execExactUptoRow : OpenClaim := { program := "yticonknioobdjaagreat", sum := "fecd2e1a0ebfa6e23cb277becce08fe912bad7ceecd907615a627bd470096bc6", func := "truant/truantlaw13.ExecExact", spec := "execExact", unfollowed := true, recurses := true, apart := false, narrowed := true }
def ExecExactUptoSaid : Prop := execExactUptoRow.holds Tryz.pinned (OpenSpec.upto execExactSpec)

/-- 'truantlaw13.ExecZeros', WHERE WHAT IT READS IS OF BULK AT MOST 1048576: true; the input reads as it did. -/
def execZerosUptoRow : OpenClaim := { program := "yticonknioobdjaagreat", sum := "fecd2e1a0ebfa6e23cb277becce08fe912bad7ceecd907615a627bd470096bc6", func := "truant/truantlaw13.ExecZeros", spec := "execZeros", unfollowed := true, recurses := true, apart := false, narrowed := true }
def ExecZerosUptoSaid : Prop := execZerosUptoRow.holds Tryz.pinned (OpenSpec.upto execZerosSpec)

/-- 'truantlaw13.ExecMore', WHERE WHAT IT READS IS OF BULK AT MOST 1048576: true; the input reads as it did. -/
def execMoreUptoRow : OpenClaim := { program := "yticonknioobdjaagreat", sum := "fecd2e1a0ebfa6e23cb277becce08fe912bad7ceecd907615a627bd470096bc6", func := "truant/truantlaw13.ExecMore", spec := "execMore", unfollowed := true, recurses := true, apart := false, narrowed := true }
def ExecMoreUptoSaid : Prop := execMoreUptoRow.holds Tryz.pinned (OpenSpec.upto execMoreSpec)

/-- 'truantlaw13.ExecHeap', WHERE WHAT IT READS IS OF BULK AT MOST 1048576: true; the input reads as it did. -/
def execHeapUptoRow : OpenClaim := { program := "yticonknioobdjaagreat", sum := "fecd2e1a0ebfa6e23cb277becce08fe912bad7ceecd907615a627bd470096bc6", func := "truant/truantlaw13.ExecHeap", spec := "execHeap", unfollowed := true, recurses := true, apart := false, narrowed := true }
def ExecHeapUptoSaid : Prop := execHeapUptoRow.holds Tryz.pinned (OpenSpec.upto execHeapSpec)

/-- 'truantlaw17.WatchExact', WHERE WHAT IT READS IS OF BULK AT MOST 1048576: true; the input reads as it did. -/
def watchExactUptoRow : OpenClaim := { program := "yticonknioobdjaagreat", sum := "fecd2e1a0ebfa6e23cb277becce08fe912bad7ceecd907615a627bd470096bc6", func := "truant/truantlaw17.WatchExact", spec := "watchExact", unfollowed := true, recurses := true, apart := false, narrowed := true }
def WatchExactUptoSaid : Prop := watchExactUptoRow.holds Tryz.pinned (OpenSpec.upto watchExactSpec)

/-- 'truantlaw17.WatchRises', WHERE WHAT IT READS IS OF BULK AT MOST 1048576: true; the input reads as it did. -/
def watchRisesUptoRow : OpenClaim := { program := "yticonknioobdjaagreat", sum := "fecd2e1a0ebfa6e23cb277becce08fe912bad7ceecd907615a627bd470096bc6", func := "truant/truantlaw17.WatchRises", spec := "watchRises", unfollowed := true, recurses := true, apart := false, narrowed := true }
def WatchRisesUptoSaid : Prop := watchRisesUptoRow.holds Tryz.pinned (OpenSpec.upto watchRisesSpec)

end Rows
end Go.Proofs.YticonknioobdjaaGreat
