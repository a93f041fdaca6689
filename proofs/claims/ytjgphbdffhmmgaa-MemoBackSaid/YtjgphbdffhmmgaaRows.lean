/-
  No cell of these rows narrows 'for every input' (looked for: loops, veiled, ifaces, maps, wideKeys, modest, calm, conditions, laid).
  DERIVED. THE GIVEN ROWS OF THIS SEAT. 2 by the template 'for every input the law returns true; each argument reads behind the call as it read before'; 0 by the template 'total and deterministic' (their statements: YtjgphbdffhmmgaaTotals.lean).
  GIVEN WITH THE SEED: the statements are not yours to turn. If you find one false, say at which input.
  Laid BY PROGRAM, IN A SANDBOX (cutbox-rows.mjs): the forced cells as the released guide's own fill.sh prints them over the translation 0e0ed1bc8f5672f8… (all of the seat's roots in one cut). By AI agents, Wed Nov 11 2026. No macro, syntax, notation, axiom, sorry.
-/
import Derived.Test.YtjgphbdffhmmgaaChecked
import GoSem.Claim
import GoSem.ClaimJoined
import GoSem.ClaimMapViews
import Derived.JoinedTies
import Derived.KernelRfl
namespace Go.Proofs.Ytjgphbdffhmmgaa
/- THE CELL 'sum', in the pinned program and in every row, IS THE sha256 OF THE DUMP (.gsa) THAT YtjgphbdffhmmgaaProg.lean LOADS. Nothing in Lean hashes anything: it is a label: what it is worth is what the hold of that sum in a sandbox is worth. -/
noncomputable def Try.pinned : Pinned := { name := "ytjgphbdffhmmgaa", sum := "0e0ed1bc8f5672f8c45ea84b4b8dfcc63696ed11b00fd7886c8db51758a565af", checked := Try.checked }
namespace Rows
def none {H : Type} : Left H := { results := [], args := [] }

/-- 'tollhouselaw18.MemoReads': WHATEVER THE INPUT: true; the input reads as it did. -/
def memoReadsSpec : ChangeSpec := { name := "memoReads", fn := fun _ => fun
  | [d] => { results := [.lit (.bool true)], args := [d] }
  | _ => none }
def memoReadsRow : OpenClaim := { program := "ytjgphbdffhmmgaa", sum := "0e0ed1bc8f5672f8c45ea84b4b8dfcc63696ed11b00fd7886c8db51758a565af", func := "tollhouse/tollhouselaw18.MemoReads", spec := "memoReads", apart := false }
def MemoReadsSaid : Prop := memoReadsRow.holds Try.pinned (OpenSpec.ofChange memoReadsSpec)

/-- ITS FALSE NEIGHBOUR: 'it returns false'. Refute it at one input. -/
def memoReadsWrong : ChangeSpec := { name := "memoReads", fn := fun _ => fun
  | [d] => { results := [.lit (.bool false)], args := [d] }
  | _ => none }
def MemoReadsWrongFalsely : Prop := memoReadsRow.holds Try.pinned (OpenSpec.ofChange memoReadsWrong)

/-- 'tollhouselaw18.MemoBack': WHATEVER THE INPUT: true; the input reads as it did. -/
def memoBackSpec : ChangeSpec := { name := "memoBack", fn := fun _ => fun
  | [d1, d2] => { results := [.lit (.bool true)], args := [d1, d2] }
  | _ => none }
def memoBackRow : OpenClaim := { program := "ytjgphbdffhmmgaa", sum := "0e0ed1bc8f5672f8c45ea84b4b8dfcc63696ed11b00fd7886c8db51758a565af", func := "tollhouse/tollhouselaw18.MemoBack", spec := "memoBack", apart := false }
def MemoBackSaid : Prop := memoBackRow.holds Try.pinned (OpenSpec.ofChange memoBackSpec)

/-- ITS FALSE NEIGHBOUR: 'it returns false'. Refute it at one input. -/
def memoBackWrong : ChangeSpec := { name := "memoBack", fn := fun _ => fun
  | [d1, d2] => { results := [.lit (.bool false)], args := [d1, d2] }
  | _ => none }
def MemoBackWrongFalsely : Prop := memoBackRow.holds Try.pinned (OpenSpec.ofChange memoBackWrong)

/- THE SECOND FORM. 'bulk': how many values and letters a reading holds, each counted each time it is reached (what is shared counts as often as it is met; a slice's spare places count too). A statement '..UptoSaid' is the law's where the arguments, and the package variables that the reading takes, are together of bulk at most 1048576: NARROWER than '..Said'. Prove '..Said' where nothing that the law and all that it calls make is longer than what came in: it says more and counts as full. Else prove '..UptoSaid'. A law counts once. -/
mutual
def uptoBulk {H : Type} : DataW H → Nat
  | .lit (.string bytes) => bytes.length + 1
  | .lit _ => 1
  | .nil => 1
  | .ptr d => uptoBulk d + 1
  | .slice elems spare => uptoBulkAll elems + uptoBulkAll spare + 1
  | .agg parts => uptoBulkAll parts + 1
  | .iface _ d => uptoBulk d + 1
  | .map entries => uptoBulkEntries entries + 1
  | .held _ => 1
def uptoBulkAll {H : Type} : List (DataW H) → Nat
  | [] => 0
  | d :: r => uptoBulk d + uptoBulkAll r
def uptoBulkEntries {H : Type} : List (Lit × DataW H) → Nat
  | [] => 0
  | x :: r => uptoBulkEntry x + uptoBulkEntries r
def uptoBulkEntry {H : Type} : Lit × DataW H → Nat
  | (.string bytes, d) => bytes.length + uptoBulk d + 1
  | (_, d) => uptoBulk d + 1
 end
def uptoSmall : (H : Type) → List (DataW H) → Bool := fun _ ds => decide (uptoBulkAll ds ≤ 1048576)
def OpenSpec.upto (s : _root_.Go.ChangeSpec) : _root_.Go.OpenSpec := { _root_.Go.OpenSpec.ofChange s with cond := some uptoSmall }

/-- 'tollhouselaw18.MemoReads', WHERE WHAT IT READS IS OF BULK AT MOST 1048576: true; the input reads as it did. -/
def memoReadsUptoRow : OpenClaim := { program := "ytjgphbdffhmmgaa", sum := "0e0ed1bc8f5672f8c45ea84b4b8dfcc63696ed11b00fd7886c8db51758a565af", func := "tollhouse/tollhouselaw18.MemoReads", spec := "memoReads", apart := false, narrowed := true }
def MemoReadsUptoSaid : Prop := memoReadsUptoRow.holds Try.pinned (OpenSpec.upto memoReadsSpec)

/-- 'tollhouselaw18.MemoBack', WHERE WHAT IT READS IS OF BULK AT MOST 1048576: true; the input reads as it did. -/
def memoBackUptoRow : OpenClaim := { program := "ytjgphbdffhmmgaa", sum := "0e0ed1bc8f5672f8c45ea84b4b8dfcc63696ed11b00fd7886c8db51758a565af", func := "tollhouse/tollhouselaw18.MemoBack", spec := "memoBack", apart := false, narrowed := true }
def MemoBackUptoSaid : Prop := memoBackUptoRow.holds Try.pinned (OpenSpec.upto memoBackSpec)

end Rows
end Go.Proofs.Ytjgphbdffhmmgaa
