/-
  No cell of these rows narrows 'for every input' (looked for: loops, veiled, ifaces, maps, wideKeys, modest, calm, conditions, laid).
  DERIVED. THE GIVEN ROWS OF THIS SEAT. 3 by the template 'for every input the law returns true; each argument reads behind the call as it read before'; 0 by the template 'total and deterministic' (their statements: YtldmkafobbemjaaTotals.lean).
  GIVEN WITH THE SEED: the statements are not yours to turn. If you find one false, say at which input.
  Laid BY PROGRAM, IN A SANDBOX (cutbox-rows.mjs): the forced cells as the released guide's own fill.sh prints them over the translation d422e985a4b956f3… (all of the seat's roots in one cut). By AI agents, Wed Nov 11 2026. No macro, syntax, notation, axiom, sorry.
-/
import Derived.Test.YtldmkafobbemjaaChecked
import GoSem.Claim
import GoSem.ClaimJoined
import GoSem.ClaimMapViews
import Derived.JoinedTies
import Derived.KernelRfl
namespace Go.Proofs.Ytldmkafobbemjaa
/- THE CELL 'sum', in the pinned program and in every row, IS THE sha256 OF THE DUMP (.gsa) THAT YtldmkafobbemjaaProg.lean LOADS. Nothing in Lean hashes anything: it is a label: what it is worth is what the hold of that sum in a sandbox is worth. -/
noncomputable def Try.pinned : Pinned := { name := "ytldmkafobbemjaa", sum := "d422e985a4b956f3f3974e6fccdbcf275cf4d66d54b253de5417ad98f18cef38", checked := Try.checked }
namespace Rows
def none {H : Type} : Left H := { results := [], args := [] }

/-- 'tollhouselaw13.DeedFirsts': WHATEVER THE INPUT: true; the input reads as it did. -/
def deedFirstsSpec : ChangeSpec := { name := "deedFirsts", fn := fun _ => fun
  | [d1, d2, d3] => { results := [.lit (.bool true)], args := [d1, d2, d3] }
  | _ => none }
def deedFirstsRow : OpenClaim := { program := "ytldmkafobbemjaa", sum := "d422e985a4b956f3f3974e6fccdbcf275cf4d66d54b253de5417ad98f18cef38", func := "tollhouse/tollhouselaw13.DeedFirsts", spec := "deedFirsts", apart := false }
def DeedFirstsSaid : Prop := deedFirstsRow.holds Try.pinned (OpenSpec.ofChange deedFirstsSpec)

/-- ITS FALSE NEIGHBOUR: 'it returns false'. Refute it at one input. -/
def deedFirstsWrong : ChangeSpec := { name := "deedFirsts", fn := fun _ => fun
  | [d1, d2, d3] => { results := [.lit (.bool false)], args := [d1, d2, d3] }
  | _ => none }
def DeedFirstsWrongFalsely : Prop := deedFirstsRow.holds Try.pinned (OpenSpec.ofChange deedFirstsWrong)

/-- 'tollhouselaw13.DeedTakes': WHATEVER THE INPUT: true; the input reads as it did. -/
def deedTakesSpec : ChangeSpec := { name := "deedTakes", fn := fun _ => fun
  | [d] => { results := [.lit (.bool true)], args := [d] }
  | _ => none }
def deedTakesRow : OpenClaim := { program := "ytldmkafobbemjaa", sum := "d422e985a4b956f3f3974e6fccdbcf275cf4d66d54b253de5417ad98f18cef38", func := "tollhouse/tollhouselaw13.DeedTakes", spec := "deedTakes", apart := false }
def DeedTakesSaid : Prop := deedTakesRow.holds Try.pinned (OpenSpec.ofChange deedTakesSpec)

/-- ITS FALSE NEIGHBOUR: 'it returns false'. Refute it at one input. -/
def deedTakesWrong : ChangeSpec := { name := "deedTakes", fn := fun _ => fun
  | [d] => { results := [.lit (.bool false)], args := [d] }
  | _ => none }
def DeedTakesWrongFalsely : Prop := deedTakesRow.holds Try.pinned (OpenSpec.ofChange deedTakesWrong)

/-- 'tollhouselaw13.DeedBack': WHATEVER THE INPUT: true; the input reads as it did. -/
def deedBackSpec : ChangeSpec := { name := "deedBack", fn := fun _ => fun
  | [d1, d2] => { results := [.lit (.bool true)], args := [d1, d2] }
  | _ => none }
def deedBackRow : OpenClaim := { program := "ytldmkafobbemjaa", sum := "d422e985a4b956f3f3974e6fccdbcf275cf4d66d54b253de5417ad98f18cef38", func := "tollhouse/tollhouselaw13.DeedBack", spec := "deedBack", apart := false }
def DeedBackSaid : Prop := deedBackRow.holds Try.pinned (OpenSpec.ofChange deedBackSpec)

/-- ITS FALSE NEIGHBOUR: 'it returns false'. Refute it at one input. -/
def deedBackWrong : ChangeSpec := { name := "deedBack", fn := fun _ => fun
  | [d1, d2] => { results := [.lit (.bool false)], args := [d1, d2] }
  | _ => none }
def DeedBackWrongFalsely : Prop := deedBackRow.holds Try.pinned (OpenSpec.ofChange deedBackWrong)

/- THE SECOND FORM. 'bulk': how many values and letters a reading holds, each counted each time it is reached (what is shared counts as often as it is met; a slice's spare places count too). A statement '..UptoSaid' is the law's where the arguments, and the package variables that the reading takes, are together of bulk at most 1048576: NARROWER than '..Said'. Prove '..Said' where nothing that the law and all that it calls make is longer than what came in: it says more and counts as full. Else prove '..UptoSaid'. A law counts once. -/
mutual
def uptoBulk {H : Type} : DataW H → Nat
  | .lit (.string bytes) => bytes.length + 1
  | .lit _ => 1
  | .nil => 1
  | .ptr d => uptoBulk d + 1
  | .slice elems spare => uptoBulkAll elems + uptoBulkAll spare + 1
  | .agg parts => uptoBulkAll parts + 1
  | .iface _ d => uptoBulk d + 1
  | .map entries => uptoBulkEntries entries + 1
  | .held _ => 1
def uptoBulkAll {H : Type} : List (DataW H) → Nat
  | [] => 0
  | d :: r => uptoBulk d + uptoBulkAll r
def uptoBulkEntries {H : Type} : List (Lit × DataW H) → Nat
  | [] => 0
  | x :: r => uptoBulkEntry x + uptoBulkEntries r
def uptoBulkEntry {H : Type} : Lit × DataW H → Nat
  | (.string bytes, d) => bytes.length + uptoBulk d + 1
  | (_, d) => uptoBulk d + 1
 end
def uptoSmall : (H : Type) → List (DataW H) → Bool := fun _ ds => decide (uptoBulkAll ds ≤ 1048576)
def OpenSpec.upto (s : _root_.Go.ChangeSpec) : _root_.Go.OpenSpec := { _root_.Go.OpenSpec.ofChange s with cond := some uptoSmall }

/-- 'tollhouselaw13.DeedFirsts', WHERE WHAT IT READS IS OF BULK AT MOST 1048576: true; the input reads as it did. -/
def deedFirstsUptoRow : OpenClaim := { program := "ytldmkafobbemjaa", sum := "d422e985a4b956f3f3974e6fccdbcf275cf4d66d54b253de5417ad98f18cef38", func := "tollhouse/tollhouselaw13.DeedFirsts", spec := "deedFirsts", apart := false, narrowed := true }
def DeedFirstsUptoSaid : Prop := deedFirstsUptoRow.holds Try.pinned (OpenSpec.upto deedFirstsSpec)

/-- 'tollhouselaw13.DeedTakes', WHERE WHAT IT READS IS OF BULK AT MOST 1048576: true; the input reads as it did. -/
def deedTakesUptoRow : OpenClaim := { program := "ytldmkafobbemjaa", sum := "d422e985a4b956f3f3974e6fccdbcf275cf4d66d54b253de5417ad98f18cef38", func := "tollhouse/tollhouselaw13.DeedTakes", spec := "deedTakes", apart := false, narrowed := true }
def DeedTakesUptoSaid : Prop := deedTakesUptoRow.holds Try.pinned (OpenSpec.upto deedTakesSpec)

/-- 'tollhouselaw13.DeedBack', WHERE WHAT IT READS IS OF BULK AT MOST 1048576: true; the input reads as it did. -/
def deedBackUptoRow : OpenClaim := { program := "ytldmkafobbemjaa", sum := "d422e985a4b956f3f3974e6fccdbcf275cf4d66d54b253de5417ad98f18cef38", func := "tollhouse/tollhouselaw13.DeedBack", spec := "deedBack", apart := false, narrowed := true }
def DeedBackUptoSaid : Prop := deedBackUptoRow.holds Try.pinned (OpenSpec.upto deedBackSpec)

end Rows
end Go.Proofs.Ytldmkafobbemjaa
