/-
  No cell of these rows narrows 'for every input' (looked for: loops, veiled, ifaces, maps, wideKeys, modest, calm, conditions, laid).
  DERIVED. THE GIVEN ROWS OF THIS SEAT. 5 by the template 'for every input the law returns true; each argument reads behind the call as it read before'; 0 by the template 'total and deterministic' (their statements: YtnmahbpkaocjdaaTotals.lean).
  GIVEN WITH THE SEED: the statements are not yours to turn. If you find one false, say at which input.
  Laid BY PROGRAM, IN A SANDBOX (cutbox-rows.mjs): the forced cells as the released guide's own fill.sh prints them over the translation dd4a73c74fea19d4… (all of the seat's roots in one cut). By AI agents, Wed Nov 11 2026. No macro, syntax, notation, axiom, sorry.
-/
import Derived.Test.YtnmahbpkaocjdaaChecked
import GoSem.Claim
import GoSem.ClaimJoined
import GoSem.ClaimMapViews
import Derived.JoinedTies
import Derived.KernelRfl
namespace Go.Proofs.Ytnmahbpkaocjdaa
/- THE CELL 'sum', in the pinned program and in every row, IS THE sha256 OF THE DUMP (.gsa) THAT YtnmahbpkaocjdaaProg.lean LOADS. Nothing in Lean hashes anything: it is a label: what it is worth is what the hold of that sum in a sandbox is worth. -/
noncomputable def Try.pinned : Pinned := { name := "ytnmahbpkaocjdaa", sum := "dd4a73c74fea19d4f98bc13b633172883cc245e0b406119fcbe0fce7c8d9399b", checked := Try.checked }
namespace Rows
def none {H : Type} : Left H := { results := [], args := [] }

/-- 'lorgnettelaw16.PipeOrder': WHATEVER THE INPUT: true; the input reads as it did. -/
def pipeOrderSpec : ChangeSpec := { name := "pipeOrder", fn := fun _ => fun
  | [d1, d2, d3] => { results := [.lit (.bool true)], args := [d1, d2, d3] }
  | _ => none }
def pipeOrderRow : OpenClaim := { program := "ytnmahbpkaocjdaa", sum := "dd4a73c74fea19d4f98bc13b633172883cc245e0b406119fcbe0fce7c8d9399b", func := "lorgnette/lorgnettelaw16.PipeOrder", spec := "pipeOrder", plainKeys := false, apart := false }
def PipeOrderSaid : Prop := pipeOrderRow.holds Try.pinned (OpenSpec.ofChange pipeOrderSpec)

/-- ITS FALSE NEIGHBOUR: 'it returns false'. Refute it at one input. -/
def pipeOrderWrong : ChangeSpec := { name := "pipeOrder", fn := fun _ => fun
  | [d1, d2, d3] => { results := [.lit (.bool false)], args := [d1, d2, d3] }
  | _ => none }
def PipeOrderWrongFalsely : Prop := pipeOrderRow.holds Try.pinned (OpenSpec.ofChange pipeOrderWrong)

/-- 'lorgnettelaw16.PipeExact': WHATEVER THE INPUT: true; the input reads as it did. -/
def pipeExactSpec : ChangeSpec := { name := "pipeExact", fn := fun _ => fun
  | [d] => { results := [.lit (.bool true)], args := [d] }
  | _ => none }
def pipeExactRow : OpenClaim := { program := "ytnmahbpkaocjdaa", sum := "dd4a73c74fea19d4f98bc13b633172883cc245e0b406119fcbe0fce7c8d9399b", func := "lorgnette/lorgnettelaw16.PipeExact", spec := "pipeExact", plainKeys := false, apart := false }
def PipeExactSaid : Prop := pipeExactRow.holds Try.pinned (OpenSpec.ofChange pipeExactSpec)

/-- ITS FALSE NEIGHBOUR: 'it returns false'. Refute it at one input. -/
def pipeExactWrong : ChangeSpec := { name := "pipeExact", fn := fun _ => fun
  | [d] => { results := [.lit (.bool false)], args := [d] }
  | _ => none }
def PipeExactWrongFalsely : Prop := pipeExactRow.holds Try.pinned (OpenSpec.ofChange pipeExactWrong)

/-- 'lorgnettelaw07.ScopeApart': WHATEVER THE INPUT: true; the input reads as it did. -/
def scopeApartSpec : ChangeSpec := { name := "scopeApart", fn := fun _ => fun
  | [d1, d2, d3] => { results := [.lit (.bool true)], args := [d1, d2, d3] }
  | _ => none }
def scopeApartRow : OpenClaim := { program := "ytnmahbpkaocjdaa", sum := "dd4a73c74fea19d4f98bc13b633172883cc245e0b406119fcbe0fce7c8d9399b", func := "lorgnette/lorgnettelaw07.ScopeApart", spec := "scopeApart", plainKeys := false, apart := false }
def ScopeApartSaid : Prop := scopeApartRow.holds Try.pinned (OpenSpec.ofChange scopeApartSpec)

/-- ITS FALSE NEIGHBOUR: 'it returns false'. Refute it at one input. -/
def scopeApartWrong : ChangeSpec := { name := "scopeApart", fn := fun _ => fun
  | [d1, d2, d3] => { results := [.lit (.bool false)], args := [d1, d2, d3] }
  | _ => none }
def ScopeApartWrongFalsely : Prop := scopeApartRow.holds Try.pinned (OpenSpec.ofChange scopeApartWrong)

/-- 'lorgnettelaw07.ScopeExact': WHATEVER THE INPUT: true; the input reads as it did. -/
def scopeExactSpec : ChangeSpec := { name := "scopeExact", fn := fun _ => fun
  | [d1, d2] => { results := [.lit (.bool true)], args := [d1, d2] }
  | _ => none }
def scopeExactRow : OpenClaim := { program := "ytnmahbpkaocjdaa", sum := "dd4a73c74fea19d4f98bc13b633172883cc245e0b406119fcbe0fce7c8d9399b", func := "lorgnette/lorgnettelaw07.ScopeExact", spec := "scopeExact", plainKeys := false, apart := false }
def ScopeExactSaid : Prop := scopeExactRow.holds Try.pinned (OpenSpec.ofChange scopeExactSpec)

/-- ITS FALSE NEIGHBOUR: 'it returns false'. Refute it at one input. -/
def scopeExactWrong : ChangeSpec := { name := "scopeExact", fn := fun _ => fun
  | [d1, d2] => { results := [.lit (.bool false)], args := [d1, d2] }
  | _ => none }
def ScopeExactWrongFalsely : Prop := scopeExactRow.holds Try.pinned (OpenSpec.ofChange scopeExactWrong)

/-- 'lorgnettelaw07.ScopeNests': WHATEVER THE INPUT: true; the input reads as it did. -/
def scopeNestsSpec : ChangeSpec := { name := "scopeNests", fn := fun _ => fun
  | [d] => { results := [.lit (.bool true)], args := [d] }
  | _ => none }
def scopeNestsRow : OpenClaim := { program := "ytnmahbpkaocjdaa", sum := "dd4a73c74fea19d4f98bc13b633172883cc245e0b406119fcbe0fce7c8d9399b", func := "lorgnette/lorgnettelaw07.ScopeNests", spec := "scopeNests", plainKeys := false, apart := false }
def ScopeNestsSaid : Prop := scopeNestsRow.holds Try.pinned (OpenSpec.ofChange scopeNestsSpec)

/-- ITS FALSE NEIGHBOUR: 'it returns false'. Refute it at one input. -/
def scopeNestsWrong : ChangeSpec := { name := "scopeNests", fn := fun _ => fun
  | [d] => { results := [.lit (.bool false)], args := [d] }
  | _ => none }
def ScopeNestsWrongFalsely : Prop := scopeNestsRow.holds Try.pinned (OpenSpec.ofChange scopeNestsWrong)

/- THE SECOND FORM. 'bulk': how many values and letters a reading holds, each counted each time it is reached (what is shared counts as often as it is met; a slice's spare places count too). A statement '..UptoSaid' is the law's where the arguments, and the package variables that the reading takes, are together of bulk at most 1048576: NARROWER than '..Said'. Prove '..Said' where nothing that the law and all that it calls make is longer than what came in: it says more and counts as full. Else prove '..UptoSaid'. A law counts once. -/
mutual
def uptoBulk {H : Type} : DataW H → Nat
  | .lit (.string bytes) => bytes.length + 1
  | .lit _ => 1
  | .nil => 1
  | .ptr d => uptoBulk d + 1
  | .slice elems spare => uptoBulkAll elems + uptoBulkAll spare + 1
  | .agg parts => uptoBulkAll parts + 1
  | .iface _ d => uptoBulk d + 1
  | .map entries => uptoBulkEntries entries + 1
  | .held _ => 1
def uptoBulkAll {H : Type} : List (DataW H) → Nat
  | [] => 0
  | d :: r => uptoBulk d + uptoBulkAll r
def uptoBulkEntries {H : Type} : List (Lit × DataW H) → Nat
  | [] => 0
  | x :: r => uptoBulkEntry x + uptoBulkEntries r
def uptoBulkEntry {H : Type} : Lit × DataW H → Nat
  | (.string bytes, d) => bytes.length + uptoBulk d + 1
  | (_, d) => uptoBulk d + 1
 end
def uptoSmall : (H : Type) → List (DataW H) → Bool := fun _ ds => decide (uptoBulkAll ds ≤ 1048576)
def OpenSpec.upto (s : _root_.Go.ChangeSpec) : _root_.Go.OpenSpec := { _root_.Go.OpenSpec.ofChange s with cond := some uptoSmall }

/-- 'lorgnettelaw16.PipeOrder', WHERE WHAT IT READS IS OF BULK AT MOST 1048576: true; the input reads as it did. -/
def pipeOrderUptoRow : OpenClaim := { program := "ytnmahbpkaocjdaa", sum := "dd4a73c74fea19d4f98bc13b633172883cc245e0b406119fcbe0fce7c8d9399b", func := "lorgnette/lorgnettelaw16.PipeOrder", spec := "pipeOrder", plainKeys := false, apart := false, narrowed := true }
def PipeOrderUptoSaid : Prop := pipeOrderUptoRow.holds Try.pinned (OpenSpec.upto pipeOrderSpec)

/-- 'lorgnettelaw16.PipeExact', WHERE WHAT IT READS IS OF BULK AT MOST 1048576: true; the input reads as it did. -/
def pipeExactUptoRow : OpenClaim := { program := "ytnmahbpkaocjdaa", sum := "dd4a73c74fea19d4f98bc13b633172883cc245e0b406119fcbe0fce7c8d9399b", func := "lorgnette/lorgnettelaw16.PipeExact", spec := "pipeExact", plainKeys := false, apart := false, narrowed := true }
def PipeExactUptoSaid : Prop := pipeExactUptoRow.holds Try.pinned (OpenSpec.upto pipeExactSpec)

/-- 'lorgnettelaw07.ScopeApart', WHERE WHAT IT READS IS OF BULK AT MOST 1048576: true; the input reads as it did. -/
def scopeApartUptoRow : OpenClaim := { program := "ytnmahbpkaocjdaa", sum := "dd4a73c74fea19d4f98bc13b633172883cc245e0b406119fcbe0fce7c8d9399b", func := "lorgnette/lorgnettelaw07.ScopeApart", spec := "scopeApart", plainKeys := false, apart := false, narrowed := true }
def ScopeApartUptoSaid : Prop := scopeApartUptoRow.holds Try.pinned (OpenSpec.upto scopeApartSpec)

/-- 'lorgnettelaw07.ScopeExact', WHERE WHAT IT READS IS OF BULK AT MOST 1048576: true; the input reads as it did. -/
def scopeExactUptoRow : OpenClaim := { program := "ytnmahbpkaocjdaa", sum := "dd4a73c74fea19d4f98bc13b633172883cc245e0b406119fcbe0fce7c8d9399b", func := "lorgnette/lorgnettelaw07.ScopeExact", spec := "scopeExact", plainKeys := false, apart := false, narrowed := true }
def ScopeExactUptoSaid : Prop := scopeExactUptoRow.holds Try.pinned (OpenSpec.upto scopeExactSpec)

/-- 'lorgnettelaw07.ScopeNests', WHERE WHAT IT READS IS OF BULK AT MOST 1048576: true; the input reads as it did. -/
def scopeNestsUptoRow : OpenClaim := { program := "ytnmahbpkaocjdaa", sum := "dd4a73c74fea19d4f98bc13b633172883cc245e0b406119fcbe0fce7c8d9399b", func := "lorgnette/lorgnettelaw07.ScopeNests", spec := "scopeNests", plainKeys := false, apart := false, narrowed := true }
def ScopeNestsUptoSaid : Prop := scopeNestsUptoRow.holds Try.pinned (OpenSpec.upto scopeNestsSpec)

end Rows
end Go.Proofs.Ytnmahbpkaocjdaa
