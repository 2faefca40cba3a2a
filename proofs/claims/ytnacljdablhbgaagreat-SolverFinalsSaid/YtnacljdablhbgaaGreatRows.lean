/-
  NARROWER THAN 'FOR EVERY INPUT', by the rows' own cells (each row's printed sentence says how): UnifyInverts: loops · SolverFinishes: loops · SolverFinals: loops.
  DERIVED. THE GIVEN ROWS OF THIS SEAT. 3 by the template 'for every input the law returns true; each argument reads behind the call as it read before'; 0 by the template 'total and deterministic' (their statements: YtnacljdablhbgaaGreatTotals.lean).
  GIVEN WITH THE SEED: the statements are not yours to turn. If you find one false, say at which input.
  Laid BY PROGRAM, IN A SANDBOX (cutbox-rows.mjs): the forced cells as the released guide's own fill.sh prints them over the translation c67f2ed1cb08c25b… (all of the seat's roots in one cut). By AI agents, Wed Nov 11 2026. No macro, syntax, notation, axiom, sorry.
-/
import Derived.Test.YtnacljdablhbgaaGreatChecked
import GoSem.Claim
import GoSem.ClaimJoined
import GoSem.ClaimMapViews
import Derived.JoinedTies
import Derived.KernelRfl
namespace Go.Proofs.YtnacljdablhbgaaGreat
/- THE CELL 'sum', in the pinned program and in every row, IS THE sha256 OF THE DUMP (.gsa) THAT YtnacljdablhbgaaGreatProg.lean LOADS. Nothing in Lean hashes anything: it is a label: what it is worth is what the hold of that sum in a sandbox is worth. -/
noncomputable def Tryz.pinned : Pinned := { name := "ytnacljdablhbgaagreat", sum := "c67f2ed1cb08c25b246444d4b2c58f2e943be44a2c14bab98b7f8e5e051d3087", checked := Tryz.checked }
namespace Rows
def none {H : Type} : Left H := { results := [], args := [] }

/-- 'euclidlaw29.UnifyInverts': WHATEVER THE INPUT: true; the input reads as it did. -/
def unifyInvertsSpec : ChangeSpec := { name := "unifyInverts", fn := fun _ => fun
  | [d1, d2] => { results := [.lit (.bool true)], args := [d1, d2] }
  | _ => none }
def unifyInvertsRow : OpenClaim := { program := "ytnacljdablhbgaagreat", sum := "c67f2ed1cb08c25b246444d4b2c58f2e943be44a2c14bab98b7f8e5e051d3087", func := "euclid/euclidlaw29.UnifyInverts", spec := "unifyInverts", inPlace := ["slices.overlaps[euclid/api.Term]"], unfollowed := true, recurses := true, loops := true, apart := false }
def UnifyInvertsSaid : Prop := unifyInvertsRow.holds Tryz.pinned (OpenSpec.ofChange unifyInvertsSpec)

/-- ITS FALSE NEIGHBOUR: 'it returns false'. Refute it at one input. -/
def unifyInvertsWrong : ChangeSpec := { name := "unifyInverts", fn := fun _ => fun
  | [d1, d2] => { results := [.lit (.bool false)], args := [d1, d2] }
  | _ => none }
def UnifyInvertsWrongFalsely : Prop := unifyInvertsRow.holds Tryz.pinned (OpenSpec.ofChange unifyInvertsWrong)

/-- 'euclidlaw30.SolverFinishes': WHATEVER THE INPUT: true; the input reads as it did. -/
def solverFinishesSpec : ChangeSpec := { name := "solverFinishes", fn := fun _ => fun
  | [d] => { results := [.lit (.bool true)], args := [d] }
  | _ => none }
def solverFinishesRow : OpenClaim := { program := "ytnacljdablhbgaagreat", sum := "c67f2ed1cb08c25b246444d4b2c58f2e943be44a2c14bab98b7f8e5e051d3087", func := "euclid/euclidlaw30.SolverFinishes", spec := "solverFinishes", inPlace := ["slices.overlaps[euclid/api.Term]"], unfollowed := true, recurses := true, loops := true, apart := false }
def SolverFinishesSaid : Prop := solverFinishesRow.holds Tryz.pinned (OpenSpec.ofChange solverFinishesSpec)

/-- ITS FALSE NEIGHBOUR: 'it returns false'. Refute it at one input. -/
def solverFinishesWrong : ChangeSpec := { name := "solverFinishes", fn := fun _ => fun
  | [d] => { results := [.lit (.bool false)], args := [d] }
  | _ => none }
def SolverFinishesWrongFalsely : Prop := solverFinishesRow.holds Tryz.pinned (OpenSpec.ofChange solverFinishesWrong)

/-- 'euclidlaw30.SolverFinals': WHATEVER THE INPUT: true; the input reads as it did. -/
def solverFinalsSpec : ChangeSpec := { name := "solverFinals", fn := fun _ => fun
  | [d1, d2, d3] => { results := [.lit (.bool true)], args := [d1, d2, d3] }
  | _ => none }
def solverFinalsRow : OpenClaim := { program := "ytnacljdablhbgaagreat", sum := "c67f2ed1cb08c25b246444d4b2c58f2e943be44a2c14bab98b7f8e5e051d3087", func := "euclid/euclidlaw30.SolverFinals", spec := "solverFinals", inPlace := ["slices.overlaps[euclid/api.Term]"], unfollowed := true, recurses := true, loops := true, apart := false }
def SolverFinalsSaid : Prop := solverFinalsRow.holds Tryz.pinned (OpenSpec.ofChange solverFinalsSpec)

/-- ITS FALSE NEIGHBOUR: 'it returns false'. Refute it at one input. -/
def solverFinalsWrong : ChangeSpec := { name := "solverFinals", fn := fun _ => fun
  | [d1, d2, d3] => { results := [.lit (.bool false)], args := [d1, d2, d3] }
  | _ => none }
def SolverFinalsWrongFalsely : Prop := solverFinalsRow.holds Tryz.pinned (OpenSpec.ofChange solverFinalsWrong)

/- THE SECOND FORM. 'bulk': how many values and letters a reading holds, each counted each time it is reached (what is shared counts as often as it is met; a slice's spare places count too). A statement '..UptoSaid' is the law's where the arguments, and the package variables that the reading takes, are together of bulk at most 1048576: NARROWER than '..Said'. Prove '..Said' where nothing that the law and all that it calls make is longer than what came in: it says more and counts as full. Else prove '..UptoSaid'. A law counts once. -/
mutual
def uptoBulk {H : Type} : DataW H → Nat
  | .lit (.string bytes) => bytes.length + 1
  | .lit _ => 1
  | .nil => 1
  | .ptr d => uptoBulk d + 1
  | .slice elems spare => uptoBulkAll elems + uptoBulkAll spare + 1
  | .agg parts => uptoBulkAll parts + 1
  | .iface _ d => uptoBulk d + 1
  | .map entries => uptoBulkEntries entries + 1
  | .held _ => 1
def uptoBulkAll {H : Type} : List (DataW H) → Nat
  | [] => 0
  | d :: r => uptoBulk d + uptoBulkAll r
def uptoBulkEntries {H : Type} : List (Lit × DataW H) → Nat
  | [] => 0
  | x :: r => uptoBulkEntry x + uptoBulkEntries r
def uptoBulkEntry {H : Type} : Lit × DataW H → Nat
  | (.string bytes, d) => bytes.length + uptoBulk d + 1
  | (_, d) => uptoBulk d + 1
 end
def uptoSmall : (H : Type) → List (DataW H) → Bool := fun _ ds => decide (uptoBulkAll ds ≤ 1048576)
def OpenSpec.upto (s : _root_.Go.ChangeSpec) : _root_.Go.OpenSpec := { _root_.Go.OpenSpec.ofChange s with cond := some uptoSmall }

/-- 'euclidlaw29.UnifyInverts', WHERE WHAT IT READS IS OF BULK AT MOST 1048576: true; the input reads as it did. -/
def unifyInvertsUptoRow : OpenClaim := { program := "ytnacljdablhbgaagreat", sum := "c67f2ed1cb08c25b246444d4b2c58f2e943be44a2c14bab98b7f8e5e051d3087", func := "euclid/euclidlaw29.UnifyInverts", spec := "unifyInverts", inPlace := ["slices.overlaps[euclid/api.Term]"], unfollowed := true, recurses := true, loops := true, apart := false, narrowed := true }
def UnifyInvertsUptoSaid : Prop := unifyInvertsUptoRow.holds Tryz.pinned (OpenSpec.upto unifyInvertsSpec)

/-- 'euclidlaw30.SolverFinishes', WHERE WHAT IT READS IS OF BULK AT MOST 1048576: true; the input reads as it did. -/
def solverFinishesUptoRow : OpenClaim := { program := "ytnacljdablhbgaagreat", sum := "c67f2ed1cb08c25b246444d4b2c58f2e943be44a2c14bab98b7f8e5e051d3087", func := "euclid/euclidlaw30.SolverFinishes", spec := "solverFinishes", inPlace := ["slices.overlaps[euclid/api.Term]"], unfollowed := true, recurses := true, loops := true, apart := false, narrowed := true }
def SolverFinishesUptoSaid : Prop := solverFinishesUptoRow.holds Tryz.pinned (OpenSpec.upto solverFinishesSpec)

/-- 'euclidlaw30.SolverFinals', WHERE WHAT IT READS IS OF BULK AT MOST 1048576: true; the input reads as it did. -/
def solverFinalsUptoRow : OpenClaim := { program := "ytnacljdablhbgaagreat", sum := "c67f2ed1cb08c25b246444d4b2c58f2e943be44a2c14bab98b7f8e5e051d3087", func := "euclid/euclidlaw30.SolverFinals", spec := "solverFinals", inPlace := ["slices.overlaps[euclid/api.Term]"], unfollowed := true, recurses := true, loops := true, apart := false, narrowed := true }
def SolverFinalsUptoSaid : Prop := solverFinalsUptoRow.holds Tryz.pinned (OpenSpec.upto solverFinalsSpec)

end Rows
end Go.Proofs.YtnacljdablhbgaaGreat
