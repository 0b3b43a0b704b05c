/-
  No cell of these rows narrows 'for every input' (looked for: loops, veiled, ifaces, maps, wideKeys, modest, calm, conditions, laid).
  DERIVED. THE GIVEN ROWS OF THIS SEAT. 22 by the template 'for every input the law returns true; each argument reads behind the call as it read before'; 0 by the template 'total and deterministic' (their statements: YtnmkkflnehnioaaTotals.lean).
  GIVEN WITH THE SEED: the statements are not yours to turn. If you find one false, say at which input.
  Laid BY PROGRAM, IN A SANDBOX (cutbox-rows.mjs): the forced cells as the released guide's own fill.sh prints them over the translation ae895096d3430560… (all of the seat's roots in one cut). By AI agents, Wed Nov 11 2026. No macro, syntax, notation, axiom, sorry.
-/
import Derived.Test.YtnmkkflnehnioaaChecked
import GoSem.Claim
import GoSem.ClaimJoined
import GoSem.ClaimMapViews
import Derived.JoinedTies
import Derived.KernelRfl
namespace Go.Proofs.Ytnmkkflnehnioaa
/- THE CELL 'sum', in the pinned program and in every row, IS THE sha256 OF THE DUMP (.gsa) THAT YtnmkkflnehnioaaProg.lean LOADS. Nothing in Lean hashes anything: it is a label: what it is worth is what the hold of that sum in a sandbox is worth. -/
noncomputable def Try.pinned : Pinned := { name := "ytnmkkflnehnioaa", sum := "ae895096d3430560ecd531cdbc6eb6d084ab5c7d74b3e15f8943fcb89a6a3b97", checked := Try.checked }
namespace Rows
def none {H : Type} : Left H := { results := [], args := [] }

/-- 'tegulalaw05.SmallfieldAxioms': WHATEVER THE INPUT: true; the input reads as it did. -/
def smallfieldAxiomsSpec : ChangeSpec := { name := "smallfieldAxioms", fn := fun _ => fun
  | [d1, d2] => { results := [.lit (.bool true)], args := [d1, d2] }
  | _ => none }
def smallfieldAxiomsRow : OpenClaim := { program := "ytnmkkflnehnioaa", sum := "ae895096d3430560ecd531cdbc6eb6d084ab5c7d74b3e15f8943fcb89a6a3b97", func := "tegula/tegulalaw05.SmallfieldAxioms", spec := "smallfieldAxioms", unfollowed := true, recurses := true, plainKeys := false, apart := false }
def SmallfieldAxiomsSaid : Prop := smallfieldAxiomsRow.holds Try.pinned (OpenSpec.ofChange smallfieldAxiomsSpec)

/-- ITS FALSE NEIGHBOUR: 'it returns false'. Refute it at one input. -/
def smallfieldAxiomsWrong : ChangeSpec := { name := "smallfieldAxioms", fn := fun _ => fun
  | [d1, d2] => { results := [.lit (.bool false)], args := [d1, d2] }
  | _ => none }
def SmallfieldAxiomsWrongFalsely : Prop := smallfieldAxiomsRow.holds Try.pinned (OpenSpec.ofChange smallfieldAxiomsWrong)

/-- 'tegulalaw05.SmallfieldCyclic': WHATEVER THE INPUT: true; the input reads as it did. -/
def smallfieldCyclicSpec : ChangeSpec := { name := "smallfieldCyclic", fn := fun _ => fun
  | [d] => { results := [.lit (.bool true)], args := [d] }
  | _ => none }
def smallfieldCyclicRow : OpenClaim := { program := "ytnmkkflnehnioaa", sum := "ae895096d3430560ecd531cdbc6eb6d084ab5c7d74b3e15f8943fcb89a6a3b97", func := "tegula/tegulalaw05.SmallfieldCyclic", spec := "smallfieldCyclic", unfollowed := true, recurses := true, plainKeys := false, apart := false }
def SmallfieldCyclicSaid : Prop := smallfieldCyclicRow.holds Try.pinned (OpenSpec.ofChange smallfieldCyclicSpec)

/-- ITS FALSE NEIGHBOUR: 'it returns false'. Refute it at one input. -/
def smallfieldCyclicWrong : ChangeSpec := { name := "smallfieldCyclic", fn := fun _ => fun
  | [d] => { results := [.lit (.bool false)], args := [d] }
  | _ => none }
def SmallfieldCyclicWrongFalsely : Prop := smallfieldCyclicRow.holds Try.pinned (OpenSpec.ofChange smallfieldCyclicWrong)

/-- 'tegulalaw05.SmallfieldTables': WHATEVER THE INPUT: true; the input reads as it did. -/
def smallfieldTablesSpec : ChangeSpec := { name := "smallfieldTables", fn := fun _ => fun
  | [d1, d2, d3] => { results := [.lit (.bool true)], args := [d1, d2, d3] }
  | _ => none }
def smallfieldTablesRow : OpenClaim := { program := "ytnmkkflnehnioaa", sum := "ae895096d3430560ecd531cdbc6eb6d084ab5c7d74b3e15f8943fcb89a6a3b97", func := "tegula/tegulalaw05.SmallfieldTables", spec := "smallfieldTables", unfollowed := true, recurses := true, plainKeys := false, apart := false }
def SmallfieldTablesSaid : Prop := smallfieldTablesRow.holds Try.pinned (OpenSpec.ofChange smallfieldTablesSpec)

/-- ITS FALSE NEIGHBOUR: 'it returns false'. Refute it at one input. -/
def smallfieldTablesWrong : ChangeSpec := { name := "smallfieldTables", fn := fun _ => fun
  | [d1, d2, d3] => { results := [.lit (.bool false)], args := [d1, d2, d3] }
  | _ => none }
def SmallfieldTablesWrongFalsely : Prop := smallfieldTablesRow.holds Try.pinned (OpenSpec.ofChange smallfieldTablesWrong)

/-- 'tegulalaw05.SmallfieldInverses': WHATEVER THE INPUT: true; the input reads as it did. -/
def smallfieldInversesSpec : ChangeSpec := { name := "smallfieldInverses", fn := fun _ => fun
  | [d1, d2] => { results := [.lit (.bool true)], args := [d1, d2] }
  | _ => none }
def smallfieldInversesRow : OpenClaim := { program := "ytnmkkflnehnioaa", sum := "ae895096d3430560ecd531cdbc6eb6d084ab5c7d74b3e15f8943fcb89a6a3b97", func := "tegula/tegulalaw05.SmallfieldInverses", spec := "smallfieldInverses", unfollowed := true, recurses := true, plainKeys := false, apart := false }
def SmallfieldInversesSaid : Prop := smallfieldInversesRow.holds Try.pinned (OpenSpec.ofChange smallfieldInversesSpec)

/-- ITS FALSE NEIGHBOUR: 'it returns false'. Refute it at one input. -/
def smallfieldInversesWrong : ChangeSpec := { name := "smallfieldInverses", fn := fun _ => fun
  | [d1, d2] => { results := [.lit (.bool false)], args := [d1, d2] }
  | _ => none }
def SmallfieldInversesWrongFalsely : Prop := smallfieldInversesRow.holds Try.pinned (OpenSpec.ofChange smallfieldInversesWrong)

/-- 'tegulalaw05.SmallfieldPrime': WHATEVER THE INPUT: true; the input reads as it did. -/
def smallfieldPrimeSpec : ChangeSpec := { name := "smallfieldPrime", fn := fun _ => fun
  | [d1, d2] => { results := [.lit (.bool true)], args := [d1, d2] }
  | _ => none }
def smallfieldPrimeRow : OpenClaim := { program := "ytnmkkflnehnioaa", sum := "ae895096d3430560ecd531cdbc6eb6d084ab5c7d74b3e15f8943fcb89a6a3b97", func := "tegula/tegulalaw05.SmallfieldPrime", spec := "smallfieldPrime", unfollowed := true, recurses := true, plainKeys := false, apart := false }
def SmallfieldPrimeSaid : Prop := smallfieldPrimeRow.holds Try.pinned (OpenSpec.ofChange smallfieldPrimeSpec)

/-- ITS FALSE NEIGHBOUR: 'it returns false'. Refute it at one input. -/
def smallfieldPrimeWrong : ChangeSpec := { name := "smallfieldPrime", fn := fun _ => fun
  | [d1, d2] => { results := [.lit (.bool false)], args := [d1, d2] }
  | _ => none }
def SmallfieldPrimeWrongFalsely : Prop := smallfieldPrimeRow.holds Try.pinned (OpenSpec.ofChange smallfieldPrimeWrong)

/-- 'tegulalaw05.SmallfieldNil': WHATEVER THE INPUT: true; the input reads as it did. -/
def smallfieldNilSpec : ChangeSpec := { name := "smallfieldNil", fn := fun _ => fun
  | [d1, d2] => { results := [.lit (.bool true)], args := [d1, d2] }
  | _ => none }
def smallfieldNilRow : OpenClaim := { program := "ytnmkkflnehnioaa", sum := "ae895096d3430560ecd531cdbc6eb6d084ab5c7d74b3e15f8943fcb89a6a3b97", func := "tegula/tegulalaw05.SmallfieldNil", spec := "smallfieldNil", unfollowed := true, recurses := true, plainKeys := false, apart := false }
def SmallfieldNilSaid : Prop := smallfieldNilRow.holds Try.pinned (OpenSpec.ofChange smallfieldNilSpec)

/-- ITS FALSE NEIGHBOUR: 'it returns false'. Refute it at one input. -/
def smallfieldNilWrong : ChangeSpec := { name := "smallfieldNil", fn := fun _ => fun
  | [d1, d2] => { results := [.lit (.bool false)], args := [d1, d2] }
  | _ => none }
def SmallfieldNilWrongFalsely : Prop := smallfieldNilRow.holds Try.pinned (OpenSpec.ofChange smallfieldNilWrong)

/-- 'tegulalaw05.SmallfieldSizes': WHATEVER THE INPUT: true; the input reads as it did. -/
def smallfieldSizesSpec : ChangeSpec := { name := "smallfieldSizes", fn := fun _ => fun
  | [d] => { results := [.lit (.bool true)], args := [d] }
  | _ => none }
def smallfieldSizesRow : OpenClaim := { program := "ytnmkkflnehnioaa", sum := "ae895096d3430560ecd531cdbc6eb6d084ab5c7d74b3e15f8943fcb89a6a3b97", func := "tegula/tegulalaw05.SmallfieldSizes", spec := "smallfieldSizes", unfollowed := true, recurses := true, plainKeys := false, apart := false }
def SmallfieldSizesSaid : Prop := smallfieldSizesRow.holds Try.pinned (OpenSpec.ofChange smallfieldSizesSpec)

/-- ITS FALSE NEIGHBOUR: 'it returns false'. Refute it at one input. -/
def smallfieldSizesWrong : ChangeSpec := { name := "smallfieldSizes", fn := fun _ => fun
  | [d] => { results := [.lit (.bool false)], args := [d] }
  | _ => none }
def SmallfieldSizesWrongFalsely : Prop := smallfieldSizesRow.holds Try.pinned (OpenSpec.ofChange smallfieldSizesWrong)

/-- 'tegulalaw06.PlaneProjective': WHATEVER THE INPUT: true; the input reads as it did. -/
def planeProjectiveSpec : ChangeSpec := { name := "planeProjective", fn := fun _ => fun
  | [d] => { results := [.lit (.bool true)], args := [d] }
  | _ => none }
def planeProjectiveRow : OpenClaim := { program := "ytnmkkflnehnioaa", sum := "ae895096d3430560ecd531cdbc6eb6d084ab5c7d74b3e15f8943fcb89a6a3b97", func := "tegula/tegulalaw06.PlaneProjective", spec := "planeProjective", unfollowed := true, recurses := true, plainKeys := false, apart := false }
def PlaneProjectiveSaid : Prop := planeProjectiveRow.holds Try.pinned (OpenSpec.ofChange planeProjectiveSpec)

/-- ITS FALSE NEIGHBOUR: 'it returns false'. Refute it at one input. -/
def planeProjectiveWrong : ChangeSpec := { name := "planeProjective", fn := fun _ => fun
  | [d] => { results := [.lit (.bool false)], args := [d] }
  | _ => none }
def PlaneProjectiveWrongFalsely : Prop := planeProjectiveRow.holds Try.pinned (OpenSpec.ofChange planeProjectiveWrong)

/-- 'tegulalaw06.PlaneAffine': WHATEVER THE INPUT: true; the input reads as it did. -/
def planeAffineSpec : ChangeSpec := { name := "planeAffine", fn := fun _ => fun
  | [d] => { results := [.lit (.bool true)], args := [d] }
  | _ => none }
def planeAffineRow : OpenClaim := { program := "ytnmkkflnehnioaa", sum := "ae895096d3430560ecd531cdbc6eb6d084ab5c7d74b3e15f8943fcb89a6a3b97", func := "tegula/tegulalaw06.PlaneAffine", spec := "planeAffine", unfollowed := true, recurses := true, plainKeys := false, apart := false }
def PlaneAffineSaid : Prop := planeAffineRow.holds Try.pinned (OpenSpec.ofChange planeAffineSpec)

/-- ITS FALSE NEIGHBOUR: 'it returns false'. Refute it at one input. -/
def planeAffineWrong : ChangeSpec := { name := "planeAffine", fn := fun _ => fun
  | [d] => { results := [.lit (.bool false)], args := [d] }
  | _ => none }
def PlaneAffineWrongFalsely : Prop := planeAffineRow.holds Try.pinned (OpenSpec.ofChange planeAffineWrong)

/-- 'tegulalaw06.PlaneMeet': WHATEVER THE INPUT: true; the input reads as it did. -/
def planeMeetSpec : ChangeSpec := { name := "planeMeet", fn := fun _ => fun
  | [d1, d2, d3] => { results := [.lit (.bool true)], args := [d1, d2, d3] }
  | _ => none }
def planeMeetRow : OpenClaim := { program := "ytnmkkflnehnioaa", sum := "ae895096d3430560ecd531cdbc6eb6d084ab5c7d74b3e15f8943fcb89a6a3b97", func := "tegula/tegulalaw06.PlaneMeet", spec := "planeMeet", unfollowed := true, recurses := true, plainKeys := false, apart := false }
def PlaneMeetSaid : Prop := planeMeetRow.holds Try.pinned (OpenSpec.ofChange planeMeetSpec)

/-- ITS FALSE NEIGHBOUR: 'it returns false'. Refute it at one input. -/
def planeMeetWrong : ChangeSpec := { name := "planeMeet", fn := fun _ => fun
  | [d1, d2, d3] => { results := [.lit (.bool false)], args := [d1, d2, d3] }
  | _ => none }
def PlaneMeetWrongFalsely : Prop := planeMeetRow.holds Try.pinned (OpenSpec.ofChange planeMeetWrong)

/-- 'tegulalaw06.PlaneParallel': WHATEVER THE INPUT: true; the input reads as it did. -/
def planeParallelSpec : ChangeSpec := { name := "planeParallel", fn := fun _ => fun
  | [d1, d2] => { results := [.lit (.bool true)], args := [d1, d2] }
  | _ => none }
def planeParallelRow : OpenClaim := { program := "ytnmkkflnehnioaa", sum := "ae895096d3430560ecd531cdbc6eb6d084ab5c7d74b3e15f8943fcb89a6a3b97", func := "tegula/tegulalaw06.PlaneParallel", spec := "planeParallel", unfollowed := true, recurses := true, plainKeys := false, apart := false }
def PlaneParallelSaid : Prop := planeParallelRow.holds Try.pinned (OpenSpec.ofChange planeParallelSpec)

/-- ITS FALSE NEIGHBOUR: 'it returns false'. Refute it at one input. -/
def planeParallelWrong : ChangeSpec := { name := "planeParallel", fn := fun _ => fun
  | [d1, d2] => { results := [.lit (.bool false)], args := [d1, d2] }
  | _ => none }
def PlaneParallelWrongFalsely : Prop := planeParallelRow.holds Try.pinned (OpenSpec.ofChange planeParallelWrong)

/-- 'tegulalaw06.PlaneShrinks': WHATEVER THE INPUT: true; the input reads as it did. -/
def planeShrinksSpec : ChangeSpec := { name := "planeShrinks", fn := fun _ => fun
  | [d1, d2] => { results := [.lit (.bool true)], args := [d1, d2] }
  | _ => none }
def planeShrinksRow : OpenClaim := { program := "ytnmkkflnehnioaa", sum := "ae895096d3430560ecd531cdbc6eb6d084ab5c7d74b3e15f8943fcb89a6a3b97", func := "tegula/tegulalaw06.PlaneShrinks", spec := "planeShrinks", unfollowed := true, recurses := true, plainKeys := false, apart := false }
def PlaneShrinksSaid : Prop := planeShrinksRow.holds Try.pinned (OpenSpec.ofChange planeShrinksSpec)

/-- ITS FALSE NEIGHBOUR: 'it returns false'. Refute it at one input. -/
def planeShrinksWrong : ChangeSpec := { name := "planeShrinks", fn := fun _ => fun
  | [d1, d2] => { results := [.lit (.bool false)], args := [d1, d2] }
  | _ => none }
def PlaneShrinksWrongFalsely : Prop := planeShrinksRow.holds Try.pinned (OpenSpec.ofChange planeShrinksWrong)

/-- 'tegulalaw06.PlaneErrors': WHATEVER THE INPUT: true; the input reads as it did. -/
def planeErrorsSpec : ChangeSpec := { name := "planeErrors", fn := fun _ => fun
  | [d1, d2, d3] => { results := [.lit (.bool true)], args := [d1, d2, d3] }
  | _ => none }
def planeErrorsRow : OpenClaim := { program := "ytnmkkflnehnioaa", sum := "ae895096d3430560ecd531cdbc6eb6d084ab5c7d74b3e15f8943fcb89a6a3b97", func := "tegula/tegulalaw06.PlaneErrors", spec := "planeErrors", unfollowed := true, recurses := true, plainKeys := false, apart := false }
def PlaneErrorsSaid : Prop := planeErrorsRow.holds Try.pinned (OpenSpec.ofChange planeErrorsSpec)

/-- ITS FALSE NEIGHBOUR: 'it returns false'. Refute it at one input. -/
def planeErrorsWrong : ChangeSpec := { name := "planeErrors", fn := fun _ => fun
  | [d1, d2, d3] => { results := [.lit (.bool false)], args := [d1, d2, d3] }
  | _ => none }
def PlaneErrorsWrongFalsely : Prop := planeErrorsRow.holds Try.pinned (OpenSpec.ofChange planeErrorsWrong)

/-- 'tegulalaw06.PlaneJoin': WHATEVER THE INPUT: true; the input reads as it did. -/
def planeJoinSpec : ChangeSpec := { name := "planeJoin", fn := fun _ => fun
  | [d1, d2, d3] => { results := [.lit (.bool true)], args := [d1, d2, d3] }
  | _ => none }
def planeJoinRow : OpenClaim := { program := "ytnmkkflnehnioaa", sum := "ae895096d3430560ecd531cdbc6eb6d084ab5c7d74b3e15f8943fcb89a6a3b97", func := "tegula/tegulalaw06.PlaneJoin", spec := "planeJoin", unfollowed := true, recurses := true, plainKeys := false, apart := false }
def PlaneJoinSaid : Prop := planeJoinRow.holds Try.pinned (OpenSpec.ofChange planeJoinSpec)

/-- ITS FALSE NEIGHBOUR: 'it returns false'. Refute it at one input. -/
def planeJoinWrong : ChangeSpec := { name := "planeJoin", fn := fun _ => fun
  | [d1, d2, d3] => { results := [.lit (.bool false)], args := [d1, d2, d3] }
  | _ => none }
def PlaneJoinWrongFalsely : Prop := planeJoinRow.holds Try.pinned (OpenSpec.ofChange planeJoinWrong)

/-- 'tegulalaw06.PlaneDual': WHATEVER THE INPUT: true; the input reads as it did. -/
def planeDualSpec : ChangeSpec := { name := "planeDual", fn := fun _ => fun
  | [d1, d2, d3] => { results := [.lit (.bool true)], args := [d1, d2, d3] }
  | _ => none }
def planeDualRow : OpenClaim := { program := "ytnmkkflnehnioaa", sum := "ae895096d3430560ecd531cdbc6eb6d084ab5c7d74b3e15f8943fcb89a6a3b97", func := "tegula/tegulalaw06.PlaneDual", spec := "planeDual", unfollowed := true, recurses := true, plainKeys := false, apart := false }
def PlaneDualSaid : Prop := planeDualRow.holds Try.pinned (OpenSpec.ofChange planeDualSpec)

/-- ITS FALSE NEIGHBOUR: 'it returns false'. Refute it at one input. -/
def planeDualWrong : ChangeSpec := { name := "planeDual", fn := fun _ => fun
  | [d1, d2, d3] => { results := [.lit (.bool false)], args := [d1, d2, d3] }
  | _ => none }
def PlaneDualWrongFalsely : Prop := planeDualRow.holds Try.pinned (OpenSpec.ofChange planeDualWrong)

/-- 'tegulalaw07.DesignComplete': WHATEVER THE INPUT: true; the input reads as it did. -/
def designCompleteSpec : ChangeSpec := { name := "designComplete", fn := fun _ => fun
  | [d1, d2] => { results := [.lit (.bool true)], args := [d1, d2] }
  | _ => none }
def designCompleteRow : OpenClaim := { program := "ytnmkkflnehnioaa", sum := "ae895096d3430560ecd531cdbc6eb6d084ab5c7d74b3e15f8943fcb89a6a3b97", func := "tegula/tegulalaw07.DesignComplete", spec := "designComplete", unfollowed := true, recurses := true, plainKeys := false, apart := false }
def DesignCompleteSaid : Prop := designCompleteRow.holds Try.pinned (OpenSpec.ofChange designCompleteSpec)

/-- ITS FALSE NEIGHBOUR: 'it returns false'. Refute it at one input. -/
def designCompleteWrong : ChangeSpec := { name := "designComplete", fn := fun _ => fun
  | [d1, d2] => { results := [.lit (.bool false)], args := [d1, d2] }
  | _ => none }
def DesignCompleteWrongFalsely : Prop := designCompleteRow.holds Try.pinned (OpenSpec.ofChange designCompleteWrong)

/-- 'tegulalaw07.DesignCheck': WHATEVER THE INPUT: true; the input reads as it did. -/
def designCheckSpec : ChangeSpec := { name := "designCheck", fn := fun _ => fun
  | [d] => { results := [.lit (.bool true)], args := [d] }
  | _ => none }
def designCheckRow : OpenClaim := { program := "ytnmkkflnehnioaa", sum := "ae895096d3430560ecd531cdbc6eb6d084ab5c7d74b3e15f8943fcb89a6a3b97", func := "tegula/tegulalaw07.DesignCheck", spec := "designCheck", unfollowed := true, recurses := true, plainKeys := false, apart := false }
def DesignCheckSaid : Prop := designCheckRow.holds Try.pinned (OpenSpec.ofChange designCheckSpec)

/-- ITS FALSE NEIGHBOUR: 'it returns false'. Refute it at one input. -/
def designCheckWrong : ChangeSpec := { name := "designCheck", fn := fun _ => fun
  | [d] => { results := [.lit (.bool false)], args := [d] }
  | _ => none }
def DesignCheckWrongFalsely : Prop := designCheckRow.holds Try.pinned (OpenSpec.ofChange designCheckWrong)

/-- 'tegulalaw07.DesignChoose': WHATEVER THE INPUT: true; the input reads as it did. -/
def designChooseSpec : ChangeSpec := { name := "designChoose", fn := fun _ => fun
  | [d1, d2] => { results := [.lit (.bool true)], args := [d1, d2] }
  | _ => none }
def designChooseRow : OpenClaim := { program := "ytnmkkflnehnioaa", sum := "ae895096d3430560ecd531cdbc6eb6d084ab5c7d74b3e15f8943fcb89a6a3b97", func := "tegula/tegulalaw07.DesignChoose", spec := "designChoose", unfollowed := true, recurses := true, plainKeys := false, apart := false }
def DesignChooseSaid : Prop := designChooseRow.holds Try.pinned (OpenSpec.ofChange designChooseSpec)

/-- ITS FALSE NEIGHBOUR: 'it returns false'. Refute it at one input. -/
def designChooseWrong : ChangeSpec := { name := "designChoose", fn := fun _ => fun
  | [d1, d2] => { results := [.lit (.bool false)], args := [d1, d2] }
  | _ => none }
def DesignChooseWrongFalsely : Prop := designChooseRow.holds Try.pinned (OpenSpec.ofChange designChooseWrong)

/-- 'tegulalaw07.DesignBalanced': WHATEVER THE INPUT: true; the input reads as it did. -/
def designBalancedSpec : ChangeSpec := { name := "designBalanced", fn := fun _ => fun
  | [d1, d2] => { results := [.lit (.bool true)], args := [d1, d2] }
  | _ => none }
def designBalancedRow : OpenClaim := { program := "ytnmkkflnehnioaa", sum := "ae895096d3430560ecd531cdbc6eb6d084ab5c7d74b3e15f8943fcb89a6a3b97", func := "tegula/tegulalaw07.DesignBalanced", spec := "designBalanced", unfollowed := true, recurses := true, plainKeys := false, apart := false }
def DesignBalancedSaid : Prop := designBalancedRow.holds Try.pinned (OpenSpec.ofChange designBalancedSpec)

/-- ITS FALSE NEIGHBOUR: 'it returns false'. Refute it at one input. -/
def designBalancedWrong : ChangeSpec := { name := "designBalanced", fn := fun _ => fun
  | [d1, d2] => { results := [.lit (.bool false)], args := [d1, d2] }
  | _ => none }
def DesignBalancedWrongFalsely : Prop := designBalancedRow.holds Try.pinned (OpenSpec.ofChange designBalancedWrong)

/-- 'tegulalaw07.DesignShared': WHATEVER THE INPUT: true; the input reads as it did. -/
def designSharedSpec : ChangeSpec := { name := "designShared", fn := fun _ => fun
  | [d1, d2, d3] => { results := [.lit (.bool true)], args := [d1, d2, d3] }
  | _ => none }
def designSharedRow : OpenClaim := { program := "ytnmkkflnehnioaa", sum := "ae895096d3430560ecd531cdbc6eb6d084ab5c7d74b3e15f8943fcb89a6a3b97", func := "tegula/tegulalaw07.DesignShared", spec := "designShared", unfollowed := true, recurses := true, plainKeys := false, apart := false }
def DesignSharedSaid : Prop := designSharedRow.holds Try.pinned (OpenSpec.ofChange designSharedSpec)

/-- ITS FALSE NEIGHBOUR: 'it returns false'. Refute it at one input. -/
def designSharedWrong : ChangeSpec := { name := "designShared", fn := fun _ => fun
  | [d1, d2, d3] => { results := [.lit (.bool false)], args := [d1, d2, d3] }
  | _ => none }
def DesignSharedWrongFalsely : Prop := designSharedRow.holds Try.pinned (OpenSpec.ofChange designSharedWrong)

/-- 'tegulalaw07.DesignPairs': WHATEVER THE INPUT: true; the input reads as it did. -/
def designPairsSpec : ChangeSpec := { name := "designPairs", fn := fun _ => fun
  | [d] => { results := [.lit (.bool true)], args := [d] }
  | _ => none }
def designPairsRow : OpenClaim := { program := "ytnmkkflnehnioaa", sum := "ae895096d3430560ecd531cdbc6eb6d084ab5c7d74b3e15f8943fcb89a6a3b97", func := "tegula/tegulalaw07.DesignPairs", spec := "designPairs", unfollowed := true, recurses := true, plainKeys := false, apart := false }
def DesignPairsSaid : Prop := designPairsRow.holds Try.pinned (OpenSpec.ofChange designPairsSpec)

/-- ITS FALSE NEIGHBOUR: 'it returns false'. Refute it at one input. -/
def designPairsWrong : ChangeSpec := { name := "designPairs", fn := fun _ => fun
  | [d] => { results := [.lit (.bool false)], args := [d] }
  | _ => none }
def DesignPairsWrongFalsely : Prop := designPairsRow.holds Try.pinned (OpenSpec.ofChange designPairsWrong)

/-- 'tegulalaw07.DesignTwice': WHATEVER THE INPUT: true; the input reads as it did. -/
def designTwiceSpec : ChangeSpec := { name := "designTwice", fn := fun _ => fun
  | [d1, d2] => { results := [.lit (.bool true)], args := [d1, d2] }
  | _ => none }
def designTwiceRow : OpenClaim := { program := "ytnmkkflnehnioaa", sum := "ae895096d3430560ecd531cdbc6eb6d084ab5c7d74b3e15f8943fcb89a6a3b97", func := "tegula/tegulalaw07.DesignTwice", spec := "designTwice", unfollowed := true, recurses := true, plainKeys := false, apart := false }
def DesignTwiceSaid : Prop := designTwiceRow.holds Try.pinned (OpenSpec.ofChange designTwiceSpec)

/-- ITS FALSE NEIGHBOUR: 'it returns false'. Refute it at one input. -/
def designTwiceWrong : ChangeSpec := { name := "designTwice", fn := fun _ => fun
  | [d1, d2] => { results := [.lit (.bool false)], args := [d1, d2] }
  | _ => none }
def DesignTwiceWrongFalsely : Prop := designTwiceRow.holds Try.pinned (OpenSpec.ofChange designTwiceWrong)

/- THE SECOND FORM. 'bulk': how many values and letters a reading holds, each counted each time it is reached (what is shared counts as often as it is met; a slice's spare places count too). A statement '..UptoSaid' is the law's where the arguments, and the package variables that the reading takes, are together of bulk at most 1048576: NARROWER than '..Said'. Prove '..Said' where nothing that the law and all that it calls make is longer than what came in: it says more and counts as full. Else prove '..UptoSaid'. A law counts once. -/
mutual
def uptoBulk {H : Type} : DataW H → Nat
  | .lit (.string bytes) => bytes.length + 1
  | .lit _ => 1
  | .nil => 1
  | .ptr d => uptoBulk d + 1
  | .slice elems spare => uptoBulkAll elems + uptoBulkAll spare + 1
  | .agg parts => uptoBulkAll parts + 1
  | .iface _ d => uptoBulk d + 1
  | .map entries => uptoBulkEntries entries + 1
  | .held _ => 1
def uptoBulkAll {H : Type} : List (DataW H) → Nat
  | [] => 0
  | d :: r => uptoBulk d + uptoBulkAll r
def uptoBulkEntries {H : Type} : List (Lit × DataW H) → Nat
  | [] => 0
  | x :: r => uptoBulkEntry x + uptoBulkEntries r
def uptoBulkEntry {H : Type} : Lit × DataW H → Nat
  | (.string bytes, d) => bytes.length + uptoBulk d + 1
  | (_, d) => uptoBulk d + 1
 end
def uptoSmall : (H : Type) → List (DataW H) → Bool := fun _ ds => decide (uptoBulkAll ds ≤ 1048576)
def OpenSpec.upto (s : _root_.Go.ChangeSpec) : _root_.Go.OpenSpec := { _root_.Go.OpenSpec.ofChange s with cond := some uptoSmall }

/-- 'tegulalaw05.SmallfieldAxioms', WHERE WHAT IT READS IS OF BULK AT MOST 1048576: true; the input reads as it did. -/
def smallfieldAxiomsUptoRow : OpenClaim := { program := "ytnmkkflnehnioaa", sum := "ae895096d3430560ecd531cdbc6eb6d084ab5c7d74b3e15f8943fcb89a6a3b97", func := "tegula/tegulalaw05.SmallfieldAxioms", spec := "smallfieldAxioms", unfollowed := true, recurses := true, plainKeys := false, apart := false, narrowed := true }
def SmallfieldAxiomsUptoSaid : Prop := smallfieldAxiomsUptoRow.holds Try.pinned (OpenSpec.upto smallfieldAxiomsSpec)

/-- 'tegulalaw05.SmallfieldCyclic', WHERE WHAT IT READS IS OF BULK AT MOST 1048576: true; the input reads as it did. -/
def smallfieldCyclicUptoRow : OpenClaim := { program := "ytnmkkflnehnioaa", sum := "ae895096d3430560ecd531cdbc6eb6d084ab5c7d74b3e15f8943fcb89a6a3b97", func := "tegula/tegulalaw05.SmallfieldCyclic", spec := "smallfieldCyclic", unfollowed := true, recurses := true, plainKeys := false, apart := false, narrowed := true }
def SmallfieldCyclicUptoSaid : Prop := smallfieldCyclicUptoRow.holds Try.pinned (OpenSpec.upto smallfieldCyclicSpec)

/-- 'tegulalaw05.SmallfieldTables', WHERE WHAT IT READS IS OF BULK AT MOST 1048576: true; the input reads as it did. -/
def smallfieldTablesUptoRow : OpenClaim := { program := "ytnmkkflnehnioaa", sum := "ae895096d3430560ecd531cdbc6eb6d084ab5c7d74b3e15f8943fcb89a6a3b97", func := "tegula/tegulalaw05.SmallfieldTables", spec := "smallfieldTables", unfollowed := true, recurses := true, plainKeys := false, apart := false, narrowed := true }
def SmallfieldTablesUptoSaid : Prop := smallfieldTablesUptoRow.holds Try.pinned (OpenSpec.upto smallfieldTablesSpec)

/-- 'tegulalaw05.SmallfieldInverses', WHERE WHAT IT READS IS OF BULK AT MOST 1048576: true; the input reads as it did. -/
def smallfieldInversesUptoRow : OpenClaim := { program := "ytnmkkflnehnioaa", sum := "ae895096d3430560ecd531cdbc6eb6d084ab5c7d74b3e15f8943fcb89a6a3b97", func := "tegula/tegulalaw05.SmallfieldInverses", spec := "smallfieldInverses", unfollowed := true, recurses := true, plainKeys := false, apart := false, narrowed := true }
def SmallfieldInversesUptoSaid : Prop := smallfieldInversesUptoRow.holds Try.pinned (OpenSpec.upto smallfieldInversesSpec)

/-- 'tegulalaw05.SmallfieldPrime', WHERE WHAT IT READS IS OF BULK AT MOST 1048576: true; the input reads as it did. -/
def smallfieldPrimeUptoRow : OpenClaim := { program := "ytnmkkflnehnioaa", sum := "ae895096d3430560ecd531cdbc6eb6d084ab5c7d74b3e15f8943fcb89a6a3b97", func := "tegula/tegulalaw05.SmallfieldPrime", spec := "smallfieldPrime", unfollowed := true, recurses := true, plainKeys := false, apart := false, narrowed := true }
def SmallfieldPrimeUptoSaid : Prop := smallfieldPrimeUptoRow.holds Try.pinned (OpenSpec.upto smallfieldPrimeSpec)

/-- 'tegulalaw05.SmallfieldNil', WHERE WHAT IT READS IS OF BULK AT MOST 1048576: true; the input reads as it did. -/
def smallfieldNilUptoRow : OpenClaim := { program := "ytnmkkflnehnioaa", sum := "ae895096d3430560ecd531cdbc6eb6d084ab5c7d74b3e15f8943fcb89a6a3b97", func := "tegula/tegulalaw05.SmallfieldNil", spec := "smallfieldNil", unfollowed := true, recurses := true, plainKeys := false, apart := false, narrowed := true }
def SmallfieldNilUptoSaid : Prop := smallfieldNilUptoRow.holds Try.pinned (OpenSpec.upto smallfieldNilSpec)

/-- 'tegulalaw05.SmallfieldSizes', WHERE WHAT IT READS IS OF BULK AT MOST 1048576: true; the input reads as it did. -/
def smallfieldSizesUptoRow : OpenClaim := { program := "ytnmkkflnehnioaa", sum := "ae895096d3430560ecd531cdbc6eb6d084ab5c7d74b3e15f8943fcb89a6a3b97", func := "tegula/tegulalaw05.SmallfieldSizes", spec := "smallfieldSizes", unfollowed := true, recurses := true, plainKeys := false, apart := false, narrowed := true }
def SmallfieldSizesUptoSaid : Prop := smallfieldSizesUptoRow.holds Try.pinned (OpenSpec.upto smallfieldSizesSpec)

/-- 'tegulalaw06.PlaneProjective', WHERE WHAT IT READS IS OF BULK AT MOST 1048576: true; the input reads as it did. -/
def planeProjectiveUptoRow : OpenClaim := { program := "ytnmkkflnehnioaa", sum := "ae895096d3430560ecd531cdbc6eb6d084ab5c7d74b3e15f8943fcb89a6a3b97", func := "tegula/tegulalaw06.PlaneProjective", spec := "planeProjective", unfollowed := true, recurses := true, plainKeys := false, apart := false, narrowed := true }
def PlaneProjectiveUptoSaid : Prop := planeProjectiveUptoRow.holds Try.pinned (OpenSpec.upto planeProjectiveSpec)

/-- 'tegulalaw06.PlaneAffine', WHERE WHAT IT READS IS OF BULK AT MOST 1048576: true; the input reads as it did. -/
def planeAffineUptoRow : OpenClaim := { program := "ytnmkkflnehnioaa", sum := "ae895096d3430560ecd531cdbc6eb6d084ab5c7d74b3e15f8943fcb89a6a3b97", func := "tegula/tegulalaw06.PlaneAffine", spec := "planeAffine", unfollowed := true, recurses := true, plainKeys := false, apart := false, narrowed := true }
def PlaneAffineUptoSaid : Prop := planeAffineUptoRow.holds Try.pinned (OpenSpec.upto planeAffineSpec)

/-- 'tegulalaw06.PlaneMeet', WHERE WHAT IT READS IS OF BULK AT MOST 1048576: true; the input reads as it did. -/
def planeMeetUptoRow : OpenClaim := { program := "ytnmkkflnehnioaa", sum := "ae895096d3430560ecd531cdbc6eb6d084ab5c7d74b3e15f8943fcb89a6a3b97", func := "tegula/tegulalaw06.PlaneMeet", spec := "planeMeet", unfollowed := true, recurses := true, plainKeys := false, apart := false, narrowed := true }
def PlaneMeetUptoSaid : Prop := planeMeetUptoRow.holds Try.pinned (OpenSpec.upto planeMeetSpec)

/-- 'tegulalaw06.PlaneParallel', WHERE WHAT IT READS IS OF BULK AT MOST 1048576: true; the input reads as it did. -/
def planeParallelUptoRow : OpenClaim := { program := "ytnmkkflnehnioaa", sum := "ae895096d3430560ecd531cdbc6eb6d084ab5c7d74b3e15f8943fcb89a6a3b97", func := "tegula/tegulalaw06.PlaneParallel", spec := "planeParallel", unfollowed := true, recurses := true, plainKeys := false, apart := false, narrowed := true }
def PlaneParallelUptoSaid : Prop := planeParallelUptoRow.holds Try.pinned (OpenSpec.upto planeParallelSpec)

/-- 'tegulalaw06.PlaneShrinks', WHERE WHAT IT READS IS OF BULK AT MOST 1048576: true; the input reads as it did. -/
def planeShrinksUptoRow : OpenClaim := { program := "ytnmkkflnehnioaa", sum := "ae895096d3430560ecd531cdbc6eb6d084ab5c7d74b3e15f8943fcb89a6a3b97", func := "tegula/tegulalaw06.PlaneShrinks", spec := "planeShrinks", unfollowed := true, recurses := true, plainKeys := false, apart := false, narrowed := true }
def PlaneShrinksUptoSaid : Prop := planeShrinksUptoRow.holds Try.pinned (OpenSpec.upto planeShrinksSpec)

/-- 'tegulalaw06.PlaneErrors', WHERE WHAT IT READS IS OF BULK AT MOST 1048576: true; the input reads as it did. -/
def planeErrorsUptoRow : OpenClaim := { program := "ytnmkkflnehnioaa", sum := "ae895096d3430560ecd531cdbc6eb6d084ab5c7d74b3e15f8943fcb89a6a3b97", func := "tegula/tegulalaw06.PlaneErrors", spec := "planeErrors", unfollowed := true, recurses := true, plainKeys := false, apart := false, narrowed := true }
def PlaneErrorsUptoSaid : Prop := planeErrorsUptoRow.holds Try.pinned (OpenSpec.upto planeErrorsSpec)

/-- 'tegulalaw06.PlaneJoin', WHERE WHAT IT READS IS OF BULK AT MOST 1048576: true; the input reads as it did. -/
def planeJoinUptoRow : OpenClaim := { program := "ytnmkkflnehnioaa", sum := "ae895096d3430560ecd531cdbc6eb6d084ab5c7d74b3e15f8943fcb89a6a3b97", func := "tegula/tegulalaw06.PlaneJoin", spec := "planeJoin", unfollowed := true, recurses := true, plainKeys := false, apart := false, narrowed := true }
def PlaneJoinUptoSaid : Prop := planeJoinUptoRow.holds Try.pinned (OpenSpec.upto planeJoinSpec)

/-- 'tegulalaw06.PlaneDual', WHERE WHAT IT READS IS OF BULK AT MOST 1048576: true; the input reads as it did. -/
def planeDualUptoRow : OpenClaim := { program := "ytnmkkflnehnioaa", sum := "ae895096d3430560ecd531cdbc6eb6d084ab5c7d74b3e15f8943fcb89a6a3b97", func := "tegula/tegulalaw06.PlaneDual", spec := "planeDual", unfollowed := true, recurses := true, plainKeys := false, apart := false, narrowed := true }
def PlaneDualUptoSaid : Prop := planeDualUptoRow.holds Try.pinned (OpenSpec.upto planeDualSpec)

/-- 'tegulalaw07.DesignComplete', WHERE WHAT IT READS IS OF BULK AT MOST 1048576: true; the input reads as it did. -/
def designCompleteUptoRow : OpenClaim := { program := "ytnmkkflnehnioaa", sum := "ae895096d3430560ecd531cdbc6eb6d084ab5c7d74b3e15f8943fcb89a6a3b97", func := "tegula/tegulalaw07.DesignComplete", spec := "designComplete", unfollowed := true, recurses := true, plainKeys := false, apart := false, narrowed := true }
def DesignCompleteUptoSaid : Prop := designCompleteUptoRow.holds Try.pinned (OpenSpec.upto designCompleteSpec)

/-- 'tegulalaw07.DesignCheck', WHERE WHAT IT READS IS OF BULK AT MOST 1048576: true; the input reads as it did. -/
def designCheckUptoRow : OpenClaim := { program := "ytnmkkflnehnioaa", sum := "ae895096d3430560ecd531cdbc6eb6d084ab5c7d74b3e15f8943fcb89a6a3b97", func := "tegula/tegulalaw07.DesignCheck", spec := "designCheck", unfollowed := true, recurses := true, plainKeys := false, apart := false, narrowed := true }
def DesignCheckUptoSaid : Prop := designCheckUptoRow.holds Try.pinned (OpenSpec.upto designCheckSpec)

/-- 'tegulalaw07.DesignChoose', WHERE WHAT IT READS IS OF BULK AT MOST 1048576: true; the input reads as it did. -/
def designChooseUptoRow : OpenClaim := { program := "ytnmkkflnehnioaa", sum := "ae895096d3430560ecd531cdbc6eb6d084ab5c7d74b3e15f8943fcb89a6a3b97", func := "tegula/tegulalaw07.DesignChoose", spec := "designChoose", unfollowed := true, recurses := true, plainKeys := false, apart := false, narrowed := true }
def DesignChooseUptoSaid : Prop := designChooseUptoRow.holds Try.pinned (OpenSpec.upto designChooseSpec)

/-- 'tegulalaw07.DesignBalanced', WHERE WHAT IT READS IS OF BULK AT MOST 1048576: true; the input reads as it did. -/
def designBalancedUptoRow : OpenClaim := { program := "ytnmkkflnehnioaa", sum := "ae895096d3430560ecd531cdbc6eb6d084ab5c7d74b3e15f8943fcb89a6a3b97", func := "tegula/tegulalaw07.DesignBalanced", spec := "designBalanced", unfollowed := true, recurses := true, plainKeys := false, apart := false, narrowed := true }
def DesignBalancedUptoSaid : Prop := designBalancedUptoRow.holds Try.pinned (OpenSpec.upto designBalancedSpec)

/-- 'tegulalaw07.DesignShared', WHERE WHAT IT READS IS OF BULK AT MOST 1048576: true; the input reads as it did. -/
def designSharedUptoRow : OpenClaim := { program := "ytnmkkflnehnioaa", sum := "ae895096d3430560ecd531cdbc6eb6d084ab5c7d74b3e15f8943fcb89a6a3b97", func := "tegula/tegulalaw07.DesignShared", spec := "designShared", unfollowed := true, recurses := true, plainKeys := false, apart := false, narrowed := true }
def DesignSharedUptoSaid : Prop := designSharedUptoRow.holds Try.pinned (OpenSpec.upto designSharedSpec)

/-- 'tegulalaw07.DesignPairs', WHERE WHAT IT READS IS OF BULK AT MOST 1048576: true; the input reads as it did. -/
def designPairsUptoRow : OpenClaim := { program := "ytnmkkflnehnioaa", sum := "ae895096d3430560ecd531cdbc6eb6d084ab5c7d74b3e15f8943fcb89a6a3b97", func := "tegula/tegulalaw07.DesignPairs", spec := "designPairs", unfollowed := true, recurses := true, plainKeys := false, apart := false, narrowed := true }
def DesignPairsUptoSaid : Prop := designPairsUptoRow.holds Try.pinned (OpenSpec.upto designPairsSpec)

/-- 'tegulalaw07.DesignTwice', WHERE WHAT IT READS IS OF BULK AT MOST 1048576: true; the input reads as it did. -/
def designTwiceUptoRow : OpenClaim := { program := "ytnmkkflnehnioaa", sum := "ae895096d3430560ecd531cdbc6eb6d084ab5c7d74b3e15f8943fcb89a6a3b97", func := "tegula/tegulalaw07.DesignTwice", spec := "designTwice", unfollowed := true, recurses := true, plainKeys := false, apart := false, narrowed := true }
def DesignTwiceUptoSaid : Prop := designTwiceUptoRow.holds Try.pinned (OpenSpec.upto designTwiceSpec)

end Rows
end Go.Proofs.Ytnmkkflnehnioaa
