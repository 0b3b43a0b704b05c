/-
  An argument of type uint16, opened. No condition.
-/
import Derived.Test.YtnmkkflnehnioaaLaw
namespace Go.Proofs.Ytnmkkflnehnioaa
open Go.ChangeShapes Go.WideShapes Go.ChangeAt Go.RowKit
set_option maxRecDepth 100000

theorem open_half {H : Type} {enc : TypeId × Value → H} {W : World} {v : Value} {d : DataW H} {ps : List MemPlace} {base : Nat} (ho : Value.okWide Try.prog W .any base 73 v) (hd : DataW.Trod enc Try.prog W 0 (fun _ => true) true 73 v d ps) :
    ∃ n : Nat, v = .int .u16 n ∧ n ≤ 65535 := by
  obtain ⟨a, rfl, -, -, h⟩ := open_int Try.underlying73 ho hd
  simp [Lit.wf, IntKind.min, IntKind.max, IntKind.signed, IntKind.bits] at h
  exact ⟨a.toNat, by rw [show ((a.toNat : Nat) : Int) = a by omega], by omega⟩
end Go.Proofs.Ytnmkkflnehnioaa
