/-
  small (63): the numbers of a small complete design. No condition.
-/
import Derived.Test.YtnmkkflnehnioaaZw
import Derived.Laws.BitsLemmas
namespace Go.Proofs.Ytnmkkflnehnioaa
open Go.RowKit
set_option maxRecDepth 100000

def SmallK (w : World) (e : Ending) (w' : World) : Prop := ∃ v k : Nat, 2 ≤ v ∧ v ≤ 8 ∧ 2 ≤ k ∧ k ≤ v ∧ e = .returned (.tuple #[.int .i64 (v : Nat), .int .i64 (k : Nat)]) ∧ Below w.heap.size w w'

theorem u16_wrap (m : Int) (h0 : 0 ≤ m) (h1 : m < 2 ^ 16) : IntKind.u16.wrap m = m := by
  have : IntKind.u16.wrap m = m % 65536 := by simp [IntKind.wrap, IntKind.bits, IntKind.signed]
  rw [this]
  omega
theorem and_255 (n : Nat) (hn : n ≤ 65535) : ∃ m : Nat, m ≤ 65535 ∧ bits .and .u16 (n : Int) 255 = (m : Int) := by
  have h := (bits_nat .u16 16 (by decide) u16_wrap n 255 (by omega) (by omega)).1
  exact ⟨n &&& 255, Nat.le_trans Nat.and_le_left hn, h⟩

set_option maxHeartbeats 3200000 in
theorem small_any (n : Nat) (hn : n ≤ 65535) (w : World) : Calls Try.prog 63 #[.int .u16 n] w (SmallK w) := by
  go_enter Try.func63, Try.ntmps63
  go_wp2_with fail
  obtain ⟨v0, hv⟩ : ∃ v0 : Nat, 2 + (n : Int) / 256 % 7 = (v0 : Int) := ⟨2 + n / 256 % 7, by omega⟩
  have h2 : 2 ≤ v0 := by omega
  have h8 : v0 ≤ 8 := by omega
  rw [hv]
  have h1 : (v0 : Int) - 1 = ((v0 - 1 : Nat) : Int) := by omega
  have h0 : ¬ ((v0 - 1 : Nat) : Int) = 0 := by omega
  clear hv
  go_region
  go_wp2_with fail
  obtain ⟨m, hm, em⟩ := and_255 n hn
  rw [em]
  have e1 : wrap64 (m : Int) = m := by unfold wrap64; omega
  rw [e1]
  have e2 : Int.tmod (m : Int) ((v0 - 1 : Nat) : Int) = ((m % (v0 - 1) : Nat) : Int) := rfl
  rw [e2]
  have hlt : m % (v0 - 1) < v0 - 1 := Nat.mod_lt _ (by omega)
  have e3 : wrap64 (2 + ((m % (v0 - 1) : Nat) : Int)) = ((2 + m % (v0 - 1) : Nat) : Int) := by unfold wrap64; omega
  rw [e3]
  clear e1 e2 e3 em h0 h1
  go_ret2
  exact ⟨v0, 2 + m % (v0 - 1), h2, h8, by omega, by omega, rfl, (Below.refl _ w).drew⟩
end Go.Proofs.Ytnmkkflnehnioaa
