/-
  tegulalaw06.wrong (43): the error for a size. No condition.
-/
import Derived.Test.YtnmkkflnehnioaaGb
import Derived.Test.YtnmkkflnehnioaaSiz
namespace Go.Proofs.Ytnmkkflnehnioaa
open Go.RowKit
set_option maxRecDepth 100000

set_option maxHeartbeats 1600000 in
theorem ref_noprime (q : Int) (hno : ∀ k, k < 7 → at0 sizes k ≠ q) (w : World) : Calls Try.prog 40 #[.int .i64 q] w fun e w' => e = .returned (.tuple #[.int .i64 0, .int .i64 0]) ∧ w = w' := by
  have h2 : ¬ q = 2 := fun e => hno 0 (by omega) e.symm
  have h3 : ¬ q = 3 := fun e => hno 1 (by omega) e.symm
  have h4 : ¬ q = 4 := fun e => hno 2 (by omega) e.symm
  have h5 : ¬ q = 5 := fun e => hno 3 (by omega) e.symm
  have h7 : ¬ q = 7 := fun e => hno 4 (by omega) e.symm
  have h8 : ¬ q = 8 := fun e => hno 5 (by omega) e.symm
  have h9 : ¬ q = 9 := fun e => hno 6 (by omega) e.symm
  clear hno
  go_enter Try.func40, Try.ntmps40
  go_wp2
  go_ret2
  exact ⟨rfl, rfl⟩
theorem wrong_no1 (q : Int) (hno : ∀ k, k < 7 → at0 sizes k ≠ q) (w : World) : Calls Try.prog 43 #[.int .i64 q] w fun e w' => e = .returned (.int .i64 1) ∧ w = w' := by
  have H := Lib.hid (ref_noprime q hno)
  clear hno
  go_enter Try.func43, Try.ntmps43
  go_wp2_with fail
  refine (H.out _).mono ?_
  rintro e w1 ⟨rfl, rfl⟩
  go_wp2_with fail
  go_ret
  exact ⟨rfl, rfl⟩
theorem wrong_size (k : Nat) (hk : k < 7) (w : World) : Calls Try.prog 43 #[.int .i64 (szN k)] w fun e w' => e = .returned (.int .i64 (if k < 5 then 0 else 7)) ∧ w = w' := by
  have H := Lib.hid (ref_prime k hk)
  have : k = 0 ∨ k = 1 ∨ k = 2 ∨ k = 3 ∨ k = 4 ∨ k = 5 ∨ k = 6 := by omega
  rcases this with rfl | rfl | rfl | rfl | rfl | rfl | rfl
  all_goals
    go_enter Try.func43, Try.ntmps43
    go_wp2_with fail
    refine (H.out _).mono ?_
    rintro e w1 ⟨d, rfl, rfl⟩
    go_wp2_with fail
    go_ret
    exact ⟨rfl, rfl⟩
theorem size_cases (q : Int) : (∀ k, k < 7 → at0 sizes k ≠ q) ∨ ∃ k, k < 7 ∧ q = szN k := by
  by_cases h : ∃ k, k < 7 ∧ at0 sizes k = q
  · obtain ⟨k, hk, e⟩ := h
    refine .inr ⟨k, hk, ?_⟩
    rw [← e]
    have : k = 0 ∨ k = 1 ∨ k = 2 ∨ k = 3 ∨ k = 4 ∨ k = 5 ∨ k = 6 := by omega
    rcases this with rfl | rfl | rfl | rfl | rfl | rfl | rfl <;> rfl
  · exact .inl fun k hk e => h ⟨k, hk, e⟩
theorem sq_gt {k : Nat} (hk : k < 7) (h5 : ¬ k < 5) : 60 < szN k * szN k + szN k + 1 ∧ 60 < szN k * szN k := by
  have : k = 5 ∨ k = 6 := by omega
  rcases this with rfl | rfl <;> decide
end Go.Proofs.Ytnmkkflnehnioaa
