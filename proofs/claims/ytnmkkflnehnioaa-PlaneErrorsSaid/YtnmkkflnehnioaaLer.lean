/-
  THE LAW PlaneErrors returns true: its walk. No condition.
-/
import Derived.Test.YtnmkkflnehnioaaPk
import Derived.Test.YtnmkkflnehnioaaWr
namespace Go.Proofs.Ytnmkkflnehnioaa
open Go.RowKit
set_option maxRecDepth 100000

set_option maxHeartbeats 3200000 in
theorem walk_errors (q a b : Int) (w : World) : Calls Try.prog 15 #[.int .i64 q, .int .i64 a, .int .i64 b] w fun e w' => e = .returned (.bool true) ∧ Below w.heap.size w w' := by
  rcases size_cases q with hno | ⟨k, hk, rfl⟩
  · have HME := Lib.hid (fun W => meet_of (fun W => common_no1 q hno a b W) W)
    have HJO := Lib.hid (fun W => join_of (fun W => common_no1 q hno a b W) W)
    have HW := Lib.hid (wrong_no1 q hno)
    clear hno
    go_enter Try.func15, Try.ntmps15
    go_wp2_with fail
    refine (awake6 _).mono ?_
    rintro e w1 ⟨rfl, B1⟩
    go_wp2_with fail
    refine (HME.out _).mono ?_
    rintro e w2 ⟨rfl, B2⟩
    go_wp2_with fail
    refine (HJO.out _).mono ?_
    rintro e w3 ⟨rfl, B3⟩
    have hB := (B1.trans (B2.mono B1.size)).trans (B3.mono (Nat.le_trans B1.size B2.size))
    go_wp2_with fail
    refine (HW.out _).mono ?_
    rintro e w4 ⟨rfl, rfl⟩
    go_wp2_with fail
    go_ret
    exact ⟨rfl, hB⟩
  · by_cases h5 : k < 5
    · have hce := fun W => common_else h5 a b W
      have hcy := fun (a b : Nat) h1 h2 h3 W => common_yes (k := k) (a := a) (b := b) h5 h1 h2 h3 W
      have hml := fun (a b : Nat) h1 h2 h3 => meet_lt (k := k) (a := a) (b := b) h5 h1 h2 h3
      have hW := wrong_size k hk
      have hc := count_k k h5
      have h60 := sq60 h5
      generalize (allL k).length = N at *
      generalize szN k = q at *
      have hmul : (q : Int) * (q : Int) = ((q * q : Nat) : Int) := by push_cast; rfl
      obtain ⟨Q, eQ⟩ : ∃ Q, q * q = Q := ⟨_, rfl⟩
      rw [eQ] at hc h60 hmul
      obtain ⟨M, eM⟩ : ∃ M, Q + q = M := ⟨_, rfl⟩
      have hsum : (Q : Int) + (q : Int) = (M : Int) := by omega
      have hM : M + 1 = N := by omega
      have hN60 : N ≤ 60 := by omega
      rw [if_pos h5] at hW
      have HW := Lib.hid hW
      have HCE := Lib.hid hce
      have HCY := Lib.hid hcy
      have HML := Lib.hid hml
      clear hW hce hcy hml hc eQ eM
      have key : ∀ (x y : Int), (∀ W, Calls Try.prog 77 #[.int .i64 q, .int .i64 a, .int .i64 b] W (Pair W x y)) →
          (a < 0 ∧ x = 0 ∧ y = 2 ∨ (0 ≤ a ∧ (M : Int) < a ∧ x = 0 ∧ y = 2) ∨ (0 ≤ a ∧ a ≤ (M : Int) ∧ b < 0 ∧ x = 0 ∧ y = 2) ∨ (0 ≤ a ∧ a ≤ (M : Int) ∧ 0 ≤ b ∧ (M : Int) < b ∧ x = 0 ∧ y = 2) ∨ (0 ≤ a ∧ a ≤ (M : Int) ∧ a = b ∧ x = 0 ∧ y = 9) ∨ (0 ≤ a ∧ a ≤ (M : Int) ∧ 0 ≤ b ∧ b ≤ (M : Int) ∧ ¬ a = b ∧ 0 ≤ x ∧ x ≤ (M : Int) ∧ y = 0)) →
          Calls Try.prog 15 #[.int .i64 q, .int .i64 a, .int .i64 b] w fun e w' => e = .returned (.bool true) ∧ Below w.heap.size w w' := by
        intro x y hcom hcase
        have HME := Lib.hid (fun W => meet_of hcom W)
        have HJO := Lib.hid (fun W => join_of hcom W)
        clear hcom
        rcases hcase with ⟨h1, rfl, rfl⟩ | ⟨h1, h2, rfl, rfl⟩ | ⟨h1, h2, h3, rfl, rfl⟩ | ⟨h1, h2, h3, h4, rfl, rfl⟩ | ⟨h1, h2, rfl, rfl, rfl⟩ | ⟨h1, h2, h3, h4, h5, h6, h7, rfl⟩
        all_goals (
          go_enter Try.func15, Try.ntmps15
          go_wp2_with fail
          refine (awake6 _).mono ?_
          rintro e w1 ⟨rfl, B1⟩
          go_wp2_with fail
          refine (HME.out _).mono ?_
          rintro e w2 ⟨rfl, B2⟩
          go_wp2_with fail
          refine (HJO.out _).mono ?_
          rintro e w3 ⟨rfl, B3⟩
          have hB := (B1.trans (B2.mono B1.size)).trans (B3.mono (Nat.le_trans B1.size B2.size))
          clear B1 B2 B3
          go_wp2_with fail
          refine (HW.out _).mono ?_
          rintro e w4 ⟨rfl, rfl⟩
          go_wp2_with fail
          go_ret
          exact ⟨rfl, hB⟩)
      by_cases c1 : a < 0
      · exact key 0 2 (fun W => (HCE.out W).1 c1) (.inl ⟨c1, rfl, rfl⟩)
      by_cases c2 : (N : Int) ≤ a
      · exact key 0 2 (fun W => (HCE.out W).2.1 (by omega) c2) (.inr (.inl ⟨by omega, by omega, rfl, rfl⟩))
      by_cases c3 : b < 0
      · exact key 0 2 (fun W => (HCE.out W).2.2.1 (by omega) (by omega) c3) (.inr (.inr (.inl ⟨by omega, by omega, c3, rfl, rfl⟩)))
      by_cases c4 : (N : Int) ≤ b
      · exact key 0 2 (fun W => (HCE.out W).2.2.2.1 (by omega) (by omega) (by omega) c4) (.inr (.inr (.inr (.inl ⟨by omega, by omega, by omega, by omega, rfl, rfl⟩))))
      by_cases c5 : a = b
      · exact key 0 9 (fun W => (HCE.out W).2.2.2.2 (by omega) (by omega) c5) (.inr (.inr (.inr (.inr (.inl ⟨by omega, by omega, c5, rfl, rfl⟩)))))
      · obtain ⟨an, rfl⟩ : ∃ an : Nat, a = an := ⟨a.toNat, by omega⟩
        obtain ⟨bn, rfl⟩ : ∃ bn : Nat, b = bn := ⟨b.toNat, by omega⟩
        have hl := HML.out an bn (by omega) (by omega) (by omega)
        exact key (meetN k an bn : Nat) 0 (fun W => HCY.out an bn (by omega) (by omega) (by omega) W) (.inr (.inr (.inr (.inr (.inr ⟨by omega, by omega, by omega, by omega, c5, by omega, by omega, rfl⟩)))))
    · have HME := Lib.hid (fun W => meet_of (fun W => common_no2 k hk (sq_gt hk h5).1 a b W) W)
      have HJO := Lib.hid (fun W => join_of (fun W => common_no2 k hk (sq_gt hk h5).1 a b W) W)
      have hW := wrong_size k hk
      rw [if_neg h5] at hW
      have HW := Lib.hid hW
      clear hW
      go_enter Try.func15, Try.ntmps15
      go_wp2_with fail
      refine (awake6 _).mono ?_
      rintro e w1 ⟨rfl, B1⟩
      go_wp2_with fail
      refine (HME.out _).mono ?_
      rintro e w2 ⟨rfl, B2⟩
      go_wp2_with fail
      refine (HJO.out _).mono ?_
      rintro e w3 ⟨rfl, B3⟩
      have hB := (B1.trans (B2.mono B1.size)).trans (B3.mono (Nat.le_trans B1.size B2.size))
      go_wp2_with fail
      refine (HW.out _).mono ?_
      rintro e w4 ⟨rfl, rfl⟩
      go_wp2_with fail
      go_ret
      exact ⟨rfl, hB⟩
end Go.Proofs.Ytnmkkflnehnioaa
