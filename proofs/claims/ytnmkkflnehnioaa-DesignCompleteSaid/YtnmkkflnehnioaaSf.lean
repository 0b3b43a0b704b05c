/-
  smallfield.New at every size; the statements' own helpers awake and field. Condition: the size is one of the seven.
-/
import Derived.Test.YtnmkkflnehnioaaNewP
import Derived.Test.YtnmkkflnehnioaaNewQ
import Derived.Test.YtnmkkflnehnioaaFm
namespace Go.Proofs.Ytnmkkflnehnioaa
open Go.RowKit

def szN (k : Nat) : Nat := (at0 sizes k).toNat
def prI (k : Nat) : Int := at0 primes k
def dgN (k : Nat) : Nat := if k = 2 then 2 else if k = 5 then 3 else if k = 6 then 2 else 1
def sumT (k a b : Nat) : Int := addS (prI k) (dgN k) a b
def prodT (k a b : Nat) : Int := if dgN k = 1 then mulP (prI k) a b else mulS (prI k) (polyZ k) (dgN k) a b

theorem sz_facts : ∀ k : Nat, k < 7 → at0 sizes k = (szN k : Int) ∧ (2 ≤ szN k ∧ szN k ≤ 9) ∧ 2 ≤ prI k ∧ prI k ≤ 9 := by decide

theorem new_q (k : Nat) (hk : k < 7) (w : World) : Calls Try.prog 39 #[.int .i64 (szN k)] w (NewField w (szN k) (prI k) (sumT k) (prodT k)) := by
  obtain ⟨h1, h2, h3, h4⟩ := sz_facts k hk
  by_cases hp : k = 2 ∨ k = 5 ∨ k = 6
  · have hd : ¬ dgN k = 1 := by rcases hp with rfl | rfl | rfl <;> decide
    have e : prodT k = fun a b : Nat => mulS (prI k) (polyZ k) (dgN k) a b := by funext a b; unfold prodT; rw [if_neg hd]
    rw [e]
    refine new_poly k (szN k) hk h1 h2 (prI k) rfl h3 h4 (dgN k) (if k = 2 then 0 else if k = 5 then 1 else 2) (polyZ k) ?_ ?_ ?_ ?_ ?_ ?_ w
    · rcases hp with rfl | rfl | rfl <;> decide
    · rcases hp with rfl | rfl | rfl <;> decide
    · rcases hp with rfl | rfl | rfl <;> decide
    · rcases hp with rfl | rfl | rfl <;> intro N <;> rfl
    · rcases hp with rfl | rfl | rfl <;> rfl
    · rcases hp with rfl | rfl | rfl <;> intro w N b h
      · exact h.r2
      · exact h.r5
      · exact h.r6
  · have hd : dgN k = 1 := by unfold dgN; rw [if_neg (by omega), if_neg (by omega), if_neg (by omega)]
    have e : prodT k = mulP (prI k) := by funext a b; unfold prodT; rw [if_pos hd]
    have e2 : sumT k = fun a b : Nat => addS (prI k) 1 a b := by funext a b; unfold sumT; rw [hd]
    rw [e, e2]
    refine new_prime k (szN k) hk h1 h2 (prI k) rfl h3 h4 ?_ ?_ w
    · intro N; unfold polyA; rw [if_neg (by omega), if_neg (by omega), if_neg (by omega)]
    · unfold polyN; rw [if_neg (by omega), if_neg (by omega), if_neg (by omega)]

set_option maxRecDepth 100000 in
set_option maxHeartbeats 1600000 in
theorem awake5 (w : World) : Calls Try.prog 25 #[] w fun e w' => e = .returned (.bool true) ∧ Below w.heap.size w w' := by
  go_enter Try.func25, Try.ntmps25
  go_wp2_with fail
  refine (new_q 2 (by decide) _).mono ?_
  rintro e w1 ⟨f1, rfl, F1, B1⟩
  go_wp2_with fail
  refine (new_q 5 (by decide) _).mono ?_
  rintro e w2 ⟨f2, rfl, F2, B2⟩
  go_wp2_with fail
  refine (new_q 6 (by decide) _).mono ?_
  rintro e w3 ⟨f3, rfl, F3, B3⟩
  go_wp2_with fail
  refine (new_q 4 (by decide) _).mono ?_
  rintro e w4 ⟨f4, rfl, F4, B4⟩
  have G1 := ((F1.below B2).below B3).below B4
  have G2 := (F2.below B3).below B4
  have G3 := F3.below B4
  have G4 := F4
  have hB : Below w.heap.size w w4 := by
    have h2 := B1.trans (B2.mono B1.size)
    have h3 := h2.trans (B3.mono h2.size)
    exact h3.trans (B4.mono h3.size)
  clear F1 F2 F3 F4 B1 B2 B3 B4
  go_wp2_with fail
  refine (fmul_any f1 _ _ _ _ _ G1 2 2 (by decide) (by decide)).mono ?_
  rintro e w' ⟨rfl, rfl⟩
  rw [show prodT 2 2 2 = 3 from by decide +kernel]
  go_wp2_with fail
  refine (fmul_any f1 _ _ _ _ _ G1 2 3 (by decide) (by decide)).mono ?_
  rintro e w' ⟨rfl, rfl⟩
  rw [show prodT 2 2 3 = 1 from by decide +kernel]
  go_wp2_with fail
  refine (fmul_any f2 _ _ _ _ _ G2 2 4 (by decide) (by decide)).mono ?_
  rintro e w' ⟨rfl, rfl⟩
  rw [show prodT 5 2 4 = 3 from by decide +kernel]
  go_wp2_with fail
  refine (fmul_any f3 _ _ _ _ _ G3 3 3 (by decide) (by decide)).mono ?_
  rintro e w' ⟨rfl, rfl⟩
  rw [show prodT 6 3 3 = 2 from by decide +kernel]
  go_wp2_with fail
  refine (fadd_any f3 _ _ _ _ _ G3 5 5 (by decide) (by decide)).mono ?_
  rintro e w' ⟨rfl, rfl⟩
  rw [show sumT 6 5 5 = 7 from by decide +kernel]
  go_wp2_with fail
  refine (finv_any f3 _ (by decide) _ _ _ _ G3 3 (by decide)).mono ?_
  rintro e w' ⟨rfl, rfl⟩
  rw [show findI (prodT 6 3) 1 (szN 6) 0 = 6 from by decide +kernel]
  go_wp2_with fail
  refine (finv_any f4 _ (by decide) _ _ _ _ G4 3 (by decide)).mono ?_
  rintro e w' ⟨rfl, rfl⟩
  rw [show findI (prodT 4 3) 1 (szN 4) 0 = 5 from by decide +kernel]
  go_wp2_with fail
  go_ret
  exact ⟨rfl, hB⟩
def FieldOf (w : World) (k : Nat) (e : Ending) (w' : World) : Prop :=
  ∃ f, e = .returned (.tuple #[.pointer (some ⟨f, 0, none⟩), .int .i64 (szN k), .bool true]) ∧ FieldAt w' f (szN k) (prI k) (sumT k) (prodT k) ∧ Below w.heap.size w w'

set_option maxRecDepth 100000 in
set_option maxHeartbeats 1600000 in
theorem field_any (n : Nat) (hn : n ≤ 255) (w : World) : Calls Try.prog 26 #[.int .u8 n] w (FieldOf w (n % 7)) := by
  have hr : 0 ≤ (n : Int) % 7 ∧ (n : Int) % 7 < 7 := by omega
  obtain ⟨k, hk⟩ : ∃ k, n % 7 = k := ⟨_, rfl⟩
  have hk7 : k < 7 := by omega
  have hki : (n : Int) % 7 = k := by omega
  have hcell : ∀ W : World, (W.alloc (.cells #[.int .i64 2, .int .i64 3, .int .i64 4, .int .i64 5, .int .i64 7, .int .i64 8, .int .i64 9] 3)).cell? ⟨W.heap.size, k, none⟩ = some (.int .i64 (szN k)) := fun W => by
    have : k = 0 ∨ k = 1 ∨ k = 2 ∨ k = 3 ∨ k = 4 ∨ k = 5 ∨ k = 6 := by omega
    rcases this with rfl | rfl | rfl | rfl | rfl | rfl | rfl <;> simp [go_sem] <;> rfl
  have hc0 := hcell w
  rw [hk]
  clear hcell hk hr
  go_enter Try.func26, Try.ntmps26
  go_wp2_with fail
  refine (new_q k hk7 _).mono ?_
  rintro e w1 ⟨f, rfl, F, B⟩
  go_wp2_with fail
  refine (size_any f _ _ _ _ _ F).mono ?_
  rintro e w' ⟨rfl, rfl⟩
  go_wp2_with fail
  go_ret3
  exact ⟨f, rfl, F, ((Below.refl _ w).alloc (Nat.le_refl _) _).trans (B.mono (by simp))⟩

end Go.Proofs.Ytnmkkflnehnioaa
