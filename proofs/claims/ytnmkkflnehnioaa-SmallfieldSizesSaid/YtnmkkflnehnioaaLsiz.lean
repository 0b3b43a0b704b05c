/-
  THE LAW SmallfieldSizes returns true: its walk. No condition.
-/
import Derived.Test.YtnmkkflnehnioaaSiz
namespace Go.Proofs.Ytnmkkflnehnioaa
open Go.RowKit

/-- Is q among the first n sizes? -/
def inTo (q : Int) : Nat → Bool
  | 0 => false
  | n + 1 => inTo q n || (at0 sizes n == q)
theorem inTo_no {q : Int} : ∀ {n : Nat}, inTo q n = false → ∀ k, k < n → at0 sizes k ≠ q
  | 0, _, k, h => absurd h (Nat.not_lt_zero _)
  | n + 1, hn, k, hk => by
    simp only [inTo, Bool.or_eq_false_iff] at hn
    by_cases e : k = n
    · subst e; simpa using hn.2
    · exact inTo_no hn.1 k (by omega)
theorem inTo_yes {q : Int} : ∀ {n : Nat}, inTo q n = true → ∃ k, k < n ∧ at0 sizes k = q
  | 0, h => by simp [inTo] at h
  | n + 1, hn => by
    simp only [inTo, Bool.or_eq_true] at hn
    rcases hn with h | h
    · obtain ⟨k, h1, h2⟩ := inTo_yes h
      exact ⟨k, by omega, h2⟩
    · exact ⟨n, by omega, by simpa using h⟩

set_option maxRecDepth 100000 in
set_option maxHeartbeats 3200000 in
theorem walk_sizes (q : Int) (w : World) :
    Calls Try.prog 9 #[.int .i64 q] w fun e w' => e = .returned (.bool true) ∧ Below w.heap.size w w' := by
  go_enter Try.func9, Try.ntmps9
  go_wp2_with fail
  refine (awake5 _).mono ?_
  rintro e w1 ⟨rfl, B1⟩
  go_wp2_with fail
  refine (sizes_any _).mono ?_
  rintro e w2 ⟨b, c, rfl, hb1, hb2, hl, B2⟩
  have hB2 := B1.trans (B2.mono B1.size)
  go_wp2_with fail
  obtain ⟨w3, hw3⟩ : ∃ w3, w2.alloc (.cells #[.int .i64 2, .int .i64 3, .int .i64 4, .int .i64 5, .int .i64 7, .int .i64 8, .int .i64 9] 3) = w3 := ⟨_, rfl⟩
  have hc : ∀ j, j < 7 → w3.cell? ⟨w2.heap.size, j, none⟩ = some (.int .i64 (at0 sizes j)) := by
    intro k hk
    rw [← hw3]
    have : k = 0 ∨ k = 1 ∨ k = 2 ∨ k = 3 ∨ k = 4 ∨ k = 5 ∨ k = 6 := by omega
    rcases this with rfl | rfl | rfl | rfl | rfl | rfl | rfl <;> simp [go_sem, sizes, at0]
  have hB3 : Below w2.heap.size w2 w3 := hw3 ▸ (Below.refl _ w2).alloc (Nat.le_refl _) _
  have hz3 : w2.heap.size < w3.heap.size := by rw [← hw3]; simp
  have hl3 : ∀ j, j < 7 → w3.cell? ⟨b, j, none⟩ = some (.int .i64 (at0 sizes j)) := fun j hj => (hB3.cell (p := ⟨b, j, none⟩) hb2).trans (hl j hj)
  have HL := Lib.hid hl3
  have HC := Lib.hid hc
  rw [hw3]
  clear hw3 hl hl3 hc
  have hBw : Below w.heap.size w w3 := hB2.trans (hB3.mono hB2.size)
  go_loopw [5, 6] (fun v i wr => ∃ j : Nat, j ≤ 7 ∧ i = .int .i64 j ∧ v = .bool (inTo q j) ∧ Below w3.heap.size w3 wr) (fun _ i _ => 7 - (intOf i).toNat)
  case atStart => exact ⟨0, by omega, rfl, rfl, Below.refl _ _⟩
  case round =>
    obtain ⟨j, hj, rfl, rfl, hb⟩ := hrel
    by_cases hlt : j < 7
    · have l1 : wr.cell? ⟨b, j, none⟩ = some (.int .i64 (at0 sizes j)) := (hb.cell (p := ⟨b, j, none⟩) (Nat.lt_of_lt_of_le hb2 hB3.size)).trans (HL.out j hlt)
      have c1 : wr.cell? ⟨w2.heap.size, j, none⟩ = some (.int .i64 (at0 sizes j)) := (hb.cell (p := ⟨w2.heap.size, j, none⟩) hz3).trans (HC.out j hlt)
      have hs : inTo q (j + 1) = (inTo q j || (at0 sizes j == q)) := rfl
      have HS := Lib.hid hs
      clear hs
      obtain ⟨z, hz⟩ : ∃ z, at0 sizes j = z := ⟨_, rfl⟩
      rw [hz] at l1 c1 HS
      obtain ⟨v, hv⟩ : ∃ v, inTo q j = v := ⟨_, rfl⟩
      rw [hv] at HS
      rw [hv]
      clear hz hv
      go_wp2_with fail
      go_region
      have hb' := hb.drew
      cases v
      · go_wp2_with fail
        go_roundw
        case rel => exact ⟨j + 1, by omega, by go_num, by rw [HS.out]; rfl, hb'⟩
        case measure => simp [intOf]; omega
      · go_wp2_with fail
        go_roundw
        case rel => exact ⟨j + 1, by omega, by go_num, by rw [HS.out]; rfl, hb'⟩
        case measure => simp [intOf]; omega
    · obtain rfl : j = 7 := by omega
      have hBr := hBw.trans (hb.mono hBw.size)
      cases hin : inTo q 7
      · have hno := inTo_no hin
        clear hin HL HC
        have HNO := Lib.hid hno
        clear hno
        go_wp2_with fail
        refine (new_no q HNO.out _).mono ?_
        rintro e w4 ⟨rfl, B4⟩
        go_wp2_with fail
        go_ret
        exact ⟨rfl, hBr.trans (B4.mono hBr.size)⟩
      · obtain ⟨k, hk, hq⟩ := inTo_yes hin
        have e1 : q = (szN k : Int) := by
          have := (sz_facts k hk).1
          omega
        clear hin HL HC hq
        subst e1
        go_wp2_with fail
        refine (new_k k hk _).mono ?_
        rintro e w4 ⟨f, rfl, F, B4⟩
        go_wp2_with fail
        refine (ref_prime k hk _).mono ?_
        rintro e w' ⟨d, rfl, rfl⟩
        go_wp2_with fail
        refine (size_any f _ _ _ _ _ F).mono ?_
        rintro e w' ⟨rfl, rfl⟩
        go_wp2_with fail
        refine (primeK hk F).mono ?_
        rintro e w' ⟨rfl, rfl⟩
        go_wp2_with fail
        go_ret
        exact ⟨rfl, hBr.trans (B4.mono hBr.size)⟩
end Go.Proofs.Ytnmkkflnehnioaa
