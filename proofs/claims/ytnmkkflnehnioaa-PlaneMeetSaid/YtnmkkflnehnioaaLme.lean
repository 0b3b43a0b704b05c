/-
  THE LAW PlaneMeet returns true: its walk. No condition.
-/
import Derived.Test.YtnmkkflnehnioaaPk
namespace Go.Proofs.Ytnmkkflnehnioaa
open Go.RowKit
set_option maxRecDepth 100000

set_option maxHeartbeats 3200000 in
theorem walk_meet (n i j : Nat) (hn : n ≤ 255) (hi : i ≤ 255) (hj : j ≤ 255) (w : World) : Calls Try.prog 12 #[.int .u8 n, .int .u8 i, .int .u8 j] w fun e w' => e = .returned (.bool true) ∧ Below w.heap.size w w' := by
  obtain ⟨k, ek⟩ : ∃ k, n % 5 = k := ⟨_, rfl⟩
  have hk : k < 5 := by omega
  have hS := fun W => size48 n hn W
  rw [ek] at hS
  have HS := Lib.hid hS
  have HP := Lib.hid (fun W => proj_rd hk W)
  have hc := count_k k hk
  have h60 := sq60 hk
  obtain ⟨N, eN⟩ : ∃ N, (allL k).length = N := ⟨_, rfl⟩
  have HEN := Lib.hid eN
  obtain ⟨q, eq⟩ : ∃ q, szN k = q := ⟨_, rfl⟩
  have HEQ := Lib.hid eq
  rw [eN, eq] at hc
  rw [eq] at h60
  rw [eq] at HS HP
  rw [eN] at HP
  have hmul : (q : Int) * (q : Int) = ((q * q : Nat) : Int) := by push_cast; rfl
  obtain ⟨Q, eQ⟩ : ∃ Q, q * q = Q := ⟨_, rfl⟩
  rw [eQ] at hc h60 hmul
  have hN0 : ¬ (N : Int) = 0 := by omega
  obtain ⟨a, ea⟩ : ∃ a, i % N = a := ⟨_, rfl⟩
  obtain ⟨b, eb⟩ : ∃ b, j % N = b := ⟨_, rfl⟩
  have haN : a < N := ea ▸ Nat.mod_lt _ (by omega)
  have hbN : b < N := eb ▸ Nat.mod_lt _ (by omega)
  have ta : Int.tmod (i : Int) (N : Int) = (a : Int) := by rw [← ea]; rfl
  have tb : Int.tmod (j : Int) (N : Int) = (b : Int) := by rw [← eb]; rfl
  have hsum : (Q : Int) + (q : Int) + 1 = (N : Int) := by omega
  have hN60 : N ≤ 60 := by omega
  clear hS ek eN eq eQ ea eb hc
  go_enter Try.func12, Try.ntmps12
  go_wp2_with fail
  refine (awake6 _).mono ?_
  rintro e w1 ⟨rfl, B1⟩
  go_wp2_with fail
  refine (HS.out _).mono ?_
  rintro e w2 ⟨rfl, B2⟩
  go_wp2_with fail
  refine (HP.out _).mono ?_
  rintro e w3 ⟨g, c, rfl, hr, B3⟩
  have hB := (B1.trans (B2.mono B1.size)).trans (B3.mono (Nat.le_trans B1.size B2.size))
  obtain ⟨wa, hwa⟩ : ∃ wa, w3.alloc (.cells #[.int .i64 N, .slice (some ⟨g, 0, none⟩) N c] 48) = wa := ⟨_, rfl⟩
  have ha : Below w3.heap.size w3 wa := hwa ▸ (Below.refl _ w3).alloc (Nat.le_refl _) _
  have a0 : wa.cell? ⟨w3.heap.size, 0, none⟩ = some (.int .i64 N) := by rw [← hwa]; simp [go_sem]
  have a1 : wa.cell? ⟨w3.heap.size, 1, none⟩ = some (.slice (some ⟨g, 0, none⟩) N c) := by rw [← hwa]; simp [go_sem]
  have hq := hr.below ha
  have hNc := row_cap hq
  obtain ⟨ra, da, c1, r1⟩ := row_at hq a haN
  obtain ⟨rb, db, c2, r2⟩ := row_at hq b hbN
  have hl1 := line_length hk (by rw [HEN.out]; exact haN)
  have hl2 := line_length hk (by rw [HEN.out]; exact hbN)
  rw [HEQ.out] at hl1 hl2
  rw [hl1] at c1
  rw [hl2] at c2
  have hBa := hB.trans (ha.mono hB.size)
  have hzw : w3.heap.size < wa.heap.size := World.block_lt_of_cell? _ _ a0
  have R1 := Lib.hid r1
  have R2 := Lib.hid r2
  have HBA := Lib.hid hBa
  clear hr ha hq hB B1 B2 B3 r1 r2 hBa HS HP
  by_cases hab : a = b
  · subst hab
    go_wp2_with fail
    (try rw [hwa])
    clear hwa
    go_region
    go_wp2_with fail
    go_ret
    exact ⟨rfl, HBA.out.drew⟩
  · have habi : ¬ (a : Int) = (b : Int) := by omega
    have HCM := Lib.hid (common_any (lineL k a) (lineL k b) (by rw [hl1]; omega) (by rw [hl2]; omega) wa.drew.drew _ _ (R1.out.below (Below.refl _ wa).drew.drew) (R2.out.below (Below.refl _ wa).drew.drew))
    have hce := common_eq hk (by rw [HEN.out]; exact haN) (by rw [HEN.out]; exact hbN) hab
    rw [hce] at HCM
    have HMT : Hid (∀ W, Calls Try.prog 50 #[.int .i64 q, .int .i64 a, .int .i64 b] W (Pair W (meetN k a b : Nat) 0)) := Lib.hid fun W => by
      rw [← HEQ.out]
      exact meet_of (fun W => common_yes hk (by rw [HEN.out]; exact haN) (by rw [HEN.out]; exact hbN) hab W) W
    obtain ⟨p, ep⟩ : ∃ p, meetN k a b = p := ⟨_, rfl⟩
    rw [ep] at HCM HMT
    rw [hl1, hl2] at HCM
    clear hce ep hab
    go_wp2_with fail
    (try rw [hwa])
    clear hwa
    go_region
    go_wp2_with fail
    (first | go_region_with (go_at_call 49; refine HCM.out.mono ?_; rintro e w5 ⟨y, rfl, ho, b5⟩; obtain ⟨g5, c5, rfl⟩ := own_form ho (by simp); have y0 := own_cell ho (j := 0) (u := .int .i64 (p : Nat)) (by simp [natVals])) | fail)
    all_goals (
      go_wp2_with fail
      refine (HMT.out _).mono ?_
      rintro e w6 ⟨rfl, b6⟩
      have y0 := (b6.cell (p := ⟨g5, 0, none⟩) (World.block_lt_of_cell? _ _ y0)).trans y0
      go_wp2_with fail
      go_ret
      have h5 := HBA.out.drew.drew.trans (b5.mono HBA.out.size)
      exact ⟨rfl, h5.trans (b6.mono h5.size)⟩)
end Go.Proofs.Ytnmkkflnehnioaa
