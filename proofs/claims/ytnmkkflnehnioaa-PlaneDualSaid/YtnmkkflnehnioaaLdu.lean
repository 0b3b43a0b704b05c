/-
  THE LAW PlaneDual returns true: its walk. No condition.
-/
import Derived.Test.YtnmkkflnehnioaaPk
namespace Go.Proofs.Ytnmkkflnehnioaa
open Go.RowKit
set_option maxRecDepth 100000

theorem belowD {B : Nat} {a w : World} (h : Below B a w) (n : Nat) : Below B a (w.drewN n) := ⟨h.os, h.tape, h.output, h.size, h.block⟩
set_option maxHeartbeats 3200000 in
theorem walk_dual (n i j : Nat) (hn : n ≤ 255) (hi : i ≤ 255) (hj : j ≤ 255) (w : World) : Calls Try.prog 17 #[.int .u8 n, .int .u8 i, .int .u8 j] w fun e w' => e = .returned (.bool true) ∧ Below w.heap.size w w' := by
  obtain ⟨k, ek⟩ : ∃ k, n % 5 = k := ⟨_, rfl⟩
  have hk : k < 5 := by omega
  have hS := fun W => size48 n hn W
  rw [ek] at hS
  have HS := Lib.hid hS
  have HP := Lib.hid (fun W => proj_rd hk W)
  have hc := count_k k hk
  have h60 := sq60 hk
  obtain ⟨N, eN⟩ : ∃ N, (allL k).length = N := ⟨_, rfl⟩
  have HEN := Lib.hid eN
  obtain ⟨q, eq⟩ : ∃ q, szN k = q := ⟨_, rfl⟩
  have HEQ := Lib.hid eq
  rw [eN, eq] at hc
  rw [eq] at h60
  rw [eq] at HS HP
  rw [eN] at HP
  have hmul : (q : Int) * (q : Int) = ((q * q : Nat) : Int) := by push_cast; rfl
  obtain ⟨Q, eQ⟩ : ∃ Q, q * q = Q := ⟨_, rfl⟩
  rw [eQ] at hc h60 hmul
  have hN0 : ¬ (N : Int) = 0 := by omega
  obtain ⟨a, ea⟩ : ∃ a, i % N = a := ⟨_, rfl⟩
  obtain ⟨b, eb⟩ : ∃ b, j % N = b := ⟨_, rfl⟩
  have haN : a < N := ea ▸ Nat.mod_lt _ (by omega)
  have hbN : b < N := eb ▸ Nat.mod_lt _ (by omega)
  have ta : Int.tmod (i : Int) (N : Int) = (a : Int) := by rw [← ea]; rfl
  have tb : Int.tmod (j : Int) (N : Int) = (b : Int) := by rw [← eb]; rfl
  have hsum : (Q : Int) + (q : Int) + 1 = (N : Int) := by omega
  have hN60 : N ≤ 60 := by omega
  clear hS ek eN eq eQ ea eb hc
  go_enter Try.func17, Try.ntmps17
  go_wp2_with fail
  refine (awake6 _).mono ?_
  rintro e w1 ⟨rfl, B1⟩
  go_wp2_with fail
  refine (HS.out _).mono ?_
  rintro e w2 ⟨rfl, B2⟩
  go_wp2_with fail
  refine (HP.out _).mono ?_
  rintro e w3 ⟨g, c, rfl, hr, B3⟩
  have hB := (B1.trans (B2.mono B1.size)).trans (B3.mono (Nat.le_trans B1.size B2.size))
  obtain ⟨wa, hwa⟩ : ∃ wa, w3.alloc (.cells #[.int .i64 N, .slice (some ⟨g, 0, none⟩) N c] 48) = wa := ⟨_, rfl⟩
  have ha : Below w3.heap.size w3 wa := hwa ▸ (Below.refl _ w3).alloc (Nat.le_refl _) _
  have a0 : wa.cell? ⟨w3.heap.size, 0, none⟩ = some (.int .i64 N) := by rw [← hwa]; simp [go_sem]
  have a1 : wa.cell? ⟨w3.heap.size, 1, none⟩ = some (.slice (some ⟨g, 0, none⟩) N c) := by rw [← hwa]; simp [go_sem]
  have hq := hr.below ha
  have hNc := row_cap hq
  obtain ⟨ra, da, c1, r1⟩ := row_at hq a haN
  obtain ⟨rb, db, c2, r2⟩ := row_at hq b hbN
  have hl1 := line_length hk (by rw [HEN.out]; exact haN)
  have hl2 := line_length hk (by rw [HEN.out]; exact hbN)
  rw [HEQ.out] at hl1 hl2
  rw [hl1] at c1
  rw [hl2] at c2
  have hBa := hB.trans (ha.mono hB.size)
  have hzw : w3.heap.size < wa.heap.size := World.block_lt_of_cell? _ _ a0
  have R1 := Lib.hid r1
  have R2 := Lib.hid r2
  have HBA := Lib.hid hBa
  clear hr ha hq hB B1 B2 B3 r1 r2 hBa HS HP
  have hdu := dual hk (a := a) (b := b) (by rw [HEN.out]; exact haN) (by rw [HEN.out]; exact hbN)
  obtain ⟨h, eh⟩ : ∃ h, (lineL k a).contains b = h := ⟨_, rfl⟩
  rw [eh] at hdu
  have HH1 := Lib.hid (fun W hW => has_any (lineL k a) (by rw [hl1]; omega) b W _ (R1.out.below hW))
  have HH2 := Lib.hid (fun W hW => has_any (lineL k b) (by rw [hl2]; omega) a W _ (R2.out.below hW))
  rw [eh] at HH1
  rw [← hdu] at HH2
  rw [hl1] at HH1
  rw [hl2] at HH2
  clear eh hdu
  have dN1 : decide ((N : Int) < 1) = false := by simp; omega
  have hN1 : ¬ N < 1 := by omega
  obtain ⟨x, y, HME, HJO⟩ : ∃ x y : Int, Hid (∀ W, Calls Try.prog 50 #[.int .i64 q, .int .i64 a, .int .i64 b] W (Pair W x y)) ∧ Hid (∀ W, Calls Try.prog 52 #[.int .i64 q, .int .i64 b, .int .i64 a] W (Pair W x y)) := by
    by_cases hab : a = b
    · subst hab
      refine ⟨0, 9, Lib.hid fun W => ?_, Lib.hid fun W => ?_⟩
      · rw [← HEQ.out]; exact meet_of (fun W => (common_else hk a a W).2.2.2.2 (by omega) (by rw [HEN.out]; omega) rfl) W
      · rw [← HEQ.out]; exact join_of (fun W => (common_else hk a a W).2.2.2.2 (by omega) (by rw [HEN.out]; omega) rfl) W
    · refine ⟨(meetN k a b : Nat), 0, Lib.hid fun W => ?_, Lib.hid fun W => ?_⟩
      · rw [← HEQ.out]; exact meet_of (fun W => common_yes hk (by rw [HEN.out]; exact haN) (by rw [HEN.out]; exact hbN) hab W) W
      · rw [← HEQ.out, meet_comm hk (by rw [HEN.out]; exact haN) (by rw [HEN.out]; exact hbN) hab]; exact join_of (fun W => common_yes hk (by rw [HEN.out]; exact hbN) (by rw [HEN.out]; exact haN) (Ne.symm hab) W) W
  clear hmul hsum
  go_wp2_with fail
  (try rw [hwa])
  clear hwa
  go_region
  go_wp2_with fail
  refine (HME.out _).mono ?_
  rintro e w5 ⟨rfl, b5⟩
  go_wp2_with fail
  refine (HJO.out _).mono ?_
  rintro e w6 ⟨rfl, b6⟩
  have hB6 : Below wa.heap.size wa w6 := (Below.refl _ wa).drew.trans (b5.trans (b6.mono b5.size))
  have hBw : Below w.heap.size w w6 := HBA.out.trans (hB6.mono HBA.out.size)
  have a0 := (hB6.cell (p := ⟨w3.heap.size, 0, none⟩) (World.block_lt_of_cell? _ _ a0)).trans a0
  have a1 := (hB6.cell (p := ⟨w3.heap.size, 1, none⟩) (World.block_lt_of_cell? _ _ a1)).trans a1
  have c1 := (hB6.cell (p := ⟨g, a, none⟩) (World.block_lt_of_cell? _ _ c1)).trans c1
  have c2 := (hB6.cell (p := ⟨g, b, none⟩) (World.block_lt_of_cell? _ _ c2)).trans c2
  clear b5 b6
  go_wp2_with fail
  cases h
  all_goals (
    go_quiet ((first
      | (go_at_call_of 51 (Value.int .i64 (b : Nat)); refine Calls.quiet_of_same ((HH1.out _ (belowD hB6 _)).mono fun _ _ h => ⟨h.1, h.2.symm⟩))
      | (go_at_call_of 51 (Value.int .i64 (a : Nat)); refine Calls.quiet_of_same ((HH2.out _ (belowD hB6 _)).mono fun _ _ h => ⟨h.1, h.2.symm⟩))))
    go_wp2_with fail
    go_ret
    exact ⟨rfl, belowD hBw _⟩)
end Go.Proofs.Ytnmkkflnehnioaa
