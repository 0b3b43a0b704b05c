/-
  The seventh layer's awake (53). No condition.
-/
import Derived.Test.YtnmkkflnehnioaaZd
namespace Go.Proofs.Ytnmkkflnehnioaa
open Go.RowKit
set_option maxRecDepth 100000

theorem comp42 : compG 4 2 = [[0, 1], [0, 2], [0, 3], [1, 2], [1, 3], [2, 3]] := by decide +kernel
theorem lit6c {w : World} {b b0 b1 b2 b3 b4 b5 : Nat} (c0 : w.cell? ⟨b, 0, none⟩ = some (.slice (some ⟨b0, 0, none⟩) 2 2)) (c1 : w.cell? ⟨b, 1, none⟩ = some (.slice (some ⟨b1, 0, none⟩) 2 2)) (c2 : w.cell? ⟨b, 2, none⟩ = some (.slice (some ⟨b2, 0, none⟩) 2 2))
    (c3 : w.cell? ⟨b, 3, none⟩ = some (.slice (some ⟨b3, 0, none⟩) 2 2)) (c4 : w.cell? ⟨b, 4, none⟩ = some (.slice (some ⟨b4, 0, none⟩) 2 2)) (c5 : w.cell? ⟨b, 5, none⟩ = some (.slice (some ⟨b5, 0, none⟩) 2 2))
    (h0 : RRow w (.slice (some ⟨b0, 0, none⟩) 2 2) [0, 1]) (h1 : RRow w (.slice (some ⟨b1, 0, none⟩) 2 2) [0, 2]) (h2 : RRow w (.slice (some ⟨b2, 0, none⟩) 2 2) [0, 3]) (h3 : RRow w (.slice (some ⟨b3, 0, none⟩) 2 2) [1, 2]) (h4 : RRow w (.slice (some ⟨b4, 0, none⟩) 2 2) [1, 3]) (h5 : RRow w (.slice (some ⟨b5, 0, none⟩) 2 2) [2, 3]) :
    RRows w (.slice (some ⟨b, 0, none⟩) 6 6) 6 (rowG (compG 4 2)) := by
  rw [comp42]
  refine ⟨b, 6, rfl, Nat.le_refl _, fun i hi => ?_⟩
  obtain rfl | rfl | rfl | rfl | rfl | rfl : i = 0 ∨ i = 1 ∨ i = 2 ∨ i = 3 ∨ i = 4 ∨ i = 5 := by omega
  · exact ⟨_, c0, h0⟩
  · exact ⟨_, c1, h1⟩
  · exact ⟨_, c2, h2⟩
  · exact ⟨_, c3, h3⟩
  · exact ⟨_, c4, h4⟩
  · exact ⟨_, c5, h5⟩
theorem good42 : GoodG 4 2 (compG 4 2) 3 1 := balB_iff (by decide +kernel)
theorem proj13 : (allL 1).length = 13 := by decide +kernel
theorem good13 : GoodG 13 4 (projG 1) 4 1 := by
  have hb := proj_bal 1
  simp only [Bool.and_eq_true] at hb
  have := balB_iff hb.1.1
  rw [show ((1 : Fin 5) : Nat) = 1 from rfl, proj13] at this
  exact this
theorem both_list (G : List (List Nat)) (a b : Nat) : ∀ n, n ≤ G.length → both (rowZ G) (a : Int) (b : Int) n = ((G.take n).filter fun g => g.contains a && g.contains b).length
  | 0, _ => by simp [both]
  | n + 1, h => by
    have e : G.take (n + 1) = G.take n ++ [rowG G n] := by
      rw [List.take_succ_eq_append_getElem (by omega), rowG, List.getD_eq_getElem?_getD, List.getElem?_eq_getElem (by omega)]
      rfl
    have hc : ∀ x : Nat, (rowZ G n).contains (x : Int) = (rowG G n).contains x := fun x => by
      rw [Bool.eq_iff_iff, List.contains_iff_mem, List.contains_iff_mem, ← List.count_pos_iff, ← List.count_pos_iff, rowZ, count_ints]
    rw [both, both_list G a b n (by omega), e, List.filter_append, List.length_append, hc, hc]
    cases h2 : (rowG G n).contains a && (rowG G n).contains b <;> simp only [List.filter_cons, List.filter_nil, h2] <;> rfl
theorem shared01 : sharedN 13 (rowZ (projG 1)) 13 0 1 = 1 := by
  have e : sharedN 13 (rowZ (projG 1)) 13 0 1 = both (rowZ (projG 1)) ((0 : Nat) : Int) ((1 : Nat) : Int) 13 := if_neg (by omega)
  rw [e, both_list _ _ _ _ (by rw [projG, List.length_map, List.length_range, proj13]; omega)]
  decide +kernel

set_option maxHeartbeats 3200000 in
theorem awake7 (w : World) : Calls Try.prog 53 #[] w fun e w' => e = .returned (.bool true) ∧ Below w.heap.size w w' := by
  have HC : Hid (∀ W, Calls Try.prog 54 #[.int .i64 4, .int .i64 2] W (Rd 4 6 (rowG (compG 4 2)) W)) := Lib.hid fun W => comp_rd (v := 4) (k := 2) (by omega) (by omega) (by omega) (by omega) (by decide) W
  have HK : Hid (∀ W v, RRows W v 6 (rowG (compG 4 2)) → Calls Try.prog 58 #[.agg #[.int .i64 4, v]] W fun e w' => e = .returned (.tuple #[.int .i64 3, .int .i64 1, .int .i64 0]) ∧ Below W.heap.size W w') := Lib.hid fun W v hv => check_good good42 (by rw [comp42]; rfl) W v hv
  have HP : Hid (∀ W, Calls Try.prog 60 #[.int .i64 13, .int .i64 4] W (Rd 13 13 (rowG (projG 1)) W)) := Lib.hid fun W => by
    have := choose_proj (k := 1) (by omega) (by omega) W
    rw [proj13] at this
    exact this
  have HK2 : Hid (∀ W v, RRows W v 13 (rowG (projG 1)) → Calls Try.prog 58 #[.agg #[.int .i64 13, v]] W fun e w' => e = .returned (.tuple #[.int .i64 4, .int .i64 1, .int .i64 0]) ∧ Below W.heap.size W w') := Lib.hid fun W v hv => check_good good13 (by rw [projG, List.length_map, List.length_range, proj13]) W v hv
  have HN : Hid (∀ W, Calls Try.prog 60 #[.int .i64 40, .int .i64 8] W (Made 40 0 (fun _ => []) 7 W)) := Lib.hid fun W => by
    refine choose_any (D := 40) (W := 8) (by omega) (by omega) (by omega) (by omega) ⟨?_, ?_⟩ (fun w => ?_) W
    · exact fun k hk => (by decide : ∀ k : Fin 5, ¬ (40 = szN k * szN k + szN k + 1 ∧ 8 = szN k + 1)) ⟨k, hk⟩
    · exact fun k hk => (by decide : ∀ k : Fin 5, ¬ (40 = szN k * szN k ∧ 8 = szN k)) ⟨k, hk⟩
    · exact (complete_no2 40 8 (by omega) (by omega) (by omega) (by omega) (by decide +kernel) w).mono fun e w' h => Made.of_err (by decide) h
  go_enter Try.func53, Try.ntmps53
  go_wp2_with fail
  refine (HC.out _).mono ?_
  rintro e w1 ⟨g, c, rfl, hr, B1⟩
  obtain ⟨wa, hwa⟩ : ∃ wa, w1.alloc (.cells #[.int .i64 4, .slice (some ⟨g, 0, none⟩) 6 c] 48) = wa := ⟨_, rfl⟩
  have ha : Below w1.heap.size w1 wa := hwa ▸ (Below.refl _ w1).alloc (Nat.le_refl _) _
  have a0 : wa.cell? ⟨w1.heap.size, 0, none⟩ = some (.int .i64 4) := by rw [← hwa]; simp [go_sem]
  have a1 : wa.cell? ⟨w1.heap.size, 1, none⟩ = some (.slice (some ⟨g, 0, none⟩) 6 c) := by rw [← hwa]; simp [go_sem]
  have HWA := Lib.hid hwa
  have HQ := Lib.hid (hr.below ha)
  have HB := Lib.hid (B1.trans (ha.mono B1.size))
  have l1 : w1.heap.size < wa.heap.size := World.block_lt_of_cell? _ _ a0
  clear hr B1 ha hwa
  go_wp2_with fail
  rw [HWA.out]
  refine (HK.out _ _ HQ.out).mono ?_
  rintro e w2 ⟨rfl, B2⟩
  have a0 := (B2.cell (p := ⟨w1.heap.size, 0, none⟩) l1).trans a0
  have a1 := (B2.cell (p := ⟨w1.heap.size, 1, none⟩) l1).trans a1
  have l1 : w1.heap.size < w2.heap.size := World.block_lt_of_cell? _ _ a0
  have HQ2 := Lib.hid (HQ.out.below B2)
  have HB2 := Lib.hid (HB.out.trans (B2.mono HB.out.size))
  clear B2 HWA HQ HB
  go_wp2_with fail
  refine (HP.out _).mono ?_
  rintro e w3 ⟨g3, c3, rfl, hr3, B3⟩
  obtain ⟨wb, hwb⟩ : ∃ wb, w3.alloc (.cells #[.int .i64 13, .slice (some ⟨g3, 0, none⟩) 13 c3] 48) = wb := ⟨_, rfl⟩
  have hb : Below w3.heap.size w3 wb := hwb ▸ (Below.refl _ w3).alloc (Nat.le_refl _) _
  have b0 : wb.cell? ⟨w3.heap.size, 0, none⟩ = some (.int .i64 13) := by rw [← hwb]; simp [go_sem]
  have b1 : wb.cell? ⟨w3.heap.size, 1, none⟩ = some (.slice (some ⟨g3, 0, none⟩) 13 c3) := by rw [← hwb]; simp [go_sem]
  have hB3 := B3.trans (hb.mono B3.size)
  have a0 := (hB3.cell (p := ⟨w1.heap.size, 0, none⟩) l1).trans a0
  have a1 := (hB3.cell (p := ⟨w1.heap.size, 1, none⟩) l1).trans a1
  have HWB := Lib.hid hwb
  have HQ3 := Lib.hid (hr3.below hb)
  have HQ23 := Lib.hid (HQ2.out.below hB3)
  have HB3 := Lib.hid (HB2.out.trans (hB3.mono HB2.out.size))
  have l1 : w1.heap.size < wb.heap.size := World.block_lt_of_cell? _ _ a0
  have l3 : w3.heap.size < wb.heap.size := World.block_lt_of_cell? _ _ b0
  clear hr3 B3 hb hwb hB3 HQ2 HB2
  go_wp2_with fail
  rw [HWB.out]
  refine (HK2.out _ _ HQ3.out).mono ?_
  rintro e w4 ⟨rfl, B4⟩
  have a0 := (B4.cell (p := ⟨w1.heap.size, 0, none⟩) l1).trans a0
  have a1 := (B4.cell (p := ⟨w1.heap.size, 1, none⟩) l1).trans a1
  have b0 := (B4.cell (p := ⟨w3.heap.size, 0, none⟩) l3).trans b0
  have b1 := (B4.cell (p := ⟨w3.heap.size, 1, none⟩) l3).trans b1
  have l1 : w1.heap.size < w4.heap.size := World.block_lt_of_cell? _ _ a0
  have l3 : w3.heap.size < w4.heap.size := World.block_lt_of_cell? _ _ b0
  have HQ34 := Lib.hid (HQ3.out.below B4)
  have HQ24 := Lib.hid (HQ23.out.below B4)
  have HB4 := Lib.hid (HB3.out.trans (B4.mono HB3.out.size))
  clear B4 HWB HQ3 HQ23 HB3
  go_wp2_with fail
  refine (HN.out _).mono ?_
  rintro e w5 ⟨d5, v5, rfl, -, B5, -, hno5⟩
  obtain ⟨rfl, rfl⟩ := hno5 (by decide)
  have a0 := (B5.cell (p := ⟨w1.heap.size, 0, none⟩) l1).trans a0
  have a1 := (B5.cell (p := ⟨w1.heap.size, 1, none⟩) l1).trans a1
  have b0 := (B5.cell (p := ⟨w3.heap.size, 0, none⟩) l3).trans b0
  have b1 := (B5.cell (p := ⟨w3.heap.size, 1, none⟩) l3).trans b1
  have l1 : w1.heap.size < w5.heap.size := World.block_lt_of_cell? _ _ a0
  have l3 : w3.heap.size < w5.heap.size := World.block_lt_of_cell? _ _ b0
  have HQ35 := Lib.hid (HQ34.out.below B5)
  have HQ25 := Lib.hid (HQ24.out.below B5)
  have HB5 := Lib.hid (HB4.out.trans (B5.mono HB4.out.size))
  have n1 : ¬ w1.heap.size = w5.heap.size := by omega
  have n3 : ¬ w3.heap.size = w5.heap.size := by omega
  clear B5 HQ34 HQ24 HB4 hno5
  go_wp2_with fail
  obtain ⟨w6, hw6⟩ : ∃ w6, (((((((w5.alloc (.cells #[.int .i64 0, .slice none 0 0] 48)).alloc (.cells #[.int .i64 0, .int .i64 1] 3)).alloc (.cells #[.int .i64 0, .int .i64 2] 3)).alloc (.cells #[.int .i64 0, .int .i64 3] 3)).alloc (.cells #[.int .i64 1, .int .i64 2] 3)).alloc (.cells #[.int .i64 1, .int .i64 3] 3)).alloc (.cells #[.int .i64 2, .int .i64 3] 3)).alloc (.cells #[.slice (some ⟨w5.heap.size + 1, 0, none⟩) 2 2, .slice (some ⟨w5.heap.size + 1 + 1, 0, none⟩) 2 2, .slice (some ⟨w5.heap.size + 1 + 1 + 1, 0, none⟩) 2 2, .slice (some ⟨w5.heap.size + 1 + 1 + 1 + 1, 0, none⟩) 2 2, .slice (some ⟨w5.heap.size + 1 + 1 + 1 + 1 + 1, 0, none⟩) 2 2, .slice (some ⟨w5.heap.size + 1 + 1 + 1 + 1 + 1 + 1, 0, none⟩) 2 2] 38) = w6 := ⟨_, rfl⟩
  have h6 : Below w5.heap.size w5 w6 := by rw [← hw6]; exact (((((((((Below.refl _ w5).alloc (Nat.le_refl _) _).alloc (by simp <;> omega) _).alloc (by simp <;> omega) _).alloc (by simp <;> omega) _).alloc (by simp <;> omega) _).alloc (by simp <;> omega) _).alloc (by simp <;> omega) _).alloc (by simp <;> omega) _)
  have hr6 : RRows w6 (.slice (some ⟨w5.heap.size + 1 + 1 + 1 + 1 + 1 + 1 + 1, 0, none⟩) 6 6) 6 (rowG (compG 4 2)) := by
    rw [← hw6]
    refine lit6c (b0 := w5.heap.size + 1) (b1 := w5.heap.size + 1 + 1) (b2 := w5.heap.size + 1 + 1 + 1) (b3 := w5.heap.size + 1 + 1 + 1 + 1) (b4 := w5.heap.size + 1 + 1 + 1 + 1 + 1) (b5 := w5.heap.size + 1 + 1 + 1 + 1 + 1 + 1) ?_ ?_ ?_ ?_ ?_ ?_ (row2 ?_ ?_) (row2 ?_ ?_) (row2 ?_ ?_) (row2 ?_ ?_) (row2 ?_ ?_) (row2 ?_ ?_)
    all_goals (simp [go_sem])
  rw [hw6]
  clear hw6
  refine (same_true 4 6 (rowG (compG 4 2)) (by omega) (fun i hi => by rw [compG_row (by rw [comp42]; exact hi)]; omega) w6 _ _ (HQ25.out.below h6) hr6).mono ?_
  rintro e w7 ⟨rfl, B7⟩
  have hB7 := h6.trans (B7.mono h6.size)
  have b0 := (hB7.cell (p := ⟨w3.heap.size, 0, none⟩) l3).trans b0
  have b1 := (hB7.cell (p := ⟨w3.heap.size, 1, none⟩) l3).trans b1
  have HQ37 := Lib.hid (HQ35.out.below hB7)
  have HB7 := Lib.hid (HB5.out.trans (hB7.mono HB5.out.size))
  clear h6 hr6 B7 hB7 a0 a1 l1 n1
  go_wp2_with fail
  have hz : ∀ i, i < 13 → (rowG (projG 1) i).length < 4000000000 := fun i hi => by rw [good13.len _ (rowG_mem (by rw [projG, List.length_map, List.length_range, proj13]; exact hi))]; omega
  refine (shared_z 13 13 (rowZ (projG 1)) 0 1 _ _ (HQ37.out.z (by omega) hz)).mono ?_
  rintro e w8 ⟨rfl, B8⟩
  have h01 := shared01
  have HB8 := Lib.hid (HB7.out.trans (B8.mono HB7.out.size))
  clear hz B8
  go_wp2_with fail
  go_ret
  exact ⟨rfl, HB8.out⟩
end Go.Proofs.Ytnmkkflnehnioaa
