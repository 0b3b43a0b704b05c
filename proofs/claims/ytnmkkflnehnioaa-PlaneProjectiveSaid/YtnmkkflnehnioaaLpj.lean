/-
  THE LAW PlaneProjective returns true: its walk. No condition.
-/
import Derived.Test.YtnmkkflnehnioaaWr
import Derived.Test.YtnmkkflnehnioaaGc
namespace Go.Proofs.Ytnmkkflnehnioaa
open Go.RowKit
set_option maxRecDepth 100000

theorem des_new {w1 w2 w : World} {x v : Value} (h : w = w1.alloc (.cells #[x, v] 48)) (hb : Below w.heap.size w w2) : w2.cell? ⟨w1.heap.size, 0, none⟩ = some x ∧ w2.cell? ⟨w1.heap.size, 1, none⟩ = some v ∧ Below w1.heap.size w1 w2 := by
  subst h
  have hl : w1.heap.size < (w1.alloc (.cells #[x, v] 48)).heap.size := by simp
  exact ⟨(hb.cell (p := ⟨w1.heap.size, 0, none⟩) hl).trans (by simp [go_sem]), (hb.cell (p := ⟨w1.heap.size, 1, none⟩) hl).trans (by simp [go_sem]), ((Below.refl _ w1).alloc (Nat.le_refl _) _).trans (hb.mono (by simp))⟩

set_option maxHeartbeats 3200000 in
theorem walk_projective (q : Int) (w : World) : Calls Try.prog 10 #[.int .i64 q] w fun e w' => e = .returned (.bool true) ∧ Below w.heap.size w w' := by
  rcases size_cases q with hno | ⟨k, hk, rfl⟩
  · have H1 := Lib.hid (proj_no1 q hno)
    have H2 := Lib.hid (wrong_no1 q hno)
    clear hno
    go_enter Try.func10, Try.ntmps10
    go_wp2_with fail
    refine (awake6 _).mono ?_
    rintro e w1 ⟨rfl, B1⟩
    go_wp2_with fail
    refine (H1.out _).mono ?_
    rintro e w2 ⟨rfl, B2⟩
    have hB := B1.trans (B2.mono B1.size)
    clear B1 B2
    go_wp2_with fail
    refine (H2.out _).mono ?_
    rintro e w3 ⟨rfl, rfl⟩
    go_wp2_with fail
    refine (H2.out _).mono ?_
    rintro e w3 ⟨rfl, rfl⟩
    go_wp2_with fail
    go_ret
    exact ⟨rfl, hB.alloc hB.size _⟩
  · by_cases h5 : k < 5
    · have HP := Lib.hid (fun W => proj_yes h5 W)
      have HW := Lib.hid (wrong_size k hk)
      obtain ⟨n, en⟩ : ∃ n, (allL k).length = n := ⟨_, rfl⟩
      have hn : n < 2000000000 := by have := count_k k h5; have := sq60 h5; omega
      have HR : Hid (∀ W, Calls Try.prog 45 #[.int .i64 (szN k)] W fun e w' => ∃ v, e = .returned (.agg #[.int .i64 n, v]) ∧ RRows w' v n (lineL k) ∧ Below W.heap.size W w') := Lib.hid fun W => (rproj_k h5 W).mono fun e w' ⟨v, h1, h2, h3⟩ => by
        rw [en] at h1
        have := proj_read h5 h2
        rw [en] at this
        exact ⟨v, h1, this, h3⟩
      have HS := Lib.hid (fun W v u hv hu => same_true (n : Int) n (lineL k) hn (fun i hi => by have := (line_pos h5 (by rw [en]; exact hi)).2; omega) W v u hv hu)
      have HEN := Lib.hid en
      clear en hn
      go_enter Try.func10, Try.ntmps10
      go_wp2_with fail
      refine (awake6 _).mono ?_
      rintro e w1 ⟨rfl, B1⟩
      go_wp2_with fail
      refine (HP.out _).mono ?_
      rintro e w2 ⟨v, rfl, hr, B2⟩
      have hr := proj_read h5 hr
      rw [HEN.out] at hr ⊢
      obtain ⟨g, c, rfl, hc, hrr⟩ := hr
      have hB := B1.trans (B2.mono B1.size)
      clear B1 B2
      go_wp2_with fail
      refine (HW.out _).mono ?_
      rintro e w3 ⟨rfl, rfl⟩
      rw [if_pos h5]
      obtain ⟨wa, hwa⟩ : ∃ wa, w2.alloc (.cells #[.int .i64 n, .slice (some ⟨g, 0, none⟩) n c] 48) = wa := ⟨_, rfl⟩
      have ha : Below w2.heap.size w2 wa := hwa ▸ (Below.refl _ w2).alloc (Nat.le_refl _) _
      have a0 : wa.cell? ⟨w2.heap.size, 0, none⟩ = some (.int .i64 n) := by rw [← hwa]; simp [go_sem]
      have a1 : wa.cell? ⟨w2.heap.size, 1, none⟩ = some (.slice (some ⟨g, 0, none⟩) n c) := by rw [← hwa]; simp [go_sem]
      have hq : RRows wa (.slice (some ⟨g, 0, none⟩) n c) n (lineL k) := RRows.below ⟨g, c, rfl, hc, hrr⟩ ha
      have hBa := hB.trans (ha.mono hB.size)
      rw [hwa]
      clear hrr ha hwa hB
      have HQ := Lib.hid hq
      have HBA := Lib.hid hBa
      clear hq hBa
      go_wp2_with fail
      (first | go_region_with (first
        | (go_at_call 45; refine (HR.out _).mono ?_; rintro e w5 ⟨u, rfl, hu, b5⟩; obtain ⟨gu, cu, rfl, hcu, hru⟩ := hu; have b5 : Below wa.heap.size wa w5 := (Below.refl _ wa).drew.trans b5; have e0 := (b5.cell (p := ⟨w2.heap.size, 0, none⟩) (World.block_lt_of_cell? _ _ a0)).trans a0; have e1 := (b5.cell (p := ⟨w2.heap.size, 1, none⟩) (World.block_lt_of_cell? _ _ a1)).trans a1; have hq5 := HQ.out.below b5)
        | (go_at_call 44; refine (HS.out _ _ _ hq5 ⟨gu, cu, rfl, hcu, hru⟩).mono ?_; rintro e w6 ⟨rfl, b6⟩)) | fail)
      all_goals (
        go_wp2_with fail
        go_ret
        exact ⟨rfl, HBA.out.trans ((b5.trans (b6.mono b5.size)).mono HBA.out.size)⟩)
    · have H1 := Lib.hid (proj_no2 k hk (sq_gt hk h5).1)
      have HW := Lib.hid (wrong_size k hk)
      go_enter Try.func10, Try.ntmps10
      go_wp2_with fail
      refine (awake6 _).mono ?_
      rintro e w1 ⟨rfl, B1⟩
      go_wp2_with fail
      refine (H1.out _).mono ?_
      rintro e w2 ⟨rfl, B2⟩
      have hB := B1.trans (B2.mono B1.size)
      clear B1 B2
      go_wp2_with fail
      refine (HW.out _).mono ?_
      rintro e w3 ⟨rfl, rfl⟩
      rw [if_neg h5]
      go_wp2_with fail
      refine (HW.out _).mono ?_
      rintro e w3 ⟨rfl, rfl⟩
      rw [if_neg h5]
      go_wp2_with fail
      go_ret
      exact ⟨rfl, hB.alloc hB.size _⟩
end Go.Proofs.Ytnmkkflnehnioaa
