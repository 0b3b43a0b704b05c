/-
  THE LAW PlaneAffine returns true: its walk. No condition.
-/
import Derived.Test.YtnmkkflnehnioaaWr
import Derived.Test.YtnmkkflnehnioaaRa
namespace Go.Proofs.Ytnmkkflnehnioaa
open Go.RowKit
set_option maxRecDepth 100000

set_option maxHeartbeats 3200000 in
theorem walk_affine (q : Int) (w : World) : Calls Try.prog 11 #[.int .i64 q] w fun e w' => e = .returned (.bool true) ∧ Below w.heap.size w w' := by
  rcases size_cases q with hno | ⟨k, hk, rfl⟩
  · have H1 := Lib.hid (aff_no1 q hno)
    have H2 := Lib.hid (wrong_no1 q hno)
    clear hno
    go_enter Try.func11, Try.ntmps11
    go_wp2_with fail
    refine (awake6 _).mono ?_
    rintro e w1 ⟨rfl, B1⟩
    go_wp2_with fail
    refine (H1.out _).mono ?_
    rintro e w2 ⟨rfl, B2⟩
    have hB := B1.trans (B2.mono B1.size)
    clear B1 B2
    go_wp2_with fail
    refine (H2.out _).mono ?_
    rintro e w3 ⟨rfl, rfl⟩
    go_wp2_with fail
    refine (H2.out _).mono ?_
    rintro e w3 ⟨rfl, rfl⟩
    go_wp2_with fail
    go_ret
    exact ⟨rfl, hB.alloc hB.size _⟩
  · by_cases h5 : k < 5
    · have HP := Lib.hid (fun W => aff_yes h5 W)
      have HW := Lib.hid (wrong_size k hk)
      obtain ⟨n, en⟩ : ∃ n, szN k * szN k = n := ⟨_, rfl⟩
      obtain ⟨m, em⟩ : ∃ m, szN k * szN k + szN k = m := ⟨_, rfl⟩
      have hn : m < 2000000000 := by have := sq60 h5; omega
      have HR : Hid (∀ W, Calls Try.prog 47 #[.int .i64 (szN k)] W fun e w' => ∃ v, e = .returned (.agg #[.int .i64 n, v]) ∧ RRows w' v m (affL k) ∧ Below W.heap.size W w') := Lib.hid fun W => (raff_k h5 W).mono fun e w' ⟨v, h1, h2, h3⟩ => by
        rw [en] at h1
        have := aff_read h5 h2
        rw [em] at this
        exact ⟨v, h1, this, h3⟩
      have HS := Lib.hid (fun W v u hv hu => same_true (n : Int) m (affL k) hn (fun i hi => by rw [aff_len]; have := sq60 h5; omega) W v u hv hu)
      have HEN := Lib.hid en
      have HEM := Lib.hid em
      clear en hn em
      go_enter Try.func11, Try.ntmps11
      go_wp2_with fail
      refine (awake6 _).mono ?_
      rintro e w1 ⟨rfl, B1⟩
      go_wp2_with fail
      refine (HP.out _).mono ?_
      rintro e w2 ⟨v, rfl, hr, B2⟩
      have hr := aff_read h5 hr
      rw [HEM.out] at hr
      rw [HEN.out]
      obtain ⟨g, c, rfl, hc, hrr⟩ := hr
      have hB := B1.trans (B2.mono B1.size)
      clear B1 B2
      go_wp2_with fail
      refine (HW.out _).mono ?_
      rintro e w3 ⟨rfl, rfl⟩
      rw [if_pos h5]
      obtain ⟨wa, hwa⟩ : ∃ wa, w2.alloc (.cells #[.int .i64 n, .slice (some ⟨g, 0, none⟩) m c] 48) = wa := ⟨_, rfl⟩
      have ha : Below w2.heap.size w2 wa := hwa ▸ (Below.refl _ w2).alloc (Nat.le_refl _) _
      have a0 : wa.cell? ⟨w2.heap.size, 0, none⟩ = some (.int .i64 n) := by rw [← hwa]; simp [go_sem]
      have a1 : wa.cell? ⟨w2.heap.size, 1, none⟩ = some (.slice (some ⟨g, 0, none⟩) m c) := by rw [← hwa]; simp [go_sem]
      have hq : RRows wa (.slice (some ⟨g, 0, none⟩) m c) m (affL k) := RRows.below ⟨g, c, rfl, hc, hrr⟩ ha
      have hBa := hB.trans (ha.mono hB.size)
      rw [hwa]
      clear hrr ha hwa hB
      have HQ := Lib.hid hq
      have HBA := Lib.hid hBa
      clear hq hBa
      go_wp2_with fail
      (first | go_region_with (first
        | (go_at_call 47; refine (HR.out _).mono ?_; rintro e w5 ⟨u, rfl, hu, b5⟩; obtain ⟨gu, cu, rfl, hcu, hru⟩ := hu; have b5 : Below wa.heap.size wa w5 := (Below.refl _ wa).drew.trans b5; have e0 := (b5.cell (p := ⟨w2.heap.size, 0, none⟩) (World.block_lt_of_cell? _ _ a0)).trans a0; have e1 := (b5.cell (p := ⟨w2.heap.size, 1, none⟩) (World.block_lt_of_cell? _ _ a1)).trans a1; have hq5 := HQ.out.below b5)
        | (go_at_call 44; refine (HS.out _ _ _ hq5 ⟨gu, cu, rfl, hcu, hru⟩).mono ?_; rintro e w6 ⟨rfl, b6⟩)) | fail)
      all_goals (
        go_wp2_with fail
        go_ret
        exact ⟨rfl, HBA.out.trans ((b5.trans (b6.mono b5.size)).mono HBA.out.size)⟩)
    · have H1 := Lib.hid (aff_no2 k hk (sq_gt hk h5).2)
      have HW := Lib.hid (wrong_size k hk)
      go_enter Try.func11, Try.ntmps11
      go_wp2_with fail
      refine (awake6 _).mono ?_
      rintro e w1 ⟨rfl, B1⟩
      go_wp2_with fail
      refine (H1.out _).mono ?_
      rintro e w2 ⟨rfl, B2⟩
      have hB := B1.trans (B2.mono B1.size)
      clear B1 B2
      go_wp2_with fail
      refine (HW.out _).mono ?_
      rintro e w3 ⟨rfl, rfl⟩
      rw [if_neg h5]
      go_wp2_with fail
      refine (HW.out _).mono ?_
      rintro e w3 ⟨rfl, rfl⟩
      rw [if_neg h5]
      go_wp2_with fail
      go_ret
      exact ⟨rfl, hB.alloc hB.size _⟩
end Go.Proofs.Ytnmkkflnehnioaa
