/-
  THE LAW DesignComplete returns true: its walk. No condition.
-/
import Derived.Test.YtnmkkflnehnioaaZe
namespace Go.Proofs.Ytnmkkflnehnioaa
open Go.RowKit
set_option maxRecDepth 100000

theorem rcomp_rd {v k : Nat} (hk2 : 2 ≤ k) (hkv : k ≤ v) (h60 : v ≤ 60) (hb : bin v k < 5000) (w : World) : Calls Try.prog 56 #[.int .i64 v, .int .i64 k] w fun e w' => ∃ g c, e = .returned (.agg #[.int .i64 v, .slice (some ⟨g, 0, none⟩) (bin v k) c]) ∧ RRows w' (.slice (some ⟨g, 0, none⟩) (bin v k) c) (bin v k) (rowG (compG v k)) ∧ Below w.heap.size w w' := by
  have hl := compG_len hkv
  have hp := bin_pos v k hkv
  refine (rcomplete_any v k hk2 hkv h60 (by omega) w).mono ?_
  rintro e w' ⟨u, rfl, hr, hB⟩
  rw [hl] at hr
  have h1 := hr.read hp (fun i hi => by rw [compG_row (by omega)]; omega)
  have h2 := h1
  obtain ⟨g, c, rfl, -, -⟩ := h2
  exact ⟨g, c, rfl, h1, hB⟩

set_option maxHeartbeats 6400000 in
theorem walk_dcomp (disks width : Int) (hd : -9223372036854775808 ≤ disks ∧ disks ≤ 9223372036854775807) (hw : -9223372036854775808 ≤ width ∧ width ≤ 9223372036854775807) (w : World) : Calls Try.prog 18 #[.int .i64 disks, .int .i64 width] w fun e w' => e = .returned (.bool true) ∧ Below w.heap.size w w' := by
  by_cases hbad : disks < 2 ∨ (2 ≤ disks ∧ 60 < disks) ∨ (2 ≤ disks ∧ disks ≤ 60 ∧ width < 2) ∨ (2 ≤ disks ∧ disks ≤ 60 ∧ 2 ≤ width ∧ disks < width)
  · have HC := Lib.hid (complete_no1 disks width hbad)
    clear hd hw
    rcases hbad with h | ⟨h1, h2⟩ | ⟨h1, h2, h3⟩ | ⟨h1, h2, h3, h4⟩
    all_goals (
      go_enter Try.func18, Try.ntmps18
      go_wp2_with fail
      refine (awake7 _).mono ?_
      rintro e w1 ⟨rfl, B1⟩
      go_wp2_with fail
      refine (HC.out _).mono ?_
      rintro e w2 ⟨rfl, B2⟩
      have HB := Lib.hid (B1.trans (B2.mono B1.size))
      clear B1 B2
      go_wp2_with fail
      go_ret
      exact ⟨rfl, HB.out.alloc HB.out.size _⟩)
  · obtain ⟨v, rfl⟩ : ∃ v : Nat, disks = v := ⟨disks.toNat, by omega⟩
    obtain ⟨k, rfl⟩ : ∃ k : Nat, width = k := ⟨width.toNat, by omega⟩
    have h2 : 2 ≤ v := by omega
    have h60 : v ≤ 60 := by omega
    have hk2 : 2 ≤ k := by omega
    have hkv : k ≤ v := by omega
    clear hbad hd hw
    have t1 : decide ((v : Int) < 2) = false := decide_eq_false (by omega)
    have t2 : decide (60 < (v : Int)) = false := decide_eq_false (by omega)
    have t3 : decide ((k : Int) < 2) = false := decide_eq_false (by omega)
    have t4 : decide (v < k) = false := decide_eq_false (by omega)
    have HCN := Lib.hid (rCount_any v k h60 hkv)
    by_cases hc : 4096 < cntGo v 1 0 (min k (v - k))
    · have HC := Lib.hid (complete_no2 v k h2 h60 hk2 hkv hc)
      obtain ⟨cn, hcn⟩ : ∃ cn, cntGo v 1 0 (min k (v - k)) = cn := ⟨_, rfl⟩
      rw [hcn] at hc HCN
      clear hcn
      have t5 : decide (4096 < (cn : Int)) = true := decide_eq_true (by omega)
      go_enter Try.func18, Try.ntmps18
      go_wp2_with fail
      refine (awake7 _).mono ?_
      rintro e w1 ⟨rfl, B1⟩
      go_wp2_with fail
      refine (HC.out _).mono ?_
      rintro e w2 ⟨rfl, B2⟩
      have HB := Lib.hid (B1.trans (B2.mono B1.size))
      clear B1 B2
      go_wp2_with fail
      refine (HCN.out _).mono ?_
      rintro e w3 ⟨rfl, rfl⟩
      go_wp2_with fail
      go_ret
      exact ⟨rfl, HB.out.alloc HB.out.size _⟩
    · have HC := Lib.hid (comp_rd h2 h60 hk2 hkv (Nat.le_of_not_lt hc))
      have hcb := count_bin hkv (by omega : cntGo v 1 0 (min k (v - k)) ≤ 1099511627776)
      rw [hcb] at HCN hc
      clear hcb
      have hb1 := bin_pos v k hkv
      obtain ⟨n, hn⟩ : ∃ n, bin v k = n := ⟨_, rfl⟩
      have HN := Lib.hid hn
      rw [hn] at HC HCN hc hb1
      clear hn
      have t5 : decide (4096 < (n : Int)) = false := decide_eq_false (by omega)
      by_cases h1000 : 1000 < n
      · have t6 : decide (1000 < (n : Int)) = true := decide_eq_true (by omega)
        go_enter Try.func18, Try.ntmps18
        go_wp2_with fail
        refine (awake7 _).mono ?_
        rintro e w1 ⟨rfl, B1⟩
        go_wp2_with fail
        refine (HC.out _).mono ?_
        rintro e w2 ⟨g, c, rfl, hr, B2⟩
        obtain ⟨wa, hwa⟩ : ∃ wa, w2.alloc (.cells #[.int .i64 v, .slice (some ⟨g, 0, none⟩) n c] 48) = wa := ⟨_, rfl⟩
        have ha : Below w2.heap.size w2 wa := hwa ▸ (Below.refl _ w2).alloc (Nat.le_refl _) _
        have a0 : wa.cell? ⟨w2.heap.size, 0, none⟩ = some (.int .i64 v) := by rw [← hwa]; simp [go_sem]
        have a1 : wa.cell? ⟨w2.heap.size, 1, none⟩ = some (.slice (some ⟨g, 0, none⟩) n c) := by rw [← hwa]; simp [go_sem]
        have HWA := Lib.hid hwa
        have hB := B1.trans (B2.mono B1.size)
        have HB := Lib.hid (hB.trans (ha.mono hB.size))
        clear B1 B2 hwa ha hB hr
        go_wp2_with fail
        rw [HWA.out]
        refine (HCN.out _).mono ?_
        rintro e w3 ⟨rfl, rfl⟩
        go_wp2_with fail
        go_region
        go_wp2_with fail
        go_ret
        exact ⟨rfl, HB.out.drew⟩
      · have t6 : decide (1000 < (n : Int)) = false := decide_eq_false (by omega)
        have HRC : Hid (∀ W, Calls Try.prog 56 #[.int .i64 v, .int .i64 k] W fun e w' => ∃ g c, e = .returned (.agg #[.int .i64 v, .slice (some ⟨g, 0, none⟩) n c]) ∧ RRows w' (.slice (some ⟨g, 0, none⟩) n c) n (rowG (compG v k)) ∧ Below W.heap.size W w') := Lib.hid fun W => by
          have := rcomp_rd hk2 hkv h60 (by rw [HN.out]; omega) W
          rw [HN.out] at this
          exact this
        have HS := Lib.hid (fun W u1 u2 hu1 hu2 => same_true (v : Int) n (rowG (compG v k)) (by omega) (fun i hi => by rw [compG_row (by rw [compG_len hkv, HN.out]; exact hi)]; omega) W u1 u2 hu1 hu2)
        go_enter Try.func18, Try.ntmps18
        go_wp2_with fail
        refine (awake7 _).mono ?_
        rintro e w1 ⟨rfl, B1⟩
        go_wp2_with fail
        refine (HC.out _).mono ?_
        rintro e w2 ⟨g, c, rfl, hr, B2⟩
        obtain ⟨wa, hwa⟩ : ∃ wa, w2.alloc (.cells #[.int .i64 v, .slice (some ⟨g, 0, none⟩) n c] 48) = wa := ⟨_, rfl⟩
        have ha : Below w2.heap.size w2 wa := hwa ▸ (Below.refl _ w2).alloc (Nat.le_refl _) _
        have a0 : wa.cell? ⟨w2.heap.size, 0, none⟩ = some (.int .i64 v) := by rw [← hwa]; simp [go_sem]
        have a1 : wa.cell? ⟨w2.heap.size, 1, none⟩ = some (.slice (some ⟨g, 0, none⟩) n c) := by rw [← hwa]; simp [go_sem]
        have HWA := Lib.hid hwa
        have hB := B1.trans (B2.mono B1.size)
        have HQ := Lib.hid (hr.below ha)
        have HBA := Lib.hid (hB.trans (ha.mono hB.size))
        clear B1 B2 hwa ha hB hr
        go_wp2_with fail
        rw [HWA.out]
        refine (HCN.out _).mono ?_
        rintro e w3 ⟨rfl, rfl⟩
        go_wp2_with fail
        have tn : ((n : Int) == (n : Int)) = true := by simp
        have HF := Lib.hid fun Y (hY : Below wa.heap.size wa Y) => And.intro ((hY.cell (p := ⟨w2.heap.size, 0, none⟩) (World.block_lt_of_cell? _ _ a0)).trans a0) ((hY.cell (p := ⟨w2.heap.size, 1, none⟩) (World.block_lt_of_cell? _ _ a1)).trans a1)
        go_region_held3 (fun w' => w'.cell? ⟨w2.heap.size, 0, none⟩ = some (.int .i64 v) ∧ w'.cell? ⟨w2.heap.size, 1, none⟩ = some (.slice (some ⟨g, 0, none⟩) n c))
          (first
            | exact HF.out _ (b5.trans (b6.mono b5.size))
            | exact HF.out _ b5
            | exact HF.out _ (Below.refl _ wa).drew
            | go_keep)
          (first
            | (go_at_call 56; (with_reducible refine (HRC.out _).mono ?_); rintro e w5 ⟨gu, cu, rfl, hru, b5⟩; have b5 : Below wa.heap.size wa w5 := (Below.refl _ wa).drew.trans b5; have hq5 := HQ.out.below b5)
            | (go_at_call 44; refine (HS.out _ _ _ hq5 hru).mono ?_; rintro e w6 ⟨rfl, b6⟩))
        all_goals (
          go_wp2_with fail
          go_ret
          exact ⟨rfl, HBA.out.trans ((b5.trans (b6.mono b5.size)).mono HBA.out.size)⟩)
end Go.Proofs.Ytnmkkflnehnioaa
