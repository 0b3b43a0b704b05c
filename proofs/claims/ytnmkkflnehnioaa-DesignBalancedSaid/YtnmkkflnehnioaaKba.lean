/-
  THE LAW DesignBalanced returns true: its walk. No condition.
-/
import Derived.Test.YtnmkkflnehnioaaKpr
import Derived.Test.YtnmkkflnehnioaaDc
namespace Go.Proofs.Ytnmkkflnehnioaa
open Go.RowKit
set_option maxRecDepth 100000

theorem row_at2 {w : World} {g c a : Nat} {L : Nat → List Nat} (h : RRows w (.slice (some ⟨g, 0, none⟩) a c) a L) (i : Nat) (hi : i < a) : ∃ r d, w.cell? ⟨g, i, none⟩ = some (.slice (some ⟨r, 0, none⟩) (L i).length d) ∧ RRow w (.slice (some ⟨r, 0, none⟩) (L i).length d) (L i) := by
  obtain ⟨g', c', e, hc, h⟩ := h
  cases e
  obtain ⟨rv, h1, h2⟩ := h i hi
  obtain ⟨r, d, rfl, h3⟩ := h2
  exact ⟨r, d, h1, r, d, rfl, h3⟩
/-- What the statement asks of a design that is chosen. -/
structure BalOf (v k b r s : Nat) : Prop where
  v2 : 4 ≤ v
  v60 : v ≤ 60
  k4 : 4 ≤ k
  k16 : k ≤ 16
  kv : k ≤ v
  b1 : 1 ≤ b
  b300 : b ≤ 300
  s1 : 1 ≤ s
  e1 : b * k = v * r
  e2 : r * (k - 1) = s * (v - 1)
  kvb : k = v ∨ v ≤ b
  rle : r ≤ 4800
  sle : s ≤ 72000
  calls : ∃ F : Nat → List Nat, (∀ W, Calls Try.prog 60 #[.int .i64 v, .int .i64 k] W (Rd v b F W)) ∧ (∀ W u, RRows W u b F → Calls Try.prog 58 #[.agg #[.int .i64 v, u]] W fun e w' => e = .returned (.tuple #[.int .i64 (r : Nat), .int .i64 (s : Nat), .int .i64 0]) ∧ Below W.heap.size W w') ∧ (F 0).length = k
theorem eqs_of {v k b r s : Nat} (h : eqsB v k b r s = true) (hv : 2 ≤ v) (hb : b ≤ 300) (hk : k ≤ 16) : b * k = v * r ∧ r * (k - 1) = s * (v - 1) ∧ (k = v ∨ v ≤ b) ∧ r ≤ 4800 ∧ s ≤ 72000 := by
  simp only [eqsB, Bool.and_eq_true, Bool.or_eq_true, beq_iff_eq, decide_eq_true_eq] at h
  obtain ⟨⟨h1, h2⟩, h3⟩ := h
  have hP : b * k ≤ 300 * 16 := Nat.mul_le_mul hb hk
  have hr : r ≤ v * r := Nat.le_mul_of_pos_left _ (by omega)
  have hQ : r * (k - 1) ≤ 4800 * 15 := Nat.mul_le_mul (by omega) (by omega)
  have hs : s ≤ s * (v - 1) := Nat.le_mul_of_pos_right _ (by omega)
  exact ⟨h1, h2, h3, by omega, by omega⟩
theorem bal_comp {v k : Nat} (h4 : 4 ≤ v) (h16 : v ≤ 16) (hk4 : 4 ≤ k) (hkv : k ≤ v) (hb : bin v k ≤ 300) : BalOf v k (bin v k) (rOf v k) (sOf v k) := by
  have h := comp_mid ⟨v, by omega⟩ ⟨k, by omega⟩ hk4 hkv hb
  simp only [Bool.and_eq_true] at h
  have hG := balB_iff h.1
  obtain ⟨e1, e2, e3, e4, e5⟩ := eqs_of h.2 (by omega) hb (by omega)
  have hb1 := bin_pos v k hkv
  have hlen : (compG v k).length = bin v k := compG_len hkv
  have hno : NoPlane v k := by
    have h := (by decide +kernel : ∀ v : Fin 17, ∀ k : Fin 17, 4 ≤ k.val → bin v k ≤ 300 → (∀ j : Fin 5, ¬ (v.val = szN j * szN j + szN j + 1 ∧ k.val = szN j + 1)) ∧ ∀ j : Fin 5, ¬ (v.val = szN j * szN j ∧ k.val = szN j)) ⟨v, by omega⟩ ⟨k, by omega⟩ hk4 hb
    exact ⟨fun j hj => h.1 ⟨j, hj⟩, fun j hj => h.2 ⟨j, hj⟩⟩
  have hcnt : cntGo v 1 0 (min k (v - k)) ≤ 4096 := by rw [cnt_small hkv (by omega)]; omega
  have hex := exts_count hkv (by omega : cntGo v 1 0 (min k (v - k)) ≤ 1099511627776)
  rw [cnt_small hkv (by omega)] at hex
  refine ⟨h4, by omega, hk4, by omega, hkv, hb1, hb, hG.s1, e1, e2, e3, e4, e5, rowG (compG v k), fun W => ?_, fun W u hu => check_good hG hlen W u hu, compG_row (by omega)⟩
  refine (choose_any hk4 (by omega) hkv (by omega) hno (n := bin v k) (f := rowG (compG v k)) (er := 0) (fun w => ?_) W).mono fun e w' h => Rd.of_made hb1 (fun i hi => by rw [compG_row (by omega)]; omega) h
  refine (complete_yes v k (by omega) (by omega) (by omega) hkv hcnt (by omega) w).mono fun e w' h => Made.of_yes ?_
  rw [← hex]
  exact h
theorem bal_proj {j : Nat} (h1 : 1 ≤ j) (hj : j < 5) : BalOf (allL j).length (szN j + 1) (allL j).length (szN j + 1) 1 := by
  have hb := proj_bal ⟨j, hj⟩
  simp only [Bool.and_eq_true, beq_iff_eq] at hb
  obtain ⟨⟨hb1, hb2⟩, hb3⟩ := hb
  have hG := balB_iff hb1
  have hs : 3 ≤ szN j ∧ szN j ≤ 7 := (by decide : ∀ k : Fin 5, 1 ≤ k.val → 3 ≤ szN k ∧ szN k ≤ 7) ⟨j, hj⟩ h1
  have hsq : szN j * szN j ≤ 49 := Nat.mul_le_mul hs.2 hs.2
  have hsq2 : 3 * szN j ≤ szN j * szN j := Nat.mul_le_mul_right _ hs.1
  obtain ⟨e1, e2, e3, e4, e5⟩ := eqs_of hb2 (by omega) (by omega) (by omega)
  have hlen : (projG j).length = (allL j).length := by simp [projG]
  refine ⟨by omega, by omega, by omega, by omega, by omega, by omega, by omega, Nat.le_refl _, e1, e2, e3, e4, e5, rowG (projG j), fun W => choose_proj h1 hj W, fun W u hu => check_good hG hlen W u hu, hG.len _ (rowG_mem (by omega))⟩
theorem bal_aff {j : Nat} (h1 : 2 ≤ j) (hj : j < 5) : BalOf (szN j * szN j) (szN j) (szN j * szN j + szN j) (szN j + 1) 1 := by
  have hb := aff_bal ⟨j, hj⟩
  simp only [Bool.and_eq_true] at hb
  have hG := balB_iff hb.1
  have hs : 4 ≤ szN j ∧ szN j ≤ 7 := (by decide : ∀ k : Fin 5, 2 ≤ k.val → 4 ≤ szN k ∧ szN k ≤ 7) ⟨j, hj⟩ h1
  have hsq : szN j * szN j ≤ 49 := Nat.mul_le_mul hs.2 hs.2
  have hsq2 : 4 * szN j ≤ szN j * szN j := Nat.mul_le_mul_right _ hs.1
  obtain ⟨e1, e2, e3, e4, e5⟩ := eqs_of hb.2 (by omega) (by omega) (by omega)
  have hlen : (affGG j).length = szN j * szN j + szN j := by simp [affGG]
  exact ⟨by omega, by omega, by omega, by omega, by omega, by omega, by omega, Nat.le_refl _, e1, e2, e3, e4, e5, rowG (affGG j), fun W => choose_aff h1 hj W, fun W u hu => check_good hG hlen W u hu, hG.len _ (rowG_mem (by omega))⟩
def plV (x : Nat) : Nat := [13, 16, 21, 25, 31, 49, 57].getD x 0
def plK (x : Nat) : Nat := [4, 4, 5, 5, 6, 7, 8].getD x 0
theorem bal_planes {x : Nat} (hx : x < 7) : ∃ b r s, BalOf (plV x) (plK x) b r s := by
  have a1 : (allL 1).length = 13 := proj13
  have a2 : (allL 2).length = 21 := by decide +kernel
  have a3 : (allL 3).length = 31 := by decide +kernel
  have a4 : (allL 4).length = 57 := by decide +kernel
  have hcase : x = 0 ∨ x = 1 ∨ x = 2 ∨ x = 3 ∨ x = 4 ∨ x = 5 ∨ x = 6 := by omega
  rcases hcase with rfl | rfl | rfl | rfl | rfl | rfl | rfl
  · have := bal_proj (j := 1) (by omega) (by omega); rw [a1] at this; exact ⟨_, _, _, this⟩
  · exact ⟨_, _, _, bal_aff (j := 2) (by omega) (by omega)⟩
  · have := bal_proj (j := 2) (by omega) (by omega); rw [a2] at this; exact ⟨_, _, _, this⟩
  · exact ⟨_, _, _, bal_aff (j := 3) (by omega) (by omega)⟩
  · have := bal_proj (j := 3) (by omega) (by omega); rw [a3] at this; exact ⟨_, _, _, this⟩
  · exact ⟨_, _, _, bal_aff (j := 4) (by omega) (by omega)⟩
  · have := bal_proj (j := 4) (by omega) (by omega); rw [a4] at this; exact ⟨_, _, _, this⟩
/-- The numbers, as the walk wants them. -/
theorem BalOf.nums {v k b r s : Nat} (h : BalOf v k b r s) : ∃ (P Q k1 v1 : Nat), ((k : Int) - 1 = (k1 : Int) ∧ (v : Int) - 1 = (v1 : Int) ∧ (b : Int) * (k : Int) = (P : Int) ∧ (v : Int) * (r : Int) = (P : Int) ∧ (r : Int) * (k1 : Int) = (Q : Int) ∧ (s : Int) * (v1 : Int) = (Q : Int)) ∧ P ≤ 4800 ∧ Q ≤ 72000 := by
  have h1 := h.k4
  have h2 := h.v2
  have h3 := h.e1
  have h4 := h.e2
  refine ⟨b * k, r * (k - 1), k - 1, v - 1, ⟨by omega, by omega, by push_cast; rfl, by exact_mod_cast h3.symm, ?_, ?_⟩, Nat.mul_le_mul h.b300 h.k16, (Nat.mul_le_mul h.rle (show k - 1 ≤ 15 by have := h.k16; omega) : r * (k - 1) ≤ 4800 * 15)⟩
  · exact_mod_cast rfl
  · exact_mod_cast h4.symm

set_option maxHeartbeats 6400000 in
theorem walk_dbal (n q : Nat) (hn : n ≤ 255) (hq : q ≤ 255) (w : World) : Calls Try.prog 21 #[.int .u8 n, .int .u8 q] w fun e w' => e = .returned (.bool true) ∧ Below w.heap.size w w' := by
  obtain ⟨v, hv⟩ : ∃ v : Nat, 4 + n % 13 = v := ⟨_, rfl⟩
  have hv4 : 4 ≤ v := by omega
  have hv16 : v ≤ 16 := by omega
  have tv : 4 + (n : Int) % 13 = (v : Int) := by omega
  obtain ⟨v3, hv3⟩ : ∃ v3 : Nat, v - 3 = v3 := ⟨_, rfl⟩
  have tv3 : (v : Int) - 3 = (v3 : Int) := by omega
  have hv30 : ¬ (v3 : Int) = 0 := by omega
  obtain ⟨k, hk⟩ : ∃ k : Nat, 4 + q % v3 = k := ⟨_, rfl⟩
  have tk : 4 + (q : Int) % (v3 : Int) = (k : Int) := by rw [← hk]; push_cast; rfl
  have hqm : q % v3 < v3 := Nat.mod_lt _ (by omega)
  have hk4 : 4 ≤ k := by omega
  have hkv : k ≤ v := by omega
  have HV := Lib.hid (And.intro tv (And.intro tv3 tk))
  clear tv tv3 tk hv hv3 hk hqm
  go_enter Try.func21, Try.ntmps21
  go_wp2_with fail
  refine (awake7 _).mono ?_
  rintro e w1 ⟨rfl, B1⟩
  have HB1 := Lib.hid B1
  clear B1
  by_cases h200 : 200 ≤ n
  · have t200 : decide (200 ≤ (n : Int)) = true := decide_eq_true (by omega)
    obtain ⟨tv, tv3, tk⟩ := HV.out
    go_wp2_with fail
    clear tv tv3 tk
    obtain ⟨wp, hwp⟩ : ∃ wp, w1.alloc (.cells #[.int .i64 13, .int .i64 4, .int .i64 16, .int .i64 4, .int .i64 21, .int .i64 5, .int .i64 25, .int .i64 5, .int .i64 31, .int .i64 6, .int .i64 49, .int .i64 7, .int .i64 57, .int .i64 8] 69) = wp := ⟨_, rfl⟩
    have hB2 : Below w.heap.size w wp := by rw [← hwp]; exact HB1.out.alloc HB1.out.size _
    obtain ⟨x, hx⟩ : ∃ x : Nat, q % 7 = x := ⟨_, rfl⟩
    have tx1 : Int.tmod (q : Int) 7 = (x : Int) := by rw [← hx]; rfl
    have tx2 : (q : Int) % 7 = (x : Int) := by omega
    have hx7 : (x : Int) < 7 := by omega
    have hx7' : x < 7 := by omega
    have hc : wp.cell? ⟨w1.heap.size, x * 2, none⟩ = some (.int .i64 (plV x : Nat)) ∧ wp.cell? ⟨w1.heap.size, x * 2 + 1, none⟩ = some (.int .i64 (plK x : Nat)) := by
      have h := heap_alloc_new w1 (.cells #[.int .i64 13, .int .i64 4, .int .i64 16, .int .i64 4, .int .i64 21, .int .i64 5, .int .i64 25, .int .i64 5, .int .i64 31, .int .i64 6, .int .i64 49, .int .i64 7, .int .i64 57, .int .i64 8] 69)
      rw [hwp] at h
      have hcase : x = 0 ∨ x = 1 ∨ x = 2 ∨ x = 3 ∨ x = 4 ∨ x = 5 ∨ x = 6 := by omega
      rcases hcase with rfl | rfl | rfl | rfl | rfl | rfl | rfl <;> simp [World.cell?, h, plV, plK]
    obtain ⟨hc0, hc1⟩ := hc
    obtain ⟨b, r, s, hbal⟩ := bal_planes hx7'
    obtain ⟨v', hv'⟩ : ∃ v', plV x = v' := ⟨_, rfl⟩
    obtain ⟨k', hk'⟩ : ∃ k', plK x = k' := ⟨_, rfl⟩
    rw [hv'] at hc0 hbal
    rw [hk'] at hc1 hbal
    rw [hwp]
    clear hwp hx hv' hk' hv4 hv16 hk4 hkv hv30
    have hk16 := hbal.k16
    have tk16 : decide (16 < (k' : Int)) = false := decide_eq_false (by omega)
    have t200' : decide ((n : Int) < 200) = false := decide_eq_false (by omega)
    have HB2' : Hid (Below w.heap.size w wp.drew) := Lib.hid hB2.drew
    have HBAL := Lib.hid hbal
    clear hbal hB2
    go_region
    go_wp2_with fail
    clear hc0 hc1 tx1 tx2 hx7 hx7'
    clear HV
    have hv60 := HBAL.out.v60
    have hkv := HBAL.out.kv
    refine (rCount_any v' k' hv60 hkv _).mono ?_
    rintro e w2 ⟨rfl, hw2⟩
    have HB2 : Hid (Below w.heap.size w w2) := Lib.hid (by rw [← hw2]; exact HB2'.out)
    clear hw2 HB2'
    obtain ⟨cn, hcn⟩ : ∃ cn, cntGo v' 1 0 (min k' (v' - k')) = cn := ⟨_, rfl⟩
    rw [hcn]
    clear hcn
    have hv4 := HBAL.out.v2
    have hk4 := HBAL.out.k4
    obtain ⟨F, hcalls⟩ := HBAL.out.calls
    have HT := Lib.hid hcalls
    obtain ⟨P, Q, k1, v1, hnums, hP, hQ⟩ := HBAL.out.nums
    have HN := Lib.hid hnums
    have hkvb := HBAL.out.kvb
    have hrle := HBAL.out.rle
    have hsle := HBAL.out.sle
    have hs1 := HBAL.out.s1
    have hb1 := HBAL.out.b1
    have hb300 := HBAL.out.b300
    clear HBAL hcalls hnums
    by_cases h300 : 300 < cn
    · have t300 : decide (300 < (cn : Int)) = true := decide_eq_true (by omega)
      go_wp2_with fail
      refine (HT.out.1 _).mono ?_
      rintro e w3 ⟨g, c, rfl, hr, B3⟩
      obtain ⟨wa, hwa⟩ : ∃ wa, w3.alloc (.cells #[.int .i64 v', .slice (some ⟨g, 0, none⟩) b c] 48) = wa := ⟨_, rfl⟩
      have ha : Below w3.heap.size w3 wa := hwa ▸ (Below.refl _ w3).alloc (Nat.le_refl _) _
      have a0 : wa.cell? ⟨w3.heap.size, 0, none⟩ = some (.int .i64 v') := by rw [← hwa]; simp [go_sem]
      have a1 : wa.cell? ⟨w3.heap.size, 1, none⟩ = some (.slice (some ⟨g, 0, none⟩) b c) := by rw [← hwa]; simp [go_sem]
      have l1 : w3.heap.size < wa.heap.size := World.block_lt_of_cell? _ _ a0
      have HWA := Lib.hid hwa
      have HQ := Lib.hid (hr.below ha)
      have hBa := B3.trans (ha.mono B3.size)
      have HBA := Lib.hid (HB2.out.trans (hBa.mono HB2.out.size))
      clear hwa hr B3 ha hBa HB2
      go_wp2_with fail
      rw [HWA.out]
      refine (HT.out.2.1 _ _ HQ.out).mono ?_
      rintro e w4 ⟨rfl, B4⟩
      have a0 := (B4.cell (p := ⟨w3.heap.size, 0, none⟩) l1).trans a0
      have a1 := (B4.cell (p := ⟨w3.heap.size, 1, none⟩) l1).trans a1
      have l1 : w3.heap.size < w4.heap.size := World.block_lt_of_cell? _ _ a0
      have hq4 := HQ.out.below B4
      have HB4 := Lib.hid (HBA.out.trans (B4.mono HBA.out.size))
      have hlen0 := HT.out.2.2
      obtain ⟨r0, d0, k0, -⟩ := row_at2 hq4 0 (by omega)
      rw [hlen0] at k0
      clear B4 HWA HQ HBA hq4 hlen0
      have tb : decide ((b : Int) < 1) = false := decide_eq_false (by omega)
      have tk : ((k' : Int) != (k' : Int)) = false := by simp
      have tv : ((v' : Int) != (v' : Int)) = false := by simp
      obtain ⟨q1, q2, m1, m2, m3, m4⟩ := HN.out
      have HKV := Lib.hid hkvb
      clear hkvb
      have ts : decide (1 ≤ (s : Int)) = true := decide_eq_true (by omega)
      by_cases hkv : k' = v'
      · have te : ((k' : Int) == (v' : Int)) = true := by rw [hkv]; simp
        have HE := Lib.hid hkv
        clear hkv
        go_wp2_with fail
        go_ret
        exact ⟨rfl, HB4.out⟩
      · have te : ((k' : Int) == (v' : Int)) = false := by simp; omega
        have tg : decide (v' ≤ b) = true := decide_eq_true (by have := HKV.out; omega)
        have HE := Lib.hid hkv
        clear hkv
        go_wp2_with fail
        go_ret
        exact ⟨rfl, HB4.out⟩
    · have t300 : decide (300 < (cn : Int)) = false := decide_eq_false (by omega)
      go_wp2_with fail
      refine (HT.out.1 _).mono ?_
      rintro e w3 ⟨g, c, rfl, hr, B3⟩
      obtain ⟨wa, hwa⟩ : ∃ wa, w3.alloc (.cells #[.int .i64 v', .slice (some ⟨g, 0, none⟩) b c] 48) = wa := ⟨_, rfl⟩
      have ha : Below w3.heap.size w3 wa := hwa ▸ (Below.refl _ w3).alloc (Nat.le_refl _) _
      have a0 : wa.cell? ⟨w3.heap.size, 0, none⟩ = some (.int .i64 v') := by rw [← hwa]; simp [go_sem]
      have a1 : wa.cell? ⟨w3.heap.size, 1, none⟩ = some (.slice (some ⟨g, 0, none⟩) b c) := by rw [← hwa]; simp [go_sem]
      have l1 : w3.heap.size < wa.heap.size := World.block_lt_of_cell? _ _ a0
      have HWA := Lib.hid hwa
      have HQ := Lib.hid (hr.below ha)
      have hBa := B3.trans (ha.mono B3.size)
      have HBA := Lib.hid (HB2.out.trans (hBa.mono HB2.out.size))
      clear hwa hr B3 ha hBa HB2
      go_wp2_with fail
      rw [HWA.out]
      refine (HT.out.2.1 _ _ HQ.out).mono ?_
      rintro e w4 ⟨rfl, B4⟩
      have a0 := (B4.cell (p := ⟨w3.heap.size, 0, none⟩) l1).trans a0
      have a1 := (B4.cell (p := ⟨w3.heap.size, 1, none⟩) l1).trans a1
      have l1 : w3.heap.size < w4.heap.size := World.block_lt_of_cell? _ _ a0
      have hq4 := HQ.out.below B4
      have HB4 := Lib.hid (HBA.out.trans (B4.mono HBA.out.size))
      have hlen0 := HT.out.2.2
      obtain ⟨r0, d0, k0, -⟩ := row_at2 hq4 0 (by omega)
      rw [hlen0] at k0
      clear B4 HWA HQ HBA hq4 hlen0
      have tb : decide ((b : Int) < 1) = false := decide_eq_false (by omega)
      have tk : ((k' : Int) != (k' : Int)) = false := by simp
      have tv : ((v' : Int) != (v' : Int)) = false := by simp
      obtain ⟨q1, q2, m1, m2, m3, m4⟩ := HN.out
      have HKV := Lib.hid hkvb
      clear hkvb
      have ts : decide (1 ≤ (s : Int)) = true := decide_eq_true (by omega)
      by_cases hkv : k' = v'
      · have te : ((k' : Int) == (v' : Int)) = true := by rw [hkv]; simp
        have HE := Lib.hid hkv
        clear hkv
        go_wp2_with fail
        go_ret
        exact ⟨rfl, HB4.out⟩
      · have te : ((k' : Int) == (v' : Int)) = false := by simp; omega
        have tg : decide (v' ≤ b) = true := decide_eq_true (by have := HKV.out; omega)
        have HE := Lib.hid hkv
        clear hkv
        go_wp2_with fail
        go_ret
        exact ⟨rfl, HB4.out⟩
  · have t200 : decide (200 ≤ (n : Int)) = false := decide_eq_false (by omega)
    have t200' : decide ((n : Int) < 200) = true := decide_eq_true (by omega)
    have tk16 : decide (16 < (k : Int)) = false := decide_eq_false (by omega)
    obtain ⟨tv, tv3, tk⟩ := HV.out
    go_wp2_with fail
    clear tv tv3 tk
    refine (rCount_any v k (by omega) hkv _).mono ?_
    rintro e w2 ⟨rfl, hw2⟩
    rw [cnt_small hkv (by omega)]
    have hb1 := bin_pos v k hkv
    obtain ⟨b, eb⟩ : ∃ b, bin v k = b := ⟨_, rfl⟩
    have HBB := Lib.hid eb
    rw [eb] at hb1 ⊢
    clear eb
    have HB2 : Hid (Below w.heap.size w w2) := Lib.hid (by rw [← hw2]; exact HB1.out.alloc HB1.out.size _)
    clear hw2
    by_cases h300 : 300 < b
    · have t300 : decide (300 < (b : Int)) = true := decide_eq_true (by omega)
      go_wp2_with fail
      go_ret
      exact ⟨rfl, HB2.out⟩
    · have t300 : decide (300 < (b : Int)) = false := decide_eq_false (by omega)
      have hbal := bal_comp hv4 hv16 hk4 hkv (by rw [HBB.out]; omega)
      rw [HBB.out] at hbal
      obtain ⟨r, hr⟩ : ∃ r, rOf v k = r := ⟨_, rfl⟩
      obtain ⟨s, hs⟩ : ∃ s, sOf v k = s := ⟨_, rfl⟩
      rw [hr, hs] at hbal
      clear hr hs
      obtain ⟨F, hcalls⟩ := hbal.calls
      have HT := Lib.hid hcalls
      obtain ⟨P, Q, k1, v1, hnums, hP, hQ⟩ := hbal.nums
      have HN := Lib.hid hnums
      have hkvb := hbal.kvb
      have hrle := hbal.rle
      have hsle := hbal.sle
      have hs1 := hbal.s1
      have hb300 := hbal.b300
      clear hbal hcalls hnums
      go_wp2_with fail
      refine (HT.out.1 _).mono ?_
      rintro e w3 ⟨g, c, rfl, hr, B3⟩
      obtain ⟨wa, hwa⟩ : ∃ wa, w3.alloc (.cells #[.int .i64 v, .slice (some ⟨g, 0, none⟩) b c] 48) = wa := ⟨_, rfl⟩
      have ha : Below w3.heap.size w3 wa := hwa ▸ (Below.refl _ w3).alloc (Nat.le_refl _) _
      have a0 : wa.cell? ⟨w3.heap.size, 0, none⟩ = some (.int .i64 v) := by rw [← hwa]; simp [go_sem]
      have a1 : wa.cell? ⟨w3.heap.size, 1, none⟩ = some (.slice (some ⟨g, 0, none⟩) b c) := by rw [← hwa]; simp [go_sem]
      have l1 : w3.heap.size < wa.heap.size := World.block_lt_of_cell? _ _ a0
      have HWA := Lib.hid hwa
      have HQ := Lib.hid (hr.below ha)
      have hBa := B3.trans (ha.mono B3.size)
      have HBA := Lib.hid (HB2.out.trans (hBa.mono HB2.out.size))
      clear hwa hr B3 ha hBa HB2
      go_wp2_with fail
      rw [HWA.out]
      refine (HT.out.2.1 _ _ HQ.out).mono ?_
      rintro e w4 ⟨rfl, B4⟩
      have a0 := (B4.cell (p := ⟨w3.heap.size, 0, none⟩) l1).trans a0
      have a1 := (B4.cell (p := ⟨w3.heap.size, 1, none⟩) l1).trans a1
      have l1 : w3.heap.size < w4.heap.size := World.block_lt_of_cell? _ _ a0
      have hq4 := HQ.out.below B4
      have HB4 := Lib.hid (HBA.out.trans (B4.mono HBA.out.size))
      have hlen0 := HT.out.2.2
      obtain ⟨r0, d0, k0, -⟩ := row_at2 hq4 0 (by omega)
      rw [hlen0] at k0
      clear B4 HWA HQ HBA hq4 hlen0
      have tb : decide ((b : Int) < 1) = false := decide_eq_false (by omega)
      have tk : ((k : Int) != (k : Int)) = false := by simp
      have tv : ((v : Int) != (v : Int)) = false := by simp
      obtain ⟨q1, q2, m1, m2, m3, m4⟩ := HN.out
      have HKV := Lib.hid hkvb
      clear hkvb
      have ts : decide (1 ≤ (s : Int)) = true := decide_eq_true (by omega)
      by_cases hkv : k = v
      · have te : ((k : Int) == (v : Int)) = true := by rw [hkv]; simp
        have HE := Lib.hid hkv
        clear hkv
        go_wp2_with fail
        go_ret
        exact ⟨rfl, HB4.out⟩
      · have te : ((k : Int) == (v : Int)) = false := by simp; omega
        have tg : decide (v ≤ b) = true := decide_eq_true (by have := HKV.out; omega)
        have HE := Lib.hid hkv
        clear hkv
        go_wp2_with fail
        go_ret
        exact ⟨rfl, HB4.out⟩
end Go.Proofs.Ytnmkkflnehnioaa
