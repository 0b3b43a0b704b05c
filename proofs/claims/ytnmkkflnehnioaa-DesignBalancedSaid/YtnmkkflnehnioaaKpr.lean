/-
  THE LAW DesignPairs returns true: its walk. No condition.
-/
import Derived.Test.YtnmkkflnehnioaaDc
namespace Go.Proofs.Ytnmkkflnehnioaa
open Go.RowKit
set_option maxRecDepth 100000

theorem filter_shr {D : Nat} : ∀ {G : List (List Nat)}, (∀ g ∈ G, riseB D g = true) → ∀ a b, (G.filter fun g => g.contains a && g.contains b).length = shrG G a b
  | [], _, a, b => rfl
  | g :: G, h, a, b => by
    have ih := filter_shr (G := G) (fun x hx => h x (List.mem_cons_of_mem _ hx)) a b
    rw [shrG_cons, ← ih, count_one (h g (List.mem_cons_self)) a, count_one (h g (List.mem_cons_self)) b]
    cases h1 : g.contains a <;> cases h2 : g.contains b <;> simp only [List.filter_cons, h1, h2, Bool.and_self, Bool.and_true, Bool.and_false, if_true, List.length_cons] <;> simp <;> omega
theorem GoodG.shared {D k : Nat} {G : List (List Nat)} {r s n : Nat} (h : GoodG D k G r s) (hn : G.length = n) {a b : Nat} (ha : a < D) (hb : b < D) : sharedN (D : Int) (rowZ G) n (a : Int) (b : Int) = if a = b then r else s := by
  subst hn
  have e : sharedN (D : Int) (rowZ G) G.length (a : Int) (b : Int) = both (rowZ G) (a : Int) (b : Int) G.length := if_neg (by omega)
  rw [e, both_list _ _ _ _ (Nat.le_refl _), List.take_length, filter_shr h.rise, h.cnt a b ha hb]
/-- A small complete design. -/
theorem small_good {v k : Nat} (h2 : 2 ≤ v) (h8 : v ≤ 8) (hk2 : 2 ≤ k) (hkv : k ≤ v) : ∃ n r s P Q : Nat, GoodG v k (compG v k) r s ∧ (compG v k).length = n ∧ bin v k = n ∧ 1 ≤ n ∧ n ≤ 70 ∧ n * k = P ∧ v * r = P ∧ r * (k - 1) = Q ∧ s * (v - 1) = Q ∧ P ≤ 560 ∧ Q ≤ 3920 ∧ r ≤ 560 ∧ s ≤ 3920 := by
  have h := comp_small ⟨v, by omega⟩ ⟨k, by omega⟩ hk2 hkv
  simp only [Bool.and_eq_true, beq_iff_eq, decide_eq_true_eq] at h
  obtain ⟨⟨⟨h1, e1⟩, e2⟩, h3⟩ := h
  have hP : bin v k * k ≤ 70 * 8 := Nat.mul_le_mul h3 (by omega)
  have hr : rOf v k ≤ v * rOf v k := Nat.le_mul_of_pos_left _ (by omega)
  have hQ : rOf v k * (k - 1) ≤ 560 * 7 := Nat.mul_le_mul (by omega) (by omega)
  have hs : sOf v k ≤ sOf v k * (v - 1) := Nat.le_mul_of_pos_right _ (by omega)
  exact ⟨bin v k, rOf v k, sOf v k, _, _, balB_iff h1, compG_len hkv, rfl, bin_pos v k hkv, h3, rfl, e1.symm, rfl, e2.symm, hP, hQ, by omega, by omega⟩
theorem compG_z {v k n : Nat} (h60 : v ≤ 60) (hkv : k ≤ v) (hl : (compG v k).length = n) : ∀ i, i < n → (rowG (compG v k) i).length < 4000000000 := fun i hi => by
  rw [compG_row (by omega)]
  omega

set_option maxHeartbeats 6400000 in
theorem walk_dpairs (m : Nat) (hm : m ≤ 65535) (w : World) : Calls Try.prog 23 #[.int .u16 m] w fun e w' => e = .returned (.bool true) ∧ Below w.heap.size w w' := by
  have HM := Lib.hid hm
  clear hm
  go_enter Try.func23, Try.ntmps23
  go_wp2_with fail
  refine (awake7 _).mono ?_
  rintro e w1 ⟨rfl, B1⟩
  go_wp2_with fail
  refine (small_any m HM.out _).mono ?_
  rintro e w2 ⟨v, k, h2, h8, hk2, hkv, rfl, B2⟩
  obtain ⟨n, r, s, P, Q, hG, hlen, hbin, hn1, hn70, eP1, eP2, eQ1, eQ2, hP, hQ, hr560, hs3920⟩ := small_good h2 h8 hk2 hkv
  have HB2 := Lib.hid (B1.trans (B2.mono B1.size))
  have HC : Hid (∀ W, Calls Try.prog 54 #[.int .i64 v, .int .i64 k] W (Rd v n (rowG (compG v k)) W)) := Lib.hid fun W => by
    have := comp_rd h2 (by omega) hk2 hkv (by rw [cnt_small hkv (by omega)]; omega) W
    rw [hbin] at this
    exact this
  have HK := Lib.hid fun W u hu => check_good hG hlen W u hu
  have HZ := Lib.hid (compG_z (by omega) hkv hlen)
  have HS : Hid (∀ W u, RRows W u n (rowG (compG v k)) → ∀ a b, a < v → b < v → ∀ x, (if a = b then r else s) = x → Calls Try.prog 62 #[.agg #[.int .i64 v, u], .int .i64 a, .int .i64 b] W fun e W' => e = .returned (.int .i64 (x : Nat)) ∧ Below W.heap.size W W') := Lib.hid fun W u hu a b ha hb x hx =>
    (shared_z v n (rowZ (compG v k)) a b W u (hu.z (by omega) HZ.out)).mono fun e W' ⟨h, h'⟩ => ⟨by rw [h, hG.shared hlen ha hb, hx], h'⟩
  have HI : Hid ((n : Int) * (k : Int) = (P : Int) ∧ (v : Int) * (r : Int) = (P : Int)) := Lib.hid ⟨by exact_mod_cast eP1, by exact_mod_cast eP2⟩
  obtain ⟨k1, ek⟩ : ∃ k1, k - 1 = k1 := ⟨_, rfl⟩
  obtain ⟨v1, ev⟩ : ∃ v1, v - 1 = v1 := ⟨_, rfl⟩
  rw [ek] at eQ1
  rw [ev] at eQ2
  have HJ : Hid ((r : Int) * (k1 : Int) = (Q : Int) ∧ (s : Int) * (v1 : Int) = (Q : Int)) := Lib.hid ⟨by exact_mod_cast eQ1, by exact_mod_cast eQ2⟩
  have HEK : Hid ((k : Int) - 1 = (k1 : Int) ∧ (v : Int) - 1 = (v1 : Int)) := Lib.hid ⟨by omega, by omega⟩
  clear B1 B2 hG hlen hbin eP1 eP2 eQ1 eQ2 ek ev
  go_wp2_with fail
  refine (HC.out _).mono ?_
  rintro e w3 ⟨g, c, rfl, hr, B3⟩
  obtain ⟨wa, hwa⟩ : ∃ wa, w3.alloc (.cells #[.int .i64 v, .slice (some ⟨g, 0, none⟩) n c] 48) = wa := ⟨_, rfl⟩
  have ha : Below w3.heap.size w3 wa := hwa ▸ (Below.refl _ w3).alloc (Nat.le_refl _) _
  have a0 : wa.cell? ⟨w3.heap.size, 0, none⟩ = some (.int .i64 v) := by rw [← hwa]; simp [go_sem]
  have a1 : wa.cell? ⟨w3.heap.size, 1, none⟩ = some (.slice (some ⟨g, 0, none⟩) n c) := by rw [← hwa]; simp [go_sem]
  have l1 : w3.heap.size < wa.heap.size := World.block_lt_of_cell? _ _ a0
  have HWA := Lib.hid hwa
  have HQ := Lib.hid (hr.below ha)
  have hBa := B3.trans (ha.mono B3.size)
  have HBA := Lib.hid (HB2.out.trans (hBa.mono HB2.out.size))
  clear hwa hr B3 ha hBa HB2
  go_wp2_with fail
  rw [HWA.out]
  refine (HK.out _ _ HQ.out).mono ?_
  rintro e w4 ⟨rfl, B4⟩
  have a0 := (B4.cell (p := ⟨w3.heap.size, 0, none⟩) l1).trans a0
  have a1 := (B4.cell (p := ⟨w3.heap.size, 1, none⟩) l1).trans a1
  have l1 : w3.heap.size < w4.heap.size := World.block_lt_of_cell? _ _ a0
  have HQ4 := Lib.hid (HQ.out.below B4)
  have HB4 := Lib.hid (HBA.out.trans (B4.mono HBA.out.size))
  clear B4 HWA HQ HBA
  go_wp2_with fail
  go_loopw [10] (fun x wr => ∃ a : Nat, a ≤ v ∧ x = .int .i64 a ∧ Below w4.heap.size w4 wr) (fun x _ => v - (intOf x).toNat)
  case atStart => exact ⟨0, by omega, rfl, Below.refl _ _⟩
  case round =>
    obtain ⟨a, hav, rfl, hB⟩ := hrel
    have HB := Lib.hid hB
    have a0' := (hB.cell (p := ⟨w3.heap.size, 0, none⟩) l1).trans a0
    have a1' := (hB.cell (p := ⟨w3.heap.size, 1, none⟩) l1).trans a1
    clear hB
    by_cases hal : a < v
    · go_wp2_with fail
      go_loopw [11] (fun x wr => ∃ b : Nat, b ≤ v ∧ x = .int .i64 b ∧ Below w4.heap.size w4 wr) (fun x _ => v - (intOf x).toNat)
      case atStart => exact ⟨0, by omega, rfl, HB.out⟩
      case round =>
        clear a0' a1'
        obtain ⟨b, hbv, rfl, hB⟩ := hrel
        have HB5 := Lib.hid hB
        have a0' := (hB.cell (p := ⟨w3.heap.size, 0, none⟩) l1).trans a0
        have a1' := (hB.cell (p := ⟨w3.heap.size, 1, none⟩) l1).trans a1
        have HQ5 := Lib.hid (HQ4.out.below hB)
        clear hB
        by_cases hbl : b < v
        · by_cases hab : a = b
          · have HX := Lib.hid (HS.out wr _ HQ5.out a b hal hbl r (if_pos hab))
            have te : ((a : Int) == (b : Int)) = true := by simp; omega
            have HAB := Lib.hid hab
            clear hab
            go_wp2_with fail
            refine HX.out.mono ?_
            rintro e w6 ⟨rfl, B6⟩
            have HB6 := Lib.hid (HB5.out.trans (B6.mono HB5.out.size))
            clear B6
            go_wp2_with fail
            go_roundw
            case rel => exact ⟨b + 1, by omega, by go_num, HB6.out⟩
            case measure => simp [intOf]; omega
          · have HX := Lib.hid (HS.out wr _ HQ5.out a b hal hbl s (if_neg hab))
            have te : ((a : Int) == (b : Int)) = false := by simp; omega
            have HAB := Lib.hid hab
            clear hab
            go_wp2_with fail
            refine HX.out.mono ?_
            rintro e w6 ⟨rfl, B6⟩
            have HB6 := Lib.hid (HB5.out.trans (B6.mono HB5.out.size))
            clear B6
            go_wp2_with fail
            go_roundw
            case rel => exact ⟨b + 1, by omega, by go_num, HB6.out⟩
            case measure => simp [intOf]; omega
        · obtain rfl : b = v := by omega
          go_wp2_with fail
          go_roundw
          case rel => exact ⟨a + 1, by omega, by go_num, HB5.out⟩
          case measure => simp [intOf]; omega
    · obtain rfl : a = v := by omega
      obtain ⟨i1, i2⟩ := HI.out
      obtain ⟨j1, j2⟩ := HJ.out
      obtain ⟨q1, q2⟩ := HEK.out
      have HBE := Lib.hid (HB4.out.trans (HB.out.mono HB4.out.size))
      clear HB
      go_wp2_with fail
      go_ret
      exact ⟨rfl, HBE.out⟩
end Go.Proofs.Ytnmkkflnehnioaa
