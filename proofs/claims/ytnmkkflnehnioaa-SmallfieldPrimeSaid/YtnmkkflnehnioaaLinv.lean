/-
  THE LAW SmallfieldInverses returns true: its walk. No condition.
-/
import Derived.Test.YtnmkkflnehnioaaTwo
namespace Go.Proofs.Ytnmkkflnehnioaa
open Go.RowKit
theorem mod_u8b (x q : Nat) : (x : Int) % (q : Int) = ((x % q : Nat) : Int) := by omega
structure InvK (k a b : Nat) : Prop where
  nl : negN k a < szN k
  n0 : sumN k a (negN k a) = 0
  nn : negN k (negN k a) = a
theorem inv_at {k a b : Nat} (hk : k < 7) (ha : a < szN k) : InvK k a b := by
  have h9 := (sz_facts k hk).2.1.2
  obtain ⟨-, h2, h3, h4⟩ := neg_k ⟨k, hk⟩ ⟨a, by omega⟩ ha
  exact ⟨h2, h3, h4⟩
structure InvK1 (k a b : Nat) : Prop where
  il : invN k a < szN k
  i1 : prodN k a (invN k a) = 1
  ii : invN k (invN k a) = a
  i0 : invN k a ≠ 0
  cn : cntN (prodN k a) b (szN k) = 1
  eq : prodN k a (prodN k b (invN k a)) = b
  pl : prodN k b (invN k a) < szN k
theorem inv1_at {k a b : Nat} (hk : k < 7) (ha : a < szN k) (hb : b < szN k) (h0 : a ≠ 0) : InvK1 k a b := by
  have h9 := (sz_facts k hk).2.1.2
  obtain ⟨-, h2, h3, h4, h5⟩ := (inv_k ⟨k, hk⟩ ⟨a, by omega⟩ ha).1 h0
  obtain ⟨c1, c2⟩ := cnt_k ⟨k, hk⟩ ⟨a, by omega⟩ ⟨b, by omega⟩ ha hb h0
  exact ⟨h2, h3, h4, h5, c1, c2, (tab_at hk hb h2).2.2.2⟩
set_option maxRecDepth 100000 in
set_option maxHeartbeats 3200000 in
theorem walk_inverses (n : Nat) (hn : n ≤ 255) (x0 x1 : Nat) (h0 : x0 ≤ 255) (h1 : x1 ≤ 255) (w : World) :
    Calls Try.prog 6 #[.int .u8 n, .agg #[.int .u8 x0, .int .u8 x1]] w fun e w' => e = .returned (.bool true) ∧ Below w.heap.size w w' := by
  obtain ⟨k, hk⟩ : ∃ k, n % 7 = k := ⟨_, rfl⟩
  have hk7 : k < 7 := by omega
  have hF := fun W => field_k n hn W
  rw [hk] at hF
  have HF := Lib.hid hF
  clear hF hk
  have hsz := (sz_facts k hk7).2.1
  obtain ⟨a, ha'⟩ : ∃ a, x0 % szN k = a := ⟨_, rfl⟩
  obtain ⟨b, hb'⟩ : ∃ b, x1 % szN k = b := ⟨_, rfl⟩
  have ha : a < szN k := ha' ▸ Nat.mod_lt _ (by omega)
  have hb : b < szN k := hb' ▸ Nat.mod_lt _ (by omega)
  have ea : (x0 : Int) % (szN k : Int) = a := by rw [mod_u8b, ha']
  have eb : (x1 : Int) % (szN k : Int) = b := by rw [mod_u8b, hb']
  have hq0 : ¬ (szN k : Int) = 0 := by omega
  have Q := inv_at (b := b) hk7 ha
  clear ha' hb'
  go_enter Try.func6, Try.ntmps6
  go_wp2_with fail
  refine (awake5 _).mono ?_
  rintro e w1 ⟨rfl, B1⟩
  go_wp2_with fail
  refine (HF.out _).mono ?_
  rintro e w2 ⟨f, rfl, F, B2⟩
  have hB : Below w.heap.size w w2 := by
    have h := ((Below.refl _ w).alloc (Nat.le_refl _) _).trans (B1.mono (by simp))
    exact h.trans (B2.mono h.size)
  have hz1 : w.heap.size < w1.heap.size := by have := B1.size; simp at this; omega
  have cc : ∀ j, w2.cell? ⟨w.heap.size, j, none⟩ = (w.alloc (.cells #[.int .u8 x0, .int .u8 x1] 33)).cell? ⟨w.heap.size, j, none⟩ := fun j => by
    rw [B2.cell (p := ⟨w.heap.size, j, none⟩) hz1, B1.cell (p := ⟨w.heap.size, j, none⟩) (by simp)]
  have c0 : w2.cell? ⟨w.heap.size, 0, none⟩ = some (.int .u8 x0) := by rw [cc]; simp [go_sem]
  have c1 : w2.cell? ⟨w.heap.size, 1, none⟩ = some (.int .u8 x1) := by rw [cc]; simp [go_sem]
  clear cc
  go_wp2_with fail
  go_region
  have hB' := hB.drew
  have F' : NF w2.drew f k := F.below (Below.refl _ _).drew
  go_wp2_with fail
  rw [ea, eb]
  clear hB F c0 c1 ea eb B1 B2
  refine (negK hk7 F' a ha).mono ?_
  rintro e w' ⟨rfl, rfl⟩
  go_wp2_with fail
  refine (addK F' a (negN k a) ha Q.nl).mono ?_
  rintro e w' ⟨rfl, rfl⟩
  rw [Q.n0]
  go_wp2_with fail
  refine (negK hk7 F' a ha).mono ?_
  rintro e w' ⟨rfl, rfl⟩
  go_wp2_with fail
  refine (negK hk7 F' (negN k a) Q.nl).mono ?_
  rintro e w' ⟨rfl, rfl⟩
  rw [Q.nn]
  by_cases hz : a = 0
  · subst hz
    go_wp2_with fail
    refine (invK0 hk7 F').mono ?_
    rintro e w' ⟨rfl, rfl⟩
    go_wp2_with fail
    go_ret
    exact ⟨rfl, hB'⟩
  have hzi : ¬ (a : Int) = 0 := by omega
  have I := inv1_at hk7 ha hb hz
  go_wp2_with fail
  refine (invK hk7 F' a ha hz).mono ?_
  rintro e w' ⟨rfl, rfl⟩
  go_wp2_with fail
  refine (mulK F' a (invN k a) ha I.il).mono ?_
  rintro e w' ⟨rfl, rfl⟩
  rw [I.i1]
  go_wp2_with fail
  refine (invK hk7 F' a ha hz).mono ?_
  rintro e w' ⟨rfl, rfl⟩
  go_wp2_with fail
  refine (invK hk7 F' (invN k a) I.il I.i0).mono ?_
  rintro e w' ⟨rfl, rfl⟩
  rw [I.ii]
  go_wp2_with fail
  go_loop [10, 11] (fun c y => ∃ i : Nat, i ≤ szN k ∧ c = .int .i64 (cntN (prodN k a) b i) ∧ y = .int .i64 i) (fun _ y => szN k - (intOf y).toNat)
  case atStart => exact ⟨0, Nat.zero_le _, rfl, rfl⟩
  case round =>
    obtain ⟨i, hi, rfl, rfl⟩ := hrel
    have hcl := cntN_le (prodN k a) b i
    by_cases hlt : i < szN k
    · go_wp2_with fail
      refine (mulK F' a i ha hlt).mono ?_
      rintro e w' ⟨rfl, rfl⟩
      have hstep : cntN (prodN k a) b (i + 1) = if prodN k a i = b then cntN (prodN k a) b i + 1 else cntN (prodN k a) b i := rfl
      have HS := Lib.hid hstep
      clear hstep
      by_cases he : prodN k a i = b
      · have hd : ((prodN k a i : Int) == (b : Int)) = true := by simp [he]
        have HE := Lib.hid he
        clear he
        go_wp2_with fail
        go_round
        case rel => exact ⟨i + 1, by omega, by rw [HS.out, if_pos HE.out]; go_num, by go_num⟩
        case measure => simp [intOf]; omega
      · have hd : ((prodN k a i : Int) == (b : Int)) = false := by simp; omega
        have HE := Lib.hid he
        clear he
        go_wp2_with fail
        go_round
        case rel => exact ⟨i + 1, by omega, by rw [HS.out, if_neg HE.out], by go_num⟩
        case measure => simp [intOf]; omega
    · obtain rfl : i = szN k := by omega
      rw [I.cn]
      clear hlt hi hcl
      go_wp2_with fail
      refine (invK hk7 F' a ha hz).mono ?_
      rintro e w' ⟨rfl, rfl⟩
      go_wp2_with fail
      refine (mulK F' b (invN k a) hb I.il).mono ?_
      rintro e w' ⟨rfl, rfl⟩
      go_wp2_with fail
      refine (mulK F' a (prodN k b (invN k a)) ha I.pl).mono ?_
      rintro e w' ⟨rfl, rfl⟩
      rw [I.eq]
      go_wp2_with fail
      go_ret
      exact ⟨rfl, hB'⟩
end Go.Proofs.Ytnmkkflnehnioaa
