/-
  THE LAW SmallfieldPrime returns true: its walk. No condition.
-/
import Derived.Test.YtnmkkflnehnioaaLinv
import Derived.Deep.QuietTactic
import Derived.BigQuiet
namespace Go.Proofs.Ytnmkkflnehnioaa
open Go.RowKit
theorem belowN {B : Nat} {a w : World} (h : Below B a w) (n : Nat) : Below B a (w.drewN n) := ⟨h.os, h.tape, h.output, h.size, h.block⟩
structure PowK (k a b : Nat) : Prop where
  m0 : mulP5 k a (prN k) = 0
  pw : powN k (sumN k a b) (prN k) = sumN k (powN k a (prN k)) (powN k b (prN k))
  pq : powN k a (szN k) = a
  sl : sumN k a b < szN k
theorem pow_at {k a b : Nat} (hk : k < 7) (ha : a < szN k) (hb : b < szN k) : PowK k a b := by
  have h9 := (sz_facts k hk).2.1.2
  obtain ⟨h1, h2, h3⟩ := pow_k ⟨k, hk⟩ ⟨a, by omega⟩ ⟨b, by omega⟩ ha hb
  exact ⟨h1, h2, h3, (tab_at hk ha hb).2.2.1⟩
set_option maxRecDepth 100000 in
set_option maxHeartbeats 3200000 in
theorem walk_prime (n : Nat) (hn : n ≤ 255) (x0 x1 : Nat) (h0 : x0 ≤ 255) (h1 : x1 ≤ 255) (w : World) :
    Calls Try.prog 7 #[.int .u8 n, .agg #[.int .u8 x0, .int .u8 x1]] w fun e w' => e = .returned (.bool true) ∧ Below w.heap.size w w' := by
  obtain ⟨k, hk⟩ : ∃ k, n % 7 = k := ⟨_, rfl⟩
  have hk7 : k < 7 := by omega
  have hF := fun W => field_k n hn W
  rw [hk] at hF
  have HF := Lib.hid hF
  clear hF hk
  have hsz := (sz_facts k hk7).2.1
  obtain ⟨a, ha'⟩ : ∃ a, x0 % szN k = a := ⟨_, rfl⟩
  obtain ⟨b, hb'⟩ : ∃ b, x1 % szN k = b := ⟨_, rfl⟩
  have ha : a < szN k := ha' ▸ Nat.mod_lt _ (by omega)
  have hb : b < szN k := hb' ▸ Nat.mod_lt _ (by omega)
  have ea : (x0 : Int) % (szN k : Int) = a := by rw [mod_u8b, ha']
  have eb : (x1 : Int) % (szN k : Int) = b := by rw [mod_u8b, hb']
  have hq0 : ¬ (szN k : Int) = 0 := by omega
  obtain ⟨p, hp⟩ : ∃ p, prN k = p := ⟨_, rfl⟩
  have hp9 := (prN_eq k hk7).2
  have hpK : ∀ W g, NF W g k → Calls Try.prog 35 #[.pointer (some ⟨g, 0, none⟩)] W fun e w' => e = .returned (.int .i64 p) ∧ W = w' := fun W g h => hp ▸ primeK hk7 h
  have HP := Lib.hid hpK
  have Q0 := pow_at hk7 ha hb
  obtain ⟨Qm, Qp, Qq, Qs⟩ := Q0
  rw [hp] at Qm Qp hp9
  clear hpK hp
  clear ha' hb'
  go_enter Try.func7, Try.ntmps7
  go_wp2_with fail
  refine (awake5 _).mono ?_
  rintro e w1 ⟨rfl, B1⟩
  go_wp2_with fail
  refine (HF.out _).mono ?_
  rintro e w2 ⟨f, rfl, F, B2⟩
  have hB : Below w.heap.size w w2 := by
    have h := ((Below.refl _ w).alloc (Nat.le_refl _) _).trans (B1.mono (by simp))
    exact h.trans (B2.mono h.size)
  have hz1 : w.heap.size < w1.heap.size := by have := B1.size; simp at this; omega
  have cc : ∀ j, w2.cell? ⟨w.heap.size, j, none⟩ = (w.alloc (.cells #[.int .u8 x0, .int .u8 x1] 33)).cell? ⟨w.heap.size, j, none⟩ := fun j => by
    rw [B2.cell (p := ⟨w.heap.size, j, none⟩) hz1, B1.cell (p := ⟨w.heap.size, j, none⟩) (by simp)]
  have c0 : w2.cell? ⟨w.heap.size, 0, none⟩ = some (.int .u8 x0) := by rw [cc]; simp [go_sem]
  have c1 : w2.cell? ⟨w.heap.size, 1, none⟩ = some (.int .u8 x1) := by rw [cc]; simp [go_sem]
  clear cc
  have HP2 := HP.out _ f F
  have HP3 := HP.out _ f (F.below (Below.refl _ _).drew)
  go_wp2_with fail
  go_quiet ((go_at_call 35; refine Calls.quiet_of_same ((HP.out _ f (F.below (belowN (Below.refl _ _) _))).mono fun _ _ h => ⟨h.1, h.2.symm⟩)))
  have hB' := belowN hB nq
  have F' : NF (w2.drewN nq) f k := F.below (belowN (Below.refl _ _) nq)
  go_wp2_with fail
  rw [ea, eb]
  clear hB F c0 c1 ea eb B1 B2 HP2 HP3
  generalize w2.drewN nq = w3 at *
  go_loop [11, 12] (fun o v => ∃ i : Nat, i ≤ p ∧ o = .int .i64 (mulP5 k a i) ∧ v = .int .i64 i) (fun _ v => p - (intOf v).toNat)
  case atStart => exact ⟨0, Nat.zero_le _, rfl, rfl⟩
  case round =>
    obtain ⟨i, hi, rfl, rfl⟩ := hrel
    have hl := mulP5_lt hk7 ha i
    obtain ⟨y, hy⟩ : ∃ y, mulP5 k a i = y := ⟨_, rfl⟩
    have HY := Lib.hid hy
    rw [hy] at hl
    rw [hy]
    clear hy
    by_cases hlt : i < p
    · have h9 : i < 9 := by omega
      go_wp2_with fail
      refine (addK F' y a hl ha).mono ?_
      rintro e w' ⟨rfl, rfl⟩
      go_wp2_with fail
      go_round
      case rel => exact ⟨i + 1, by omega, by show _ = Value.int .i64 (sumN k (mulP5 k a i) a); rw [HY.out], by go_num⟩
      case measure => simp [intOf]; omega
    · obtain rfl : i = p := by omega
      have hd : decide ((i : Int) < (i : Int)) = false := by simp
      obtain rfl : 0 = y := Qm.symm.trans HY.out
      have la := powN_lt hk7 ha i
      have lb := powN_lt hk7 hb i
      go_wp2_with fail
      refine (addK F' a b ha hb).mono ?_
      rintro e w' ⟨rfl, rfl⟩
      go_wp2_with fail
      refine (powK hk7 F' (sumN k a b) i Qs hp9.2).mono ?_
      rintro e w' ⟨rfl, rfl⟩
      rw [Qp]
      go_wp2_with fail
      refine (powK hk7 F' a i ha hp9.2).mono ?_
      rintro e w' ⟨rfl, rfl⟩
      go_wp2_with fail
      refine (powK hk7 F' b i hb hp9.2).mono ?_
      rintro e w' ⟨rfl, rfl⟩
      go_wp2_with fail
      refine (addK F' (powN k a i) (powN k b i) la lb).mono ?_
      rintro e w' ⟨rfl, rfl⟩
      go_wp2_with fail
      refine (powK hk7 F' a (szN k) ha hsz.2).mono ?_
      rintro e w' ⟨rfl, rfl⟩
      rw [Qq]
      go_wp2_with fail
      go_ret
      exact ⟨rfl, hB'⟩
end Go.Proofs.Ytnmkkflnehnioaa
