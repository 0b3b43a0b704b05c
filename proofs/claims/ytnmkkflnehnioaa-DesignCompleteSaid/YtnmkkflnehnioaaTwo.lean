/-
  Negated elements, inverses, powers and multiples in the seven fields: the methods and law05.power answer so. Condition: the field is one of the seven.
-/
import Derived.Test.YtnmkkflnehnioaaTab
namespace Go.Proofs.Ytnmkkflnehnioaa
open Go.RowKit

def negN (k a : Nat) : Nat := (findI (fun b => (sumN k a b : Int)) 0 (szN k) 0).toNat
def invN (k a : Nat) : Nat := (findI (fun b => (prodN k a b : Int)) 1 (szN k) 0).toNat
def prN (k : Nat) : Nat := (prI k).toNat
def powN (k a : Nat) : Nat → Nat
  | 0 => 1
  | n + 1 => prodN k (powN k a n) a
def mulP5 (k a : Nat) : Nat → Nat
  | 0 => 0
  | n + 1 => sumN k (mulP5 k a n) a
def cntN (T : Nat → Nat) (x : Nat) : Nat → Nat
  | 0 => 0
  | n + 1 => if T n = x then cntN T x n + 1 else cntN T x n
theorem cntN_le (T : Nat → Nat) (x : Nat) : ∀ n, cntN T x n ≤ n
  | 0 => Nat.le_refl _
  | n + 1 => by
    have := cntN_le T x n
    unfold cntN
    split <;> omega

theorem prN_eq : ∀ k : Nat, k < 7 → prI k = (prN k : Int) ∧ 2 ≤ prN k ∧ prN k ≤ 9 := by decide
theorem neg_k : ∀ k : Fin 7, ∀ a : Fin 9, a < szN k → findI (fun b => (sumN k a b : Int)) 0 (szN k) 0 = (negN k a : Int) ∧ negN k a < szN k ∧ sumN k a (negN k a) = 0 ∧ negN k (negN k a) = a := by decide +kernel
theorem inv_k : ∀ k : Fin 7, ∀ a : Fin 9, a < szN k → (a.val ≠ 0 → findI (fun b => (prodN k a b : Int)) 1 (szN k) 0 = (invN k a : Int) ∧ invN k a < szN k ∧ prodN k a (invN k a) = 1 ∧ invN k (invN k a) = a ∧ invN k a ≠ 0) ∧ (a.val = 0 → findI (fun b => (prodN k a b : Int)) 1 (szN k) 0 = -1) := by decide +kernel
theorem cnt_k : ∀ k : Fin 7, ∀ a b : Fin 9, a < szN k → b < szN k → a.val ≠ 0 → cntN (prodN k a) b (szN k) = 1 ∧ prodN k a (prodN k b (invN k a)) = b := by decide +kernel
theorem pow_k : ∀ k : Fin 7, ∀ a b : Fin 9, a < szN k → b < szN k → mulP5 k a (prN k) = 0 ∧ powN k (sumN k a b) (prN k) = sumN k (powN k a (prN k)) (powN k b (prN k)) ∧ powN k a (szN k) = a := by decide +kernel

theorem powN_lt {k a : Nat} (hk : k < 7) (ha : a < szN k) : ∀ n, powN k a n < szN k
  | 0 => by have := (sz_facts k hk).2.1.1; unfold powN; omega
  | n + 1 => (tab_at hk (powN_lt hk ha n) ha).2.2.2
theorem mulP5_lt {k a : Nat} (hk : k < 7) (ha : a < szN k) : ∀ n, mulP5 k a n < szN k
  | 0 => by have := (sz_facts k hk).2.1.1; unfold mulP5; omega
  | n + 1 => (tab_at hk (mulP5_lt hk ha n) ha).2.2.1

theorem negK {w : World} {f k : Nat} (hk : k < 7) (h : NF w f k) (a : Nat) (ha : a < szN k) :
    Calls Try.prog 33 #[.pointer (some ⟨f, 0, none⟩), .int .i64 a] w fun e w' => e = .returned (.int .i64 (negN k a)) ∧ w = w' := by
  have h9 := (sz_facts k hk).2.1.2
  have := fneg_any f _ (by omega) _ _ _ w h a ha
  rwa [(neg_k ⟨k, hk⟩ ⟨a, by omega⟩ ha).1] at this
theorem invK {w : World} {f k : Nat} (hk : k < 7) (h : NF w f k) (a : Nat) (ha : a < szN k) (h0 : a ≠ 0) :
    Calls Try.prog 34 #[.pointer (some ⟨f, 0, none⟩), .int .i64 a] w fun e w' => e = .returned (.int .i64 (invN k a)) ∧ w = w' := by
  have h9 := (sz_facts k hk).2.1.2
  have := finv_any f _ (by omega) _ _ _ w h a ha
  rwa [((inv_k ⟨k, hk⟩ ⟨a, by omega⟩ ha).1 h0).1] at this
theorem invK0 {w : World} {f k : Nat} (hk : k < 7) (h : NF w f k) :
    Calls Try.prog 34 #[.pointer (some ⟨f, 0, none⟩), .int .i64 0] w fun e w' => e = .returned (.int .i64 (-1)) ∧ w = w' := by
  have h9 := (sz_facts k hk).2.1
  have := finv_any f _ (by omega) _ _ _ w h 0 (by omega)
  rwa [((inv_k ⟨k, hk⟩ ⟨0, by omega⟩ (by show 0 < szN k; omega)).2 rfl)] at this
theorem primeK {w : World} {f k : Nat} (hk : k < 7) (h : NF w f k) :
    Calls Try.prog 35 #[.pointer (some ⟨f, 0, none⟩)] w fun e w' => e = .returned (.int .i64 (prN k)) ∧ w = w' := by
  have := prime_any f _ _ _ _ w h
  rwa [(prN_eq k hk).1] at this

set_option maxRecDepth 100000 in
set_option maxHeartbeats 800000 in
theorem powK {w : World} {f k : Nat} (hk : k < 7) (h : NF w f k) (a n : Nat) (ha : a < szN k) (hn : n ≤ 9) :
    Calls Try.prog 36 #[.pointer (some ⟨f, 0, none⟩), .int .i64 a, .int .i64 n] w fun e w' => e = .returned (.int .i64 (powN k a n)) ∧ w = w' := by
  go_enter Try.func36, Try.ntmps36
  go_wp2_with fail
  go_loop [7, 8] (fun o v => ∃ i : Nat, i ≤ n ∧ o = .int .i64 (powN k a i) ∧ v = .int .i64 i) (fun _ v => n - (intOf v).toNat)
  case atStart => exact ⟨0, Nat.zero_le _, rfl, rfl⟩
  case round =>
    obtain ⟨i, hi, rfl, rfl⟩ := hrel
    have hl := powN_lt hk ha i
    obtain ⟨y, hy⟩ : ∃ y, powN k a i = y := ⟨_, rfl⟩
    have HY := Lib.hid hy
    rw [hy] at hl
    rw [hy]
    clear hy
    by_cases hlt : i < n
    · have h9 : i < 9 := by omega
      go_wp2_with fail
      refine (mulK h y a hl ha).mono ?_
      rintro e w' ⟨rfl, rfl⟩
      go_wp2_with fail
      go_round
      case rel => exact ⟨i + 1, by omega, by show _ = Value.int .i64 (prodN k (powN k a i) a); rw [HY.out], by go_num⟩
      case measure => simp [intOf]; omega
    · obtain rfl : i = n := by omega
      have hd : decide ((i : Int) < (i : Int)) = false := by simp
      go_wp2_with fail
      go_ret
      exact ⟨by rw [HY.out]; rfl, rfl⟩
end Go.Proofs.Ytnmkkflnehnioaa
