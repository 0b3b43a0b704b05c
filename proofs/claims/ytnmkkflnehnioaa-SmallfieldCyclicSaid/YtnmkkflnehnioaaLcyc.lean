/-
  THE LAW SmallfieldCyclic returns true: its walk. No condition.
-/
import Derived.Test.YtnmkkflnehnioaaTab
namespace Go.Proofs.Ytnmkkflnehnioaa
open Go.RowKit
/-- How many powers are seen, from the power x with s seen, in f rounds at most. -/
def cycN (k a : Nat) : Nat → Nat → Nat → Nat
  | 0, _, s => s
  | f + 1, x, s => if x ≠ 1 ∧ s < szN k then cycN k a f (prodN k x a) (s + 1) else s
def genN (k : Nat) : Nat := [1, 2, 2, 2, 3, 2, 4].getD k 0
theorem gen_k : ∀ k : Nat, k < 7 → 1 ≤ genN k ∧ genN k < szN k ∧ cycN k (genN k) (szN k) (genN k) 1 = szN k - 1 := by decide +kernel

set_option maxRecDepth 100000 in
set_option maxHeartbeats 3200000 in
theorem walk_cyclic (n : Nat) (hn : n ≤ 255) (w : World) :
    Calls Try.prog 4 #[.int .u8 n] w fun e w' => e = .returned (.bool true) ∧ Below w.heap.size w w' := by
  obtain ⟨k, hk⟩ : ∃ k, n % 7 = k := ⟨_, rfl⟩
  have hk7 : k < 7 := by omega
  have hF := fun W => field_k n hn W
  rw [hk] at hF
  have HF := Lib.hid hF
  clear hF hk
  have hsz := (sz_facts k hk7).2.1
  obtain ⟨hg1, hg2, hg3⟩ := gen_k k hk7
  have HG := Lib.hid hg3
  clear hg3
  go_enter Try.func4, Try.ntmps4
  go_wp2_with fail
  refine (awake5 _).mono ?_
  rintro e w1 ⟨rfl, B1⟩
  go_wp2_with fail
  refine (HF.out _).mono ?_
  rintro e w2 ⟨f, rfl, F, B2⟩
  have hB : Below w.heap.size w w2 := B1.trans (B2.mono B1.size)
  go_wp2_with fail
  go_loop [6] (fun v => ∃ a : Nat, 1 ≤ a ∧ a ≤ genN k ∧ v = .int .i64 a) (fun v => 10 - (intOf v).toNat)
  case atStart => exact ⟨1, Nat.le_refl _, hg1, rfl⟩
  case round =>
    obtain ⟨a, ha1, hag, rfl⟩ := hrel
    have haq : a < szN k := by omega
    go_wp2_with fail
    go_loop [7, 8] (fun s x => ∃ sn xn : Nat, 1 ≤ sn ∧ sn ≤ szN k ∧ xn < szN k ∧ s = .int .i64 sn ∧ x = .int .i64 xn ∧ cycN k a (szN k - sn + 1) xn sn = cycN k a (szN k) a 1) (fun s _ => szN k - (intOf s).toNat)
    case atStart => exact ⟨1, a, Nat.le_refl _, by omega, haq, rfl, rfl, by rw [show szN k - 1 + 1 = szN k by omega]⟩
    case round =>
      obtain ⟨sn, xn, hs1, hsq, hxq, rfl, rfl, hc⟩ := hrel
      have HC := Lib.hid hc
      clear hc
      by_cases hgo : xn ≠ 1 ∧ sn < szN k
      · obtain ⟨hx1, hs2⟩ := hgo
        have hx1i : ¬ (xn : Int) = 1 := by omega
        go_wp2_with fail
        refine (mulK F xn a hxq haq).mono ?_
        rintro e w' ⟨rfl, rfl⟩
        have hpl := (tab_at hk7 hxq haq).2.2.2
        go_wp2_with fail
        go_round
        case rel =>
          refine ⟨sn + 1, prodN k xn a, by omega, by omega, hpl, by go_num, rfl, ?_⟩
          have := HC.out
          rw [show szN k - sn + 1 = (szN k - (sn + 1) + 1) + 1 by omega, cycN, if_pos ⟨hx1, hs2⟩] at this
          exact this
        case measure => simp [intOf]; omega
      · have hse : sn = cycN k a (szN k) a 1 := by
          have := HC.out
          rw [cycN, if_neg hgo] at this
          exact this
        have hend : a = genN k → sn = szN k - 1 := fun h => by rw [hse, h, HG.out]
        clear hse
        clear HC
        have HE := Lib.hid hend
        clear hend
        by_cases hx1 : xn = 1
        · subst hx1
          clear hgo
          by_cases hq' : sn = szN k - 1
          · have hd : ((sn : Int) == ((szN k : Int) - 1)) = true := by simp; omega
            clear HE hq'
            go_wp2_with fail
            go_ret
            exact ⟨rfl, hB⟩
          · have hd : ((sn : Int) == ((szN k : Int) - 1)) = false := by simp; omega
            have hne : a ≠ genN k := fun h => hq' (HE.out h)
            clear HE hq'
            go_wp2_with fail
            go_round
            case rel => exact ⟨a + 1, by omega, by omega, by go_num⟩
            case measure => simp [intOf]; omega
        · have hx1i : ¬ (xn : Int) = 1 := by omega
          obtain rfl : sn = szN k := by omega
          have hd : ((szN k : Int) == ((szN k : Int) - 1)) = false := by simp; omega
          have hl : decide ((szN k : Int) < (szN k : Int)) = false := by simp
          have hne : a ≠ genN k := fun h => by have := HE.out h; omega
          clear HE hgo
          go_wp2_with fail
          go_round
          case rel => exact ⟨a + 1, by omega, by omega, by go_num⟩
          case measure => simp [intOf]; omega
end Go.Proofs.Ytnmkkflnehnioaa
