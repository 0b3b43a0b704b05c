/-
  The reference's sums, products, negated elements and inverses are the tables', and THE LAW SmallfieldTables returns true: its walk. No condition.
-/
import Derived.Test.YtnmkkflnehnioaaTwo
import Derived.Test.YtnmkkflnehnioaaRefD
namespace Go.Proofs.Ytnmkkflnehnioaa
open Go.RowKit Go.Proofs.Ytnmkkflnehnioaa.PSmallfieldTables

theorem ref_add_k : ∀ k : Fin 7, ∀ a b : Fin 9, a < szN k → b < szN k → tegularef05_Add.f 60 (szN k) a.val b.val = some (sumN k a b : Int) := by decide +kernel
theorem ref_mul_k : ∀ k : Fin 7, ∀ a b : Fin 9, a < szN k → b < szN k → tegularef05_Mul.f 60 (szN k) a.val b.val = some (prodN k a b : Int) := by decide +kernel
theorem ref_neg_k : ∀ k : Fin 7, ∀ a : Fin 9, a < szN k → tegularef05_Neg.f 60 (szN k) a.val = some (negN k a : Int) := by decide +kernel
theorem ref_inv_k : ∀ k : Fin 7, ∀ a : Fin 9, a < szN k → tegularef05_Inv.f 60 (szN k) a.val = some (if a.val = 0 then -1 else (invN k a : Int)) := by decide +kernel

theorem radd {k : Nat} (hk : k < 7) (a b : Nat) (ha : a < szN k) (hb : b < szN k) (w : World) : Calls Try.prog 29 #[.int .i64 (szN k), .int .i64 a, .int .i64 b] w fun e w' => e = .returned (.int .i64 (sumN k a b)) ∧ Below w.heap.size w w' :=
  have h9 := (sz_facts k hk).2.1.2
  tegularef05_Add.calls 60 _ _ _ _ w (ref_add_k ⟨k, hk⟩ ⟨a, by omega⟩ ⟨b, by omega⟩ ha hb)
theorem rmul {k : Nat} (hk : k < 7) (a b : Nat) (ha : a < szN k) (hb : b < szN k) (w : World) : Calls Try.prog 30 #[.int .i64 (szN k), .int .i64 a, .int .i64 b] w fun e w' => e = .returned (.int .i64 (prodN k a b)) ∧ Below w.heap.size w w' :=
  have h9 := (sz_facts k hk).2.1.2
  tegularef05_Mul.calls 60 _ _ _ _ w (ref_mul_k ⟨k, hk⟩ ⟨a, by omega⟩ ⟨b, by omega⟩ ha hb)
theorem rneg {k : Nat} (hk : k < 7) (a : Nat) (ha : a < szN k) (w : World) : Calls Try.prog 31 #[.int .i64 (szN k), .int .i64 a] w fun e w' => e = .returned (.int .i64 (negN k a)) ∧ Below w.heap.size w w' :=
  have h9 := (sz_facts k hk).2.1.2
  tegularef05_Neg.calls 60 _ _ _ w (ref_neg_k ⟨k, hk⟩ ⟨a, by omega⟩ ha)
theorem rinv {k : Nat} (hk : k < 7) (a : Nat) (ha : a < szN k) (w : World) : Calls Try.prog 32 #[.int .i64 (szN k), .int .i64 a] w fun e w' => e = .returned (.int .i64 (if a = 0 then -1 else (invN k a : Int))) ∧ Below w.heap.size w w' :=
  have h9 := (sz_facts k hk).2.1.2
  tegularef05_Inv.calls 60 _ _ _ w (ref_inv_k ⟨k, hk⟩ ⟨a, by omega⟩ ha)
theorem minv {w : World} {f k : Nat} (hk : k < 7) (h : NF w f k) (a : Nat) (ha : a < szN k) :
    Calls Try.prog 34 #[.pointer (some ⟨f, 0, none⟩), .int .i64 a] w fun e w' => e = .returned (.int .i64 (if a = 0 then -1 else (invN k a : Int))) ∧ w = w' := by
  by_cases h0 : a = 0
  · subst h0; exact invK0 hk h
  · rw [if_neg h0]; exact invK hk h a ha h0

set_option maxRecDepth 100000 in
set_option maxHeartbeats 3200000 in
theorem walk_tables (n : Nat) (hn : n ≤ 255) (a b : Int) (w : World) :
    Calls Try.prog 5 #[.int .u8 n, .int .i64 a, .int .i64 b] w fun e w' => e = .returned (.bool true) ∧ Below w.heap.size w w' := by
  obtain ⟨k, hk⟩ : ∃ k, n % 7 = k := ⟨_, rfl⟩
  have hk7 : k < 7 := by omega
  have hF := fun W => field_k n hn W
  rw [hk] at hF
  have HF := Lib.hid hF
  clear hF hk
  have hsz := (sz_facts k hk7).2.1
  go_enter Try.func5, Try.ntmps5
  go_wp2_with fail
  refine (awake5 _).mono ?_
  rintro e w1 ⟨rfl, B1⟩
  go_wp2_with fail
  refine (HF.out _).mono ?_
  rintro e w2 ⟨f, rfl, F, B2⟩
  have hB := B1.trans (B2.mono B1.size)
  clear B1 B2 HF
  by_cases ha : a < 0 ∨ (szN k : Int) ≤ a
  · have C1 := Lib.hid (fadd_no1 f _ _ _ _ w2 F a b ha)
    have C2 := Lib.hid (fmul_no1 f _ _ _ _ w2 F a b ha)
    have C3 := Lib.hid (fneg_no f _ _ _ _ w2 F a ha)
    have C4 := Lib.hid (finv_no f _ _ _ _ w2 F a ha)
    rcases ha with ha | ha
    · have d1 : decide (0 ≤ a) = false := by simp; omega
      clear ha
      go_wp2_with fail
      refine (C1.out).mono ?_
      rintro e w' ⟨rfl, rfl⟩
      go_wp2_with fail
      refine (C2.out).mono ?_
      rintro e w' ⟨rfl, rfl⟩
      go_wp2_with fail
      refine (C3.out).mono ?_
      rintro e w' ⟨rfl, rfl⟩
      go_wp2_with fail
      refine (C4.out).mono ?_
      rintro e w' ⟨rfl, rfl⟩
      go_wp2_with fail
      go_ret
      exact ⟨rfl, hB⟩
    · have d1 : decide (0 ≤ a) = true := by simp; omega
      have d2 : decide (a < (szN k : Int)) = false := by simp; omega
      clear ha
      go_wp2_with fail
      refine (C1.out).mono ?_
      rintro e w' ⟨rfl, rfl⟩
      go_wp2_with fail
      refine (C2.out).mono ?_
      rintro e w' ⟨rfl, rfl⟩
      go_wp2_with fail
      refine (C3.out).mono ?_
      rintro e w' ⟨rfl, rfl⟩
      go_wp2_with fail
      refine (C4.out).mono ?_
      rintro e w' ⟨rfl, rfl⟩
      go_wp2_with fail
      go_ret
      exact ⟨rfl, hB⟩
  obtain ⟨an, rfl⟩ : ∃ an : Nat, a = an := ⟨a.toNat, by omega⟩
  have han : an < szN k := by omega
  clear ha
  obtain ⟨iv, hiv⟩ : ∃ iv, (if an = 0 then -1 else (invN k an : Int)) = iv := ⟨_, rfl⟩
  have hri := fun W => rinv hk7 an han W
  have hmi := fun W (h : NF W f k) => minv hk7 h an han
  rw [hiv] at hri hmi
  have HRI := Lib.hid hri
  have HMI := Lib.hid hmi
  clear hri hmi hiv
  by_cases hb : b < 0 ∨ (szN k : Int) ≤ b
  · have C1 := Lib.hid (fun W (F : NF W f k) => fadd_no2 f _ _ _ _ W F an b han hb)
    have C2 := Lib.hid (fun W (F : NF W f k) => fmul_no2 f _ _ _ _ W F an b han hb)
    rcases hb with hb | hb
    · have d1 : decide (0 ≤ b) = false := by simp; omega
      clear hb
      go_wp2_with fail
      refine (rneg hk7 an han _).mono ?_
      rintro e w5 ⟨rfl, B5⟩
      go_wp2_with fail
      refine (HRI.out _).mono ?_
      rintro e w6 ⟨rfl, B6⟩
      have hB6 := (hB.trans (B5.mono hB.size)).trans (B6.mono (hB.trans (B5.mono hB.size)).size)
      have F6 : NF w6 f k := (F.below B5).below B6
      go_wp2_with fail
      refine (C1.out _ F6).mono ?_
      rintro e w' ⟨rfl, rfl⟩
      go_wp2_with fail
      refine (C2.out _ F6).mono ?_
      rintro e w' ⟨rfl, rfl⟩
      go_wp2_with fail
      refine (negK hk7 F6 an han).mono ?_
      rintro e w' ⟨rfl, rfl⟩
      go_wp2_with fail
      refine (HMI.out _ F6).mono ?_
      rintro e w' ⟨rfl, rfl⟩
      go_wp2_with fail
      go_ret
      exact ⟨rfl, hB6⟩
    · have d1 : decide (0 ≤ b) = true := by simp; omega
      have d2 : decide (b < (szN k : Int)) = false := by simp; omega
      clear hb
      go_wp2_with fail
      refine (rneg hk7 an han _).mono ?_
      rintro e w5 ⟨rfl, B5⟩
      go_wp2_with fail
      refine (HRI.out _).mono ?_
      rintro e w6 ⟨rfl, B6⟩
      have hB6 := (hB.trans (B5.mono hB.size)).trans (B6.mono (hB.trans (B5.mono hB.size)).size)
      have F6 : NF w6 f k := (F.below B5).below B6
      go_wp2_with fail
      refine (C1.out _ F6).mono ?_
      rintro e w' ⟨rfl, rfl⟩
      go_wp2_with fail
      refine (C2.out _ F6).mono ?_
      rintro e w' ⟨rfl, rfl⟩
      go_wp2_with fail
      refine (negK hk7 F6 an han).mono ?_
      rintro e w' ⟨rfl, rfl⟩
      go_wp2_with fail
      refine (HMI.out _ F6).mono ?_
      rintro e w' ⟨rfl, rfl⟩
      go_wp2_with fail
      go_ret
      exact ⟨rfl, hB6⟩
  obtain ⟨bn, rfl⟩ : ∃ bn : Nat, b = bn := ⟨b.toNat, by omega⟩
  have hbn : bn < szN k := by omega
  clear hb
  go_wp2_with fail
  refine (radd hk7 an bn han hbn _).mono ?_
  rintro e w3 ⟨rfl, B3⟩
  go_wp2_with fail
  refine (rmul hk7 an bn han hbn _).mono ?_
  rintro e w4 ⟨rfl, B4⟩
  have hB4 := (hB.trans (B3.mono hB.size)).trans (B4.mono (hB.trans (B3.mono hB.size)).size)
  have F4 : NF w4 f k := (F.below B3).below B4
  go_wp2_with fail
  refine (rneg hk7 an han _).mono ?_
  rintro e w5 ⟨rfl, B5⟩
  go_wp2_with fail
  refine (HRI.out _).mono ?_
  rintro e w6 ⟨rfl, B6⟩
  have hB6 := (hB4.trans (B5.mono hB4.size)).trans (B6.mono (hB4.trans (B5.mono hB4.size)).size)
  have F6 : NF w6 f k := (F4.below B5).below B6
  go_wp2_with fail
  refine (addK F6 an bn han hbn).mono ?_
  rintro e w' ⟨rfl, rfl⟩
  go_wp2_with fail
  refine (mulK F6 an bn han hbn).mono ?_
  rintro e w' ⟨rfl, rfl⟩
  go_wp2_with fail
  refine (negK hk7 F6 an han).mono ?_
  rintro e w' ⟨rfl, rfl⟩
  go_wp2_with fail
  refine (HMI.out _ F6).mono ?_
  rintro e w' ⟨rfl, rfl⟩
  go_wp2_with fail
  go_ret
  exact ⟨rfl, hB6⟩
end Go.Proofs.Ytnmkkflnehnioaa
