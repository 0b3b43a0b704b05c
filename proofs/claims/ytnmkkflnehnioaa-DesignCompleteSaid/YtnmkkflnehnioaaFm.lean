/-
  The methods of smallfield.Field. Conditions: the pointer is nil, or leads to a field whose tables lie in memory.
-/
import Derived.Test.YtnmkkflnehnioaaNewA
import Derived.BigQuiet
import Derived.Deep.QuietTactic
namespace Go.Proofs.Ytnmkkflnehnioaa
open Go.RowKit

set_option maxRecDepth 100000 in
set_option maxHeartbeats 800000 in
theorem size_any (f qn : Nat) (p : Int) (S M : Nat → Nat → Int) (w : World) (h : FieldAt w f qn p S M) :
    Calls Try.prog 37 #[.pointer (some ⟨f, 0, none⟩)] w fun e w' => e = .returned (.int .i64 qn) ∧ w = w' := by
  have c0 := h.c0
  go_enter Try.func37, Try.ntmps37
  go_wp2
  go_ret
  exact ⟨rfl, rfl⟩
set_option maxRecDepth 100000 in
set_option maxHeartbeats 800000 in
theorem size_nil (w : World) :
    Calls Try.prog 37 #[.pointer none] w fun e w' => e = .returned (.int .i64 0) ∧ w = w' := by
  go_enter Try.func37, Try.ntmps37
  go_wp2
  go_ret
  exact ⟨rfl, rfl⟩
set_option maxRecDepth 100000 in
set_option maxHeartbeats 800000 in
theorem prime_any (f qn : Nat) (p : Int) (S M : Nat → Nat → Int) (w : World) (h : FieldAt w f qn p S M) :
    Calls Try.prog 35 #[.pointer (some ⟨f, 0, none⟩)] w fun e w' => e = .returned (.int .i64 p) ∧ w = w' := by
  have c0 := h.c1
  go_enter Try.func35, Try.ntmps35
  go_wp2
  go_ret
  exact ⟨rfl, rfl⟩
set_option maxRecDepth 100000 in
set_option maxHeartbeats 800000 in
theorem prime_nil (w : World) :
    Calls Try.prog 35 #[.pointer none] w fun e w' => e = .returned (.int .i64 0) ∧ w = w' := by
  go_enter Try.func35, Try.ntmps35
  go_wp2
  go_ret
  exact ⟨rfl, rfl⟩

set_option maxRecDepth 100000 in
set_option maxHeartbeats 800000 in
theorem has_yes (f qn : Nat) (p : Int) (S M : Nat → Nat → Int) (w : World) (h : FieldAt w f qn p S M) (a : Nat) (ha : a < qn) :
    Calls Try.prog 64 #[.pointer (some ⟨f, 0, none⟩), .int .i64 a] w fun e w' => e = .returned (.bool true) ∧ w = w' := by
  have c0 := h.c0
  go_enter Try.func64, Try.ntmps64
  go_wp2
  go_ret
  exact ⟨rfl, rfl⟩
set_option maxRecDepth 100000 in
set_option maxHeartbeats 800000 in
theorem has_no (f qn : Nat) (p : Int) (S M : Nat → Nat → Int) (w : World) (h : FieldAt w f qn p S M) (a : Int) (ha : a < 0 ∨ (qn : Int) ≤ a) :
    Calls Try.prog 64 #[.pointer (some ⟨f, 0, none⟩), .int .i64 a] w fun e w' => e = .returned (.bool false) ∧ w = w' := by
  have c0 := h.c0
  rcases ha with ha | ha
  · have h1 : decide (0 ≤ a) = false := by simp; omega
    go_enter Try.func64, Try.ntmps64
    go_wp2
    go_ret
    exact ⟨rfl, rfl⟩
  · have h1 : 0 ≤ a := by omega
    have h2 : decide (a < (qn : Int)) = false := by simp; omega
    go_enter Try.func64, Try.ntmps64
    go_wp2
    go_ret
    exact ⟨rfl, rfl⟩
set_option maxRecDepth 100000 in
set_option maxHeartbeats 800000 in
theorem has_nil (w : World) (a : Int) :
    Calls Try.prog 64 #[.pointer none, .int .i64 a] w fun e w' => e = .returned (.bool false) ∧ w = w' := by
  go_enter Try.func64, Try.ntmps64
  go_wp2
  go_ret
  exact ⟨rfl, rfl⟩

set_option maxRecDepth 100000 in
set_option maxHeartbeats 800000 in
theorem fadd_any (f qn : Nat) (p : Int) (S M : Nat → Nat → Int) (w : World) (h : FieldAt w f qn p S M) (a b : Nat) (ha : a < qn) (hb : b < qn) :
    Calls Try.prog 27 #[.pointer (some ⟨f, 0, none⟩), .int .i64 a, .int .i64 b] w fun e w' => e = .returned (.int .i64 (S a b)) ∧ w = w' := by
  have H := Lib.hid h
  obtain ⟨vs, vm, c2, c3, hs, hm⟩ := h.tabs
  obtain ⟨bs, cs, rfl, hr⟩ := hs
  obtain ⟨r, d, e1, e2, e3⟩ := hr a ha
  have e4 := e3 b hb
  clear h hm hr e3
  go_enter Try.func27, Try.ntmps27
  go_wp2_with fail
  refine (has_yes f qn p S M _ H.out a ha).mono ?_
  rintro e w' ⟨rfl, rfl⟩
  go_wp2_with fail
  refine (has_yes f qn p S M _ H.out b hb).mono ?_
  rintro e w' ⟨rfl, rfl⟩
  go_wp2_with fail
  go_ret
  exact ⟨rfl, rfl⟩
set_option maxRecDepth 100000 in
set_option maxHeartbeats 800000 in
theorem fadd_no1 (f qn : Nat) (p : Int) (S M : Nat → Nat → Int) (w : World) (h : FieldAt w f qn p S M) (a b : Int) (ha : a < 0 ∨ (qn : Int) ≤ a) :
    Calls Try.prog 27 #[.pointer (some ⟨f, 0, none⟩), .int .i64 a, .int .i64 b] w fun e w' => e = .returned (.int .i64 (-1)) ∧ w = w' := by
  have H := Lib.hid h
  have HA := Lib.hid ha
  clear h ha
  go_enter Try.func27, Try.ntmps27
  go_wp2_with (go_at_call 64; refine (has_no f qn p S M _ H.out a HA.out).mono ?_; rintro e w' ⟨rfl, rfl⟩)
  go_ret
  exact ⟨rfl, rfl⟩
set_option maxRecDepth 100000 in
set_option maxHeartbeats 800000 in
theorem fadd_no2 (f qn : Nat) (p : Int) (S M : Nat → Nat → Int) (w : World) (h : FieldAt w f qn p S M) (a : Nat) (b : Int) (ha : a < qn) (hb : b < 0 ∨ (qn : Int) ≤ b) :
    Calls Try.prog 27 #[.pointer (some ⟨f, 0, none⟩), .int .i64 a, .int .i64 b] w fun e w' => e = .returned (.int .i64 (-1)) ∧ w = w' := by
  have H := Lib.hid h
  have HB := Lib.hid hb
  clear h hb
  go_enter Try.func27, Try.ntmps27
  go_wp2_with fail
  refine (has_yes f qn p S M _ H.out a ha).mono ?_
  rintro e w' ⟨rfl, rfl⟩
  go_wp2_with fail
  refine (has_no f qn p S M _ H.out b HB.out).mono ?_
  rintro e w' ⟨rfl, rfl⟩
  go_wp2_with fail
  go_ret
  exact ⟨rfl, rfl⟩
set_option maxRecDepth 100000 in
set_option maxHeartbeats 800000 in
theorem fadd_nil (w : World) (a b : Int) :
    Calls Try.prog 27 #[.pointer none, .int .i64 a, .int .i64 b] w fun e w' => e = .returned (.int .i64 (-1)) ∧ w = w' := by
  go_enter Try.func27, Try.ntmps27
  go_wp2_with (go_at_call 64; refine (has_nil _ _).mono ?_; rintro e w' ⟨rfl, rfl⟩)
  go_ret
  exact ⟨rfl, rfl⟩

set_option maxRecDepth 100000 in
set_option maxHeartbeats 800000 in
theorem fmul_any (f qn : Nat) (p : Int) (S M : Nat → Nat → Int) (w : World) (h : FieldAt w f qn p S M) (a b : Nat) (ha : a < qn) (hb : b < qn) :
    Calls Try.prog 28 #[.pointer (some ⟨f, 0, none⟩), .int .i64 a, .int .i64 b] w fun e w' => e = .returned (.int .i64 (M a b)) ∧ w = w' := by
  have H := Lib.hid h
  obtain ⟨vs, vm, c2, c3, hs, hm⟩ := h.tabs
  obtain ⟨bs, cs, rfl, hr⟩ := hm
  obtain ⟨r, d, e1, e2, e3⟩ := hr a ha
  have e4 := e3 b hb
  clear h hs hr e3
  go_enter Try.func28, Try.ntmps28
  go_wp2_with fail
  refine (has_yes f qn p S M _ H.out a ha).mono ?_
  rintro e w' ⟨rfl, rfl⟩
  go_wp2_with fail
  refine (has_yes f qn p S M _ H.out b hb).mono ?_
  rintro e w' ⟨rfl, rfl⟩
  go_wp2_with fail
  go_ret
  exact ⟨rfl, rfl⟩
set_option maxRecDepth 100000 in
set_option maxHeartbeats 800000 in
theorem fmul_no1 (f qn : Nat) (p : Int) (S M : Nat → Nat → Int) (w : World) (h : FieldAt w f qn p S M) (a b : Int) (ha : a < 0 ∨ (qn : Int) ≤ a) :
    Calls Try.prog 28 #[.pointer (some ⟨f, 0, none⟩), .int .i64 a, .int .i64 b] w fun e w' => e = .returned (.int .i64 (-1)) ∧ w = w' := by
  have H := Lib.hid h
  have HA := Lib.hid ha
  clear h ha
  go_enter Try.func28, Try.ntmps28
  go_wp2_with (go_at_call 64; refine (has_no f qn p S M _ H.out a HA.out).mono ?_; rintro e w' ⟨rfl, rfl⟩)
  go_ret
  exact ⟨rfl, rfl⟩
set_option maxRecDepth 100000 in
set_option maxHeartbeats 800000 in
theorem fmul_no2 (f qn : Nat) (p : Int) (S M : Nat → Nat → Int) (w : World) (h : FieldAt w f qn p S M) (a : Nat) (b : Int) (ha : a < qn) (hb : b < 0 ∨ (qn : Int) ≤ b) :
    Calls Try.prog 28 #[.pointer (some ⟨f, 0, none⟩), .int .i64 a, .int .i64 b] w fun e w' => e = .returned (.int .i64 (-1)) ∧ w = w' := by
  have H := Lib.hid h
  have HB := Lib.hid hb
  clear h hb
  go_enter Try.func28, Try.ntmps28
  go_wp2_with fail
  refine (has_yes f qn p S M _ H.out a ha).mono ?_
  rintro e w' ⟨rfl, rfl⟩
  go_wp2_with fail
  refine (has_no f qn p S M _ H.out b HB.out).mono ?_
  rintro e w' ⟨rfl, rfl⟩
  go_wp2_with fail
  go_ret
  exact ⟨rfl, rfl⟩
set_option maxRecDepth 100000 in
set_option maxHeartbeats 800000 in
theorem fmul_nil (w : World) (a b : Int) :
    Calls Try.prog 28 #[.pointer none, .int .i64 a, .int .i64 b] w fun e w' => e = .returned (.int .i64 (-1)) ∧ w = w' := by
  go_enter Try.func28, Try.ntmps28
  go_wp2_with (go_at_call 64; refine (has_nil _ _).mono ?_; rintro e w' ⟨rfl, rfl⟩)
  go_ret
  exact ⟨rfl, rfl⟩


/-- The first place of x among T 0, .., T (q - 1), or -1. -/
def findI (T : Nat → Int) (x : Int) : Nat → Nat → Int
  | 0, _ => -1
  | n + 1, k => if T k = x then (k : Int) else findI T x n (k + 1)
theorem findI_hit {T : Nat → Int} {x : Int} : ∀ {n k j : Nat}, k ≤ j → j < k + n → T j = x → (∀ i, i < j → T i ≠ x) → findI T x n k = j
  | 0, k, j, h1, h2, _, _ => by omega
  | n + 1, k, j, h1, h2, h3, h4 => by
    unfold findI
    by_cases e : k = j
    · subst e; rw [if_pos h3]
    · rw [if_neg (h4 k (by omega))]
      exact findI_hit (by omega) (by omega) h3 h4
theorem findI_miss {T : Nat → Int} {x : Int} : ∀ {n k : Nat}, (∀ i, i < k + n → T i ≠ x) → findI T x n k = -1
  | 0, _, _ => rfl
  | n + 1, k, h => by
    unfold findI
    rw [if_neg (h k (by omega))]
    exact findI_miss fun i hi => h i (by omega)
theorem all_snoc {P : Nat → Prop} {k : Nat} (h : ∀ j, j < k → P j) (hk : P k) : ∀ j, j < k + 1 → P j := fun j hj => by
  by_cases e : j = k
  · subst e; exact hk
  · exact h j (by omega)

set_option maxRecDepth 100000 in
set_option maxHeartbeats 800000 in
theorem index_any (T : Nat → Int) (x : Int) (r q d : Nat) (hq : q < 4294967296) (w : World) (h : ∀ j, j < q → w.cell? ⟨r, j, none⟩ = some (.int .i64 (T j))) :
    Calls Try.prog 67 #[.slice (some ⟨r, 0, none⟩) q d, .int .i64 x] w fun e w' => e = .returned (.int .i64 (findI T x q 0)) ∧ w = w' := by
  have H := Lib.hid h
  clear h
  go_enter Try.func67, Try.ntmps67
  go_wp2_with fail
  go_loop [8] (fun i => ∃ k : Nat, k ≤ q ∧ i = .int .i64 k ∧ (∀ j, j < k → T j ≠ x)) (fun i => q - (intOf i).toNat)
  case atStart => exact ⟨0, Nat.zero_le _, rfl, fun j hj => absurd hj (Nat.not_lt_zero _)⟩
  case round =>
    obtain ⟨k, hk, rfl, hno⟩ := hrel
    have HNO := Lib.hid hno
    clear hno
    by_cases hlt : k < q
    · have hc := H.out k hlt
      obtain ⟨y, hy⟩ : ∃ y, T k = y := ⟨_, rfl⟩
      rw [hy] at hc
      have HY := Lib.hid hy
      clear hy
      by_cases he : x = y
      · have hb : (x == y) = true := by simp [he]
        have HE := Lib.hid he
        clear he
        go_wp2
        go_ret
        exact ⟨congrArg (fun z => Ending.returned (.int .i64 z)) (findI_hit (Nat.zero_le k) (by omega) (HY.out.trans HE.out.symm) HNO.out).symm, rfl⟩
      · have hb : (x == y) = false := by simp [he]
        have HE := Lib.hid he
        clear he
        go_wp2
        go_round
        case rel => exact ⟨k + 1, by omega, by go_num, all_snoc HNO.out (fun e => HE.out (e.symm.trans HY.out))⟩
        case measure => simp [intOf]; omega
    · obtain rfl : k = q := by omega
      go_wp2
      go_ret
      exact ⟨congrArg (fun z => Ending.returned (.int .i64 z)) (findI_miss (by rw [Nat.zero_add]; exact HNO.out)).symm, rfl⟩

set_option maxRecDepth 100000 in
set_option maxHeartbeats 800000 in
theorem fneg_any (f qn : Nat) (hq : qn < 4294967296) (p : Int) (S M : Nat → Nat → Int) (w : World) (h : FieldAt w f qn p S M) (a : Nat) (ha : a < qn) :
    Calls Try.prog 33 #[.pointer (some ⟨f, 0, none⟩), .int .i64 a] w fun e w' => e = .returned (.int .i64 (findI (S a) 0 qn 0)) ∧ w = w' := by
  have H := Lib.hid h
  obtain ⟨vs, vm, c2, c3, hs, hm⟩ := h.tabs
  obtain ⟨bs, cs, rfl, hr⟩ := hs
  obtain ⟨r, d, e1, e2, e3⟩ := hr a ha
  have E := Lib.hid e3
  clear h hm hr e3
  go_enter Try.func33, Try.ntmps33
  go_wp2_with fail
  refine (has_yes f qn p S M _ H.out a ha).mono ?_
  rintro e w' ⟨rfl, rfl⟩
  go_wp2_with fail
  refine (index_any (S a) 0 r qn d hq _ E.out).mono ?_
  rintro e w' ⟨rfl, rfl⟩
  go_wp2_with fail
  go_ret
  exact ⟨rfl, rfl⟩
set_option maxRecDepth 100000 in
set_option maxHeartbeats 800000 in
theorem finv_any (f qn : Nat) (hq : qn < 4294967296) (p : Int) (S M : Nat → Nat → Int) (w : World) (h : FieldAt w f qn p S M) (a : Nat) (ha : a < qn) :
    Calls Try.prog 34 #[.pointer (some ⟨f, 0, none⟩), .int .i64 a] w fun e w' => e = .returned (.int .i64 (findI (M a) 1 qn 0)) ∧ w = w' := by
  have H := Lib.hid h
  obtain ⟨vs, vm, c2, c3, hs, hm⟩ := h.tabs
  obtain ⟨bs, cs, rfl, hr⟩ := hm
  obtain ⟨r, d, e1, e2, e3⟩ := hr a ha
  have E := Lib.hid e3
  clear h hs hr e3
  go_enter Try.func34, Try.ntmps34
  go_wp2_with fail
  refine (has_yes f qn p S M _ H.out a ha).mono ?_
  rintro e w' ⟨rfl, rfl⟩
  go_wp2_with fail
  refine (index_any (M a) 1 r qn d hq _ E.out).mono ?_
  rintro e w' ⟨rfl, rfl⟩
  go_wp2_with fail
  go_ret
  exact ⟨rfl, rfl⟩

set_option maxRecDepth 100000 in
set_option maxHeartbeats 800000 in
theorem fneg_no (f qn : Nat) (p : Int) (S M : Nat → Nat → Int) (w : World) (h : FieldAt w f qn p S M) (a : Int) (ha : a < 0 ∨ (qn : Int) ≤ a) :
    Calls Try.prog 33 #[.pointer (some ⟨f, 0, none⟩), .int .i64 a] w fun e w' => e = .returned (.int .i64 (-1)) ∧ w = w' := by
  have H := Lib.hid h
  have HA := Lib.hid ha
  clear h ha
  go_enter Try.func33, Try.ntmps33
  go_wp2_with (go_at_call 64; refine (has_no f qn p S M _ H.out a HA.out).mono ?_; rintro e w' ⟨rfl, rfl⟩)
  go_ret
  exact ⟨rfl, rfl⟩
set_option maxRecDepth 100000 in
set_option maxHeartbeats 800000 in
theorem finv_no (f qn : Nat) (p : Int) (S M : Nat → Nat → Int) (w : World) (h : FieldAt w f qn p S M) (a : Int) (ha : a < 0 ∨ (qn : Int) ≤ a) :
    Calls Try.prog 34 #[.pointer (some ⟨f, 0, none⟩), .int .i64 a] w fun e w' => e = .returned (.int .i64 (-1)) ∧ w = w' := by
  have H := Lib.hid h
  have HA := Lib.hid ha
  clear h ha
  go_enter Try.func34, Try.ntmps34
  go_wp2_with (go_at_call 64; refine (has_no f qn p S M _ H.out a HA.out).mono ?_; rintro e w' ⟨rfl, rfl⟩)
  go_ret
  exact ⟨rfl, rfl⟩
set_option maxRecDepth 100000 in
set_option maxHeartbeats 800000 in
theorem fneg_nil (w : World) (a : Int) : Calls Try.prog 33 #[.pointer none, .int .i64 a] w fun e w' => e = .returned (.int .i64 (-1)) ∧ w = w' := by
  go_enter Try.func33, Try.ntmps33
  go_wp2_with (go_at_call 64; refine (has_nil _ _).mono ?_; rintro e w' ⟨rfl, rfl⟩)
  go_ret
  exact ⟨rfl, rfl⟩
set_option maxRecDepth 100000 in
set_option maxHeartbeats 800000 in
theorem finv_nil (w : World) (a : Int) : Calls Try.prog 34 #[.pointer none, .int .i64 a] w fun e w' => e = .returned (.int .i64 (-1)) ∧ w = w' := by
  go_enter Try.func34, Try.ntmps34
  go_wp2_with (go_at_call 64; refine (has_nil _ _).mono ?_; rintro e w' ⟨rfl, rfl⟩)
  go_ret
  exact ⟨rfl, rfl⟩

end Go.Proofs.Ytnmkkflnehnioaa
