/-
  Printed by the kit's print tool for tegularef05 (the parts for other functions left out; the names of the texts turned). Contracts of the reference functions.
-/
import Derived.Test.YtnmkkflnehnioaaPSmallfieldTablesx0
namespace Go.Proofs.Ytnmkkflnehnioaa.PSmallfieldTables
open Go.RowKit Go.Proofs.YtnmkkflnehnioaaW.PrintWords Go.Proofs.YtnmkkflnehnioaaW.PrintLast Go.Proofs.YtnmkkflnehnioaaW.PrintMore
attribute [local go_sem] max2_int min2_int max_two min_two max_three min_three max_four min_four   -- for this text's walks alone
set_option linter.unusedVariables false
set_option linter.unusedSimpArgs false

-- NOT PRINTED: function 64 (smallfield_Field_has)

-- NOT PRINTED: function 27 (smallfield_Field_Add)

-- NOT PRINTED: function 28 (smallfield_Field_Mul)

/-! ### slices_Index_int_int: function 67 -/
def tegularef05_Prime.j0 : Nat → Int → Int → Bool → Option (Int × Int)
  | 0, _, _, _ => none
  | k + 1, x0, x4, x5 => if x5 = true then (some (x0, 1)) else (if x4 = 4 then (some (2, 2)) else (if x4 = 8 then (some (2, 3)) else (if x4 = 9 then (some (3, 2)) else (some (0, 0)))))
def tegularef05_Prime.f (k : Nat) (a0 : Int) : Option (Int × Int) := if a0 = 2 then (tegularef05_Prime.j0 k a0 a0 (a0 == 2)) else (if a0 = 3 then (tegularef05_Prime.j0 k a0 a0 (a0 == 3)) else (if a0 = 5 then (tegularef05_Prime.j0 k a0 a0 (a0 == 5)) else (tegularef05_Prime.j0 k a0 a0 (a0 == 7))))
theorem tegularef05_Prime.mono_l : ∀ k, (∀ y0 y1 y2, LeO (tegularef05_Prime.j0 k y0 y1 y2) (tegularef05_Prime.j0 (k + 1) y0 y1 y2))
  | 0 => fun _ _ _ r h => by simp [tegularef05_Prime.j0] at h
  | k + 1 => by
    have ih0 := tegularef05_Prime.mono_l k
    · intro y0 y1 y2
      unfold tegularef05_Prime.j0
      repeat' first
      | (with_reducible exact ih0 _ _ _)
      | (with_reducible exact LeO.refl _)
      | (with_reducible exact LeO.none _)
      | (with_reducible refine LeO.ite ?_ ?_)
      | (with_reducible refine LeO.bind ?_ (fun _ => ?_))
      | exact ih0 _ _ _
      | exact LeO.none _
      | refine LeO.ite ?_ ?_
      | refine LeO.bind ?_ (fun _ => ?_)
theorem tegularef05_Prime.mono : ∀ a0 k, LeO (tegularef05_Prime.f k a0) (tegularef05_Prime.f (k + 1) a0) := by
  intro a0 k
  have ih0 := tegularef05_Prime.mono_l k
  unfold tegularef05_Prime.f
  repeat' first
      | (with_reducible exact ih0 _ _ _)
      | (with_reducible exact LeO.refl _)
      | (with_reducible exact LeO.none _)
      | (with_reducible refine LeO.ite ?_ ?_)
      | (with_reducible refine LeO.bind ?_ (fun _ => ?_))
      | exact ih0 _ _ _
      | exact LeO.none _
      | refine LeO.ite ?_ ?_
      | refine LeO.bind ?_ (fun _ => ?_)
set_option maxHeartbeats 8000000 in
set_option maxRecDepth 100000 in
theorem tegularef05_Prime.calls (k : Nat) (a0 : Int) (r1 : Int) (r2 : Int) (w : World) (h : tegularef05_Prime.f k a0 = some (r1, r2)) :
    Calls Try.prog 40 #[.int .i64 a0] w fun e w' => e = .returned (.tuple #[.int .i64 r1, .int .i64 r2]) ∧ Drawn0 w w' := by
  have H : (if a0 = 2 then (tegularef05_Prime.j0 k a0 a0 (a0 == 2)) else (if a0 = 3 then (tegularef05_Prime.j0 k a0 a0 (a0 == 3)) else (if a0 = 5 then (tegularef05_Prime.j0 k a0 a0 (a0 == 5)) else (tegularef05_Prime.j0 k a0 a0 (a0 == 7))))) = some (r1, r2) := h
  clear h
  have HC2 := Aside0.mk H
  clear H
  go_enter Try.func40, Try.ntmps40
  go_upto_if 5 with (fail)
  go_cut [5] (fun v5 wc => ∃ (kq : Nat) (x5_1 : Bool), v5 = .bool x5_1 ∧ Aside0 (tegularef05_Prime.j0 kq a0 a0 x5_1 = some (r1, r2)) ∧ Aside0 (kq ≤ k) ∧ Drawn0 w wc)
  case first =>
    have H := HC2.out
    clear HC2
    by_cases c3 : a0 = 2
    · rw [if_pos c3] at H
      have c3b0 : (a0 == 2) = true := beq_iff_eq.mpr c3
      have c3b1 : (a0 != 2) = false := bne_eq_false_iff_eq.mpr c3
      clear c3
      (first | rw [c3b0] | (simp only [i64_w, i32_w]; rw [c3b0]) | skip)
      have H' := Aside0.mk H
      clear H
      go_wp2
      go_meet
      case rel => exact ⟨_, ((a0 == 2)), (by first | rfl | (simp; done) | (simp [*]; done)), H', ⟨by first | omega | exact Nat.le_refl _⟩, by repeat (first | exact Drawn0.refl _ | apply Drawn0.step)⟩
    · rw [if_neg c3] at H
      have c3b0 : (a0 == 2) = false := beq_eq_false_iff_ne.mpr c3
      have c3b1 : (a0 != 2) = true := bne_iff_ne.mpr c3
      (first | rw [c3b0] | (simp only [i64_w, i32_w]; rw [c3b0]) | skip)
      by_cases c4 : a0 = 3
      · rw [if_pos c4] at H
        have c4b0 : (a0 == 3) = true := beq_iff_eq.mpr c4
        have c4b1 : (a0 != 3) = false := bne_eq_false_iff_eq.mpr c4
        clear c4
        have H' := Aside0.mk H
        clear H
        go_wp2
        go_meet
        case rel => exact ⟨_, ((a0 == 3)), (by first | rfl | (simp; done) | (simp [*]; done)), H', ⟨by first | omega | exact Nat.le_refl _⟩, by repeat (first | exact Drawn0.refl _ | apply Drawn0.step)⟩
      · rw [if_neg c4] at H
        have c4b0 : (a0 == 3) = false := beq_eq_false_iff_ne.mpr c4
        have c4b1 : (a0 != 3) = true := bne_iff_ne.mpr c4
        by_cases c5 : a0 = 5
        · rw [if_pos c5] at H
          have c5b0 : (a0 == 5) = true := beq_iff_eq.mpr c5
          have c5b1 : (a0 != 5) = false := bne_eq_false_iff_eq.mpr c5
          clear c5
          have H' := Aside0.mk H
          clear H
          go_wp2
          go_meet
          case rel => exact ⟨_, ((a0 == 5)), (by first | rfl | (simp; done) | (simp [*]; done)), H', ⟨by first | omega | exact Nat.le_refl _⟩, by repeat (first | exact Drawn0.refl _ | apply Drawn0.step)⟩
        · rw [if_neg c5] at H
          have c5b0 : (a0 == 5) = false := beq_eq_false_iff_ne.mpr c5
          have c5b1 : (a0 != 5) = true := bne_iff_ne.mpr c5
          have H' := Aside0.mk H
          clear H
          go_wp2
          go_meet
          case rel => exact ⟨_, ((a0 == 7)), (by first | rfl | (simp; done) | (simp [*]; done)), H', ⟨by first | omega | exact Nat.le_refl _⟩, by repeat (first | exact Drawn0.refl _ | apply Drawn0.step)⟩
  case rest =>
    clear HC2
    try clear p2
    try clear c3
    try clear c3b0
    try clear c3b1
    try clear c4
    try clear c4b0
    try clear c4b1
    try clear c5
    try clear c5b0
    try clear c5b1
    obtain ⟨kq, x5_1, rfl, HA, HJ1, ⟨mc1, rfl⟩⟩ := hcut
    cases kq with
    | zero => exact absurd HA.out (by simp [tegularef05_Prime.j0])
    | succ kj1 =>
      have H := HA.out
      clear HA
      simp only [tegularef05_Prime.j0] at H
      by_cases c6 : x5_1 = true
      · subst c6
        have H1 : (some (a0, 1)) = some (r1, r2) := by rw [if_pos rfl] at H; exact H
        clear H
        have H := H1
        clear H1
        simp only [Option.some.injEq, Prod.mk.injEq] at H
        obtain ⟨rfl, rfl⟩ := H
        go_wp2
        go_ret2
        exact ⟨by first | rfl | (simp; done) | (simp [*]; done), by repeat (first | exact Drawn0.refl _ | apply Drawn0.step)⟩
      · replace c6 := Bool.eq_false_iff.mpr c6
        subst c6
        have H1 : (if a0 = 4 then (some (2, 2)) else (if a0 = 8 then (some (2, 3)) else (if a0 = 9 then (some (3, 2)) else (some (0, 0))))) = some (r1, r2) := by rw [if_neg (show ¬ (false = true) by decide)] at H; exact H
        clear H
        have H := H1
        clear H1
        by_cases c7 : a0 = 4
        · rw [if_pos c7] at H
          have c7b0 : (a0 == 4) = true := beq_iff_eq.mpr c7
          have c7b1 : (a0 != 4) = false := bne_eq_false_iff_eq.mpr c7
          clear c7
          simp only [Option.some.injEq, Prod.mk.injEq] at H
          obtain ⟨rfl, rfl⟩ := H
          go_wp2
          go_ret2
          exact ⟨by first | rfl | (simp; done) | (simp [*]; done), by repeat (first | exact Drawn0.refl _ | apply Drawn0.step)⟩
        · rw [if_neg c7] at H
          have c7b0 : (a0 == 4) = false := beq_eq_false_iff_ne.mpr c7
          have c7b1 : (a0 != 4) = true := bne_iff_ne.mpr c7
          by_cases c8 : a0 = 8
          · rw [if_pos c8] at H
            have c8b0 : (a0 == 8) = true := beq_iff_eq.mpr c8
            have c8b1 : (a0 != 8) = false := bne_eq_false_iff_eq.mpr c8
            clear c8
            simp only [Option.some.injEq, Prod.mk.injEq] at H
            obtain ⟨rfl, rfl⟩ := H
            go_wp2
            go_ret2
            exact ⟨by first | rfl | (simp; done) | (simp [*]; done), by repeat (first | exact Drawn0.refl _ | apply Drawn0.step)⟩
          · rw [if_neg c8] at H
            have c8b0 : (a0 == 8) = false := beq_eq_false_iff_ne.mpr c8
            have c8b1 : (a0 != 8) = true := bne_iff_ne.mpr c8
            by_cases c9 : a0 = 9
            · rw [if_pos c9] at H
              have c9b0 : (a0 == 9) = true := beq_iff_eq.mpr c9
              have c9b1 : (a0 != 9) = false := bne_eq_false_iff_eq.mpr c9
              clear c9
              simp only [Option.some.injEq, Prod.mk.injEq] at H
              obtain ⟨rfl, rfl⟩ := H
              go_wp2
              go_ret2
              exact ⟨by first | rfl | (simp; done) | (simp [*]; done), by repeat (first | exact Drawn0.refl _ | apply Drawn0.step)⟩
            · rw [if_neg c9] at H
              have c9b0 : (a0 == 9) = false := beq_eq_false_iff_ne.mpr c9
              have c9b1 : (a0 != 9) = true := bne_iff_ne.mpr c9
              simp only [Option.some.injEq, Prod.mk.injEq] at H
              obtain ⟨rfl, rfl⟩ := H
              go_wp2
              go_ret2
              exact ⟨by first | rfl | (simp; done) | (simp [*]; done), by repeat (first | exact Drawn0.refl _ | apply Drawn0.step)⟩

/-! ### tegularef05_digits: function 65 -/
def tegularef05_digits.l0 : Nat → Int → Int → Int → List Int → Int → Option (List Int)
  | 0, _, _, _, _, _ => none
  | k + 1, x0, x1, x2, x7, x8 => if x8 < x2 then (if x1 = 0 then (none) else (if x7.length < 17592186044416 then (tegularef05_digits.l0 k (wrap64 (Int.tdiv x0 x1)) x1 x2 (x7 ++ [Int.tmod x0 x1]) (wrap64 (x8 + 1))) else (none))) else (some x7)
def tegularef05_digits.f (k : Nat) (a0 : Int) (a1 : Int) (a2 : Int) : Option (List Int) := tegularef05_digits.l0 k a0 a1 a2 ([] : List Int) 0
theorem tegularef05_digits.mono_l : ∀ k, (∀ y0 y1 y2 y3 y4, LeO (tegularef05_digits.l0 k y0 y1 y2 y3 y4) (tegularef05_digits.l0 (k + 1) y0 y1 y2 y3 y4))
  | 0 => fun _ _ _ _ _ r h => by simp [tegularef05_digits.l0] at h
  | k + 1 => by
    have ih0 := tegularef05_digits.mono_l k
    · intro y0 y1 y2 y3 y4
      unfold tegularef05_digits.l0
      repeat' first
      | (with_reducible exact ih0 _ _ _ _ _)
      | (with_reducible exact LeO.refl _)
      | (with_reducible exact LeO.none _)
      | (with_reducible refine LeO.ite ?_ ?_)
      | (with_reducible refine LeO.bind ?_ (fun _ => ?_))
      | exact ih0 _ _ _ _ _
      | exact LeO.none _
      | refine LeO.ite ?_ ?_
      | refine LeO.bind ?_ (fun _ => ?_)
theorem tegularef05_digits.mono : ∀ a0 a1 a2 k, LeO (tegularef05_digits.f k a0 a1 a2) (tegularef05_digits.f (k + 1) a0 a1 a2) := by
  intro a0 a1 a2 k
  have ih0 := tegularef05_digits.mono_l k
  unfold tegularef05_digits.f
  repeat' first
      | (with_reducible exact ih0 _ _ _ _ _)
      | (with_reducible exact LeO.refl _)
      | (with_reducible exact LeO.none _)
      | (with_reducible refine LeO.ite ?_ ?_)
      | (with_reducible refine LeO.bind ?_ (fun _ => ?_))
      | exact ih0 _ _ _ _ _
      | exact LeO.none _
      | refine LeO.ite ?_ ?_
      | refine LeO.bind ?_ (fun _ => ?_)
set_option maxHeartbeats 8000000 in
set_option maxRecDepth 100000 in
theorem tegularef05_digits.calls (k : Nat) (a0 : Int) (a1 : Int) (a2 : Int) (r : List Int) (w : World) (h : tegularef05_digits.f k a0 a1 a2 = some r) :
    Calls Try.prog 65 #[.int .i64 a0, .int .i64 a1, .int .i64 a2] w fun e w' => ∃ v0_ : Value, e = .returned (v0_) ∧ Kd.R (Kd.int .i64) 3 w' w.heap.size (fun _ => True) v0_ r ∧ Below w.heap.size w w' := by
  have HB := Aside0.mk (Below.refl w.heap.size w)
  have H : (tegularef05_digits.l0 k a0 a1 a2 ([] : List Int) 0) = some r := h
  clear h
  have H' := Aside0.mk H
  clear H
  go_enter Try.func65, Try.ntmps65
  go_wp2
  go_loopg [0, 7, 8] k (fun kq v0 v7 v8 w' => ∃ (x0_1 : Int) (x7_1 : List Int) (x8_1 : Int), v0 = .int .i64 x0_1 ∧ v8 = .int .i64 x8_1 ∧ Aside0 (tegularef05_digits.l0 kq x0_1 a1 a2 x7_1 x8_1 = some r) ∧ Aside0 (kq ≤ k) ∧ Aside0 (Kd.R (Kd.int .i64) 3 w' w.heap.size (fun _ => True) v7 x7_1) ∧ Aside0 (Below w.heap.size w w'))
  case atStart => exact ⟨(a0), (([] : List Int)), (0), (by first | rfl | (simp; done) | (simp [*]; done)), (by first | rfl | (simp; done) | (simp [*]; done)), H', ⟨Nat.le_refl _⟩, ⟨by first | exact Kd.R_nil _ _ _ _ _ | exact Kd.N_nil _ _ _ _ _ | exact Kd.V_nil _ _ _ _ _ | exact Kd.Q_nil _ _ _ _ _ | exact Kd.S_nil _ _ _ _ _⟩, ⟨by repeat (first | (with_reducible first | exact HB.out | apply below_alloc | apply pw_below_drewN | apply below_drew1) | exact HB.out)⟩⟩
  case round =>
    clear H'
    try clear p2
    obtain ⟨x0_1, x7_1, x8_1, rfl, rfl, HA, HK1, HO_7, HB⟩ := hrel
    cases gk with
    | zero => exact absurd HA.out (by simp [tegularef05_digits.l0])
    | succ k1 =>
      have H := HA.out
      clear HA
      simp only [tegularef05_digits.l0] at H
      by_cases c4 : x8_1 < a2
      · rw [if_pos c4] at H
        have c4b0 : decide (x8_1 < a2) = true := decide_eq_true c4
        clear c4
        by_cases c5 : a1 = 0
        · rw [if_pos c5] at H
          exact absurd H (by simp)
        · rw [if_neg c5] at H
          have c5b0 : (a1 == 0) = false := beq_eq_false_iff_ne.mpr c5
          have c5b1 : (a1 != 0) = true := bne_iff_ne.mpr c5
          by_cases c6 : x7_1.length < 17592186044416
          · rw [if_pos c6] at H
            have LMc6 := Aside0.mk c6
            clear c6
            obtain ⟨y130, hy130⟩ : ∃ y_ : List Int, y_ = (x7_1 ++ [Int.tmod x0_1 a1]) := ⟨_, rfl⟩
            replace H : (tegularef05_digits.l0 k1 (wrap64 (Int.tdiv x0_1 a1)) a1 a2 y130 (wrap64 (x8_1 + 1))) = some r := by first | (rw [hy130]; with_reducible exact H) | (have H2_ := (Option.bind_some _ _).symm.trans H; rw [hy130]; with_reducible exact H2_) | (have H2_ := (Option.bind_some _ _).symm.trans H; with_reducible exact H2_) | with_reducible exact H | (rw [hy130]; exact H) | exact H
            have Ny130 := Aside0.mk hy130
            clear hy130
            have H' := Aside0.mk H
            clear H
            go_wp2_with (first | ((with_reducible refine gate_builtin (b := .append) (xs := #[.tmp 14, .tmp 18]) rfl ?_); at_builtin; refine Kd.R_append (Kd.int .i64) (w0 := w) w.heap.size rfl (.tmp 14) (.tmp 18) 38 3 (.int .i64 0) 8 rfl Try.underlying38 info3 rfl (by decide) (by omega) u7 x7_1 (Int.tmod x0_1 a1) [.int .i64 (Int.tmod x0_1 a1)] (fun _ => True) (fun _ => False) rfl rfl ?aP (fun _ hk => hk.elim) ?aF ?aO ?aB ?aS ?aL ?_; (case aP => exact rfl); (case aB => exact (by repeat (first | (with_reducible first | exact HB.out | apply below_alloc | apply pw_below_drewN | apply below_drew1) | exact HB.out))); (case aF => exact (fun _ _ => trivial)); (case aO => exact (by (with_reducible repeat (first | apply Kd.R_alloc | apply Kd.R_drewN | apply Kd.R_drew)); exact HO_7.out)); (case aS => exact (below_size (by repeat (first | (with_reducible first | exact HB.out | apply below_alloc | apply pw_below_drewN | apply below_drew1) | exact HB.out)))); (case aL => have := LMc6.out; omega); intro v131 w7 ho hb hg hat; rw [← Ny130.out] at ho; have n0_ := Aside0.mk (hb); have n1_ := Aside0.mk (ho); clear HB; clear HO_7; have HB := n0_; have HO132 := n1_; clear n0_ n1_; clear ho hb hg hat))
            go_roundg k1
            case measure => have := HK1.out; omega
            case rel => exact ⟨(wrap64 (Int.tdiv x0_1 a1)), (y130), (wrap64 (x8_1 + 1)), (by first | rfl | (simp; done) | (simp [*]; done)), (by first | rfl | (simp; done) | (simp [*]; done)), H', ⟨by have := HK1.out; omega⟩, ⟨by (with_reducible repeat (first | apply Kd.R_alloc | apply Kd.R_drewN | apply Kd.R_drew)); exact HO132.out⟩, ⟨by repeat (first | (with_reducible first | exact HB.out | apply below_alloc | apply pw_below_drewN | apply below_drew1) | exact HB.out)⟩⟩
          · rw [if_neg c6] at H
            exact absurd H (by simp)
      · rw [if_neg c4] at H
        have c4b0 : decide (x8_1 < a2) = false := decide_eq_false c4
        clear c4
        obtain rfl := Option.some.inj H
        go_wp2
        go_ret
        exact ⟨_, by first | rfl | (simp [errW_none, errW_some] <;> rfl) | (simp [*, errW_none, errW_some] <;> rfl), by (with_reducible repeat (first | apply Kd.R_alloc | apply Kd.R_drewN | apply Kd.R_drew)); exact HO_7.out, by repeat (first | (with_reducible first | exact HB.out | apply below_alloc | apply pw_below_drewN | apply below_drew1) | exact HB.out)⟩

/-! ### tegularef05_number: function 66 -/
def tegularef05_number.l0 : Nat → List Int → Int → Int → Int → Option (Int)
  | 0, _, _, _, _ => none
  | k + 1, x0, x1, x5, x6 => if x6 ≥ 0 then (if 0 ≤ x6 then (if x6 < (x0.length : Int) then (tegularef05_number.l0 k x0 x1 (wrap64 ((wrap64 (x5 * x1)) + (rd x0 x6))) (wrap64 (x6 - 1))) else (none)) else (none)) else (some x5)
def tegularef05_number.f (k : Nat) (l0 : List Int) (a1 : Int) : Option (Int) := tegularef05_number.l0 k l0 a1 0 (wrap64 ((l0.length : Int) - 1))
theorem tegularef05_number.mono_l : ∀ k, (∀ y0 y1 y2 y3, LeO (tegularef05_number.l0 k y0 y1 y2 y3) (tegularef05_number.l0 (k + 1) y0 y1 y2 y3))
  | 0 => fun _ _ _ _ r h => by simp [tegularef05_number.l0] at h
  | k + 1 => by
    have ih0 := tegularef05_number.mono_l k
    · intro y0 y1 y2 y3
      unfold tegularef05_number.l0
      repeat' first
      | (with_reducible exact ih0 _ _ _ _)
      | (with_reducible exact LeO.refl _)
      | (with_reducible exact LeO.none _)
      | (with_reducible refine LeO.ite ?_ ?_)
      | (with_reducible refine LeO.bind ?_ (fun _ => ?_))
      | exact ih0 _ _ _ _
      | exact LeO.none _
      | refine LeO.ite ?_ ?_
      | refine LeO.bind ?_ (fun _ => ?_)
theorem tegularef05_number.mono : ∀ a0 a1 k, LeO (tegularef05_number.f k a0 a1) (tegularef05_number.f (k + 1) a0 a1) := by
  intro a0 a1 k
  have ih0 := tegularef05_number.mono_l k
  unfold tegularef05_number.f
  repeat' first
      | (with_reducible exact ih0 _ _ _ _)
      | (with_reducible exact LeO.refl _)
      | (with_reducible exact LeO.none _)
      | (with_reducible refine LeO.ite ?_ ?_)
      | (with_reducible refine LeO.bind ?_ (fun _ => ?_))
      | exact ih0 _ _ _ _
      | exact LeO.none _
      | refine LeO.ite ?_ ?_
      | refine LeO.bind ?_ (fun _ => ?_)
set_option maxHeartbeats 8000000 in
set_option maxRecDepth 100000 in
theorem tegularef05_number.calls (k : Nat) (A0 : Option Addr) (c0 : Nat) (l0 : List Int) (a1 : Int) (r : Int) (w : World) (hr0 : Kd.C (Kd.int .i64) w A0 l0.length l0) (hc0 : l0.length ≤ c0) (h : tegularef05_number.f k l0 a1 = some r) :
    Calls Try.prog 66 #[.slice A0 l0.length c0, .int .i64 a1] w fun e w' => e = .returned (.int .i64 r) ∧ Drawn0 w w' := by
  have HR0 := Aside0.mk hr0
  have HC0 := Aside0.mk hc0
  clear hr0 hc0
  have H : (tegularef05_number.l0 k l0 a1 0 (wrap64 ((l0.length : Int) - 1))) = some r := h
  clear h
  have H' := Aside0.mk H
  clear H
  go_enter Try.func66, Try.ntmps66
  go_wp2
  go_loopg [5, 6] k (fun kq v5 v6 w' => ∃ (x5_1 : Int) (x6_1 : Int), v5 = .int .i64 x5_1 ∧ v6 = .int .i64 x6_1 ∧ Aside0 (tegularef05_number.l0 kq l0 a1 x5_1 x6_1 = some r) ∧ Aside0 (kq ≤ k) ∧ Drawn0 w w')
  case atStart => exact ⟨(0), (wrap64 ((l0.length : Int) - 1)), (by first | rfl | (simp; done) | (simp [*]; done)), (by first | rfl | (simp; done) | (simp [*]; done)), H', ⟨Nat.le_refl _⟩, by repeat (first | exact Drawn0.refl _ | apply Drawn0.step)⟩
  case round =>
    clear H'
    try clear p2
    obtain ⟨x5_1, x6_1, rfl, rfl, HA, HK1, ⟨m1, rfl⟩⟩ := hrel
    cases gk with
    | zero => exact absurd HA.out (by simp [tegularef05_number.l0])
    | succ k1 =>
      have H := HA.out
      clear HA
      simp only [tegularef05_number.l0] at H
      by_cases c3 : x6_1 ≥ 0
      · rw [if_pos c3] at H
        have c3b0 : decide (0 ≤ x6_1) = true := decide_eq_true c3
        clear c3
        by_cases c4 : 0 ≤ x6_1
        · rw [if_pos c4] at H
          have c4b0 : decide (0 ≤ x6_1) = true := decide_eq_true c4
          clear c4
          by_cases c5 : x6_1 < (l0.length : Int)
          · rw [if_pos c5] at H
            have c5b0 : decide (x6_1 < (l0.length : Int)) = true := decide_eq_true c5
            clear c5
            have H' := Aside0.mk H
            clear H
            have p133 : 0 ≤ (x6_1 : Int) := of_decide_eq_true (by first | (with_reducible assumption) | assumption)
            have q133 : x6_1 < (l0.length : Int) := of_decide_eq_true (by first | (with_reducible assumption) | assumption)
            obtain ⟨ad133, e133, hx133_0⟩ := Kd.at_int HR0.out x6_1 p133 q133
            cases e133
            replace p133 := eq_true p133
            replace q133 := eq_true q133
            go_wp2
            go_roundg k1
            case measure => have := HK1.out; omega
            case rel => exact ⟨(wrap64 ((wrap64 (x5_1 * a1)) + (rd l0 x6_1))), (wrap64 (x6_1 - 1)), (by first | rfl | (simp; done) | (simp [*]; done)), (by first | rfl | (simp; done) | (simp [*]; done)), H', ⟨by have := HK1.out; omega⟩, by repeat (first | exact Drawn0.refl _ | apply Drawn0.step)⟩
          · rw [if_neg c5] at H
            exact absurd H (by simp)
        · rw [if_neg c4] at H
          exact absurd H (by simp)
      · rw [if_neg c3] at H
        have c3b0 : decide (0 ≤ x6_1) = false := decide_eq_false c3
        clear c3
        obtain rfl := Option.some.inj H
        go_wp2
        go_ret
        exact ⟨by first | rfl | (simp; done) | (simp [*]; done), by repeat (first | exact Drawn0.refl _ | apply Drawn0.step)⟩

end Go.Proofs.Ytnmkkflnehnioaa.PSmallfieldTables
