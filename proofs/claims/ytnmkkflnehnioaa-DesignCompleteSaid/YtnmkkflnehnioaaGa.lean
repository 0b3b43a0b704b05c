/-
  Coordinates in a plane: slices.IndexFunc over them (90), space.normal (85), space.dot (75). Condition: elements of one of the seven fields.
  space.normal (85), the minors (92) and space.cross (86). Condition: elements of one of the seven fields.
  The minors (92) and space.cross (86). Condition: elements of one of the seven fields.
  The numbers of the points of a plane: which triples are normalized, in which order; and a map whose keys are triples. No condition.
  Triples compared ('==', '!=' at an array of three ints). Condition: their numbers are small.
  plane.open (74): the points of a plane, in their order, and their numbers. No condition.
  plane.open (74) at a number that is no size, and at a size too great. No condition.
  What a space reads as: its points and their numbers. Condition: a field with at most 60 points in its plane.
  The points' numbers as literal lists; two different points' cross is a point. Condition: the five sizes with at most 60 points.
  plane.common (77) at two different points of a plane. Condition: the five sizes with at most 60 points.
  plane.common (77) otherwise, plane.Meet (50), plane.Join (52). No condition.
-/
import Derived.Test.YtnmkkflnehnioaaTwo
import Derived.Deep.QuietTactic
import Derived.BigQuiet
import Derived.Deep.RegionWith
import Derived.Deep.RegionHeld3
import Derived.Maps.OwnSet
import Derived.DeepKeys4
import Derived.DeepKeys
/-! Coordinates in a plane: slices.IndexFunc over them (90), space.normal (85), space.dot (75). Condition: elements of one of the seven fields. -/
namespace Go.Proofs.Ytnmkkflnehnioaa
open Go.RowKit

theorem belowQ {B : Nat} {a w : World} (h : Below B a w) (n : Nat) : Below B a (w.drewN n) := ⟨h.os, h.tape, h.output, h.size, h.block⟩
theorem NF.drewN {w : World} {f k : Nat} (h : NF w f k) (n : Nat) : NF (w.drewN n) f k := h.below (belowQ (Below.refl _ _) n)

def tri (x y z : Nat) : Nat → Nat
  | 0 => x
  | 1 => y
  | _ => z
def leadN (T : Nat → Nat) : Int := if T 0 ≠ 0 then 0 else if T 1 ≠ 0 then 1 else if T 2 ≠ 0 then 2 else -1
theorem lead_hit {T : Nat → Nat} {j : Nat} (hj : j < 3) (h : T j ≠ 0) (h0 : ∀ i, i < j → T i = 0) : leadN T = j := by
  have : j = 0 ∨ j = 1 ∨ j = 2 := by omega
  unfold leadN
  rcases this with rfl | rfl | rfl
  · rw [if_pos h]; rfl
  · rw [if_neg (by simp [h0 0 (by omega)]), if_pos h]; rfl
  · rw [if_neg (by simp [h0 0 (by omega)]), if_neg (by simp [h0 1 (by omega)]), if_pos h]; rfl
theorem lead_miss {T : Nat → Nat} (h0 : ∀ i, i < 3 → T i = 0) : leadN T = -1 := by
  unfold leadN
  rw [if_neg (by simp [h0 0 (by omega)]), if_neg (by simp [h0 1 (by omega)]), if_neg (by simp [h0 2 (by omega)])]
theorem lead_cases (T : Nat → Nat) : (∃ j : Nat, j < 3 ∧ leadN T = (j : Int) ∧ T j ≠ 0 ∧ ∀ i, i < j → T i = 0) ∨ (leadN T = -1 ∧ ∀ i, i < 3 → T i = 0) := by
  by_cases a : T 0 = 0
  · by_cases b : T 1 = 0
    · by_cases c : T 2 = 0
      · have h : ∀ i, i < 3 → T i = 0 := fun i hi => by
          have : i = 0 ∨ i = 1 ∨ i = 2 := by omega
          rcases this with rfl | rfl | rfl <;> assumption
        exact .inr ⟨lead_miss h, h⟩
      · have h : ∀ i, i < 2 → T i = 0 := fun i hi => by
          have : i = 0 ∨ i = 1 := by omega
          rcases this with rfl | rfl <;> assumption
        exact .inl ⟨2, by omega, lead_hit (by omega) c h, c, h⟩
    · have h : ∀ i, i < 1 → T i = 0 := fun i hi => by
        obtain rfl : i = 0 := by omega
        exact a
      exact .inl ⟨1, by omega, lead_hit (by omega) b h, b, h⟩
  · exact .inl ⟨0, by omega, lead_hit (by omega) a (fun i hi => absurd hi (Nat.not_lt_zero _)), a, fun i hi => absurd hi (Nat.not_lt_zero _)⟩

set_option maxRecDepth 100000 in
theorem nonzero_any (x : Nat) (w : World) : Calls Try.prog 91 #[.int .i64 x] w fun e w' => e = .returned (.bool ((x : Int) != 0)) ∧ w = w' := by
  go_enter Try.func91, Try.ntmps91
  go_wp2
  go_ret
  exact ⟨rfl, rfl⟩

set_option maxRecDepth 100000 in
set_option maxHeartbeats 800000 in
theorem index3 (T : Nat → Nat) (b : Nat) (w : World) (h : ∀ j, j < 3 → w.cell? ⟨b, j, none⟩ = some (.int .i64 (T j))) :
    Calls Try.prog 90 #[.slice (some ⟨b, 0, none⟩) 3 3, .func (.func 91) #[] #[]] w fun e w' => e = .returned (.int .i64 (leadN T)) ∧ w = w' := by
  have H := Lib.hid h
  clear h
  go_enter Try.func90, Try.ntmps90
  go_wp2_with fail
  go_loop [8] (fun i => ∃ j : Nat, j ≤ 3 ∧ i = .int .i64 j ∧ ∀ i, i < j → T i = 0) (fun i => 3 - (intOf i).toNat)
  case atStart => exact ⟨0, by omega, rfl, fun i hi => absurd hi (Nat.not_lt_zero _)⟩
  case round =>
    obtain ⟨j, hj, rfl, hz⟩ := hrel
    have HZ := Lib.hid hz
    clear hz
    by_cases hlt : j < 3
    · have hc := H.out j hlt
      obtain ⟨x, hx⟩ : ∃ x, T j = x := ⟨_, rfl⟩
      rw [hx] at hc
      have HX := Lib.hid hx
      clear hx
      by_cases h0 : x = 0
      · subst h0
        go_wp2_with fail
        refine (nonzero_any 0 _).mono ?_
        rintro e w' ⟨rfl, rfl⟩
        rw [show (((0 : Nat) : Int) != 0) = false by decide]
        go_wp2_with fail
        go_round
        case rel => exact ⟨j + 1, by omega, by go_num, all_snoc HZ.out HX.out⟩
        case measure => simp [intOf]; omega
      · have hd : ((x : Int) != 0) = true := by simp; omega
        go_wp2_with fail
        refine (nonzero_any x _).mono ?_
        rintro e w' ⟨rfl, rfl⟩
        rw [hd]
        go_wp2_with fail
        go_ret
        exact ⟨by rw [lead_hit hlt (HX.out ▸ h0) HZ.out]; rfl, rfl⟩
    · obtain rfl : j = 3 := by omega
      go_wp2_with fail
      go_ret
      exact ⟨by rw [lead_miss HZ.out]; rfl, rfl⟩

/-- The three cells of coordinates in a box. -/
def TriAt (w : World) (b : Nat) (T : Nat → Nat) : Prop := ∀ j, j < 3 → w.cell? ⟨b, j, none⟩ = some (.int .i64 (T j)) ∧ w.frozen? ⟨b, j, none⟩ = false
def dotTo (k : Nat) (T U : Nat → Nat) : Nat → Nat
  | 0 => 0
  | n + 1 => sumN k (dotTo k T U n) (prodN k (T n) (U n))
theorem dotTo_lt {k : Nat} (hk : k < 7) {T U : Nat → Nat} (hT : ∀ j, j < 3 → T j < szN k) (hU : ∀ j, j < 3 → U j < szN k) : ∀ n, n ≤ 3 → dotTo k T U n < szN k
  | 0, _ => by have := (sz_facts k hk).2.1.1; unfold dotTo; omega
  | n + 1, h => (tab_at hk (dotTo_lt hk hT hU n (by omega)) (tab_at hk (hT n (by omega)) (hU n (by omega))).2.2.2).2.2.1
/-- The first field of the space points at the field number k. -/
def SpF (w : World) (s f k : Nat) : Prop := w.cell? ⟨s, 0, none⟩ = some (.pointer (some ⟨f, 0, none⟩)) ∧ NF w f k
theorem SpF.below {w w' : World} {s f k : Nat} (h : SpF w s f k) (hb : Below w.heap.size w w') : SpF w' s f k :=
  ⟨(hb.cell (p := ⟨s, 0, none⟩) (World.block_lt_of_cell? _ _ h.1)).trans h.1, h.2.below hb⟩

set_option maxRecDepth 100000 in
set_option maxHeartbeats 1600000 in
theorem dot_any {k : Nat} (hk : k < 7) (s f : Nat) (w : World) (hs : SpF w s f k) (T U : Nat → Nat) (hT : ∀ j, j < 3 → T j < szN k) (hU : ∀ j, j < 3 → U j < szN k) :
    Calls Try.prog 75 #[.pointer (some ⟨s, 0, none⟩), .agg #[.int .i64 (T 0), .int .i64 (T 1), .int .i64 (T 2)], .agg #[.int .i64 (U 0), .int .i64 (U 1), .int .i64 (U 2)]] w
      fun e w' => e = .returned (.int .i64 (dotTo k T U 3)) ∧ Below w.heap.size w w' := by
  have hsl : s < w.heap.size := World.block_lt_of_cell? _ _ hs.1
  have HT := Lib.hid hT
  have HU := Lib.hid hU
  clear hT hU
  go_enter Try.func75, Try.ntmps75
  go_wp2_with fail
  obtain ⟨W, hW⟩ : ∃ W, (w.alloc (.cells #[.int .i64 (T 0), .int .i64 (T 1), .int .i64 (T 2)] 95)).alloc (.cells #[.int .i64 (U 0), .int .i64 (U 1), .int .i64 (U 2)] 95) = W := ⟨_, rfl⟩
  have c1 : ∀ j, j < 3 → W.cell? ⟨w.heap.size, j, none⟩ = some (.int .i64 (T j)) := fun j hj => by
    rw [← hW]
    have : j = 0 ∨ j = 1 ∨ j = 2 := by omega
    rcases this with rfl | rfl | rfl <;> simp [go_sem]
  have c2 : ∀ j, j < 3 → W.cell? ⟨w.heap.size + 1, j, none⟩ = some (.int .i64 (U j)) := fun j hj => by
    rw [← hW]
    have : j = 0 ∨ j = 1 ∨ j = 2 := by omega
    rcases this with rfl | rfl | rfl <;> simp [go_sem]
  have hB : Below w.heap.size w W := hW ▸ ((Below.refl _ w).alloc (Nat.le_refl _) _).alloc (by simp) _
  rw [hW]
  have hS := hs.below hB
  have HS := Lib.hid hS
  have H1 := Lib.hid c1
  have H2 := Lib.hid c2
  clear hW c1 c2 hs hS
  go_loopw [7, 9] (fun o i wr => ∃ j : Nat, j ≤ 3 ∧ i = .int .i64 j ∧ o = .int .i64 (dotTo k T U j) ∧ ∃ n, wr = W.drewN n) (fun _ i _ => 3 - (intOf i).toNat)
  case atStart => exact ⟨0, by omega, rfl, rfl, 0, rfl⟩
  case round =>
    obtain ⟨j, hj, rfl, rfl, n, rfl⟩ := hrel
    by_cases hlt : j < 3
    · have d1 : (W.drewN n).cell? ⟨w.heap.size, j, none⟩ = some (.int .i64 (T j)) := H1.out j hlt
      have d2 : (W.drewN n).cell? ⟨w.heap.size + 1, j, none⟩ = some (.int .i64 (U j)) := H2.out j hlt
      have d0 : (W.drewN n).cell? ⟨s, 0, none⟩ = some (.pointer (some ⟨f, 0, none⟩)) := HS.out.1
      have F : ∀ m, NF ((W.drewN n).drewN m) f k := fun m => (HS.out.2.drewN n).drewN m
      have HF := Lib.hid F
      have ht := HT.out j hlt
      have hu := HU.out j hlt
      have hp := (tab_at hk ht hu).2.2.2
      have ho : dotTo k T U j < szN k := dotTo_lt hk HT.out HU.out j hj
      have hn : dotTo k T U (j + 1) = sumN k (dotTo k T U j) (prodN k (T j) (U j)) := rfl
      have HN := Lib.hid hn
      obtain ⟨t, et⟩ : ∃ t, T j = t := ⟨_, rfl⟩
      obtain ⟨u, eu⟩ : ∃ u, U j = u := ⟨_, rfl⟩
      obtain ⟨o, eo⟩ : ∃ o, dotTo k T U j = o := ⟨_, rfl⟩
      rw [et] at d1 ht hp HN
      rw [eu] at d2 hu hp HN
      rw [eo] at ho HN
      rw [eo]
      clear F et eu eo hn
      generalize hV : W.drewN n = V at *
      have HV := Lib.hid hV
      clear hV
      go_wp2_with fail
      go_quiet (first
        | (go_at_call 28; refine Calls.quiet_of_same ((mulK (HF.out _) t u ht hu).mono fun _ _ h => ⟨h.1, h.2.symm⟩))
        | (go_at_call 27; refine Calls.quiet_of_same ((addK (HF.out _) o (prodN k t u) ho hp).mono fun _ _ h => ⟨h.1, h.2.symm⟩)))
      go_wp2_with fail
      go_roundw
      case rel => exact ⟨j + 1, by omega, by go_num, by rw [HN.out], n + nq, by rw [← HV.out, World.drewN_drewN]⟩
      case measure => simp [intOf]; omega
    · obtain rfl : j = 3 := by omega
      go_wp2_with fail
      go_ret
      exact ⟨rfl, belowQ hB n⟩
end Go.Proofs.Ytnmkkflnehnioaa

/-! space.normal (85), the minors (92) and space.cross (86). Condition: elements of one of the seven fields. -/
namespace Go.Proofs.Ytnmkkflnehnioaa
open Go.RowKit

/-- The first coordinate other than 0. -/
def leadV (T : Nat → Nat) : Nat := if T 0 ≠ 0 then T 0 else if T 1 ≠ 0 then T 1 else T 2
def normN (k : Nat) (T : Nat → Nat) (j : Nat) : Nat := if leadV T = 0 then T j else prodN k (T j) (invN k (leadV T))
theorem leadV_hit {T : Nat → Nat} {j : Nat} (hj : j < 3) (h : T j ≠ 0) (h0 : ∀ i, i < j → T i = 0) : leadV T = T j := by
  have : j = 0 ∨ j = 1 ∨ j = 2 := by omega
  unfold leadV
  rcases this with rfl | rfl | rfl
  · rw [if_pos h]
  · rw [if_neg (by simp [h0 0 (by omega)]), if_pos h]
  · rw [if_neg (by simp [h0 0 (by omega)]), if_neg (by simp [h0 1 (by omega)])]
theorem leadV_miss {T : Nat → Nat} (h0 : ∀ i, i < 3 → T i = 0) : leadV T = 0 := by
  unfold leadV
  rw [if_neg (by simp [h0 0 (by omega)]), if_neg (by simp [h0 1 (by omega)])]
  exact h0 2 (by omega)
theorem normN_lt {k : Nat} (hk : k < 7) {T : Nat → Nat} (hT : ∀ j, j < 3 → T j < szN k) (j : Nat) (hj : j < 3) : normN k T j < szN k := by
  unfold normN
  split
  · exact hT j hj
  · rename_i h
    have h9 := (sz_facts k hk).2.1.2
    have hl : leadV T < szN k := by
      unfold leadV
      split
      · exact hT 0 (by omega)
      · split
        · exact hT 1 (by omega)
        · exact hT 2 (by omega)
    exact (tab_at hk (hT j hj) ((inv_k ⟨k, hk⟩ ⟨leadV T, by omega⟩ hl).1 h).2.1).2.2.2

theorem TriAt.alloc {w : World} {b : Nat} {T : Nat → Nat} (h : TriAt w b T) (o : Obj) : TriAt (w.alloc o) b T := fun j hj => by
  obtain ⟨h1, h2⟩ := h j hj
  have hb : b < w.heap.size := World.block_lt_of_cell? _ _ h1
  exact ⟨(World.cell?_alloc_old _ _ _ (by show b ≠ w.heap.size; omega)).trans h1, (World.frozen?_alloc_old _ _ _ (by show b ≠ w.heap.size; omega)).trans h2⟩
theorem TriAt.drewN {w : World} {b : Nat} {T : Nat → Nat} (h : TriAt w b T) (n : Nat) : TriAt (w.drewN n) b T := h

theorem TriAt.set {w : World} {b : Nat} {T : Nat → Nat} (h : TriAt w b T) (j y : Nat) (hj : j < 3) : TriAt (w.setCell ⟨b, j, none⟩ (.int .i64 y)) b (fun i => if i = j then y else T i) := fun i hi => by
  obtain ⟨h1, h2⟩ := h i hi
  refine ⟨?_, (World.frozen?_setCell _ _ _ _).trans h2⟩
  by_cases e : i = j
  · subst e
    simp only [if_pos]
    exact World.cell?_setCell_same _ _ _ h1
  · simp only [if_neg e]
    exact (World.cell?_setCell_other _ _ _ _ (fun x => e (by simpa using x.symm))).trans h1
theorem TriAt.other {w : World} {b : Nat} {T : Nat → Nat} (h : TriAt w b T) {a : Addr} (ha : b ≠ a.block) (u : Value) : TriAt (w.setCell a u) b T := fun i hi =>
  ⟨(World.cell?_setCell_other _ _ _ _ (fun e => ha (by rw [e]))).trans (h i hi).1, (World.frozen?_setCell _ _ _ _).trans (h i hi).2⟩
theorem TriAt.congr {w : World} {b : Nat} {T U : Nat → Nat} (h : TriAt w b T) (e : ∀ j, j < 3 → T j = U j) : TriAt w b U := fun i hi => by rw [← e i hi]; exact h i hi

theorem results_tri {fn : Func} {p : Tmp} (h : fn.results = #[.cell p 95]) (tmps : Array Value) (w : World) (b : Nat) (T : Nat → Nat) (hp : tmps.getD p undef = .pointer (some ⟨b, 0, none⟩)) (hb : TriAt w b T) :
    (results fn tmps).run Try.prog w = .ok (.agg #[.int .i64 (T 0), .int .i64 (T 1), .int .i64 (T 2)]) w := by
  obtain ⟨c0, -⟩ := hb 0 (by omega)
  obtain ⟨c1, -⟩ := hb 1 (by omega)
  obtain ⟨c2, -⟩ := hb 2 (by omega)
  have hp2 : tmps[p]?.getD undef = .pointer (some ⟨b, 0, none⟩) := by simpa using hp
  simp only [results, h]
  simp [go_sem, Sem.run_bind, Result.andThen, hp2, c0, c1, c2]
theorem tri3 {X T : Nat → Nat} : ∀ j, j < 3 → (fun i => if i = 2 then T 2 else (fun i => if i = 1 then T 1 else (fun i => if i = 0 then T 0 else X i) i) i) j = T j := fun j hj => by
  have : j = 0 ∨ j = 1 ∨ j = 2 := by omega
  rcases this with rfl | rfl | rfl <;> simp

/-- The first n coordinates multiplied. -/
def mulTo (k y : Nat) (T : Nat → Nat) (n j : Nat) : Nat := if j < n then prodN k (T j) y else T j

theorem mul_step {k y t j : Nat} {T : Nat → Nat} (h : T j = t) : ∀ i, i < 3 → (fun i => if i = j then prodN k t y else mulTo k y T j i) i = mulTo k y T (j + 1) i := fun i _ => by
  show (if i = j then prodN k t y else mulTo k y T j i) = mulTo k y T (j + 1) i
  unfold mulTo
  by_cases e : i = j
  · subst e
    rw [if_pos rfl, if_pos (by omega), h]
  · rw [if_neg e]
    by_cases l : i < j
    · rw [if_pos l, if_pos (by omega)]
    · rw [if_neg l, if_neg (by omega)]

set_option maxRecDepth 100000 in
set_option maxHeartbeats 3200000 in
theorem normal_any {k : Nat} (hk : k < 7) (s f : Nat) (w : World) (hs : SpF w s f k) (T : Nat → Nat) (hT : ∀ j, j < 3 → T j < szN k) :
    Calls Try.prog 85 #[.pointer (some ⟨s, 0, none⟩), .agg #[.int .i64 (T 0), .int .i64 (T 1), .int .i64 (T 2)]] w
      fun e w' => e = .returned (.agg #[.int .i64 (normN k T 0), .int .i64 (normN k T 1), .int .i64 (normN k T 2)]) ∧ Below w.heap.size w w' := by
  have hsl : s < w.heap.size := World.block_lt_of_cell? _ _ hs.1
  have HT := Lib.hid hT
  clear hT
  go_enter Try.func85, Try.ntmps85
  go_wp2_with fail
  obtain ⟨W, hW⟩ : ∃ W, (w.alloc (.cells #[.int .i64 (T 0), .int .i64 (T 1), .int .i64 (T 2)] 95)).alloc (.cells #[.int .i64 0, .int .i64 0, .int .i64 0] 95) = W := ⟨_, rfl⟩
  have c1 : TriAt W w.heap.size T := fun j hj => by
    rw [← hW]
    have : j = 0 ∨ j = 1 ∨ j = 2 := by omega
    rcases this with rfl | rfl | rfl <;> exact ⟨by simp [go_sem], by simp [go_sem]⟩
  have c2 : TriAt W (w.heap.size + 1) (fun _ => 0) := fun j hj => by
    rw [← hW]
    have : j = 0 ∨ j = 1 ∨ j = 2 := by omega
    rcases this with rfl | rfl | rfl <;> exact ⟨by simp [go_sem], by simp [go_sem]⟩
  have hB : Below w.heap.size w W := hW ▸ ((Below.refl _ w).alloc (Nat.le_refl _) _).alloc (by simp) _
  have hz : w.heap.size + 1 < W.heap.size := by rw [← hW]; simp
  rw [hW]
  have hS := hs.below hB
  have HS := Lib.hid hS
  have HO := Lib.hid hs
  have H1 := Lib.hid c1
  have H2 := Lib.hid c2
  clear hW hs hS
  refine (index3 T w.heap.size W (fun j hj => (c1 j hj).1)).mono ?_
  rintro e w' ⟨rfl, rfl⟩
  obtain ⟨a0, b0⟩ := H1.out 0 (by omega)
  obtain ⟨a1, b1⟩ := H1.out 1 (by omega)
  obtain ⟨a2, b2⟩ := H1.out 2 (by omega)
  obtain ⟨e0, g0⟩ := H2.out 0 (by omega)
  obtain ⟨e1, g1⟩ := H2.out 1 (by omega)
  obtain ⟨e2, g2⟩ := H2.out 2 (by omega)
  clear c1 c2
  rcases lead_cases T with ⟨i, hi, hl, hne, h0⟩ | ⟨hl, h0⟩
  · rw [hl]
    have hT2 := HT.out i hi
    obtain ⟨c0, -⟩ := H1.out i hi
    obtain ⟨y, ey⟩ : ∃ y, invN k (T i) = y := ⟨_, rfl⟩
    have h9 := (sz_facts k hk).2.1.2
    have hy : y < szN k := ey ▸ ((inv_k ⟨k, hk⟩ ⟨T i, by omega⟩ hT2).1 hne).2.1
    have hN : ∀ j, normN k T j = prodN k (T j) y := fun j => by unfold normN; rw [leadV_hit hi hne h0, if_neg hne, ey]
    have HN := Lib.hid hN
    have HI : Hid (∀ W f, NF W f k → Calls Try.prog 34 #[.pointer (some ⟨f, 0, none⟩), .int .i64 (T i)] W fun e w' => e = .returned (.int .i64 y) ∧ w' = W) := Lib.hid fun W f F => (ey ▸ invK hk F (T i) hT2 hne).mono fun _ _ h => ⟨h.1, h.2.symm⟩
    have s0 := HS.out.1
    have F := HS.out.2
    clear hN ey hne h0 hl a0 a1 a2 b0 b1 b2 e0 e1 e2 g0 g1 g2
    go_wp2_with fail
    go_quiet ((go_at_call 34; refine Calls.quiet_of_same (HI.out _ f (F.drewN _))))
    have hB' := belowQ hB nq
    have t1 := H1.out.drewN nq
    have t2 := H2.out.drewN nq
    have hz' : w.heap.size + 1 < (W.drewN nq).heap.size := hz
    clear s0 F c0
    generalize W.drewN nq = W2 at *
    go_wp2_with fail
    go_loopw [7, 21] (fun _ v wr => ∃ j : Nat, j ≤ 3 ∧ v = .int .i64 j ∧ TriAt wr w.heap.size (mulTo k y T j) ∧ TriAt wr (w.heap.size + 1) (fun _ => 0) ∧ Below w.heap.size w wr) (fun _ v _ => 3 - (intOf v).toNat)
    case atStart => exact ⟨0, by omega, rfl, t1.congr (fun j _ => by simp [mulTo]), t2, hB'⟩
    case round =>
      obtain ⟨j, hj, rfl, r1, r2, rb⟩ := hrel
      obtain ⟨d0, d1⟩ := (HO.out.below rb)
      by_cases hlt : j < 3
      · obtain ⟨m0, m1⟩ := r1 j hlt
        have hm : mulTo k y T j j = T j := by simp [mulTo]
        rw [hm] at m0
        have ht := HT.out j hlt
        have R1 := Lib.hid r1
        have R2 := Lib.hid r2
        obtain ⟨t, et⟩ : ∃ t, T j = t := ⟨_, rfl⟩
        rw [et] at m0 ht
        have ET := Lib.hid et
        have F' : NF wr.drew f k := d1.below (Below.refl _ _).drew
        clear hm et r1 r2 t1 t2 hB' hz' d1
        go_wp2_with fail
        go_region_with (go_at_call 28; refine (mulK F' t y ht hy).mono ?_; rintro e w' ⟨rfl, rfl⟩)
        all_goals (
          go_wp2_with fail
          go_roundw
          case rel => exact ⟨j + 1, by omega, by go_num, ((R1.out.drewN 1).set j (prodN k t y) hlt).congr (mul_step ET.out), (R2.out.drewN 1).other (by simp) _, (rb.drew).setCell (by simp) _⟩
          case measure => simp [intOf]; omega)
      · obtain rfl : j = 3 := by omega
        obtain ⟨q0, p0⟩ := r1 0 (by omega)
        obtain ⟨q1, p1⟩ := r1 1 (by omega)
        obtain ⟨q2, p2⟩ := r1 2 (by omega)
        obtain ⟨e0, g0⟩ := r2 0 (by omega)
        obtain ⟨e1, g1⟩ := r2 1 (by omega)
        obtain ⟨e2, g2⟩ := r2 2 (by omega)
        have R2 := Lib.hid r2
        have HB := Lib.hid rb
        clear r1 r2 rb
        go_wp2_with fail
        (try simp only [Exit.inBlock, Exit.then])
        refine bodyPost_ret_by (results_tri rfl _ _ (w.heap.size + 1) (mulTo k y T 3) rfl ?_) rfl ?_
        · exact (((R2.out.set 0 (mulTo k y T 3 0) (by omega)).set 1 (mulTo k y T 3 1) (by omega)).set 2 (mulTo k y T 3 2) (by omega)).congr tri3
        refine ⟨by rw [HN.out, HN.out, HN.out]; rfl, ?_⟩
        exact ((HB.out.setCell (by simp) _).setCell (by simp) _).setCell (by simp) _
  · rw [hl]
    have hn : ∀ j, normN k T j = T j := fun j => by unfold normN; rw [if_pos (leadV_miss h0)]
    have HN := Lib.hid hn
    clear hn h0 hl
    have X := H2.out
    go_wp2_with fail
    (try simp only [Exit.inBlock, Exit.then])
    refine bodyPost_ret_by (results_tri rfl _ _ (w.heap.size + 1) T rfl ?_) rfl ?_
    · exact (((X.set 0 (T 0) (by omega)).set 1 (T 1) (by omega)).set 2 (T 2) (by omega)).congr tri3
    refine ⟨by rw [HN.out, HN.out, HN.out], ?_⟩
    exact ((hB.setCell (by simp) _).setCell (by simp) _).setCell (by simp) _
end Go.Proofs.Ytnmkkflnehnioaa

/-! The minors (92) and space.cross (86). Condition: elements of one of the seven fields. -/
namespace Go.Proofs.Ytnmkkflnehnioaa
open Go.RowKit

def minN (k : Nat) (T U : Nat → Nat) (i j : Nat) : Nat := sumN k (prodN k (T i) (U j)) (negN k (prodN k (T j) (U i)))
theorem minN_lt {k : Nat} (hk : k < 7) {T U : Nat → Nat} (hT : ∀ j, j < 3 → T j < szN k) (hU : ∀ j, j < 3 → U j < szN k) {i j : Nat} (hi : i < 3) (hj : j < 3) : minN k T U i j < szN k := by
  have h9 := (sz_facts k hk).2.1.2
  have h1 := (tab_at hk (hT i hi) (hU j hj)).2.2.2
  have h2 := (tab_at hk (hT j hj) (hU i hi)).2.2.2
  exact (tab_at hk h1 (neg_k ⟨k, hk⟩ ⟨prodN k (T j) (U i), Nat.lt_of_lt_of_le h2 h9⟩ h2).2.1).2.2.1
def crossT (k : Nat) (T U : Nat → Nat) : Nat → Nat := tri (minN k T U 1 2) (minN k T U 2 0) (minN k T U 0 1)
def crossN (k : Nat) (T U : Nat → Nat) (j : Nat) : Nat := normN k (crossT k T U) j

set_option maxRecDepth 100000 in
set_option maxHeartbeats 1600000 in
theorem minor_any {k : Nat} (hk : k < 7) (p s f pa pb : Nat) (w : World) (hp : w.cell? ⟨p, 0, none⟩ = some (.pointer (some ⟨s, 0, none⟩))) (hs : SpF w s f k) (T U : Nat → Nat) (hT : ∀ j, j < 3 → T j < szN k) (hU : ∀ j, j < 3 → U j < szN k)
    (ha : TriAt w pa T) (hb : TriAt w pb U) (i j : Nat) (hi : i < 3) (hj : j < 3) :
    Calls Try.prog 92 #[.int .i64 i, .int .i64 j, .pointer (some ⟨p, 0, none⟩), .pointer (some ⟨pa, 0, none⟩), .pointer (some ⟨pb, 0, none⟩)] w
      fun e w' => e = .returned (.int .i64 (minN k T U i j)) ∧ ∃ n, w' = w.drewN n := by
  obtain ⟨s0, F⟩ := hs
  obtain ⟨a1, -⟩ := ha i hi
  obtain ⟨a2, -⟩ := ha j hj
  obtain ⟨b1, -⟩ := hb i hi
  obtain ⟨b2, -⟩ := hb j hj
  have h9 := (sz_facts k hk).2.1.2
  have t1 := hT i hi
  have t2 := hT j hj
  have u1 := hU i hi
  have u2 := hU j hj
  have h1 := (tab_at hk t1 u2).2.2.2
  have h2 := (tab_at hk t2 u1).2.2.2
  have h3 : negN k (prodN k (T j) (U i)) < szN k := (neg_k ⟨k, hk⟩ ⟨prodN k (T j) (U i), Nat.lt_of_lt_of_le h2 h9⟩ h2).2.1
  have HF := Lib.hid F
  have hm : minN k T U i j = sumN k (prodN k (T i) (U j)) (negN k (prodN k (T j) (U i))) := rfl
  rw [hm]
  clear hm
  obtain ⟨x1, e1⟩ : ∃ x, T i = x := ⟨_, rfl⟩
  obtain ⟨x2, e2⟩ : ∃ x, T j = x := ⟨_, rfl⟩
  obtain ⟨y1, e3⟩ : ∃ x, U i = x := ⟨_, rfl⟩
  obtain ⟨y2, e4⟩ : ∃ x, U j = x := ⟨_, rfl⟩
  rw [e1] at a1 t1 h1
  rw [e2] at a2 t2 h2
  rw [e3] at b1 u1 h2
  rw [e4] at b2 u2 h1
  rw [e1, e2, e3, e4]
  obtain ⟨m1, em1⟩ : ∃ x, prodN k x1 y2 = x := ⟨_, rfl⟩
  obtain ⟨m2, em2⟩ : ∃ x, prodN k x2 y1 = x := ⟨_, rfl⟩
  have HM1 : Hid (∀ W, NF W f k → Calls Try.prog 28 #[.pointer (some ⟨f, 0, none⟩), .int .i64 x1, .int .i64 y2] W fun e w' => e = .returned (.int .i64 m1) ∧ w' = W) := Lib.hid fun W F => (em1 ▸ mulK F x1 y2 t1 u2).mono fun _ _ h => ⟨h.1, h.2.symm⟩
  have HM2 : Hid (∀ W, NF W f k → Calls Try.prog 28 #[.pointer (some ⟨f, 0, none⟩), .int .i64 x2, .int .i64 y1] W fun e w' => e = .returned (.int .i64 m2) ∧ w' = W) := Lib.hid fun W F => (em2 ▸ mulK F x2 y1 t2 u1).mono fun _ _ h => ⟨h.1, h.2.symm⟩
  rw [e2, e3, em2] at h3
  rw [em1] at h1
  rw [em2] at h2
  rw [em1, em2]
  clear e1 e2 e3 e4 em1 em2 hT hU ha hb F
  go_enter Try.func92, Try.ntmps92
  go_wp2_with fail
  go_quiet (first
    | (go_at_call_of 28 x1; exact Calls.quiet_of_same (HM1.out _ (HF.out.drewN _)))
    | (go_at_call_of 28 x2; exact Calls.quiet_of_same (HM2.out _ (HF.out.drewN _)))
    | (go_at_call 33; exact Calls.quiet_of_same ((negK hk (HF.out.drewN _) m2 h2).mono fun _ _ h => ⟨h.1, h.2.symm⟩))
    | (go_at_call 27; exact Calls.quiet_of_same ((addK (HF.out.drewN _) m1 (negN k m2) h1 h3).mono fun _ _ h => ⟨h.1, h.2.symm⟩)))
  go_wp2_with fail
  go_ret
  exact ⟨rfl, nq, rfl⟩

theorem far3 {w : World} {n : Nat} {a b c v : Value} (h : w.cell? ⟨n, 0, none⟩ = some v) : (((w.setCell ⟨n + 1 + 1 + 1, 0, none⟩ a).setCell ⟨n + 1 + 1 + 1, 1, none⟩ b).setCell ⟨n + 1 + 1 + 1, 2, none⟩ c).cell? ⟨n, 0, none⟩ = some v := by
  rw [World.cell?_setCell_far _ _ _ _ (by simp; omega), World.cell?_setCell_far _ _ _ _ (by simp; omega), World.cell?_setCell_far _ _ _ _ (by simp; omega)]
  exact h

def DrawnOf (a w : World) : Prop := ∃ n, w = a.drewN n

set_option maxRecDepth 100000 in
set_option maxHeartbeats 3200000 in
theorem cross_any {k : Nat} (hk : k < 7) (s f : Nat) (w : World) (hs : SpF w s f k) (T U : Nat → Nat) (hT : ∀ j, j < 3 → T j < szN k) (hU : ∀ j, j < 3 → U j < szN k) :
    Calls Try.prog 86 #[.pointer (some ⟨s, 0, none⟩), .agg #[.int .i64 (T 0), .int .i64 (T 1), .int .i64 (T 2)], .agg #[.int .i64 (U 0), .int .i64 (U 1), .int .i64 (U 2)]] w
      fun e w' => e = .returned (.agg #[.int .i64 (crossN k T U 0), .int .i64 (crossN k T U 1), .int .i64 (crossN k T U 2)]) ∧ Below w.heap.size w w' := by
  have hsl : s < w.heap.size := World.block_lt_of_cell? _ _ hs.1
  have HT := Lib.hid hT
  have HU := Lib.hid hU
  clear hT hU
  go_enter Try.func86, Try.ntmps86
  go_wp2_with fail
  obtain ⟨W, hW⟩ : ∃ W, (((w.alloc (.cells #[.pointer (some ⟨s, 0, none⟩)] 87)).alloc (.cells #[.int .i64 (T 0), .int .i64 (T 1), .int .i64 (T 2)] 95)).alloc (.cells #[.int .i64 (U 0), .int .i64 (U 1), .int .i64 (U 2)] 95)).alloc (.cells #[.int .i64 0, .int .i64 0, .int .i64 0] 95) = W := ⟨_, rfl⟩
  have c0 : W.cell? ⟨w.heap.size, 0, none⟩ = some (.pointer (some ⟨s, 0, none⟩)) := by rw [← hW]; simp [go_sem]
  have c1 : TriAt W (w.heap.size + 1) T := fun j hj => by
    rw [← hW]
    have : j = 0 ∨ j = 1 ∨ j = 2 := by omega
    rcases this with rfl | rfl | rfl <;> exact ⟨by simp [go_sem], by simp [go_sem]⟩
  have c2 : TriAt W (w.heap.size + 2) U := fun j hj => by
    rw [← hW]
    have : j = 0 ∨ j = 1 ∨ j = 2 := by omega
    rcases this with rfl | rfl | rfl <;> exact ⟨by simp [go_sem], by simp [go_sem]⟩
  have c3 : TriAt W (w.heap.size + 3) (fun _ => 0) := fun j hj => by
    rw [← hW]
    have : j = 0 ∨ j = 1 ∨ j = 2 := by omega
    rcases this with rfl | rfl | rfl <;> exact ⟨by simp [go_sem], by simp [go_sem]⟩
  have hB : Below w.heap.size w W := hW ▸ ((((Below.refl _ w).alloc (Nat.le_refl _) _).alloc (by simp) _).alloc (by simp; omega) _).alloc (by simp; omega) _
  have hz : w.heap.size + 3 < W.heap.size := by rw [← hW]; simp
  rw [hW]
  have hS := hs.below hB
  clear hW hs
  have HM : ∀ i j : Nat, i < 3 → j < 3 → Hid (∀ X, DrawnOf W X → Calls Try.prog 92 #[.int .i64 i, .int .i64 j, .pointer (some ⟨w.heap.size, 0, none⟩), .pointer (some ⟨w.heap.size + 1, 0, none⟩), .pointer (some ⟨w.heap.size + 2, 0, none⟩)] X
      fun e w' => e = .returned (.int .i64 (minN k T U i j)) ∧ DrawnOf W w' ∧ w'.cell? ⟨w.heap.size, 0, none⟩ = some (.pointer (some ⟨s, 0, none⟩))) := fun i j hi hj => Lib.hid fun X ⟨n, hn⟩ => by
    subst hn
    refine (minor_any hk w.heap.size s f (w.heap.size + 1) (w.heap.size + 2) (W.drewN n) c0 ⟨hS.1, hS.2.drewN n⟩ T U HT.out HU.out c1 c2 i j hi hj).mono ?_
    rintro e w' ⟨rfl, m, rfl⟩
    exact ⟨rfl, ⟨n + m, by rw [World.drewN_drewN]⟩, c0⟩
  have M12 : Hid (∀ X, DrawnOf W X → Calls Try.prog 92 #[.int .i64 1, .int .i64 2, .pointer (some ⟨w.heap.size, 0, none⟩), .pointer (some ⟨w.heap.size + 1, 0, none⟩), .pointer (some ⟨w.heap.size + 2, 0, none⟩)] X
      fun e w' => e = .returned (.int .i64 (minN k T U 1 2)) ∧ DrawnOf W w' ∧ w'.cell? ⟨w.heap.size, 0, none⟩ = some (.pointer (some ⟨s, 0, none⟩))) := HM 1 2 (by omega) (by omega)
  have M20 : Hid (∀ X, DrawnOf W X → Calls Try.prog 92 #[.int .i64 2, .int .i64 0, .pointer (some ⟨w.heap.size, 0, none⟩), .pointer (some ⟨w.heap.size + 1, 0, none⟩), .pointer (some ⟨w.heap.size + 2, 0, none⟩)] X
      fun e w' => e = .returned (.int .i64 (minN k T U 2 0)) ∧ DrawnOf W w' ∧ w'.cell? ⟨w.heap.size, 0, none⟩ = some (.pointer (some ⟨s, 0, none⟩))) := HM 2 0 (by omega) (by omega)
  have M01 : Hid (∀ X, DrawnOf W X → Calls Try.prog 92 #[.int .i64 0, .int .i64 1, .pointer (some ⟨w.heap.size, 0, none⟩), .pointer (some ⟨w.heap.size + 1, 0, none⟩), .pointer (some ⟨w.heap.size + 2, 0, none⟩)] X
      fun e w' => e = .returned (.int .i64 (minN k T U 0 1)) ∧ DrawnOf W w' ∧ w'.cell? ⟨w.heap.size, 0, none⟩ = some (.pointer (some ⟨s, 0, none⟩))) := HM 0 1 (by omega) (by omega)
  have hcr : ∀ j, j < 3 → crossT k T U j < szN k := fun j hj => by
    have : j = 0 ∨ j = 1 ∨ j = 2 := by omega
    rcases this with rfl | rfl | rfl
    · exact minN_lt hk HT.out HU.out (by omega) (by omega)
    · exact minN_lt hk HT.out HU.out (by omega) (by omega)
    · exact minN_lt hk HT.out HU.out (by omega) (by omega)
  have HN : Hid (∀ X, DrawnOf W X → Calls Try.prog 85 #[.pointer (some ⟨s, 0, none⟩), .agg #[.int .i64 (minN k T U 1 2), .int .i64 (minN k T U 2 0), .int .i64 (minN k T U 0 1)]] X
      fun e w' => e = .returned (.agg #[.int .i64 (crossN k T U 0), .int .i64 (crossN k T U 1), .int .i64 (crossN k T U 2)]) ∧ Below w.heap.size w w' ∧ Hid (TriAt w' (w.heap.size + 3) (fun _ => 0)) ∧
        w'.cell? ⟨w.heap.size + 3, 0, none⟩ = some (.int .i64 0) ∧ w'.cell? ⟨w.heap.size + 3, 1, none⟩ = some (.int .i64 0) ∧ w'.cell? ⟨w.heap.size + 3, 2, none⟩ = some (.int .i64 0) ∧
        w'.frozen? ⟨w.heap.size + 3, 0, none⟩ = false ∧ w'.frozen? ⟨w.heap.size + 3, 1, none⟩ = false ∧ w'.frozen? ⟨w.heap.size + 3, 2, none⟩ = false ∧ w'.cell? ⟨w.heap.size, 0, none⟩ = some (.pointer (some ⟨s, 0, none⟩))) := Lib.hid fun X ⟨n, hn⟩ => by
    subst hn
    refine (normal_any hk s f (W.drewN n) ⟨hS.1, hS.2.drewN n⟩ (crossT k T U) hcr).mono ?_
    rintro e w' ⟨rfl, hb⟩
    have hB' := belowQ hB n
    have ht : TriAt w' (w.heap.size + 3) (fun _ => 0) := fun j hj => ⟨(hb.cell (p := ⟨w.heap.size + 3, j, none⟩) hz).trans (c3 j hj).1, (hb.frozen (p := ⟨w.heap.size + 3, j, none⟩) hz).trans (c3 j hj).2⟩
    exact ⟨rfl, hB'.trans (hb.mono hB'.size), Lib.hid ht, (ht 0 (by omega)).1, (ht 1 (by omega)).1, (ht 2 (by omega)).1, (ht 0 (by omega)).2, (ht 1 (by omega)).2, (ht 2 (by omega)).2, (hb.cell (p := ⟨w.heap.size, 0, none⟩) (by show w.heap.size < W.heap.size; omega)).trans c0⟩
  have hd0 : DrawnOf W W.drew := ⟨1, rfl⟩
  have cc : W.drew.cell? ⟨w.heap.size, 0, none⟩ = some (.pointer (some ⟨s, 0, none⟩)) := c0
  have C3 := Lib.hid c3
  clear HM hcr c1 c2 c3 hS
  go_wp2_with fail
  go_region_held3 (fun w' : World => w'.cell? ⟨w.heap.size, 0, none⟩ = some (.pointer (some ⟨s, 0, none⟩))) (first | assumption | exact far3 (by assumption)) (first
    | (go_at_call_of 92 (Value.int .i64 1); go_at_call_of 92 (Value.int .i64 2); refine (M12.out _ (by assumption)).mono ?_; rintro e w3 ⟨rfl, hd1, hc1⟩)
    | (go_at_call_of 92 (Value.int .i64 2); go_at_call_of 92 (Value.int .i64 0); refine (M20.out _ (by assumption)).mono ?_; rintro e w4 ⟨rfl, hd2, hc2⟩)
    | (go_at_call_of 92 (Value.int .i64 0); go_at_call_of 92 (Value.int .i64 1); refine (M01.out _ (by assumption)).mono ?_; rintro e w5 ⟨rfl, hd3, hc3⟩)
    | (go_at_call 85; refine (HN.out _ (by assumption)).mono ?_; rintro e w6 ⟨rfl, hB6, HT6, q0, q1, q2, g0, g1, g2, hc6⟩))
  all_goals (
    go_wp2_with fail
    (try simp only [Exit.inBlock, Exit.then])
    refine bodyPost_ret_by (results_tri rfl _ _ (w.heap.size + 3) (crossN k T U) rfl ?_) rfl ?_
    · exact (((HT6.out.set 0 (crossN k T U 0) (by omega)).set 1 (crossN k T U 1) (by omega)).set 2 (crossN k T U 2) (by omega)).congr tri3
    · exact ⟨rfl, ((hB6.setCell (by simp; omega) _).setCell (by simp; omega) _).setCell (by simp; omega) _⟩)
end Go.Proofs.Ytnmkkflnehnioaa

/-! The numbers of the points of a plane: which triples are normalized, in which order; and a map whose keys are triples. No condition. -/
namespace Go.Proofs.Ytnmkkflnehnioaa
open Go.RowKit
open Go.Maps (Keyed)
set_option maxRecDepth 100000

/-- The triple number t, in the order in which plane.open meets them. -/
def tripT (k t : Nat) : Nat → Nat := tri (t / (szN k * szN k)) (t / szN k % szN k) (t % szN k)
def keepB (k t : Nat) : Bool := (normN k (tripT k t) 0 == tripT k t 0) && (normN k (tripT k t) 1 == tripT k t 1) && (normN k (tripT k t) 2 == tripT k t 2) && !(tripT k t 0 == 0 && tripT k t 1 == 0 && tripT k t 2 == 0)
def selL (k : Nat) : Nat → List Nat
  | 0 => []
  | t + 1 => if keepB k t then selL k t ++ [t] else selL k t
def triV (T : Nat → Nat) : Value := .agg #[.int .i64 (T 0), .int .i64 (T 1), .int .i64 (T 2)]
def triCells (T : Nat → Nat) : List Value := [.int .i64 (T 0), .int .i64 (T 1), .int .i64 (T 2)]
def flatV (k : Nat) (l : List Nat) : List Value := l.flatMap fun t => triCells (tripT k t)

theorem law95 : Keyed Try.prog 95 := Keyed.of_law (deep_law_laid (m := 3) (by kernel_rfl) (by decide) (of_decide_eq_true (by kernel_rfl)) (by kernel_rfl) (by rw [Try.underlying95]))
theorem key_some : ∀ x y z : Fin 9, (keyOf Try.prog 95 (triV (tri x y z))).isSome = true := by decide +kernel
noncomputable def keyL (T : Nat → Nat) : Lit := (keyOf Try.prog 95 (triV T)).getD (.bool false)
theorem key_is (T : Nat → Nat) (h : ∀ j, j < 3 → T j < 9) : keyOf Try.prog 95 (triV T) = some (keyL T) := by
  have := key_some ⟨T 0, h 0 (by omega)⟩ ⟨T 1, h 1 (by omega)⟩ ⟨T 2, h 2 (by omega)⟩
  have e : triV (tri (T 0) (T 1) (T 2)) = triV T := rfl
  rw [show triV (tri (⟨T 0, h 0 (by omega)⟩ : Fin 9) (⟨T 1, h 1 (by omega)⟩ : Fin 9) (⟨T 2, h 2 (by omega)⟩ : Fin 9)) = triV T from rfl] at this
  unfold keyL
  cases hk : keyOf Try.prog 95 (triV T) with
  | none => rw [hk] at this; cases this
  | some l => rfl

noncomputable def putD (k : Nat) : Nat → DataW Unit
  | 0 => .map []
  | t + 1 => if keepB k t then (putD k t).put (keyL (tripT k t)) (.lit (.int .i64 ((selL k t).length : Nat))) else putD k t
theorem putD_map (k : Nat) : ∀ t, Go.Maps.IsMap (putD k t)
  | 0 => Go.Maps.isMap_empty
  | t + 1 => by
    unfold putD
    split
    · exact (putD_map k t).put _ _
    · exact putD_map k t
theorem trip_lt {k : Nat} (hk : k < 7) {t : Nat} (ht : t < 2 * (szN k * szN k)) : ∀ j, j < 3 → tripT k t j < szN k := by
  have h9 := (sz_facts k hk).2.1
  have hq : 0 < szN k * szN k := Nat.mul_pos (by omega) (by omega)
  intro j hj
  have : j = 0 ∨ j = 1 ∨ j = 2 := by omega
  rcases this with rfl | rfl | rfl
  · have : t / (szN k * szN k) < 2 := (Nat.div_lt_iff_lt_mul hq).2 ht
    show t / (szN k * szN k) < szN k
    omega
  · exact Nat.mod_lt _ (by omega)
  · exact Nat.mod_lt _ (by omega)
theorem trip_inj {k : Nat} {t t' : Nat} (h : triV (tripT k t) = triV (tripT k t')) : t = t' := by
  unfold triV at h
  simp at h
  obtain ⟨h0, h1, h2⟩ := h
  have e0 : t / (szN k * szN k) = t' / (szN k * szN k) := by exact_mod_cast h0
  have e1 : t / szN k % szN k = t' / szN k % szN k := by exact_mod_cast h1
  have e2 : t % szN k = t' % szN k := by exact_mod_cast h2
  rw [← Nat.div_div_eq_div_mul, ← Nat.div_div_eq_div_mul] at e0
  have a := Nat.div_add_mod (t / szN k) (szN k)
  have b := Nat.div_add_mod (t' / szN k) (szN k)
  have c := Nat.div_add_mod t (szN k)
  have d := Nat.div_add_mod t' (szN k)
  rw [e0, e1] at a
  have e3 : t / szN k = t' / szN k := a.symm.trans b
  rw [e3, e2] at c
  exact c.symm.trans d
theorem key_ne {k : Nat} (hk : k < 7) {t t' : Nat} (ht : t < 2 * (szN k * szN k)) (ht' : t' < 2 * (szN k * szN k)) (h : t ≠ t') : keyL (tripT k t) ≠ keyL (tripT k t') := fun e => by
  have h9 := (sz_facts k hk).2.1.2
  have k1 := key_is _ (fun j hj => Nat.lt_of_lt_of_le (trip_lt hk ht j hj) h9)
  have k2 := key_is _ (fun j hj => Nat.lt_of_lt_of_le (trip_lt hk ht' j hj) h9)
  rw [← e] at k2
  exact h (trip_inj (law95.inj k1 k2))
theorem putD_at {k : Nat} (hk : k < 7) {t : Nat} (hkeep : keepB k t = true) (z : DataW Unit) : ∀ n, n ≤ 2 * (szN k * szN k) → t < n → (putD k n).atKey (keyL (tripT k t)) z = .lit (.int .i64 ((selL k t).length : Nat))
  | 0, _, h => absurd h (Nat.not_lt_zero _)
  | n + 1, hn, h => by
    have h9 := (sz_facts k hk).2.1.2
    unfold putD
    by_cases e : t = n
    · subst e
      rw [if_pos hkeep]
      exact Go.Maps.atKey_put_same (putD_map k t) (law95.key (key_is _ (fun j hj => Nat.lt_of_lt_of_le (trip_lt hk (by omega) j hj) h9))) _ _
    · have ih := putD_at hk hkeep z n (by omega) (by omega)
      split
      · rw [Go.Maps.atKey_put_other (key_ne hk (by omega) (by omega) e)]
        exact ih
      · exact ih

theorem info95 : (Try.prog.info? 95).map (fun i => (i.zero, i.size, i.bytes)) = some (some (.agg #[.int .i64 0, .int .i64 0, .int .i64 0]), 3, 24) := by kernel_rfl
theorem tri_news {w : World} {b : Nat} {T : Nat → Nat} (h : ∀ j, j < 3 → w.cell? ⟨b, j, none⟩ = some (.int .i64 (T j))) : ∀ j u, (triCells T)[j]? = some u → w.cell? (Addr.add ⟨b, 0, none⟩ j) = some u := by
  intro j u hj
  match j, hj with
  | 0, hj => simp [triCells] at hj; subst hj; simpa [Addr.add] using h 0 (by omega)
  | 1, hj => simp [triCells] at hj; subst hj; simpa [Addr.add] using h 1 (by omega)
  | 2, hj => simp [triCells] at hj; subst hj; simpa [Addr.add] using h 2 (by omega)
theorem step_app95 {ops : Array Oper} {o : Oper} {a : Act} {w : World} {K : Act → World → Prop} {Q : Exit → Act → World → Prop} {E : Prop}
    (hg : o.guard = none) (s x : Operand) (hop : o.op = Op.call { callee := Callee.builtin Builtin.append, args := #[s, x], argTypes := #[90, 90] })
    (base : Nat) (v : Value) (n : Nat) (xs : List Value) (hs : a.eval s = v) (hown : w.ownsRow base 95 3 v n xs)
    (b c : Nat) (T : Nat → Nat) (hx : a.eval x = .slice (some ⟨b, 0, none⟩) 1 c) (hy : ∀ j, j < 3 → w.cell? ⟨b, j, none⟩ = some (.int .i64 (T j))) (hn : n < 4294967296) (hbase : base ≤ w.heap.size)
    (hK : ∀ v' w', w'.ownsRow base 95 3 v' (n + 1) (xs ++ triCells T) → w.grownBy w' v.ownBlock → (v'.ownBlock = v.ownBlock ∨ v'.ownBlock = some w.heap.size) → K (a.put o.dst v') w') :
    if Region.wanted o (yielded ops a.tmps) = true then Oper.wp Try.prog o a w K Q else E := by
  have hw : Region.wanted o (yielded ops a.tmps) = true := by simp [Region.wanted, hg]
  rw [if_pos hw]
  obtain ⟨i, hi, hz0, hz1, hz2⟩ := info_parts info95
  obtain ⟨v', w', hrun, r1, r2, _, r4⟩ := run_append_own_at (P := Try.prog) w base 90 o.type 95 i (.agg #[.int .i64 0, .int .i64 0, .int .i64 0]) 3 24 Try.underlying90 hi hz0 hz1 hz2 rfl (by decide) v n xs hown ⟨b, 0, none⟩ 1 c (triCells T) rfl (tri_news hy) (by intro u hu; simp [triCells] at hu; rcases hu with rfl | rfl | rfl <;> rfl) (by unfold maxLen; omega) (by omega) hbase
  unfold Oper.wp
  simp [execOp, hop, resolve, invoke, builtin, hs, hx, hrun, Result.andThen]
  exact hK v' w' r1 r2 r4
end Go.Proofs.Ytnmkkflnehnioaa

/-! Triples compared ('==', '!=' at an array of three ints). Condition: their numbers are small. -/
namespace Go.Proofs.Ytnmkkflnehnioaa
open Go.RowKit
open Go.WideElems Go.WideMaps Go.WideShapes Go.ChangeShapes
set_option maxRecDepth 100000

theorem key_parts (T : Nat → Nat) (h : ∀ j, j < 3 → T j < 9) : (triV T).formed Try.prog 95 = true ∧ ∃ la, Try.prog.keyLits (Try.prog.types.size + 1) 95 (triV T).cells.toList = some la ∧ keyL T = .string (keyBytes la) := by
  have kT := key_is T h
  unfold keyOf at kT
  rw [Try.underlying95] at kT
  dsimp only at kT
  split at kT
  · rename_i hc
    rw [Bool.and_eq_true] at hc
    obtain ⟨la, h1, h2⟩ := Option.map_eq_some_iff.1 kT
    exact ⟨hc.2, la, h1, h2.symm⟩
  · cases kT
theorem eql95 (T U : Nat → Nat) (hT : ∀ j, j < 3 → T j < 9) (hU : ∀ j, j < 3 → U j < 9) (w : World) : ∃ r, (Op.equalIn 10000 95 (triV T) (triV U)).run Try.prog w = .ok r w ∧ (r = true ↔ triV T = triV U) := by
  obtain ⟨f1, la, e1, k1⟩ := key_parts T hT
  obtain ⟨f2, lb, e2, k2⟩ := key_parts U hU
  obtain ⟨r, hr, hi⟩ := run_equalIn_deep (P := Try.prog) 9997 3 95 (by kernel_rfl) w _ _ (triV T) (triV U) la lb f1 f2 e1 e2
  refine ⟨r, hr, hi.trans ⟨fun e => ?_, fun e => ?_⟩⟩
  · have a := key_is T hT
    have b := key_is U hU
    rw [k1, e] at a
    rw [k2] at b
    exact law95.inj a b
  · rw [e, e2] at e1
    exact (Option.some.inj e1).symm
def sameB (T U : Nat → Nat) : Bool := (T 0 == U 0) && (T 1 == U 1) && (T 2 == U 2)
theorem sameB_iff (T U : Nat → Nat) : sameB T U = true ↔ triV T = triV U := by
  unfold sameB triV
  simp only [Bool.and_eq_true, beq_iff_eq, Value.agg.injEq]
  constructor
  · rintro ⟨⟨a, b⟩, c⟩
    rw [a, b, c]
  · intro h
    simp at h
    omega
theorem eql95d (T U : Nat → Nat) (hT : ∀ j, j < 3 → T j < 9) (hU : ∀ j, j < 3 → U j < 9) (w : World) : (Op.equalIn 10000 95 (triV T) (triV U)).run Try.prog w = .ok (sameB T U) w := by
  obtain ⟨r, hr, hi⟩ := eql95 T U hT hU w
  rw [hr]
  congr 1
  rw [Bool.eq_iff_iff, hi, sameB_iff]
theorem keepB_eq (k t : Nat) : keepB k t = (sameB (normN k (tripT k t)) (tripT k t) && !sameB (tripT k t) (fun _ => 0)) := rfl
end Go.Proofs.Ytnmkkflnehnioaa

/-! plane.open (74): the points of a plane, in their order, and their numbers. No condition. -/
namespace Go.Proofs.Ytnmkkflnehnioaa
open Go.RowKit

/-- The space behind t triples: block s; its map is block m, its list is v. -/
structure Mk (W w : World) (m s f k t : Nat) : Prop where
  below : Below W.heap.size W w
  heap : ∃ v xs, w.heap[s]? = some (.cells #[.pointer (some ⟨f, 0, none⟩), v, .map (some m)] 93 (0, 0)) ∧ w.ownsRow (s + 1) 95 3 v (selL k t).length xs ∧ xs = flatV k (selL k t)
  map : w.ownsMap (H := Unit) Try.prog 95 (plainElem Try.prog 3) m (selL k t).length (putD k t)

theorem Mk.move {W w w' : World} {m s f k t : Nat} (h : Mk W w m s f k t) (hb : Below w.heap.size w w') : Mk W w' m s f k t := by
  obtain ⟨h1, ⟨v, xs, h2, h3, h4⟩, es, clock, h5, h6, h7, h8⟩ := h
  exact ⟨h1.trans (hb.mono h1.size), ⟨v, xs, (hb.block s (lt_of_block h2)).trans h2, own_below h3 hb (Nat.le_refl _), h4⟩, es, clock, (hb.block m (lt_of_block h5)).trans h5, h6, h7, h8⟩
theorem selL_le (k : Nat) : ∀ t, (selL k t).length ≤ t
  | 0 => Nat.le_refl _
  | t + 1 => by
    have := selL_le k t
    unfold selL
    split
    · rw [List.length_append]; simp; omega
    · omega
theorem new_tri (w : World) (x y z : Nat) : ∀ j, j < 3 → (w.alloc (.cells #[.int .i64 x, .int .i64 y, .int .i64 z] 95)).cell? ⟨w.heap.size, j, none⟩ = some (.int .i64 (tri x y z j)) := fun j hj => by
  have : j = 0 ∨ j = 1 ∨ j = 2 := by omega
  rcases this with rfl | rfl | rfl <;> simp [go_sem, tri]
theorem after_app {w5 w6 : World} {o : Obj} {s : Nat} {a v b : Value} (hs5 : w5.heap[s]? = some (.cells #[a, v, b] 93 (0, 0))) (g6 : (w5.alloc o).grownBy w6 v.ownBlock) (hv : ∀ k, v.ownBlock = some k → s + 1 ≤ k) :
    w6.cell? ⟨s, 1, none⟩ = some v ∧ w6.frozen? ⟨s, 1, none⟩ = false := by
  have hl := lt_of_block hs5
  have h6 : w6.heap[s]? = some (.cells #[a, v, b] 93 (0, 0)) := by
    rw [g6.block s (by simp; omega) (fun e => by have := hv s e.symm; omega), Below.heap_alloc w5 o s hl, hs5]
  exact ⟨by simp [World.cell?, h6], by simp [World.frozen?, h6]⟩
theorem own_slice {w : World} {base e size n : Nat} {v : Value} {xs : List Value} (h : w.ownsRow base e size v n xs) : ∃ A c, v = .slice A n c := by
  rcases h.2 with ⟨rfl, h0⟩ | ⟨g, cap, _, hv, _⟩
  · exact ⟨none, 0, by rw [h0]⟩
  · exact ⟨_, cap, hv⟩
theorem kept_of {W w w5 w6 : World} {o : Obj} {m s f k t : Nat} {v v' : Value} (hk1 : keepB k t = true) (hWm : W.heap.size = m) (hms : m + 1 = s) (hb : Below W.heap.size W w)
    (hh : w.heap[s]? = some (.cells #[.pointer (some ⟨f, 0, none⟩), v, .map (some m)] 93 (0, 0))) (ho : w.ownsRow (s + 1) 95 3 v (selL k t).length (flatV k (selL k t)))
    (h5 : w5.ownsMap (H := Unit) Try.prog 95 (plainElem Try.prog 3) m ((selL k t).length + 1) ((putD k t).put (keyL (tripT k t)) (.lit (.int .i64 ((selL k t).length : Nat))))) (g5 : w.grownBy w5 (some m))
    (o6 : w6.ownsRow (s + 1) 95 3 v' ((selL k t).length + 1) (flatV k (selL k t) ++ triCells (tripT k t))) (g6 : (w5.alloc o).grownBy w6 v.ownBlock) :
    Mk W (w6.setCell ⟨s, 1, none⟩ v') m s f k (t + 1) := by
  have hsl : s < w.heap.size := lt_of_block hh
  have z5 := g5.size
  have z6 := g6.size
  have hsz : (w5.alloc o).heap.size = w5.heap.size + 1 := by simp
  have hvb : ∀ b, v.ownBlock = some b → s + 1 ≤ b := fun b hb => (ho.lt b hb).1
  have hs5 : w5.heap[s]? = w.heap[s]? := g5.block s hsl (fun e => by have := Option.some.inj e; omega)
  have hs6 : w6.heap[s]? = some (.cells #[.pointer (some ⟨f, 0, none⟩), v, .map (some m)] 93 (0, 0)) := by
    rw [g6.block s (by omega) (fun e => by have := hvb s e.symm; omega), Below.heap_alloc w5 o s (by omega), hs5, hh]
  have a1 : selL k (t + 1) = selL k t ++ [t] := by rw [selL, if_pos hk1]
  have a2 : putD k (t + 1) = (putD k t).put (keyL (tripT k t)) (.lit (.int .i64 ((selL k t).length : Nat))) := by rw [putD, if_pos hk1]
  refine ⟨?_, ⟨v', flatV k (selL k (t + 1)), ?_, ?_, rfl⟩, ?_⟩
  · have b1 := hb.grown g5 hb.size (fun b e => by have := Option.some.inj e; omega)
    have b2 := (b1.alloc b1.size o).grown g6 (by have := b1.size; omega) (fun b e => by have := hvb b e; omega)
    exact b2.setCell (by show W.heap.size ≤ s; omega) _
  · unfold World.setCell
    simp only [Array.getElem?_modify, hs6]
    simp
  · rw [a1]
    have : flatV k (selL k t ++ [t]) = flatV k (selL k t) ++ triCells (tripT k t) := by simp [flatV]
    rw [this, List.length_append]
    exact own_setCell o6 (by show s < s + 1; omega) v'
  · rw [a1, a2, List.length_append]
    have m1 := (h5.alloc o).kept g6 (fun e => by have := hvb m e.symm; omega)
    exact m1.setCell (by show m ≠ s; omega) _
theorem trip_at {k x y z t : Nat} (hy : y < szN k) (hz : z < szN k) (ht : t = x * (szN k * szN k) + y * szN k + z) : tripT k t 0 = x ∧ tripT k t 1 = y ∧ tripT k t 2 = z := by
  have hq : 0 < szN k := by omega
  have e1 : t / szN k = x * szN k + y := by
    rw [ht, show x * (szN k * szN k) + y * szN k + z = z + (x * szN k + y) * szN k by rw [Nat.add_mul, Nat.mul_assoc]; omega, Nat.add_mul_div_right _ _ hq, Nat.div_eq_of_lt hz]
    omega
  refine ⟨?_, ?_, ?_⟩
  · show t / (szN k * szN k) = x
    rw [← Nat.div_div_eq_div_mul, e1, show x * szN k + y = y + x * szN k by omega, Nat.add_mul_div_right _ _ hq, Nat.div_eq_of_lt hy]
    omega
  · show t / szN k % szN k = y
    rw [e1, show x * szN k + y = y + x * szN k by omega, Nat.add_mul_mod_self_right, Nat.mod_eq_of_lt hy]
  · show t % szN k = z
    rw [ht, show x * (szN k * szN k) + y * szN k + z = z + (x * szN k + y) * szN k by rw [Nat.add_mul, Nat.mul_assoc]; omega, Nat.add_mul_mod_self_right, Nat.mod_eq_of_lt hz]

set_option maxRecDepth 100000 in
set_option maxHeartbeats 3200000 in
theorem open_yes {k : Nat} (hk : k < 7) (h60 : szN k * szN k + szN k + 1 ≤ 60) (w : World) :
    Calls Try.prog 74 #[.int .i64 (szN k)] w fun e w' => ∃ s f m W, e = .returned (.tuple #[.pointer (some ⟨s, 0, none⟩), .int .i64 0]) ∧ Below w.heap.size w W ∧ NF W f k ∧ Mk W w' m s f k (2 * (szN k * szN k)) := by
  have hsz := (sz_facts k hk).2.1
  go_enter Try.func74, Try.ntmps74
  go_wp2_with fail
  refine (new_k k hk _).mono ?_
  rintro e W ⟨f, rfl, F, B⟩
  have hmm := @run_makeMap Try.prog
  have hmul : (szN k : Int) * (szN k : Int) = ((szN k * szN k : Nat) : Int) := by push_cast; rfl
  generalize hQ : szN k * szN k = Q at *
  go_wp2_with fail
  obtain ⟨wz, hwz⟩ : ∃ wz, (W.alloc (.map #[] 0)).alloc (.cells #[.pointer (some ⟨f, 0, none⟩), .slice none 0 0, .map (some W.heap.size)] 93) = wz := ⟨_, rfl⟩
  have h0 : Mk W wz W.heap.size (W.heap.size + 1) f k 0 := by
    rw [← hwz]
    exact ⟨((Below.refl _ W).alloc (Nat.le_refl _) _).alloc (by simp) _, ⟨.slice none 0 0, [], by simpa using heap_alloc_new (W.alloc (.map #[] 0)) _, World.ownsRow_nil _ _ _ _, rfl⟩, (World.ownsMap_made W _ _ _).alloc _⟩
  rw [hwz]
  clear hwz hmm
  have HQ := Lib.hid hQ
  have HM := Lib.hid hmul
  clear hQ hmul
  have hmW : W.heap.size < W.heap.size + 1 := Nat.lt_succ_self _
  generalize hm : W.heap.size = m at *
  generalize hs : m + 1 = s at *
  have hfs : f < m := by rw [← hm]; exact World.block_lt_of_cell? _ _ F.c0
  have HF := Lib.hid F
  clear F
  go_loopw [29] (fun v wr => ∃ x : Nat, x ≤ 2 ∧ v = .int .i64 x ∧ Mk W wr m s f k (x * Q)) (fun v _ => 2 - (intOf v).toNat)
  case atStart => exact ⟨0, by omega, rfl, by rw [Nat.zero_mul]; exact h0⟩
  case round =>
    obtain ⟨x, hx, rfl, hM⟩ := hrel
    by_cases hlt : x < 2
    · have hd30 : decide ((x : Int) < 2) = true := by simp; omega
      go_wp2_with fail
      go_loopw [33] (fun v wr => ∃ y : Nat, y ≤ szN k ∧ v = .int .i64 y ∧ Mk W wr m s f k (x * Q + y * szN k)) (fun v _ => szN k - (intOf v).toNat)
      case atStart => exact ⟨0, by omega, rfl, by rw [Nat.zero_mul, Nat.add_zero]; exact hM⟩
      case round =>
        obtain ⟨y, hy, rfl, hM2⟩ := hrel
        clear hM
        by_cases hylt : y < szN k
        · go_wp2_with fail
          go_loopw [37] (fun v wr => ∃ z : Nat, z ≤ szN k ∧ v = .int .i64 z ∧ Mk W wr m s f k (x * Q + y * szN k + z)) (fun v _ => szN k - (intOf v).toNat)
          case atStart => exact ⟨0, by omega, rfl, hM2⟩
          case round =>
            obtain ⟨z, hz, rfl, hM3⟩ := hrel
            clear hM2
            by_cases hzlt : z < szN k
            · obtain ⟨t, et⟩ : ∃ t, x * Q + y * szN k + z = t := ⟨_, rfl⟩
              have ht := trip_at (x := x) hylt hzlt (t := t) (by rw [HQ.out]; exact et.symm)
              have ht2 : t < 2 * (szN k * szN k) := by
                rw [HQ.out]
                have h1 : x * Q ≤ 1 * Q := Nat.mul_le_mul_right _ (by omega)
                have h2 : y * szN k + szN k ≤ Q := by rw [← HQ.out, ← Nat.succ_mul]; exact Nat.mul_le_mul_right _ hylt
                omega
              rw [et] at hM3
              have HET := Lib.hid et
              clear et
              have hlt := trip_lt hk ht2
              obtain ⟨wo, rfl⟩ : ∃ wo : World, wo = wr := ⟨_, rfl⟩
              have hsl : s < wo.heap.size := by obtain ⟨-, ⟨v, xs, h2, -⟩, -⟩ := hM3; exact lt_of_block h2
              have hM4 := hM3.move ((Below.refl _ wo).alloc (Nat.le_refl _) (.cells #[.int .i64 x, .int .i64 y, .int .i64 z] 95))
              obtain ⟨w1, hw1⟩ : ∃ w1, wo.alloc (.cells #[.int .i64 x, .int .i64 y, .int .i64 z] 95) = w1 := ⟨_, rfl⟩
              rw [hw1] at hM4
              have q0 : w1.cell? ⟨wo.heap.size, 0, none⟩ = some (.int .i64 x) := by rw [← hw1]; simp [go_sem]
              have q1 : w1.cell? ⟨wo.heap.size, 1, none⟩ = some (.int .i64 y) := by rw [← hw1]; simp [go_sem]
              have q2 : w1.cell? ⟨wo.heap.size, 2, none⟩ = some (.int .i64 z) := by rw [← hw1]; simp [go_sem]
              have hz1 : wo.heap.size < w1.heap.size := by rw [← hw1]; simp
              obtain ⟨n0, e0⟩ : ∃ n, normN k (tripT k t) 0 = n := ⟨_, rfl⟩
              obtain ⟨n1, e1⟩ : ∃ n, normN k (tripT k t) 1 = n := ⟨_, rfl⟩
              obtain ⟨n2, e2⟩ : ∃ n, normN k (tripT k t) 2 = n := ⟨_, rfl⟩
              have HN : Hid (∀ X, Below w1.heap.size w1 X → Calls Try.prog 85 #[.pointer (some ⟨s, 0, none⟩), .agg #[.int .i64 x, .int .i64 y, .int .i64 z]] X fun e w' => e = .returned (.agg #[.int .i64 n0, .int .i64 n1, .int .i64 n2]) ∧ Below w1.heap.size w1 w' ∧
                  w'.cell? ⟨wo.heap.size, 0, none⟩ = some (.int .i64 x) ∧ w'.cell? ⟨wo.heap.size, 1, none⟩ = some (.int .i64 y) ∧ w'.cell? ⟨wo.heap.size, 2, none⟩ = some (.int .i64 z)) := Lib.hid fun X hX => by
                have hMX := hM4.move hX
                obtain ⟨h1, ⟨v, xs, h2, -⟩, -⟩ := hMX
                have hs0 : SpF X s f k := ⟨by simp [World.cell?, h2], FieldAt.below HF.out (hm ▸ h1)⟩
                have := normal_any hk s f X hs0 (tripT k t) hlt
                rw [ht.1, ht.2.1, ht.2.2, e0, e1, e2] at this
                refine this.mono ?_
                rintro e w' ⟨rfl, hb⟩
                have hb2 := hX.trans (hb.mono hX.size)
                exact ⟨rfl, hb2, (hb2.cell (p := ⟨wo.heap.size, 0, none⟩) hz1).trans q0, (hb2.cell (p := ⟨wo.heap.size, 1, none⟩) hz1).trans q1, (hb2.cell (p := ⟨wo.heap.size, 2, none⟩) hz1).trans q2⟩
              have hB0 : Below w1.heap.size w1 w1.drew := (Below.refl _ w1).drew
              have h9 := hsz.2
              have hkeep := keepB_eq k t
              have E1 : ∀ X, (Op.equalIn 10000 95 (.agg #[.int .i64 n0, .int .i64 n1, .int .i64 n2]) (.agg #[.int .i64 x, .int .i64 y, .int .i64 z])).run Try.prog X = .ok (sameB (normN k (tripT k t)) (tripT k t)) X := fun X => by
                have := eql95d (normN k (tripT k t)) (tripT k t) (fun j hj => Nat.lt_of_lt_of_le (normN_lt hk hlt j hj) h9) (fun j hj => Nat.lt_of_lt_of_le (hlt j hj) h9) X
                unfold triV at this
                rw [ht.1, ht.2.1, ht.2.2, e0, e1, e2] at this
                exact this
              have E2 : ∀ X, (Op.equalIn 10000 95 (.agg #[.int .i64 x, .int .i64 y, .int .i64 z]) (.agg #[.int .i64 0, .int .i64 0, .int .i64 0])).run Try.prog X = .ok (sameB (tripT k t) (fun _ => 0)) X := fun X => by
                have := eql95d (tripT k t) (fun _ => 0) (fun j hj => Nat.lt_of_lt_of_le (hlt j hj) h9) (fun j hj => by omega) X
                unfold triV at this
                rw [ht.1, ht.2.1, ht.2.2] at this
                exact this
              obtain ⟨r1, er1⟩ : ∃ r, sameB (normN k (tripT k t)) (tripT k t) = r := ⟨_, rfl⟩
              obtain ⟨r2, er2⟩ : ∃ r, sameB (tripT k t) (fun _ => 0) = r := ⟨_, rfl⟩
              rw [er1] at E1 hkeep
              rw [er2] at E2 hkeep
              have HK := Lib.hid hkeep
              clear hkeep e0 e1 e2 er1 er2
              have HT := Lib.hid ht
              have HL := Lib.hid hlt
              have HM4 := Lib.hid hM4
              clear ht hlt hM3 hM4
              have hsame : keepB k t = false → ∀ X, Mk W X m s f k t → Mk W X m s f k (x * Q + y * szN k + (z + 1)) := fun hf X ⟨g1, g2, g3⟩ => by
                rw [← Nat.add_assoc, HET.out]
                have a1 : selL k (t + 1) = selL k t := by rw [selL, if_neg (by simp [hf])]
                have a2 : putD k (t + 1) = putD k t := by rw [putD, if_neg (by simp [hf])]
                exact ⟨g1, by rw [a1]; exact g2, by rw [a1, a2]; exact g3⟩
              have HSM := Lib.hid hsame
              clear hsame
              go_wp2_with fail
              (try rw [hw1])
              clear hw1
              go_cut [53] from 44 to 53 (fun v wx => v = .bool (r1 && !r2) ∧ Below w1.heap.size w1 wx)
              case first =>
                cases r1
                · (first | go_region_with (go_at_call 85; refine (HN.out _ (by assumption)).mono ?_; rintro e w2 ⟨rfl, hB2, r0, r1, r2⟩) | fail)
                  all_goals ((try go_simp); (try go_wp2_with fail); go_meet)
                  all_goals exact ⟨rfl, hB2⟩
                · cases r2
                  all_goals (
                    (first | go_region_with (go_at_call 85; refine (HN.out _ (by assumption)).mono ?_; rintro e w2 ⟨rfl, hB2, r0, r1, r2⟩) | fail)
                    all_goals (go_wp2_with fail; go_meet)
                    all_goals exact ⟨rfl, hB2⟩)
              case rest =>
                obtain ⟨hv, hcb⟩ := hcut
                subst hv
                have hMc := HM4.out.move hcb
                by_cases hkp : keepB k t = true
                · have hb53 : (r1 && !r2) = true := HK.out.symm.trans hkp
                  rw [hb53]
                  obtain ⟨hbW, ⟨v, xs, hh, ho, hxs⟩, hmap⟩ := hMc
                  subst hxs
                  have HO := Lib.hid (And.intro hbW (And.intro hh (And.intro ho hmap)))
                  obtain ⟨A, c, rfl⟩ := own_slice ho
                  obtain ⟨n, en⟩ : ∃ n, (selL k t).length = n := ⟨_, rfl⟩
                  have hnt : n ≤ t := by rw [← en]; exact selL_le k t
                  have hQ9 : Q ≤ 81 := by omega
                  rw [HQ.out] at ht2
                  have hkey : keyOf Try.prog 95 (.agg #[.int .i64 x, .int .i64 y, .int .i64 z]) = some (keyL (tripT k t)) := by
                    have := key_is (tripT k t) (fun j hj => Nat.lt_of_lt_of_le (HL.out j hj) h9)
                    unfold triV at this
                    rw [HT.out.1, HT.out.2.1, HT.out.2.2] at this
                    exact this
                  have hpl : plainElem (H := Unit) Try.prog 3 (.int .i64 (n : Nat)) = some (.lit (.int .i64 (n : Nat)), []) := plainElem_int Try.underlying3 (by simp [Lit.wf, IntKind.min, IntKind.max, IntKind.signed, IntKind.bits]; omega)
                  obtain ⟨w5, hrun, hown5, hgrd⟩ := (hmap.drew).update law95 Try.underlying91 (by rw [en]; unfold maxLen; omega) hkey hpl
                  have hgrow5 : wc.grownBy w5 (some m) := ⟨hgrd.os, hgrd.tape, hgrd.output, hgrd.size, hgrd.block⟩
                  clear hgrd
                  rw [en] at hown5 ho
                  have cs0 : wc.cell? ⟨s, 0, none⟩ = some (.pointer (some ⟨f, 0, none⟩)) := by simp [World.cell?, hh]
                  have cs1 : wc.cell? ⟨s, 1, none⟩ = some (.slice A (selL k t).length c) := by simp [World.cell?, hh]
                  have cs2 : wc.cell? ⟨s, 2, none⟩ = some (.map (some m)) := by simp [World.cell?, hh]
                  rw [en] at cs1
                  have p0 := (hcb.cell (p := ⟨wo.heap.size, 0, none⟩) hz1).trans q0
                  have p1 := (hcb.cell (p := ⟨wo.heap.size, 1, none⟩) hz1).trans q1
                  have p2 := (hcb.cell (p := ⟨wo.heap.size, 2, none⟩) hz1).trans q2
                  have hwo : wo.heap.size < wc.heap.size := Nat.lt_of_lt_of_le hz1 hcb.size
                  have hsc : s < wc.heap.size := lt_of_block hh
                  have nem : ∀ b, m < b → some b ≠ some m := fun b hb e => by have := Option.some.inj e; omega
                  have hs5 : w5.heap[s]? = some (.cells #[.pointer (some ⟨f, 0, none⟩), .slice A n c, .map (some m)] 93 (0, 0)) := by
                    rw [hgrow5.block s hsc (nem s hmW)]
                    rw [en] at hh
                    exact hh
                  have hz5 : wc.heap.size ≤ w5.heap.size := hgrow5.size
                  have b5 : w5.heap[wo.heap.size]? = wc.heap[wo.heap.size]? := hgrow5.block wo.heap.size hwo (nem _ (by omega))
                  have p0' : w5.cell? ⟨wo.heap.size, 0, none⟩ = some (.int .i64 x) := (World.cell?_of_block b5).trans p0
                  have p1' : w5.cell? ⟨wo.heap.size, 1, none⟩ = some (.int .i64 y) := (World.cell?_of_block b5).trans p1
                  have p2' : w5.cell? ⟨wo.heap.size, 2, none⟩ = some (.int .i64 z) := (World.cell?_of_block b5).trans p2
                  have cs0' : w5.cell? ⟨s, 0, none⟩ = some (.pointer (some ⟨f, 0, none⟩)) := by simp [World.cell?, hs5]
                  have cs1' : w5.cell? ⟨s, 1, none⟩ = some (.slice A n c) := by simp [World.cell?, hs5]
                  have ho5 : w5.ownsRow (s + 1) 95 3 (.slice A n c) n (flatV k (selL k t)) := own_grown ho hgrow5 (fun b hb e => by have := Option.some.inj e; have := (ho.lt b hb).1; omega)
                  have l1 : s < w5.heap.size := Nat.lt_of_lt_of_le hsc hz5
                  have l2 : ¬ s = w5.heap.size := by omega
                  have l3 : wo.heap.size < w5.heap.size := Nat.lt_of_lt_of_le hwo hz5
                  have l4 : ¬ wo.heap.size = w5.heap.size := by omega
                  have HGH := Lib.hid (And.intro hgrow5 hown5)
                  have HS5 := Lib.hid hs5
                  have HH := Lib.hid hh
                  have HO1 := Lib.hid ho
                  clear hgrow5 hown5 b5 hs5 hh ho hmap hbW hkey hpl
                  go_wp2_with fail
                  go_region
                  go_wp2_with fail
                  clear hrun p0 p1 p2 cs0 cs1 cs2
                  go_region_law (first
                    | (refine step_app95 rfl (.tmp 68) (.tmp 70) rfl (s + 1) (.slice A n c) n (flatV k (selL k t)) ?_ ?_ w5.heap.size 1 (tri x y z) ?_ ?_ (by omega) ?_ ?_; (focus (simp [Act.eval]; done)); (focus (exact ho5.alloc _)); (focus (simp [Act.eval]; done)); (focus (exact new_tri _ x y z)); (focus (first | (simp; done) | (simp; omega))); intro v1 w6 o6 g6 k6; obtain ⟨A1, cc1, e1⟩ := own_slice o6; subst e1; obtain ⟨d1, d2⟩ := after_app HS5.out ⟨g6.os, g6.tape, g6.output, g6.size, g6.block⟩ (fun b hb => (HO1.out.lt b hb).1))
                    | fail)
                  all_goals (
                    go_wp2_with fail
                    go_roundw
                    case rel =>
                      refine ⟨z + 1, by omega, by go_num, ?_⟩
                      rw [← Nat.add_assoc, HET.out]
                      subst en
                      have eT : triCells (tri x y z) = triCells (tripT k t) := by unfold triCells; rw [HT.out.1, HT.out.2.1, HT.out.2.2]; rfl
                      rw [eT] at o6
                      exact kept_of hkp hm hs HO.out.1 HO.out.2.1 HO.out.2.2.1 HGH.out.2 HGH.out.1 o6 ⟨g6.os, g6.tape, g6.output, g6.size, g6.block⟩
                    case measure => simp [intOf]; omega)
                · have hkf : keepB k t = false := by simpa using hkp
                  have hb53 : (r1 && !r2) = false := HK.out.symm.trans hkf
                  rw [hb53]
                  go_wp2_with fail
                  go_roundw
                  case rel => exact ⟨z + 1, by omega, by go_num, HSM.out hkf _ hMc⟩
                  case measure => simp [intOf]; omega
            · obtain rfl : z = szN k := by omega
              have hd : decide ((szN k : Int) < (szN k : Int)) = false := by simp
              go_wp2_with fail
              go_roundw
              case rel => exact ⟨y + 1, by omega, by go_num, by rw [Nat.succ_mul, ← Nat.add_assoc]; exact hM3⟩
              case measure => simp [intOf]; omega
        · obtain rfl : y = szN k := by omega
          have hd : decide ((szN k : Int) < (szN k : Int)) = false := by simp
          go_wp2_with fail
          go_roundw
          case rel => exact ⟨x + 1, by omega, by go_num, by rw [Nat.succ_mul, ← HQ.out]; rw [← HQ.out] at hM2; exact hM2⟩
          case measure => simp [intOf]; omega
    · obtain rfl : x = 2 := by omega
      go_wp2_with fail
      go_ret2
      exact ⟨s, f, m, W, rfl, B, HF.out, by rw [HQ.out]; exact hM⟩
end Go.Proofs.Ytnmkkflnehnioaa

/-! plane.open (74) at a number that is no size, and at a size too great. No condition. -/
namespace Go.Proofs.Ytnmkkflnehnioaa
open Go.RowKit

set_option maxRecDepth 100000 in
set_option maxHeartbeats 800000 in
theorem open_no1 (q : Int) (hno : ∀ k, k < 7 → at0 sizes k ≠ q) (w : World) :
    Calls Try.prog 74 #[.int .i64 q] w fun e w' => e = .returned (.tuple #[.pointer none, .int .i64 1]) ∧ Below w.heap.size w w' := by
  have HNO := Lib.hid hno
  clear hno
  go_enter Try.func74, Try.ntmps74
  go_wp2_with fail
  refine (new_no q HNO.out _).mono ?_
  rintro e w1 ⟨rfl, B1⟩
  go_wp2_with fail
  go_ret2
  exact ⟨rfl, B1⟩

set_option maxRecDepth 100000 in
set_option maxHeartbeats 800000 in
theorem open_no2 (k : Nat) (hk : k < 7) (hg : 60 < szN k * szN k + szN k + 1) (w : World) :
    Calls Try.prog 74 #[.int .i64 (szN k)] w fun e w' => e = .returned (.tuple #[.pointer none, .int .i64 7]) ∧ Below w.heap.size w w' := by
  have hsz := (sz_facts k hk).2.1
  have hmul : (szN k : Int) * (szN k : Int) = ((szN k * szN k : Nat) : Int) := by push_cast; rfl
  have hle : szN k * szN k ≤ 81 := Nat.mul_le_mul hsz.2 hsz.2
  generalize szN k * szN k = Q at *
  go_enter Try.func74, Try.ntmps74
  go_wp2_with fail
  refine (new_k k hk _).mono ?_
  rintro e w1 ⟨f, rfl, F, B1⟩
  go_wp2_with fail
  go_ret2
  exact ⟨rfl, B1⟩
end Go.Proofs.Ytnmkkflnehnioaa

/-! What a space reads as: its points and their numbers. Condition: a field with at most 60 points in its plane. -/
namespace Go.Proofs.Ytnmkkflnehnioaa
open Go.RowKit
set_option maxRecDepth 100000

def allL (k : Nat) : List Nat := selL k (2 * (szN k * szN k))
/-- The coordinates of point number i. -/
def ptT (k i : Nat) : Nat → Nat := tripT k ((allL k).getD i 0)
theorem flatV_get (k : Nat) : ∀ (l : List Nat) (i j : Nat), i < l.length → j < 3 → (flatV k l)[i * 3 + j]? = some (.int .i64 (tripT k (l.getD i 0) j))
  | [], i, j, h, _ => absurd h (Nat.not_lt_zero _)
  | t :: l, 0, j, _, hj => by
    have : j = 0 ∨ j = 1 ∨ j = 2 := by omega
    rcases this with rfl | rfl | rfl <;> simp [flatV, triCells]
  | t :: l, i + 1, j, h, hj => by
    have ih := flatV_get k l i j (by simpa using h) hj
    have e : flatV k (t :: l) = triCells (tripT k t) ++ flatV k l := rfl
    rw [e, List.getElem?_append_right (by simp [triCells]; omega)]
    simp only [triCells, List.length_cons, List.length_nil, List.getD_cons_succ]
    rw [show (i + 1) * 3 + j - (0 + 1 + 1 + 1) = i * 3 + j by omega]
    exact ih

/-- A space for reading: the first field, the list with its points, the map. -/
structure SpAt (w : World) (s f k : Nat) : Prop where
  f0 : SpF w s f k
  all : ∃ g c, w.cell? ⟨s, 1, none⟩ = some (.slice (some ⟨g, 0, none⟩) (allL k).length c) ∧ g < w.heap.size ∧ ∀ i j, i < (allL k).length → j < 3 → w.cell? ⟨g, i * 3 + j, none⟩ = some (.int .i64 (ptT k i j))
  map : ∃ m n, w.cell? ⟨s, 2, none⟩ = some (.map (some m)) ∧ w.ownsMap (H := Unit) Try.prog 95 (plainElem Try.prog 3) m n (putD k (2 * (szN k * szN k)))
theorem spAt_of {W w : World} {m s f k : Nat} (hF : NF W f k) (h : Mk W w m s f k (2 * (szN k * szN k))) (hn : 0 < (allL k).length) : SpAt w s f k := by
  obtain ⟨hb, ⟨v, xs, hh, ho, rfl⟩, hm⟩ := h
  obtain ⟨g, c, rfl⟩ := own_form ho hn
  refine ⟨⟨by simp [World.cell?, hh], hF.below hb⟩, ⟨g, c, by simp [World.cell?, hh]; rfl, (ho.lt g (by simp [Value.ownBlock])).2, fun i j hi hj => ?_⟩, ⟨m, _, by simp [World.cell?, hh], hm⟩⟩
  have := ho.cellAt (i * 3 + j) (by have : i < (selL k (2 * (szN k * szN k))).length := hi; omega)
  rw [this]
  exact flatV_get k _ i j hi hj
theorem SpAt.below {w w' : World} {s f k : Nat} (h : SpAt w s f k) (hb : Below w.heap.size w w') : SpAt w' s f k := by
  have hs : s < w.heap.size := World.block_lt_of_cell? _ _ h.f0.1
  obtain ⟨h0, ⟨g, c, h1, hg, h2⟩, ⟨m, n, h3, es, clock, h5, h6, h7, h8⟩⟩ := h
  exact ⟨h0.below hb, ⟨g, c, (hb.cell (p := ⟨s, 1, none⟩) hs).trans h1, Nat.lt_of_lt_of_le hg hb.size, fun i j hi hj => (hb.cell (p := ⟨g, i * 3 + j, none⟩) hg).trans (h2 i j hi hj)⟩,
    ⟨m, n, (hb.cell (p := ⟨s, 2, none⟩) hs).trans h3, es, clock, (hb.block m (lt_of_block h5)).trans h5, h6, h7, h8⟩⟩

theorem count_k : ∀ k : Nat, k < 5 → (allL k).length = szN k * szN k + szN k + 1 := by decide +kernel
end Go.Proofs.Ytnmkkflnehnioaa

/-! The points' numbers as literal lists; two different points' cross is a point. Condition: the five sizes with at most 60 points. -/
namespace Go.Proofs.Ytnmkkflnehnioaa
open Go.RowKit
set_option maxRecDepth 100000

def allT (k : Nat) : List Nat := ([[1, 2, 3, 4, 5, 6, 7], [1, 3, 4, 5, 9, 10, 11, 12, 13, 14, 15, 16, 17], [1, 4, 5, 6, 7, 16, 17, 18, 19, 20, 21, 22, 23, 24, 25, 26, 27, 28, 29, 30, 31], [1, 5, 6, 7, 8, 9, 25, 26, 27, 28, 29, 30, 31, 32, 33, 34, 35, 36, 37, 38, 39, 40, 41, 42, 43, 44, 45, 46, 47, 48, 49], [1, 7, 8, 9, 10, 11, 12, 13, 49, 50, 51, 52, 53, 54, 55, 56, 57, 58, 59, 60, 61, 62, 63, 64, 65, 66, 67, 68, 69, 70, 71, 72, 73, 74, 75, 76, 77, 78, 79, 80, 81, 82, 83, 84, 85, 86, 87, 88, 89, 90, 91, 92, 93, 94, 95, 96, 97]] : List (List Nat)).getD k []
theorem all_eq : ∀ k : Nat, k < 5 → allL k = allT k := by decide +kernel
def numT (k : Nat) (T : Nat → Nat) : Nat := T 0 * (szN k * szN k) + T 1 * szN k + T 2
def goodB (k t u : Nat) : Bool := Nat.ble (crossN k (tripT k t) (tripT k u) 0) 1 && (allT k).contains (numT k (crossN k (tripT k t) (tripT k u)))
theorem good_k : ∀ k : Nat, k < 5 → (allT k).all (fun t => (allT k).all fun u => t == u || goodB k t u) = true := by decide +kernel
end Go.Proofs.Ytnmkkflnehnioaa

/-! plane.common (77) at two different points of a plane. Condition: the five sizes with at most 60 points. -/
namespace Go.Proofs.Ytnmkkflnehnioaa
open Go.RowKit
set_option maxRecDepth 100000

theorem sel_mem {k t : Nat} : ∀ {n : Nat}, t ∈ selL k n → t < n ∧ keepB k t = true
  | 0, h => by simp [selL] at h
  | n + 1, h => by
    unfold selL at h
    split at h
    · rename_i hk
      rw [List.mem_append] at h
      rcases h with h | h
      · have := sel_mem h
        exact ⟨by omega, this.2⟩
      · simp at h
        subst h
        exact ⟨by omega, hk⟩
    · have := sel_mem h
      exact ⟨by omega, this.2⟩
theorem pt_mem {k i : Nat} (hi : i < (allL k).length) : (allL k).getD i 0 ∈ allL k := by
  rw [List.getD_eq_getElem?_getD, List.getElem?_eq_getElem hi]
  exact List.getElem_mem hi
theorem pt_lt {k i : Nat} (hk : k < 7) (hi : i < (allL k).length) : ∀ j, j < 3 → ptT k i j < szN k := trip_lt hk (sel_mem (pt_mem hi)).1
theorem sel_nodup (k : Nat) : ∀ n, (selL k n).Nodup
  | 0 => List.nodup_nil
  | n + 1 => by
    unfold selL
    split
    · rw [List.nodup_append]
      refine ⟨sel_nodup k n, by simp, ?_⟩
      intro a ha b hb
      simp at hb
      subst hb
      have := (sel_mem ha).1
      omega
    · exact sel_nodup k n
theorem pt_ne {k a b : Nat} (ha : a < (allL k).length) (hb : b < (allL k).length) (h : a ≠ b) : (allL k).getD a 0 ≠ (allL k).getD b 0 := by
  rw [List.getD_eq_getElem?_getD, List.getD_eq_getElem?_getD, List.getElem?_eq_getElem ha, List.getElem?_eq_getElem hb]
  have hp := List.pairwise_iff_getElem.1 (sel_nodup k (2 * (szN k * szN k)))
  rcases Nat.lt_or_gt_of_ne h with l | l
  · exact hp a b ha hb l
  · exact (hp b a hb ha l).symm

/-- The number of the point that is the cross of two points. -/
def meetT (k a b : Nat) : Nat := numT k (crossN k (ptT k a) (ptT k b))
def meetN (k a b : Nat) : Nat := (selL k (meetT k a b)).length
theorem cross_pt {k a b : Nat} (hk : k < 5) (ha : a < (allL k).length) (hb : b < (allL k).length) (h : a ≠ b) :
    meetT k a b < 2 * (szN k * szN k) ∧ keepB k (meetT k a b) = true ∧ triV (tripT k (meetT k a b)) = triV (crossN k (ptT k a) (ptT k b)) := by
  have hg := good_k k hk
  rw [← all_eq k hk, List.all_eq_true] at hg
  have h1 := hg _ (pt_mem ha)
  rw [List.all_eq_true] at h1
  have h2 := h1 _ (pt_mem hb)
  rw [Bool.or_eq_true] at h2
  rcases h2 with h2 | h2
  · exact absurd (by simpa using h2) (pt_ne ha hb h)
  · unfold goodB at h2
    rw [Bool.and_eq_true, ← all_eq k hk] at h2
    have hm : meetT k a b ∈ allL k := List.elem_iff.1 h2.2
    have h3 := sel_mem hm
    have hk7 : k < 7 := by omega
    have hTl := pt_lt hk7 ha
    have hUl := pt_lt hk7 hb
    have hcr : ∀ j, j < 3 → crossT k (ptT k a) (ptT k b) j < szN k := fun j hj => by
      have : j = 0 ∨ j = 1 ∨ j = 2 := by omega
      rcases this with rfl | rfl | rfl
      · exact minN_lt hk7 hTl hUl (by omega) (by omega)
      · exact minN_lt hk7 hTl hUl (by omega) (by omega)
      · exact minN_lt hk7 hTl hUl (by omega) (by omega)
    have e := trip_at (t := meetT k a b) (x := crossN k (ptT k a) (ptT k b) 0) (normN_lt hk7 hcr 1 (by omega)) (normN_lt hk7 hcr 2 (by omega)) rfl
    refine ⟨h3.1, h3.2, ?_⟩
    unfold triV
    rw [e.1, e.2.1, e.2.2]
    rfl
theorem map_below {w w' : World} {m n : Nat} {D : DataW Unit} (h : w.ownsMap (H := Unit) Try.prog 95 (plainElem Try.prog 3) m n D) (hb : Below w.heap.size w w') : w'.ownsMap (H := Unit) Try.prog 95 (plainElem Try.prog 3) m n D := by
  obtain ⟨es, clock, h5, h6⟩ := h
  exact ⟨es, clock, (hb.block m (lt_of_block h5)).trans h5, h6⟩

set_option maxHeartbeats 3200000 in
theorem common_yes {k a b : Nat} (hk : k < 5) (ha : a < (allL k).length) (hb : b < (allL k).length) (hab : a ≠ b) (w : World) :
    Calls Try.prog 77 #[.int .i64 (szN k), .int .i64 a, .int .i64 b] w fun e w' => e = .returned (.tuple #[.int .i64 (meetN k a b), .int .i64 0]) ∧ Below w.heap.size w w' := by
  have hk7 : k < 7 := by omega
  have hc := count_k k hk
  have h60 : szN k * szN k + szN k + 1 ≤ 60 := by
    have : k = 0 ∨ k = 1 ∨ k = 2 ∨ k = 3 ∨ k = 4 := by omega
    rcases this with rfl | rfl | rfl | rfl | rfl <;> decide
  obtain ⟨m1, m2, m3⟩ := cross_pt hk ha hb hab
  have hX := cross_any hk7
  have HT := Lib.hid (pt_lt hk7 ha)
  have HU := Lib.hid (pt_lt hk7 hb)
  have HM := Lib.hid (And.intro m1 (And.intro m2 m3))
  have HX := Lib.hid hX
  have HO := Lib.hid (fun W => open_yes hk7 h60 W)
  have h9 := (sz_facts k hk7).2.1.2
  obtain ⟨n, en⟩ : ∃ n, (allL k).length = n := ⟨_, rfl⟩
  have HEN := Lib.hid en
  rw [en] at ha hb hc
  have hn60 : n ≤ 60 := by omega
  clear hX m1 m2 m3 hc h60 en
  go_enter Try.func77, Try.ntmps77
  go_wp2_with fail
  refine (HO.out _).mono ?_
  rintro e w1 ⟨s, f, mb, W, rfl, B0, F, hMk⟩
  have hB1 : Below w.heap.size w w1 := B0.trans (hMk.below.mono B0.size)
  have hsp := spAt_of F hMk (by rw [HEN.out]; omega)
  clear hMk F B0
  have HSP := Lib.hid hsp
  obtain ⟨f0, ⟨g, c, c1, hg, hpt⟩, ⟨mm, nn, c2, hown⟩⟩ := hsp
  rw [HEN.out] at c1 hpt
  have hsl : s < w1.heap.size := World.block_lt_of_cell? _ _ c1
  have t0 : w1.cell? ⟨g, a * 3, none⟩ = _ := hpt a 0 ha (by omega)
  have t1 := hpt a 1 ha (by omega)
  have t2 := hpt a 2 ha (by omega)
  have u0 : w1.cell? ⟨g, b * 3, none⟩ = _ := hpt b 0 hb (by omega)
  have u1 := hpt b 1 hb (by omega)
  have u2 := hpt b 2 hb (by omega)
  have da : decide ((a : Int) < 0) = false := by simp
  have db : decide ((b : Int) < 0) = false := by simp
  have da2 : decide ((n : Int) ≤ (a : Int)) = false := by simp; omega
  have db2 : decide ((n : Int) ≤ (b : Int)) = false := by simp; omega
  have dab : ((a : Int) == (b : Int)) = false := by simp; omega
  have CR : Hid (∀ X, Below w1.heap.size w1 X → Calls Try.prog 86 #[.pointer (some ⟨s, 0, none⟩), .agg #[.int .i64 (ptT k a 0), .int .i64 (ptT k a 1), .int .i64 (ptT k a 2)], .agg #[.int .i64 (ptT k b 0), .int .i64 (ptT k b 1), .int .i64 (ptT k b 2)]] X
      fun e w' => e = .returned (triV (crossN k (ptT k a) (ptT k b))) ∧ Below w1.heap.size w1 w' ∧ (w'.cell? ⟨s, 1, none⟩ = some (.slice (some ⟨g, 0, none⟩) n c) ∧ w'.cell? ⟨s, 2, none⟩ = some (.map (some mm)) ∧
        w'.cell? ⟨g, a * 3, none⟩ = some (.int .i64 (ptT k a 0)) ∧ w'.cell? ⟨g, a * 3 + 1, none⟩ = some (.int .i64 (ptT k a 1)) ∧ w'.cell? ⟨g, a * 3 + 2, none⟩ = some (.int .i64 (ptT k a 2)) ∧
        w'.cell? ⟨g, b * 3, none⟩ = some (.int .i64 (ptT k b 0)) ∧ w'.cell? ⟨g, b * 3 + 1, none⟩ = some (.int .i64 (ptT k b 1)) ∧ w'.cell? ⟨g, b * 3 + 2, none⟩ = some (.int .i64 (ptT k b 2))) ∧
        (Instr.lookup 91 (.map (some mm)) (triV (crossN k (ptT k a) (ptT k b))) false).run Try.prog w' = .ok (.int .i64 (meetN k a b)) w') := Lib.hid fun X hX => by
    refine (HX.out s f X (f0.below hX) (ptT k a) (ptT k b) HT.out HU.out).mono ?_
    rintro e w' ⟨rfl, hb2⟩
    have hbb := hX.trans (hb2.mono hX.size)
    refine ⟨rfl, hbb, ⟨(hbb.cell (p := ⟨s, 1, none⟩) hsl).trans c1, (hbb.cell (p := ⟨s, 2, none⟩) hsl).trans c2, (hbb.cell (p := ⟨g, a * 3, none⟩) hg).trans t0, (hbb.cell (p := ⟨g, a * 3 + 1, none⟩) hg).trans t1, (hbb.cell (p := ⟨g, a * 3 + 2, none⟩) hg).trans t2,
      (hbb.cell (p := ⟨g, b * 3, none⟩) hg).trans u0, (hbb.cell (p := ⟨g, b * 3 + 1, none⟩) hg).trans u1, (hbb.cell (p := ⟨g, b * 3 + 2, none⟩) hg).trans u2⟩, ?_⟩
    have hkey : keyOf Try.prog 95 (triV (crossN k (ptT k a) (ptT k b))) = some (keyL (tripT k (meetT k a b))) := by
      rw [← HM.out.2.2]
      exact key_is _ (fun j hj => Nat.lt_of_lt_of_le (trip_lt hk7 HM.out.1 j hj) h9)
    obtain ⟨r, hrun, hat, -⟩ := (map_below hown hbb).lookup_int law95 Try.underlying91 Try.underlying3 (by simp [go_sem]) hkey
    rw [putD_at hk7 HM.out.2.1 _ _ (Nat.le_refl _) HM.out.1] at hat
    rw [hrun]
    injection hat with hat
    injection hat with _ hat
    rw [← hat]
    rfl
  have hB0 : Below w1.heap.size w1 w1.drew := (Below.refl _ w1).drew
  clear HSP HX HO f0 hpt hown
  unfold triV at CR
  go_wp2_with fail
  go_region_held3 (fun w' : World => w'.cell? ⟨s, 1, none⟩ = some (.slice (some ⟨g, 0, none⟩) n c) ∧ w'.cell? ⟨s, 2, none⟩ = some (.map (some mm)) ∧
        w'.cell? ⟨g, a * 3, none⟩ = some (.int .i64 (ptT k a 0)) ∧ w'.cell? ⟨g, a * 3 + 1, none⟩ = some (.int .i64 (ptT k a 1)) ∧ w'.cell? ⟨g, a * 3 + 2, none⟩ = some (.int .i64 (ptT k a 2)) ∧
        w'.cell? ⟨g, b * 3, none⟩ = some (.int .i64 (ptT k b 0)) ∧ w'.cell? ⟨g, b * 3 + 1, none⟩ = some (.int .i64 (ptT k b 1)) ∧ w'.cell? ⟨g, b * 3 + 2, none⟩ = some (.int .i64 (ptT k b 2))) (first | exact ⟨c1, c2, t0, t1, t2, u0, u1, u2⟩ | exact hcc) (first
    | (go_at_call 86; refine (CR.out _ (by assumption)).mono ?_; rintro e w2 ⟨rfl, hB2, hcc, hrun⟩))
  all_goals (
    go_wp2_with fail
    go_ret2
    exact ⟨rfl, hB1.trans (hB2.mono hB1.size)⟩)
end Go.Proofs.Ytnmkkflnehnioaa

/-! plane.common (77) otherwise, plane.Meet (50), plane.Join (52). No condition. -/
namespace Go.Proofs.Ytnmkkflnehnioaa
open Go.RowKit
set_option maxRecDepth 100000

def Pair (w : World) (x y : Int) (e : Ending) (w' : World) : Prop := e = .returned (.tuple #[.int .i64 x, .int .i64 y]) ∧ Below w.heap.size w w'

set_option maxHeartbeats 800000 in
theorem common_no1 (q : Int) (hno : ∀ k, k < 7 → at0 sizes k ≠ q) (a b : Int) (w : World) : Calls Try.prog 77 #[.int .i64 q, .int .i64 a, .int .i64 b] w (Pair w 0 1) := by
  have H := Lib.hid (open_no1 q hno)
  clear hno
  go_enter Try.func77, Try.ntmps77
  go_wp2_with fail
  refine (H.out _).mono ?_
  rintro e w1 ⟨rfl, B1⟩
  go_wp2_with fail
  go_ret2
  exact ⟨rfl, B1⟩
set_option maxHeartbeats 800000 in
theorem common_no2 (k : Nat) (hk : k < 7) (hg : 60 < szN k * szN k + szN k + 1) (a b : Int) (w : World) : Calls Try.prog 77 #[.int .i64 (szN k), .int .i64 a, .int .i64 b] w (Pair w 0 7) := by
  have H := Lib.hid (open_no2 k hk hg)
  clear hg
  go_enter Try.func77, Try.ntmps77
  go_wp2_with fail
  refine (H.out _).mono ?_
  rintro e w1 ⟨rfl, B1⟩
  go_wp2_with fail
  go_ret2
  exact ⟨rfl, B1⟩
theorem sq60 {k : Nat} (hk : k < 5) : szN k * szN k + szN k + 1 ≤ 60 := by
  have : k = 0 ∨ k = 1 ∨ k = 2 ∨ k = 3 ∨ k = 4 := by omega
  rcases this with rfl | rfl | rfl | rfl | rfl <;> decide
set_option maxHeartbeats 1600000 in
theorem common_else {k : Nat} (hk : k < 5) (a b : Int) (w : World) :
    (a < 0 → Calls Try.prog 77 #[.int .i64 (szN k), .int .i64 a, .int .i64 b] w (Pair w 0 2)) ∧
    (0 ≤ a → ((allL k).length : Int) ≤ a → Calls Try.prog 77 #[.int .i64 (szN k), .int .i64 a, .int .i64 b] w (Pair w 0 2)) ∧
    (0 ≤ a → a < ((allL k).length : Int) → b < 0 → Calls Try.prog 77 #[.int .i64 (szN k), .int .i64 a, .int .i64 b] w (Pair w 0 2)) ∧
    (0 ≤ a → a < ((allL k).length : Int) → 0 ≤ b → ((allL k).length : Int) ≤ b → Calls Try.prog 77 #[.int .i64 (szN k), .int .i64 a, .int .i64 b] w (Pair w 0 2)) ∧
    (0 ≤ a → a < ((allL k).length : Int) → a = b → Calls Try.prog 77 #[.int .i64 (szN k), .int .i64 a, .int .i64 b] w (Pair w 0 9)) := by
  have hk7 : k < 7 := by omega
  have hc := count_k k hk
  have h60 := sq60 hk
  have HO := Lib.hid (fun W => open_yes hk7 h60 W)
  obtain ⟨n, en⟩ : ∃ n, (allL k).length = n := ⟨_, rfl⟩
  have HEN := Lib.hid en
  rw [en]
  rw [en] at hc
  have hn60 : 0 < n ∧ n ≤ 60 := by omega
  clear hc h60 en
  refine ⟨fun h1 => ?_, fun h1 h2 => ?_, fun h1 h2 h3 => ?_, fun h1 h2 h3 h4 => ?_, fun h1 h2 h3 => ?_⟩
  all_goals
    (try subst h3)
    go_enter Try.func77, Try.ntmps77
    go_wp2_with fail
    refine (HO.out _).mono ?_
    rintro e w1 ⟨s, f, mb, W, rfl, B0, F, hMk⟩
    have hB1 : Below w.heap.size w w1 := B0.trans (hMk.below.mono B0.size)
    obtain ⟨f0, ⟨g, c, c1, hg, hpt⟩, -⟩ := spAt_of F hMk (by rw [HEN.out]; omega)
    rw [HEN.out] at c1
    clear hMk F B0 hpt f0
  · have da : decide (a < 0) = true := by simp; omega
    go_wp2_with fail
    go_ret2
    exact ⟨rfl, hB1⟩
  · have da : decide (a < 0) = false := by simp; omega
    have da2 : decide ((n : Int) ≤ a) = true := by simp; omega
    go_wp2_with fail
    go_ret2
    exact ⟨rfl, hB1⟩
  · have da : decide (a < 0) = false := by simp; omega
    have da2 : decide ((n : Int) ≤ a) = false := by simp; omega
    have db : decide (b < 0) = true := by simp; omega
    go_wp2_with fail
    go_ret2
    exact ⟨rfl, hB1⟩
  · have da : decide (a < 0) = false := by simp; omega
    have da2 : decide ((n : Int) ≤ a) = false := by simp; omega
    have db : decide (b < 0) = false := by simp; omega
    have db2 : decide ((n : Int) ≤ b) = true := by simp; omega
    go_wp2_with fail
    go_ret2
    exact ⟨rfl, hB1⟩
  · have da : decide (a < 0) = false := by simp; omega
    have da2 : decide ((n : Int) ≤ a) = false := by simp; omega
    go_wp2_with fail
    go_ret2
    exact ⟨rfl, hB1⟩

set_option maxHeartbeats 800000 in
theorem meet_of {q a b x y : Int} (h : ∀ w, Calls Try.prog 77 #[.int .i64 q, .int .i64 a, .int .i64 b] w (Pair w x y)) (w : World) : Calls Try.prog 50 #[.int .i64 q, .int .i64 a, .int .i64 b] w (Pair w x y) := by
  have H := Lib.hid h
  clear h
  go_enter Try.func50, Try.ntmps50
  go_wp2_with fail
  refine (H.out _).mono ?_
  rintro e w1 ⟨rfl, B1⟩
  go_wp2_with fail
  go_ret2
  exact ⟨rfl, B1⟩
set_option maxHeartbeats 800000 in
theorem join_of {q a b x y : Int} (h : ∀ w, Calls Try.prog 77 #[.int .i64 q, .int .i64 a, .int .i64 b] w (Pair w x y)) (w : World) : Calls Try.prog 52 #[.int .i64 q, .int .i64 a, .int .i64 b] w (Pair w x y) := by
  have H := Lib.hid h
  clear h
  go_enter Try.func52, Try.ntmps52
  go_wp2_with fail
  refine (H.out _).mono ?_
  rintro e w1 ⟨rfl, B1⟩
  go_wp2_with fail
  go_ret2
  exact ⟨rfl, B1⟩
end Go.Proofs.Ytnmkkflnehnioaa
