/-
  smallfield's shapes, and slices.IndexFunc over them with New's closure. No condition.
-/
import Derived.Test.YtnmkkflnehnioaaMul
import Derived.Maps.AppendAt
namespace Go.Proofs.Ytnmkkflnehnioaa
open Go.RowKit

theorem all_succ {P : Nat → Prop} {k : Nat} (h : ∀ j, j < k → P j) (hk : P k) : ∀ j, j < k + 1 → P j := fun j hj => by
  by_cases e : j = k
  · subst e; exact hk
  · exact h j (by omega)
theorem RowAt.newAt (w : World) (zs : List Int) {N : Nat} (h : w.heap.size = N) : RowAt (w.alloc (.cells (intCells zs) 3)) N zs := h ▸ RowAt.new w zs

def sizes : List Int := [2, 3, 4, 5, 7, 8, 9]
def primes : List Int := [2, 3, 2, 5, 7, 2, 3]
/-- What the shapes' third cells hold, their lists' blocks being from N on. -/
def polyA (N k : Nat) : Option Addr := if k = 2 then some ⟨N, 0, none⟩ else if k = 5 then some ⟨N + 1, 0, none⟩ else if k = 6 then some ⟨N + 2, 0, none⟩ else none
def polyN (k : Nat) : Nat := if k = 2 then 2 else if k = 5 then 3 else if k = 6 then 2 else 0
def polyZ (k : Nat) : List Int := if k = 2 then [1, 1] else if k = 5 then [1, 1, 0] else if k = 6 then [1, 0] else []

structure ShapesAt (w : World) (N b : Nat) : Prop where
  lt : b < w.heap.size
  cell : ∀ k, k < 7 → w.cell? ⟨b, k * 3, none⟩ = some (.int .i64 (at0 sizes k)) ∧ w.cell? ⟨b, k * 3 + 1, none⟩ = some (.int .i64 (at0 primes k)) ∧ w.cell? ⟨b, k * 3 + 2, none⟩ = some (.slice (polyA N k) (polyN k) (polyN k))
  r2 : RowAt w N [1, 1]
  r5 : RowAt w (N + 1) [1, 1, 0]
  r6 : RowAt w (N + 2) [1, 0]
theorem ShapesAt.below {w w' : World} {N b : Nat} (h : ShapesAt w N b) (hb : Below w.heap.size w w') : ShapesAt w' N b :=
  ⟨Nat.lt_of_lt_of_le h.lt hb.size, fun k hk => by
    obtain ⟨h0, h1, h2⟩ := h.cell k hk
    exact ⟨(hb.cell (p := ⟨b, k * 3, none⟩) h.lt).trans h0, (hb.cell (p := ⟨b, k * 3 + 1, none⟩) h.lt).trans h1, (hb.cell (p := ⟨b, k * 3 + 2, none⟩) h.lt).trans h2⟩, h.r2.below hb h.r2.lt, h.r5.below hb h.r5.lt, h.r6.below hb h.r6.lt⟩

def NewShapes (w : World) (e : Ending) (w' : World) : Prop :=
  ∃ b, e = .returned (.slice (some ⟨b, 0, none⟩) 7 7) ∧ w.heap.size ≤ b ∧ ShapesAt w' w.heap.size b ∧ Below w.heap.size w w'

set_option maxRecDepth 100000 in
set_option maxHeartbeats 1600000 in
theorem shapes_any (w : World) : Calls Try.prog 68 #[] w (NewShapes w) := by
  go_enter Try.func68, Try.ntmps68
  go_wp2
  go_ret
  refine ⟨_, rfl, by omega, ⟨by simp, ?_, ?_, ?_, ?_⟩, ?_⟩
  · intro k hk
    have : k = 0 ∨ k = 1 ∨ k = 2 ∨ k = 3 ∨ k = 4 ∨ k = 5 ∨ k = 6 := by omega
    rcases this with rfl | rfl | rfl | rfl | rfl | rfl | rfl <;> simp [go_sem, sizes, primes, polyA, polyN, at0]
  · exact (((RowAt.new w [1, 1]).alloc _).alloc _).alloc _
  · exact ((RowAt.newAt (w.alloc (.cells #[.int .i64 1, .int .i64 1] 3)) [1, 1, 0] (by simp)).alloc _).alloc _
  · exact (RowAt.newAt ((w.alloc (.cells #[.int .i64 1, .int .i64 1] 3)).alloc (.cells #[.int .i64 1, .int .i64 1, .int .i64 0] 3)) [1, 0] (by simp)).alloc _
  · exact ((((Below.refl _ w).alloc (Nat.le_refl _) _).alloc (by simp) _).alloc (by simp; omega) _).alloc (by simp; omega) _

set_option maxRecDepth 100000 in
set_option maxHeartbeats 800000 in
theorem is_any (s p q : Int) (A : Option Addr) (n c : Nat) (qb : Nat) (w : World) (hq : w.cell? ⟨qb, 0, none⟩ = some (.int .i64 q)) :
    Calls Try.prog 70 #[.agg #[.int .i64 s, .int .i64 p, .slice A n c], .pointer (some ⟨qb, 0, none⟩)] w fun e w' => e = .returned (.bool (s == q)) ∧ Below w.heap.size w w' := by
  have hlt := World.block_lt_of_cell? _ _ hq
  have hq2 : ∀ o, (w.alloc o).cell? ⟨qb, 0, none⟩ = some (.int .i64 q) := fun o => (World.cell?_alloc_old _ _ _ (by show qb ≠ w.heap.size; have : qb < w.heap.size := hlt; omega)).trans hq
  go_enter Try.func70, Try.ntmps70
  go_wp2
  go_ret
  exact ⟨rfl, (Below.refl _ w).alloc (Nat.le_refl _) _⟩

/-- The place of q among the sizes, or -1. -/
def Found (q r : Int) : Prop := (∃ k : Nat, k < 7 ∧ r = k ∧ at0 sizes k = q) ∨ (r = -1 ∧ ∀ k, k < 7 → at0 sizes k ≠ q)

set_option maxRecDepth 100000 in
set_option maxHeartbeats 1600000 in
theorem find_any (N b qb : Nat) (q : Int) (w : World) (hs : ShapesAt w N b) (hq : w.cell? ⟨qb, 0, none⟩ = some (.int .i64 q)) :
    Calls Try.prog 69 #[.slice (some ⟨b, 0, none⟩) 7 7, .func (.func 70) #[] #[.pointer (some ⟨qb, 0, none⟩)]] w fun e w' => (∃ r, e = .returned (.int .i64 r) ∧ Found q r) ∧ Below w.heap.size w w' := by
  have hlt : qb < w.heap.size := World.block_lt_of_cell? _ _ hq
  go_enter Try.func69, Try.ntmps69
  go_wp2_with fail
  go_loopw [8] (fun i wr => ∃ k : Nat, k ≤ 7 ∧ i = .int .i64 k ∧ (∀ j, j < k → at0 sizes j ≠ q) ∧ Below w.heap.size w wr)
    (fun i _ => 7 - (intOf i).toNat)
  case atStart => exact ⟨0, by omega, rfl, fun j hj => absurd hj (Nat.not_lt_zero _), Below.refl _ _⟩
  case round =>
    obtain ⟨k, hk, rfl, hno, hB⟩ := hrel
    have HNO := Lib.hid hno
    clear hno
    by_cases hkt : k < 7
    · have hs' := hs.below hB
      obtain ⟨c0, c1, c2⟩ := hs'.cell k hkt
      have hq' : wr.cell? ⟨qb, 0, none⟩ = some (.int .i64 q) := (hB.cell (p := ⟨qb, 0, none⟩) hlt).trans hq
      have H := Lib.hid (is_any (at0 sizes k) (at0 primes k) q (polyA N k) (polyN k) (polyN k) qb wr hq')
      by_cases he : at0 sizes k = q
      · have hb : (at0 sizes k == q) = true := by simp [he]
        have HE := Lib.hid he
        clear he
        go_wp2_with (go_at_call 70; refine H.out.mono ?_; rintro e w' ⟨rfl, hb2⟩)
        go_ret
        exact ⟨⟨_, rfl, .inl ⟨k, hkt, rfl, HE.out⟩⟩, hB.trans (hb2.mono hB.size)⟩
      · have hb : (at0 sizes k == q) = false := by simp [he]
        have HE := Lib.hid he
        clear he
        go_wp2_with (go_at_call 70; refine H.out.mono ?_; rintro e w' ⟨rfl, hb2⟩)
        go_roundw
        case rel => exact ⟨k + 1, by omega, by go_num, all_succ HNO.out HE.out, hB.trans (hb2.mono hB.size)⟩
        case measure => simp [intOf]; omega
    · obtain rfl : k = 7 := by omega
      go_wp2_with fail
      go_ret
      exact ⟨⟨_, rfl, .inr ⟨rfl, HNO.out⟩⟩, hB⟩
end Go.Proofs.Ytnmkkflnehnioaa
