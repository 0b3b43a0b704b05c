/-
  smallfield's shape.digits, shape.add. No condition but on sizes.
-/
import Derived.Test.YtnmkkflnehnioaaBack
import Derived.BigRegion
import Derived.Deep.RegionWith
import Derived.Deep.DeepCutAuto
import Derived.Deep.Light
namespace Go.Proofs.Ytnmkkflnehnioaa
open Go.RowKit

theorem bcell {W w1 : World} (hb : Below W.heap.size W w1) : (∀ b o, b < W.heap.size → w1.cell? ⟨b, o, none⟩ = W.cell? ⟨b, o, none⟩) ∧ (∀ b o, b < W.heap.size → w1.frozen? ⟨b, o, none⟩ = W.frozen? ⟨b, o, none⟩) :=
  ⟨fun b o h => hb.cell (p := ⟨b, o, none⟩) h, fun b o h => hb.frozen (p := ⟨b, o, none⟩) h⟩

/-- n digits of a, base p, the lowest first. -/
def digs (p : Int) : Nat → Int → List Int
  | 0, _ => []
  | n + 1, a => (a % p) :: digs p n (a / p)
theorem digs_length (p : Int) : ∀ (n : Nat) (a : Int), (digs p n a).length = n
  | 0, _ => rfl
  | n + 1, a => by simp [digs, digs_length p n]

/-- A list of n digits in a new row, nothing else touched. -/
def NewRow (w : World) (n : Nat) (ds : List Int) (e : Ending) (w' : World) : Prop :=
  ∃ b, e = .returned (.slice (some ⟨b, 0, none⟩) n n) ∧ w.heap.size ≤ b ∧ RowAt w' b ds ∧ Below w.heap.size w w'

set_option maxRecDepth 100000 in
set_option maxHeartbeats 800000 in
theorem digits1 (sz p : Int) (a : Int) (w : World) (hp : 2 ≤ p) (hp' : p ≤ 9) (ha : 0 ≤ a) (ha' : a ≤ 9) :
    Calls Try.prog 83 #[.agg #[.int .i64 sz, .int .i64 p, .slice none 0 0], .int .i64 a] w (NewRow w 1 (digs p 1 a)) := by
  have hp0 : ¬ p = 0 := by omega
  have hmk : ∀ w, (Instr.makeSlice 38 (.int .i64 1) (.int .i64 1)).run Try.prog w = .ok (.slice (some ⟨w.heap.size, 0, none⟩) 1 1) (w.alloc (.cells #[.int .i64 0] 3)) := fun _ => by kernel_rfl
  go_enter Try.func83, Try.ntmps83
  go_wp2
  refine wp_loop_rounds 2 ?_
  rw [rounds_succ]
  go_wp2
  rw [rounds_succ]
  go_wp2
  go_ret
  exact ⟨w.heap.size + 1, rfl, by omega, by have := RowAt.new (w.alloc (.cells #[.int .i64 sz, .int .i64 p, .slice none 0 0] 84)) [a % p]; simpa [intCells, digs] using this, ((Below.refl _ w).alloc (Nat.le_refl _) _).alloc (by simp) _⟩

set_option maxRecDepth 100000 in
set_option maxHeartbeats 800000 in
theorem digits2 (sz p : Int) (A : Option Addr) (a : Int) (w : World) (hp : 2 ≤ p) (hp' : p ≤ 9) (ha : 0 ≤ a) (ha' : a ≤ 9) :
    Calls Try.prog 83 #[.agg #[.int .i64 sz, .int .i64 p, .slice A 2 2], .int .i64 a] w (NewRow w 2 (digs p 2 a)) := by
  have hp0 : ¬ p = 0 := by omega
  have hq : 0 ≤ a / p := Int.ediv_nonneg ha (by omega)
  have hmk : ∀ w, (Instr.makeSlice 38 (.int .i64 2) (.int .i64 2)).run Try.prog w = .ok (.slice (some ⟨w.heap.size, 0, none⟩) 2 2) (w.alloc (.cells #[.int .i64 0, .int .i64 0] 3)) := fun _ => by kernel_rfl
  go_enter Try.func83, Try.ntmps83
  go_wp2
  refine wp_loop_rounds 3 ?_
  rw [rounds_succ]
  go_wp2
  rw [rounds_succ]
  go_wp2
  rw [rounds_succ]
  go_wp2
  go_ret
  exact ⟨w.heap.size + 1, rfl, by omega, by have := RowAt.new (w.alloc (.cells #[.int .i64 sz, .int .i64 p, .slice A 2 2] 84)) [a % p, a / p % p]; simpa [intCells, digs] using this, ((Below.refl _ w).alloc (Nat.le_refl _) _).alloc (by simp) _⟩

set_option maxRecDepth 100000 in
set_option maxHeartbeats 800000 in
theorem digits3 (sz p : Int) (A : Option Addr) (a : Int) (w : World) (hp : 2 ≤ p) (hp' : p ≤ 9) (ha : 0 ≤ a) (ha' : a ≤ 9) :
    Calls Try.prog 83 #[.agg #[.int .i64 sz, .int .i64 p, .slice A 3 3], .int .i64 a] w (NewRow w 3 (digs p 3 a)) := by
  have hp0 : ¬ p = 0 := by omega
  have hq : 0 ≤ a / p := Int.ediv_nonneg ha (by omega)
  have hq9 : a / p ≤ 9 := Int.le_trans (Int.ediv_le_self _ ha) ha'
  have hq2 : 0 ≤ a / p / p := Int.ediv_nonneg hq (by omega)
  have hmk : ∀ w, (Instr.makeSlice 38 (.int .i64 3) (.int .i64 3)).run Try.prog w = .ok (.slice (some ⟨w.heap.size, 0, none⟩) 3 3) (w.alloc (.cells #[.int .i64 0, .int .i64 0, .int .i64 0] 3)) := fun _ => by kernel_rfl
  go_enter Try.func83, Try.ntmps83
  go_wp2
  refine wp_loop_rounds 4 ?_
  rw [rounds_succ]
  go_wp2
  rw [rounds_succ]
  go_wp2
  rw [rounds_succ]
  go_wp2
  rw [rounds_succ]
  go_wp2
  go_ret
  exact ⟨w.heap.size + 1, rfl, by omega, by have := RowAt.new (w.alloc (.cells #[.int .i64 sz, .int .i64 p, .slice A 3 3] 84)) [a % p, a / p % p, a / p / p % p]; simpa [intCells, digs] using this, ((Below.refl _ w).alloc (Nat.le_refl _) _).alloc (by simp) _⟩

/-- The rest slice of a shape, as it bears on the number of digits. -/
def polyLen (A : Option Addr) (k c n : Nat) : Prop := (A = none ∧ k = 0 ∧ c = 0 ∧ n = 1) ∨ (k = 2 ∧ c = 2 ∧ n = 2) ∨ (k = 3 ∧ c = 3 ∧ n = 3)

theorem digits_any (sz p : Int) (A : Option Addr) (k c n : Nat) (hn : polyLen A k c n) (a : Int) (w : World) (hp : 2 ≤ p) (hp' : p ≤ 9) (ha : 0 ≤ a) (ha' : a ≤ 9) :
    Calls Try.prog 83 #[.agg #[.int .i64 sz, .int .i64 p, .slice A k c], .int .i64 a] w (NewRow w n (digs p n a)) := by
  rcases hn with ⟨rfl, rfl, rfl, rfl⟩ | ⟨rfl, rfl, rfl⟩ | ⟨rfl, rfl, rfl⟩
  · exact digits1 sz p a w hp hp' ha ha'
  · exact digits2 sz p A a w hp hp' ha ha'
  · exact digits3 sz p A a w hp hp' ha ha'

/-- The first k places summed. -/
def addTo (p : Int) (Y : List Int) : Nat → List Int → List Int
  | 0, X => X
  | k + 1, X => (addTo p Y k X).set k (Int.tmod (wrap64 (at0 (addTo p Y k X) k + at0 Y k)) p)
theorem addTo_length (p : Int) (Y : List Int) : ∀ (k : Nat) (X : List Int), (addTo p Y k X).length = X.length
  | 0, X => rfl
  | k + 1, X => by simp [addTo, addTo_length p Y k X]

theorem rowInts {w : World} {b : Nat} {zs : List Int} (h : RowAt w b zs) : IntsB w.heap.size w b 0 zs := ⟨h.lt, fun j hj => by rw [Nat.zero_add]; exact h.cell hj⟩

def addS (p : Int) (n : Nat) (a b : Int) : Int := elemFold p (upto (backAt (addTo p (digs p n b) n (digs p n a))) n)

set_option maxRecDepth 100000 in
set_option maxHeartbeats 1600000 in
theorem add_any (sz p : Int) (A : Option Addr) (q c n : Nat) (hn : polyLen A q c n) (a b : Int) (w : World) (hp : 2 ≤ p) (hp' : p ≤ 9) (ha : 0 ≤ a) (ha' : a ≤ 9) (hb : 0 ≤ b) (hb' : b ≤ 9) :
    Calls Try.prog 73 #[.agg #[.int .i64 sz, .int .i64 p, .slice A q c], .int .i64 a, .int .i64 b] w fun e w' => e = .returned (.int .i64 (addS p n a b)) ∧ Below w.heap.size w w' := by
  have hp0 : ¬ p = 0 := by omega
  have hn13 : 1 ≤ n ∧ n ≤ 3 := by rcases hn with ⟨rfl, rfl, rfl, rfl⟩ | ⟨rfl, rfl, rfl⟩ | ⟨rfl, rfl, rfl⟩ <;> omega
  have HN := Lib.hid hn
  clear hn
  go_enter Try.func73, Try.ntmps73
  go_upto_region 1 with fail
  go_cut [7, 8] (fun s7 s8 wx => ∃ bx bY : Nat, s7 = .slice (some ⟨bx, 0, none⟩) n n ∧ s8 = .slice (some ⟨bY, 0, none⟩) n n ∧ w.heap.size < bx ∧ bx < bY ∧ RowAt wx bx (digs p n a) ∧ RowAt wx bY (digs p n b) ∧ Below (w.heap.size + 1) (w.alloc (.cells #[.int .i64 sz, .int .i64 p, .slice A q c] 84)) wx)
  case first =>
    go_region_with (go_at_call 83; refine (digits_any _ _ _ _ _ _ HN.out _ _ hp hp' (by assumption) (by assumption)).mono ?_; rintro e w' ⟨bx, rfl, hbx, hrow, hbel⟩; obtain ⟨hcc, hff⟩ := bcell hbel)
    all_goals (go_wp2_with fail; go_meet)
    all_goals
      rename_i w1 b1 h1 r1 be1 cc1 ff1
      have h1' : w.heap.size + 1 ≤ b1 := by simpa using h1
      have hz : w.heap.size + 1 ≤ w1.heap.size := by have := be1.size; simpa using this
      exact ⟨b1, bx, rfl, rfl, by omega, by have := r1.lt; omega, r1.below hbel r1.lt, hrow, ((Below.refl _ _).drew.trans (Below.mono be1 (by simp))).trans (hbel.mono hz)⟩
  case rest =>
    obtain ⟨bx, bY, rfl, rfl, hbx, hby, hX, hY, hB⟩ := hcut
    go_wp2_with fail
    go_loopw [18] (fun i wr => ∃ k : Nat, k ≤ n ∧ i = .int .i64 k ∧ RowAt wr bx (addTo p (digs p n b) k (digs p n a)) ∧ RowAt wr bY (digs p n b) ∧ Below (w.heap.size + 1) (w.alloc (.cells #[.int .i64 sz, .int .i64 p, .slice A q c] 84)) wr)
      (fun i _ => n - (intOf i).toNat)
    case atStart => exact ⟨0, Nat.zero_le _, rfl, hX, hY, hB⟩
    case round =>
      clear hX hY hB
      obtain ⟨k, hk, rfl, hX, hY, hB⟩ := hrel
      have cp : wr.cell? ⟨w.heap.size, 1, none⟩ = some (.int .i64 p) := by rw [hB.cell (p := ⟨w.heap.size, 1, none⟩) (by simp)]; simp [go_sem]
      by_cases hlt : k < n
      · have cx := hX.cell (j := k) (by rw [addTo_length, digs_length]; exact hlt)
        have fx := hX.frozen k
        have cy := hY.cell (j := k) (by rw [digs_length]; exact hlt)
        go_wp2_with fail
        go_region
        go_wp2_with fail
        go_roundw
        case rel => exact ⟨k + 1, by omega, by go_num, by first | exact (hX.set k _).drew | exact hX.set k _, by first | exact (hY.other (by show bY ≠ bx; omega) _).drew | exact hY.other (by show bY ≠ bx; omega) _, by first | exact (hB.setCell (by show w.heap.size + 1 ≤ bx; omega) _).drew | exact hB.drew.setCell (by show w.heap.size + 1 ≤ bx; omega) _⟩
        case measure => simp [intOf]; omega
      · obtain rfl : k = n := by omega
        have c0 : wr.cell? ⟨w.heap.size, 0, none⟩ = some (.int .i64 sz) := by rw [hB.cell (p := ⟨w.heap.size, 0, none⟩) (by simp)]; simp [go_sem]
        have c2 : wr.cell? ⟨w.heap.size, 2, none⟩ = some (.slice A q c) := by rw [hB.cell (p := ⟨w.heap.size, 2, none⟩) (by simp)]; simp [go_sem]
        have hl : (addTo p (digs p k b) k (digs p k a)).length = k := by rw [addTo_length, digs_length]
        have hel := element_any sz p A q c bx 0 k (addTo p (digs p k b) k (digs p k a)) (by omega) (by omega) wr (rowInts hX)
        rw [hl] at hel
        have HE := Lib.hid hel
        clear hel hl
        go_wp2_with (go_at_call 84; refine HE.out.mono ?_; rintro e w' ⟨rfl, hb2⟩)
        go_ret
        refine ⟨rfl, ?_⟩
        have h1 : Below w.heap.size w wr := ((Below.refl _ w).alloc (Nat.le_refl _) _).trans (hB.mono (by omega))
        exact h1.trans (hb2.mono h1.size)
end Go.Proofs.Ytnmkkflnehnioaa
