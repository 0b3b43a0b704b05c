/-
  plane.Projective (42): its lines. Condition: the five sizes with at most 60 points.
  A design that is being made: rows appended to its second cell. No condition.
  plane.Projective (42) at a size with at most 60 points: its lines. No condition.
  plane.Affine (46): its lines at the five sizes with at most 60 points, and its errors. No condition.
  Reading rows and designs; the reference's Has (51), Common (49), Same (44) at equal designs. Condition: the rows are not empty.
  The examples of chapter 06 (41) hold; the law's sizes (48). No condition.
-/
import Derived.Test.YtnmkkflnehnioaaGa
/-! plane.Projective (42): its lines. Condition: the five sizes with at most 60 points. -/
namespace Go.Proofs.Ytnmkkflnehnioaa
open Go.RowKit
set_option maxRecDepth 100000

/-- The points below n on line i. -/
def lineTo (k i : Nat) : Nat → List Nat
  | 0 => []
  | n + 1 => if dotTo k (ptT k i) (ptT k n) 3 = 0 then lineTo k i n ++ [n] else lineTo k i n
theorem lineTo_le (k i : Nat) : ∀ n, (lineTo k i n).length ≤ n
  | 0 => Nat.le_refl _
  | n + 1 => by
    have := lineTo_le k i n
    unfold lineTo
    split
    · rw [List.length_append]; simp; omega
    · omega
def natVals (l : List Nat) : List Value := l.map fun n => Value.int .i64 (n : Nat)
def lineL (k i : Nat) : List Nat := lineTo k i (allL k).length
/-- v owns rows; row i owns the ints of L i. -/
def RowsOf (w : World) (base : Nat) (v : Value) (a : Nat) (L : Nat → List Nat) : Prop :=
  ∃ rows : List Value, w.ownsRow base 38 1 v a rows ∧ ∀ i, i < a → ∃ rv, rows[i]? = some rv ∧ w.ownsRow base 3 1 rv (L i).length (natVals (L i))

theorem results_des {fn : Func} {p u : Tmp} (h : fn.results = #[.cell p 48, .tmp u]) (tmps : Array Value) (w : World) (b : Nat) (x v y : Value) (hp : tmps.getD p undef = .pointer (some ⟨b, 0, none⟩)) (hu : tmps.getD u undef = y)
    (c0 : w.cell? ⟨b, 0, none⟩ = some x) (c1 : w.cell? ⟨b, 1, none⟩ = some v) : (results fn tmps).run Try.prog w = .ok (.tuple #[.agg #[x, v], y]) w := by
  have hp2 : tmps[p]?.getD undef = .pointer (some ⟨b, 0, none⟩) := by simpa using hp
  have hu2 : tmps[u]?.getD undef = y := by simpa using hu
  simp only [results, h]
  simp [go_sem, Sem.run_bind, Result.andThen, hp2, hu2, c0, c1]

set_option maxHeartbeats 1600000 in
theorem proj_no1 (q : Int) (hno : ∀ k, k < 7 → at0 sizes k ≠ q) (w : World) : Calls Try.prog 42 #[.int .i64 q] w fun e w' => e = .returned (.tuple #[.agg #[.int .i64 0, .slice none 0 0], .int .i64 1]) ∧ Below w.heap.size w w' := by
  have H := Lib.hid (open_no1 q hno)
  clear hno
  go_enter Try.func42, Try.ntmps42
  go_wp2_with fail
  obtain ⟨w0, hw0⟩ : ∃ w0, w.alloc (.cells #[.int .i64 0, .slice none 0 0] 48) = w0 := ⟨_, rfl⟩
  refine (H.out _).mono ?_
  rintro e w1 ⟨rfl, B1⟩
  have hl : w.heap.size < (w.alloc (.cells #[.int .i64 0, .slice none 0 0] 48)).heap.size := by simp
  have c0 : w1.cell? ⟨w.heap.size, 0, none⟩ = some (.int .i64 0) := (B1.cell (p := ⟨w.heap.size, 0, none⟩) hl).trans (by simp [go_sem])
  have c1 : w1.cell? ⟨w.heap.size, 1, none⟩ = some (.slice none 0 0) := (B1.cell (p := ⟨w.heap.size, 1, none⟩) hl).trans (by simp [go_sem])
  have g0 : w1.frozen? ⟨w.heap.size, 0, none⟩ = false := (B1.frozen (p := ⟨w.heap.size, 0, none⟩) hl).trans (by simp [go_sem])
  have g1 : w1.frozen? ⟨w.heap.size, 1, none⟩ = false := (B1.frozen (p := ⟨w.heap.size, 1, none⟩) hl).trans (by simp [go_sem])
  have hB : Below w.heap.size w w1 := ((Below.refl _ w).alloc (Nat.le_refl _) _).trans (B1.mono (by simp))
  go_wp2_with fail
  (try simp only [Exit.inBlock, Exit.then])
  have k0 : (w1.setCell ⟨w.heap.size, 0, none⟩ (.int .i64 0)).cell? ⟨w.heap.size, 1, none⟩ = some (.slice none 0 0) := (World.cell?_setCell_other _ _ _ _ (by simp)).trans c1
  have k1 : ((w1.setCell ⟨w.heap.size, 0, none⟩ (.int .i64 0)).setCell ⟨w.heap.size, 1, none⟩ (.slice none 0 0)).cell? ⟨w.heap.size, 1, none⟩ = some (.slice none 0 0) := World.cell?_setCell_same _ _ _ k0
  have k2 : ((w1.setCell ⟨w.heap.size, 0, none⟩ (.int .i64 0)).setCell ⟨w.heap.size, 1, none⟩ (.slice none 0 0)).cell? ⟨w.heap.size, 0, none⟩ = some (.int .i64 0) := (World.cell?_setCell_other _ _ _ _ (by simp)).trans (World.cell?_setCell_same _ _ _ c0)
  refine bodyPost_ret_by (results_des rfl _ _ w.heap.size _ _ (.int .i64 1) rfl rfl k2 k1) rfl ?_
  exact ⟨rfl, (hB.setCell (by simp) _).setCell (by simp) _⟩
set_option maxHeartbeats 1600000 in
theorem proj_no2 (k : Nat) (hk : k < 7) (hg : 60 < szN k * szN k + szN k + 1) (w : World) : Calls Try.prog 42 #[.int .i64 (szN k)] w fun e w' => e = .returned (.tuple #[.agg #[.int .i64 0, .slice none 0 0], .int .i64 7]) ∧ Below w.heap.size w w' := by
  have H := Lib.hid (open_no2 k hk hg)
  clear hg
  go_enter Try.func42, Try.ntmps42
  go_wp2_with fail
  obtain ⟨w0, hw0⟩ : ∃ w0, w.alloc (.cells #[.int .i64 0, .slice none 0 0] 48) = w0 := ⟨_, rfl⟩
  refine (H.out _).mono ?_
  rintro e w1 ⟨rfl, B1⟩
  have hl : w.heap.size < (w.alloc (.cells #[.int .i64 0, .slice none 0 0] 48)).heap.size := by simp
  have c0 : w1.cell? ⟨w.heap.size, 0, none⟩ = some (.int .i64 0) := (B1.cell (p := ⟨w.heap.size, 0, none⟩) hl).trans (by simp [go_sem])
  have c1 : w1.cell? ⟨w.heap.size, 1, none⟩ = some (.slice none 0 0) := (B1.cell (p := ⟨w.heap.size, 1, none⟩) hl).trans (by simp [go_sem])
  have g0 : w1.frozen? ⟨w.heap.size, 0, none⟩ = false := (B1.frozen (p := ⟨w.heap.size, 0, none⟩) hl).trans (by simp [go_sem])
  have g1 : w1.frozen? ⟨w.heap.size, 1, none⟩ = false := (B1.frozen (p := ⟨w.heap.size, 1, none⟩) hl).trans (by simp [go_sem])
  have hB : Below w.heap.size w w1 := ((Below.refl _ w).alloc (Nat.le_refl _) _).trans (B1.mono (by simp))
  go_wp2_with fail
  (try simp only [Exit.inBlock, Exit.then])
  have k0 : (w1.setCell ⟨w.heap.size, 0, none⟩ (.int .i64 0)).cell? ⟨w.heap.size, 1, none⟩ = some (.slice none 0 0) := (World.cell?_setCell_other _ _ _ _ (by simp)).trans c1
  have k1 : ((w1.setCell ⟨w.heap.size, 0, none⟩ (.int .i64 0)).setCell ⟨w.heap.size, 1, none⟩ (.slice none 0 0)).cell? ⟨w.heap.size, 1, none⟩ = some (.slice none 0 0) := World.cell?_setCell_same _ _ _ k0
  have k2 : ((w1.setCell ⟨w.heap.size, 0, none⟩ (.int .i64 0)).setCell ⟨w.heap.size, 1, none⟩ (.slice none 0 0)).cell? ⟨w.heap.size, 0, none⟩ = some (.int .i64 0) := (World.cell?_setCell_other _ _ _ _ (by simp)).trans (World.cell?_setCell_same _ _ _ c0)
  refine bodyPost_ret_by (results_des rfl _ _ w.heap.size _ _ (.int .i64 7) rfl rfl k2 k1) rfl ?_
  exact ⟨rfl, (hB.setCell (by simp) _).setCell (by simp) _⟩
end Go.Proofs.Ytnmkkflnehnioaa

/-! A design that is being made: rows appended to its second cell. No condition. -/
namespace Go.Proofs.Ytnmkkflnehnioaa
open Go.RowKit
set_option maxRecDepth 100000

theorem RowsOf.move {w w' : World} {base : Nat} {v : Value} {a : Nat} {L : Nat → List Nat} (h : RowsOf w base v a L)
    (hm : ∀ k, base ≤ k → k < w.heap.size → w'.heap[k]? = w.heap[k]?) : RowsOf w' base v a L := by
  obtain ⟨rows, ho, hr⟩ := h
  refine ⟨rows, own_move ho fun k hk => hm k (ho.lt k hk).1 (ho.lt k hk).2, fun i hi => ?_⟩
  obtain ⟨rv, h1, h2⟩ := hr i hi
  exact ⟨rv, h1, own_move h2 fun k hk => hm k (h2.lt k hk).1 (h2.lt k hk).2⟩
theorem RowsOf.below {w w' : World} {base B : Nat} {v : Value} {a : Nat} {L : Nat → List Nat} (h : RowsOf w base v a L) (hb : Below B w w') (hB : w.heap.size ≤ B) : RowsOf w' base v a L :=
  h.move fun k _ hk => hb.block k (by omega)
theorem RowsOf.setCell {w : World} {base : Nat} {v : Value} {a : Nat} {L : Nat → List Nat} (h : RowsOf w base v a L) {p : Addr} (hp : p.block < base) (u : Value) : RowsOf (w.setCell p u) base v a L :=
  h.move fun k hb _ => Below.heap_setCell w p u k (by omega)
theorem RowsOf.weaken {w : World} {base base' : Nat} {v : Value} {a : Nat} {L : Nat → List Nat} (h : RowsOf w base v a L) (hb : base' ≤ base) : RowsOf w base' v a L := by
  obtain ⟨rows, ho, hr⟩ := h
  refine ⟨rows, own_weaken ho hb, fun i hi => ?_⟩
  obtain ⟨rv, h1, h2⟩ := hr i hi
  exact ⟨rv, h1, own_weaken h2 hb⟩
/-- A row of ints has been appended. -/
theorem rows_snoc {w w' : World} {base : Nat} {v v' : Value} {a : Nat} {L : Nat → List Nat} {rows : List Value} (ho : w.ownsRow base 38 1 v a rows) (hr : ∀ i, i < a → ∃ rv, rows[i]? = some rv ∧ w.ownsRow base 3 1 rv (L i).length (natVals (L i)))
    {rv : Value} (hrv : w.ownsRow base 3 1 rv (L a).length (natVals (L a))) (hown : w'.ownsRow base 38 1 v' (a + 1) (rows ++ [rv])) (hg : w.grownBy w' v.ownBlock) : RowsOf w' base v' (a + 1) L := by
  have hrl : rows.length = a := by have := ho.1; omega
  refine ⟨rows ++ [rv], hown, fun i hi => ?_⟩
  by_cases h : i < a
  · obtain ⟨r, h1, h2⟩ := hr i h
    exact ⟨r, by rw [List.getElem?_append_left (by omega)]; exact h1, own_grown h2 hg (own_apart h2 ho (by decide))⟩
  · obtain rfl : i = a := by omega
    exact ⟨rv, by rw [List.getElem?_append_right (by omega), hrl]; simp, own_grown hrv hg (own_apart hrv ho (by decide))⟩

/-- The design behind i lines: block d. -/
structure DM (W w : World) (d n : Nat) (L : Nat → List Nat) (i : Nat) : Prop where
  below : Below d W w
  heap : ∃ v, w.heap[d]? = some (.cells #[.int .i64 n, v] 48 (0, 0)) ∧ RowsOf w (d + 1) v i L
theorem DM.moved {W w w' : World} {d n i : Nat} {L : Nat → List Nat} (h : DM W w d n L i) (hb : Below w.heap.size w w') : DM W w' d n L i := by
  obtain ⟨v, h1, h2⟩ := h.heap
  have hd := lt_of_block h1
  exact ⟨h.below.trans (hb.mono (by omega)), v, (hb.block d hd).trans h1, h2.below hb (Nat.le_refl _)⟩
theorem cells2 {w : World} {d : Nat} {a v : Value} {t : TypeId} (h : w.heap[d]? = some (.cells #[a, v] t (0, 0))) :
    w.cell? ⟨d, 0, none⟩ = some a ∧ w.cell? ⟨d, 1, none⟩ = some v ∧ w.frozen? ⟨d, 0, none⟩ = false ∧ w.frozen? ⟨d, 1, none⟩ = false := by
  simp [World.cell?, World.frozen?, h]
theorem put2 {w : World} {d : Nat} {a v u : Value} {t : TypeId} (h : w.heap[d]? = some (.cells #[a, v] t (0, 0))) :
    (w.setCell ⟨d, 1, none⟩ u).heap[d]? = some (.cells #[a, u] t (0, 0)) := by
  unfold World.setCell
  simp only [Array.getElem?_modify, h]
  simp
theorem after_app48 {w5 w6 : World} {o : Obj} {d : Nat} {a v : Value} (h5 : w5.heap[d]? = some (.cells #[a, v] 48 (0, 0))) (g6 : (w5.alloc o).grownBy w6 v.ownBlock) (hv : ∀ k, v.ownBlock = some k → d + 1 ≤ k) :
    w6.heap[d]? = some (.cells #[a, v] 48 (0, 0)) ∧ w6.cell? ⟨d, 1, none⟩ = some v ∧ w6.frozen? ⟨d, 1, none⟩ = false := by
  have hl := lt_of_block h5
  have h6 : w6.heap[d]? = some (.cells #[a, v] 48 (0, 0)) := by
    rw [g6.block d (by simp; omega) (fun e => by have := hv d e.symm; omega), Below.heap_alloc w5 o d hl, h5]
  exact ⟨h6, by simp [World.cell?, h6], by simp [World.frozen?, h6]⟩
/-- A row has been appended to the design and stored. -/
theorem DM.snoc {W wr w6 : World} {d n i B : Nat} {L : Nat → List Nat} {vd v9 v' : Value} {rows : List Value} {o : Obj} (hW : Below d W wr) (hh : wr.heap[d]? = some (.cells #[.int .i64 n, vd] 48 (0, 0)))
    (ho : wr.ownsRow (d + 1) 38 1 vd i rows) (hr : ∀ j, j < i → ∃ rv, rows[j]? = some rv ∧ wr.ownsRow (d + 1) 3 1 rv (L j).length (natVals (L j)))
    (h9 : wr.ownsRow B 3 1 v9 (L i).length (natVals (L i))) (hB : d + 1 ≤ B) (o6 : w6.ownsRow (d + 1) 38 1 v' (i + 1) (rows ++ [v9])) (g6 : (wr.alloc o).grownBy w6 vd.ownBlock) :
    DM W (w6.setCell ⟨d, 1, none⟩ v') d n L (i + 1) := by
  have hd := lt_of_block hh
  obtain ⟨h6, -, -⟩ := after_app48 hh g6 (fun b e => (ho.lt b e).1)
  refine ⟨?_, v', put2 h6, RowsOf.setCell ?_ (Nat.lt_succ_self d) v'⟩
  · exact (((hW.alloc (Nat.le_of_lt (by have := hW.size; omega)) o).grown g6 (by simp; omega) (fun b e => by have := (ho.lt b e).1; omega))).setCell (Nat.le_refl d) v'
  · exact rows_snoc (ho.alloc o) (fun j hj => by obtain ⟨rv, h1, h2⟩ := hr j hj; exact ⟨rv, h1, h2.alloc o⟩) ((own_weaken h9 hB).alloc o) o6 g6
theorem des_cells {w w1 : World} (hB : Below (w.alloc (.cells #[.int .i64 0, .slice none 0 0] 48)).heap.size (w.alloc (.cells #[.int .i64 0, .slice none 0 0] 48)) w1) :
    w1.cell? ⟨w.heap.size, 0, none⟩ = some (.int .i64 0) ∧ w1.cell? ⟨w.heap.size, 1, none⟩ = some (.slice none 0 0) ∧ w1.frozen? ⟨w.heap.size, 0, none⟩ = false ∧ w1.frozen? ⟨w.heap.size, 1, none⟩ = false ∧ Below w.heap.size w w1 := by
  have hl : w.heap.size < (w.alloc (.cells #[.int .i64 0, .slice none 0 0] 48)).heap.size := by simp
  exact ⟨(hB.cell (p := ⟨w.heap.size, 0, none⟩) hl).trans (by simp [go_sem]), (hB.cell (p := ⟨w.heap.size, 1, none⟩) hl).trans (by simp [go_sem]), (hB.frozen (p := ⟨w.heap.size, 0, none⟩) hl).trans (by simp [go_sem]), (hB.frozen (p := ⟨w.heap.size, 1, none⟩) hl).trans (by simp [go_sem]), ((Below.refl _ w).alloc (Nat.le_refl _) _).trans (hB.mono (by simp))⟩
/-- The design is stored into the result's cell. -/
structure DesOut (w wr : World) (x v : Value) : Prop where
  c0 : (((wr.setCell ⟨w.heap.size, 0, none⟩ x).setCell ⟨w.heap.size, 1, none⟩ v)).cell? ⟨w.heap.size, 0, none⟩ = some x
  c1 : (((wr.setCell ⟨w.heap.size, 0, none⟩ x).setCell ⟨w.heap.size, 1, none⟩ v)).cell? ⟨w.heap.size, 1, none⟩ = some v
  below : Below w.heap.size w (((wr.setCell ⟨w.heap.size, 0, none⟩ x).setCell ⟨w.heap.size, 1, none⟩ v))
theorem des_out {w wr : World} {a b : Value} (x v : Value) (h0 : wr.cell? ⟨w.heap.size, 0, none⟩ = some a) (h1 : wr.cell? ⟨w.heap.size, 1, none⟩ = some b) (hB : Below w.heap.size w wr) : DesOut w wr x v := by
  have k0 : (wr.setCell ⟨w.heap.size, 0, none⟩ x).cell? ⟨w.heap.size, 1, none⟩ = some b := (World.cell?_setCell_other _ _ _ _ (by simp)).trans h1
  exact ⟨(World.cell?_setCell_other _ _ _ _ (by simp)).trans (World.cell?_setCell_same _ _ _ h0), World.cell?_setCell_same _ _ _ k0, (hB.setCell (by simp) _).setCell (by simp) _⟩
end Go.Proofs.Ytnmkkflnehnioaa

/-! plane.Projective (42) at a size with at most 60 points: its lines. No condition. -/
namespace Go.Proofs.Ytnmkkflnehnioaa
open Go.RowKit
set_option maxRecDepth 100000

set_option maxHeartbeats 3200000 in
theorem proj_yes {k : Nat} (hk : k < 5) (w : World) : Calls Try.prog 42 #[.int .i64 (szN k)] w fun e w' => ∃ v, e = .returned (.tuple #[.agg #[.int .i64 ((allL k).length : Nat), v], .int .i64 0]) ∧ RowsOf w' w.heap.size v (allL k).length (lineL k) ∧ Below w.heap.size w w' := by
  have hk7 : k < 7 := by omega
  have hc := count_k k hk
  have h60 := sq60 hk
  have HO := Lib.hid (fun W => open_yes hk7 h60 W)
  obtain ⟨n, en⟩ : ∃ n, (allL k).length = n := ⟨_, rfl⟩
  have HEN := Lib.hid en
  rw [en]
  rw [en] at hc
  have hn60 : 0 < n ∧ n ≤ 60 := by omega
  clear hc h60 en
  go_enter Try.func42, Try.ntmps42
  go_wp2_with fail
  refine (HO.out _).mono ?_
  rintro e w1 ⟨s, f, mb, W0, rfl, B0, F, hMk⟩
  have hB1 := B0.trans (hMk.below.mono B0.size)
  have hsp := spAt_of F hMk (by rw [HEN.out]; omega)
  clear hMk F B0 HO
  have HSP := Lib.hid hsp
  obtain ⟨f0, ⟨g, c, c1, hg, hpt⟩, -⟩ := hsp
  rw [HEN.out] at c1 hpt
  have hsl : s < w1.heap.size := World.block_lt_of_cell? _ _ c1
  have hsd : ¬ s = w1.heap.size := by omega
  go_wp2_with fail
  obtain ⟨w2, hw2⟩ : ∃ w2, w1.alloc (.cells #[.int .i64 (n : Nat), .slice none 0 0] 48) = w2 := ⟨_, rfl⟩
  have hP0 : DM w1 w2 w1.heap.size n (lineL k) 0 := by
    rw [← hw2]
    exact ⟨(Below.refl _ _).alloc (Nat.le_refl _) _, .slice none 0 0, by simpa using heap_alloc_new w1 _, [], World.ownsRow_nil _ _ _ _, fun i hi => absurd hi (Nat.not_lt_zero _)⟩
  rw [hw2]
  clear hw2
  go_loopw [32] (fun v wr => ∃ i : Nat, i ≤ n ∧ v = .int .i64 i ∧ DM w1 wr w1.heap.size n (lineL k) i) (fun v _ => n - (intOf v).toNat)
  case atStart => exact ⟨0, by omega, rfl, hP0⟩
  case round =>
    obtain ⟨i, hi, rfl, hP⟩ := hrel
    by_cases hlt : i < n
    · obtain ⟨wp, rfl⟩ : ∃ wp : World, wp = wr := ⟨_, rfl⟩
      have sp1 := (hP.below.cell (p := ⟨s, 1, none⟩) hsl).trans c1
      have HPM := Lib.hid hP
      have t0 : wp.cell? ⟨g, i * 3, none⟩ = _ := (hP.below.cell (p := ⟨g, i * 3, none⟩) hg).trans (hpt i 0 hlt (by omega))
      have t1 := (hP.below.cell (p := ⟨g, i * 3 + 1, none⟩) hg).trans (hpt i 1 hlt (by omega))
      have t2 := (hP.below.cell (p := ⟨g, i * 3 + 2, none⟩) hg).trans (hpt i 2 hlt (by omega))
      have hsr : s < wp.heap.size := Nat.lt_of_lt_of_le hsl hP.below.size
      have hsr2 : ¬ s = wp.heap.size := by omega
      clear hP hP0
      go_wp2_with fail
      obtain ⟨wo, hwo⟩ : ∃ wo, wp.alloc (.cells #[.int .i64 (ptT k i 0), .int .i64 (ptT k i 1), .int .i64 (ptT k i 2)] 95) = wo := ⟨_, rfl⟩
      have q0 : wo.cell? ⟨wp.heap.size, 0, none⟩ = some (.int .i64 (ptT k i 0)) := by rw [← hwo]; simp [go_sem]
      have q1 : wo.cell? ⟨wp.heap.size, 1, none⟩ = some (.int .i64 (ptT k i 1)) := by rw [← hwo]; simp [go_sem]
      have q2 : wo.cell? ⟨wp.heap.size, 2, none⟩ = some (.int .i64 (ptT k i 2)) := by rw [← hwo]; simp [go_sem]
      have hbo : Below wp.heap.size wp wo := hwo ▸ (Below.refl _ _).alloc (Nat.le_refl _) _
      have hlo : wp.heap.size < wo.heap.size := by rw [← hwo]; simp
      rw [hwo]
      clear hwo
      go_loopw [9, 41] (fun v x wx => ∃ j : Nat, j ≤ n ∧ x = .int .i64 j ∧ wx.ownsRow wo.heap.size 3 1 v (lineTo k i j).length (natVals (lineTo k i j)) ∧ Below wo.heap.size wo wx) (fun _ x _ => n - (intOf x).toNat)
      case atStart => exact ⟨0, by omega, rfl, World.ownsRow_nil _ _ _ _, Below.refl _ _⟩
      case round =>
        obtain ⟨j, hj, rfl, ho, hbx⟩ := hrel
        have B3 : Below w1.heap.size w1 wr := HPM.out.below.trans ((hbo.trans (hbx.mono hbo.size)).mono HPM.out.below.size)
        by_cases hjt : j < n
        · have u0 : wr.cell? ⟨g, j * 3, none⟩ = _ := (B3.cell (p := ⟨g, j * 3, none⟩) hg).trans (hpt j 0 hjt (by omega))
          have u1 := (B3.cell (p := ⟨g, j * 3 + 1, none⟩) hg).trans (hpt j 1 hjt (by omega))
          have u2 := (B3.cell (p := ⟨g, j * 3 + 2, none⟩) hg).trans (hpt j 2 hjt (by omega))
          have q0' := (hbx.cell (p := ⟨wp.heap.size, 0, none⟩) hlo).trans q0
          have q1' := (hbx.cell (p := ⟨wp.heap.size, 1, none⟩) hlo).trans q1
          have q2' := (hbx.cell (p := ⟨wp.heap.size, 2, none⟩) hlo).trans q2
          have l1 : wp.heap.size < wr.heap.size := Nat.lt_of_lt_of_le hlo hbx.size
          have l2 : ¬ wp.heap.size = wr.heap.size := by omega
          have l3 : g < wr.heap.size := Nat.lt_of_lt_of_le hg B3.size
          have l4 : ¬ g = wr.heap.size := by omega
          go_wp2_with fail
          refine (dot_any hk7 s f _ ((f0.below B3).below ((Below.refl _ _).alloc (Nat.le_refl _) _)) (ptT k i) (ptT k j) (pt_lt hk7 (by rw [HEN.out]; exact hlt)) (pt_lt hk7 (by rw [HEN.out]; exact hjt))).mono ?_
          rintro e w5 ⟨rfl, B5⟩
          have ho5 := own_below (ho.alloc (.cells #[.int .i64 (ptT k j 0), .int .i64 (ptT k j 1), .int .i64 (ptT k j 2)] 95)) B5 (Nat.le_refl _)
          have hb5 : Below wo.heap.size wo w5 := (hbx.alloc hbx.size _).trans (B5.mono (Nat.le_trans hbx.size (by simp)))
          have hz5 := hb5.size
          have hle := lineTo_le k i j
          by_cases hd : dotTo k (ptT k i) (ptT k j) 3 = 0
          · have HD := Lib.hid hd
            rw [hd]
            clear hd
            go_wp2_with (first
              | (at_builtin; refine wpList_app3 _ rfl (.tmp 51) (.tmp 53) rfl wo.heap.size _ (lineTo k i j).length _ rfl (ho5.alloc _) ⟨w5.heap.size, 0, none⟩ _ _ rfl (by simp [go_sem]; rfl) rfl (by omega) (by simp; omega) ?_; intro v' w6 o6 g6 k6)
              | fail)
            go_roundw
            case rel =>
              refine ⟨j + 1, by omega, by go_num, ?_, (hb5.alloc hz5 _).grown g6 (by simp; omega) (fun b e => (ho5.lt b e).1)⟩
              have e1 : lineTo k i (j + 1) = lineTo k i j ++ [j] := by rw [lineTo, if_pos HD.out]
              rw [e1, List.length_append]
              have e2 : natVals (lineTo k i j ++ [j]) = natVals (lineTo k i j) ++ [.int .i64 (j : Nat)] := by simp [natVals]
              rw [e2]
              exact o6
            case measure => simp [intOf]; omega
          · have hdi : ¬ (dotTo k (ptT k i) (ptT k j) 3 : Int) = 0 := by omega
            have HD := Lib.hid hd
            clear hd
            go_wp2_with fail
            go_roundw
            case rel =>
              have e1 : lineTo k i (j + 1) = lineTo k i j := by rw [lineTo, if_neg HD.out]
              exact ⟨j + 1, by omega, by go_num, by rw [e1]; exact ho5, hb5⟩
            case measure => simp [intOf]; omega
        · obtain rfl : j = n := by omega
          obtain ⟨vd, hh, rows, ho38, hrows⟩ := HPM.out.heap
          obtain ⟨A, cd, rfl⟩ := own_slice ho38
          obtain ⟨A9, c9, rfl⟩ := own_slice ho
          have hbp : Below wp.heap.size wp wr := hbo.trans (hbx.mono hbo.size)
          have ho38' := own_below ho38 hbp (Nat.le_refl _)
          have hdl : w1.heap.size < wp.heap.size := lt_of_block hh
          have hhr := (hbp.block w1.heap.size hdl).trans hh
          have cd0 : wr.cell? ⟨w1.heap.size, 1, none⟩ = some (.slice A i cd) := by simp [World.cell?, hhr]
          have l5 : w1.heap.size < wr.heap.size := Nat.lt_of_lt_of_le hdl hbp.size
          have l6 : ¬ w1.heap.size = wr.heap.size := by omega
          go_wp2_with (first
            | (at_builtin; refine wpList_app38 _ rfl (.tmp 57) (.tmp 59) rfl (w1.heap.size + 1) _ i _ rfl (ho38'.alloc _) ⟨wr.heap.size, 0, none⟩ _ _ rfl (by simp [go_sem]; rfl) rfl (by omega) (by simp; omega) ?_; intro v' w6 o6 g6 k6; obtain ⟨A1, cc1, e1⟩ := own_slice o6; subst e1; obtain ⟨h6, d1, d2⟩ := after_app48 hhr g6 (fun b e => (ho38'.lt b e).1))
            | fail)
          go_wp2_with fail
          go_roundw
          case rel =>
            refine ⟨i + 1, by omega, by go_num, ?_⟩
            have eL : lineL k i = lineTo k i j := by rw [← HEN.out]; rfl
            exact DM.snoc (HPM.out.below.trans (hbp.mono (Nat.le_of_lt hdl))) hhr (own_below ho38 hbp (Nat.le_refl _)) (fun a ha => by obtain ⟨rv, r1, r2⟩ := hrows a ha; exact ⟨rv, r1, own_below r2 hbp (Nat.le_refl _)⟩) (by rw [eL]; exact ho) (by omega) o6 g6
          case measure => simp [intOf]; omega
    · obtain rfl : i = n := by omega
      obtain ⟨vd, hh, hrows⟩ := hP.heap
      obtain ⟨A, cd, rfl⟩ := own_slice hrows.choose_spec.1
      obtain ⟨d0, d1, -, -⟩ := cells2 hh
      have hq := hP.below
      obtain ⟨r0, r1, r2, r3, hBw⟩ := des_cells hB1
      have hwl := World.block_lt_of_cell? _ _ r0
      have e0 := (hq.cell (p := ⟨w.heap.size, 0, none⟩) hwl).trans r0
      have e1 := (hq.cell (p := ⟨w.heap.size, 1, none⟩) hwl).trans r1
      have e2 := (hq.frozen (p := ⟨w.heap.size, 0, none⟩) hwl).trans r2
      have e3 := (hq.frozen (p := ⟨w.heap.size, 1, none⟩) hwl).trans r3
      have hBr := hBw.trans (hq.mono hBw.size)
      have D := des_out (.int .i64 i) (.slice A i cd) e0 e1 hBr
      have hwl2 : w.heap.size < w1.heap.size + 1 := Nat.lt_succ_of_lt hwl
      clear r0 r1 r2 r3
      go_wp2_with fail
      (try simp only [Exit.inBlock, Exit.then])
      refine bodyPost_ret_by (results_des rfl _ _ w.heap.size _ _ (.int .i64 0) rfl rfl D.c0 D.c1) rfl ?_
      exact ⟨_, rfl, ((hrows.setCell hwl2 _).setCell hwl2 _).weaken (Nat.le_of_lt hwl2), D.below⟩
end Go.Proofs.Ytnmkkflnehnioaa

/-! plane.Affine (46): its lines at the five sizes with at most 60 points, and its errors. No condition. -/
namespace Go.Proofs.Ytnmkkflnehnioaa
open Go.RowKit
set_option maxRecDepth 100000

def affG (k i x : Nat) : Nat := if i < szN k * szN k then szN k * x + sumN k (prodN k (i / szN k) x) (i % szN k) else szN k * (i - szN k * szN k) + x
def affL (k i : Nat) : List Nat := (List.range (szN k)).map (affG k i)
theorem mapRange_succ (g : Nat → Nat) (n : Nat) : natVals ((List.range (n + 1)).map g) = natVals ((List.range n).map g) ++ [.int .i64 (g n : Nat)] := by simp [natVals, List.range_succ]
theorem affG_a {k m b x : Nat} (hm : m < szN k) (hb : b < szN k) : affG k (m * szN k + b) x = szN k * x + sumN k (prodN k m x) b := by
  have h : m * szN k + b < szN k * szN k := by
    have : (m + 1) * szN k ≤ szN k * szN k := Nat.mul_le_mul_right _ hm
    rw [Nat.succ_mul] at this
    omega
  unfold affG
  rw [if_pos h, Nat.add_comm (m * szN k), Nat.add_mul_div_right _ _ (by omega), Nat.add_mul_mod_self_right, Nat.div_eq_of_lt hb, Nat.mod_eq_of_lt hb, Nat.zero_add]
theorem affG_b {k j x : Nat} : affG k (szN k * szN k + j) x = szN k * j + x := by
  unfold affG
  rw [if_neg (by omega), Nat.add_sub_cancel_left]

set_option maxHeartbeats 1600000 in
theorem aff_no1 (q : Int) (hno : ∀ k, k < 7 → at0 sizes k ≠ q) (w : World) : Calls Try.prog 46 #[.int .i64 q] w fun e w' => e = .returned (.tuple #[.agg #[.int .i64 0, .slice none 0 0], .int .i64 1]) ∧ Below w.heap.size w w' := by
  have H := Lib.hid (new_no q hno)
  clear hno
  go_enter Try.func46, Try.ntmps46
  go_wp2_with fail
  refine (H.out _).mono ?_
  rintro e w1 ⟨rfl, B1⟩
  obtain ⟨c0, c1, g0, g1, hB⟩ := des_cells B1
  go_wp2_with fail
  (try simp only [Exit.inBlock, Exit.then])
  have D := des_out (.int .i64 0) (.slice none 0 0) c0 c1 hB
  refine bodyPost_ret_by (results_des rfl _ _ w.heap.size _ _ (.int .i64 1) rfl rfl D.c0 D.c1) rfl ?_
  exact ⟨rfl, D.below⟩
set_option maxHeartbeats 1600000 in
theorem aff_no2 (k : Nat) (hk : k < 7) (hg : 60 < szN k * szN k) (w : World) : Calls Try.prog 46 #[.int .i64 (szN k)] w fun e w' => e = .returned (.tuple #[.agg #[.int .i64 0, .slice none 0 0], .int .i64 7]) ∧ Below w.heap.size w w' := by
  have H := Lib.hid (new_k k hk)
  have hsz := (sz_facts k hk).2.1
  have hmul : (szN k : Int) * (szN k : Int) = ((szN k * szN k : Nat) : Int) := by push_cast; rfl
  have hle : szN k * szN k ≤ 81 := Nat.mul_le_mul hsz.2 hsz.2
  generalize szN k * szN k = Q at *
  go_enter Try.func46, Try.ntmps46
  go_wp2_with fail
  refine (H.out _).mono ?_
  rintro e w1 ⟨f, rfl, F, B1⟩
  obtain ⟨c0, c1, g0, g1, hB⟩ := des_cells B1
  clear F
  go_wp2_with fail
  (try simp only [Exit.inBlock, Exit.then])
  have D := des_out (.int .i64 0) (.slice none 0 0) c0 c1 hB
  refine bodyPost_ret_by (results_des rfl _ _ w.heap.size _ _ (.int .i64 7) rfl rfl D.c0 D.c1) rfl ?_
  exact ⟨rfl, D.below⟩

set_option maxHeartbeats 3200000 in
theorem aff_yes {k : Nat} (hk : k < 5) (w : World) : Calls Try.prog 46 #[.int .i64 (szN k)] w fun e w' => ∃ v, e = .returned (.tuple #[.agg #[.int .i64 ((szN k * szN k : Nat) : Int), v], .int .i64 0]) ∧ RowsOf w' w.heap.size v (szN k * szN k + szN k) (affL k) ∧ Below w.heap.size w w' := by
  have hk7 : k < 7 := by omega
  have hsz := (sz_facts k hk7).2.1
  have h60 := sq60 hk
  have hA := fun W f (F : NF W f k) a b => addK F a b
  have hM := fun W f (F : NF W f k) a b => mulK F a b
  have hG := fun a b ha hb => (tab_at (k := k) hk7 (a := a) (b := b) ha hb).2.2
  have hN := fun W => new_k k hk7 W
  have hLa := fun m b x (hm : m < szN k) (hb : b < szN k) => affG_a (k := k) (x := x) hm hb
  have hLb := fun j x => affG_b (k := k) (j := j) (x := x)
  have hL : ∀ i, affL k i = (List.range (szN k)).map (affG k i) := fun i => rfl
  generalize szN k = q at *
  have hmul : (q : Int) * (q : Int) = ((q * q : Nat) : Int) := by push_cast; rfl
  obtain ⟨Q, hQ⟩ : ∃ Q, q * q = Q := ⟨_, rfl⟩
  rw [hQ] at h60 hmul hLb ⊢
  have HQ := Lib.hid hQ
  have HA := Lib.hid hA
  have HM := Lib.hid hM
  have HG := Lib.hid hG
  have HN := Lib.hid hN
  have HLa := Lib.hid hLa
  have HLb := Lib.hid hLb
  have HL := Lib.hid hL
  clear hQ hA hM hG hN hLa hLb hL
  go_enter Try.func46, Try.ntmps46
  go_wp2_with fail
  refine (HN.out _).mono ?_
  rintro e w1 ⟨f, rfl, F, B1⟩
  have hf : f < w1.heap.size := World.block_lt_of_cell? _ _ F.c0
  have HF := Lib.hid F
  clear F
  go_wp2_with fail
  obtain ⟨w2, hw2⟩ : ∃ w2, w1.alloc (.cells #[.int .i64 (Q : Nat), .slice none 0 0] 48) = w2 := ⟨_, rfl⟩
  have hP0 : DM w1 w2 w1.heap.size Q (affL k) 0 := by
    rw [← hw2]
    exact ⟨(Below.refl _ _).alloc (Nat.le_refl _) _, .slice none 0 0, by simpa using heap_alloc_new w1 _, [], World.ownsRow_nil _ _ _ _, fun i hi => absurd hi (Nat.not_lt_zero _)⟩
  rw [hw2]
  clear hw2
  go_loopw [32] (fun v wr => ∃ m : Nat, m ≤ q ∧ v = .int .i64 m ∧ DM w1 wr w1.heap.size Q (affL k) (m * q)) (fun v _ => q - (intOf v).toNat)
  case atStart => exact ⟨0, by omega, rfl, by rw [Nat.zero_mul]; exact hP0⟩
  case round =>
    clear hP0
    obtain ⟨m, hm, rfl, hP⟩ := hrel
    by_cases hml : m < q
    · go_wp2_with fail
      go_loopw [36] (fun v wr => ∃ b : Nat, b ≤ q ∧ v = .int .i64 b ∧ DM w1 wr w1.heap.size Q (affL k) (m * q + b)) (fun v _ => q - (intOf v).toNat)
      case atStart => exact ⟨0, by omega, rfl, hP⟩
      case round =>
        clear hP
        obtain ⟨b, hb, rfl, hP⟩ := hrel
        by_cases hbl : b < q
        · obtain ⟨wp, rfl⟩ : ∃ wp : World, wp = wr := ⟨_, rfl⟩
          have HPM := Lib.hid hP
          clear hP
          go_wp2_with fail
          go_loopw [9, 40] (fun v xv wx => ∃ x : Nat, x ≤ q ∧ xv = .int .i64 x ∧ wx.ownsRow wp.heap.size 3 1 v x (natVals ((List.range x).map (affG k (m * q + b)))) ∧ Below wp.heap.size wp wx) (fun _ x _ => q - (intOf x).toNat)
          case atStart => exact ⟨0, by omega, rfl, World.ownsRow_nil _ _ _ _, Below.refl _ _⟩
          case round =>
            obtain ⟨x, hx, rfl, ho, hbx⟩ := hrel
            by_cases hxl : x < q
            · have B3 : Below w1.heap.size w1 wr := HPM.out.below.trans (hbx.mono HPM.out.below.size)
              have F3 : NF wr f k := HF.out.below B3
              have C1 := Lib.hid (HM.out wr f F3 m x hml hxl)
              have hp2 := (HG.out m x hml hxl).2
              have C2 := Lib.hid (HA.out wr f F3 (prodN k m x) b hp2 hbl)
              have hs2 := (HG.out (prodN k m x) b hp2 hbl).1
              have HV := Lib.hid (HLa.out m b x hml hbl)
              obtain ⟨X, eX⟩ : ∃ X, q * x = X := ⟨_, rfl⟩
              have hqx : (q : Int) * (x : Int) = (X : Int) := by rw [← eX]; push_cast; rfl
              have hX81 : X ≤ 9 * 9 := by rw [← eX]; exact Nat.mul_le_mul (by omega) (by omega)
              have HE := Lib.hid eX
              have HF3 := Lib.hid F3
              have hzx := hbx.size
              obtain ⟨p, ep⟩ : ∃ p, prodN k m x = p := ⟨_, rfl⟩
              rw [ep] at C1 C2 hp2 hs2 HV
              obtain ⟨s, es⟩ : ∃ s, sumN k p b = s := ⟨_, rfl⟩
              rw [es] at C2 hs2 HV
              clear eX B3 F3 ep es
              go_wp2_with (first
                | (go_at_call 28; refine C1.out.mono ?_; rintro e w' ⟨rfl, rfl⟩)
                | (go_at_call 27; refine C2.out.mono ?_; rintro e w' ⟨rfl, rfl⟩)
                | (at_builtin; refine wpList_app3 _ rfl (.tmp 43) (.tmp 55) rfl wp.heap.size _ x _ rfl (ho.alloc _) ⟨wr.heap.size, 0, none⟩ _ _ rfl (by simp [go_sem]; rfl) rfl (by omega) (by simp; omega) ?_; intro v' w6 o6 g6 k6)
                | fail)
              go_roundw
              case rel =>
                refine ⟨x + 1, by omega, by go_num, ?_, (hbx.alloc hzx _).grown g6 (by simp; omega) (fun b e => (ho.lt b e).1)⟩
                rw [mapRange_succ, HV.out, HE.out]
                first | exact o6 | (push_cast; exact o6)
              case measure => simp [intOf]; omega
            · obtain rfl : x = q := by omega
              obtain ⟨vd, hh, rows, ho38, hrows⟩ := HPM.out.heap
              obtain ⟨A, cd, rfl⟩ := own_slice ho38
              obtain ⟨A9, c9, rfl⟩ := own_slice ho
              have ho38' := own_below ho38 hbx (Nat.le_refl _)
              have hdl : w1.heap.size < wp.heap.size := lt_of_block hh
              have hhr := (hbx.block w1.heap.size hdl).trans hh
              have cd0 : wr.cell? ⟨w1.heap.size, 1, none⟩ = some (.slice A (m * x + b) cd) := by simp [World.cell?, hhr]
              have l5 : w1.heap.size < wr.heap.size := Nat.lt_of_lt_of_le hdl hbx.size
              have l6 : ¬ w1.heap.size = wr.heap.size := by omega
              have hi81 : m * x ≤ 9 * 9 := Nat.mul_le_mul (by omega) (by omega)
              go_wp2_with (first
                | (at_builtin; refine wpList_app38 _ rfl (.tmp 59) (.tmp 61) rfl (w1.heap.size + 1) _ (m * x + b) _ rfl (ho38'.alloc _) ⟨wr.heap.size, 0, none⟩ _ _ rfl (by simp [go_sem]; rfl) rfl (by omega) (by simp; omega) ?_; intro v' w6 o6 g6 k6; obtain ⟨A1, cc1, e1⟩ := own_slice o6; subst e1; obtain ⟨h6, d1, d2⟩ := after_app48 hhr g6 (fun b e => (ho38'.lt b e).1))
                | fail)
              go_wp2_with fail
              go_roundw
              case rel =>
                refine ⟨b + 1, by omega, by go_num, ?_⟩
                rw [← Nat.add_assoc]
                have hlen : (affL k (m * x + b)).length = x := by rw [HL.out]; simp
                exact DM.snoc (HPM.out.below.trans (hbx.mono (Nat.le_of_lt hdl))) hhr (own_below ho38 hbx (Nat.le_refl _)) (fun a ha => by obtain ⟨rv, r1, r2⟩ := hrows a ha; exact ⟨rv, r1, own_below r2 hbx (Nat.le_refl _)⟩) (by rw [hlen, HL.out]; exact ho) (by omega) o6 g6
              case measure => simp [intOf]; omega
        · obtain rfl : b = q := by omega
          go_wp2_with fail
          go_roundw
          case rel => exact ⟨m + 1, by omega, by go_num, by rw [Nat.succ_mul]; exact hP⟩
          case measure => simp [intOf]; omega
    · obtain rfl : m = q := by omega
      rw [HQ.out] at hP
      go_wp2_with fail
      go_loopw [67] (fun v wr => ∃ b : Nat, b ≤ m ∧ v = .int .i64 b ∧ DM w1 wr w1.heap.size Q (affL k) (Q + b)) (fun v _ => m - (intOf v).toNat)
      case atStart => exact ⟨0, by omega, rfl, hP⟩
      case round =>
        clear hP
        obtain ⟨b, hb, rfl, hP⟩ := hrel
        by_cases hbl : b < m
        · obtain ⟨wp, rfl⟩ : ∃ wp : World, wp = wr := ⟨_, rfl⟩
          have HPM := Lib.hid hP
          clear hP
          go_wp2_with fail
          go_loopw [12, 71] (fun v xv wx => ∃ x : Nat, x ≤ m ∧ xv = .int .i64 x ∧ wx.ownsRow wp.heap.size 3 1 v x (natVals ((List.range x).map (affG k (Q + b)))) ∧ Below wp.heap.size wp wx) (fun _ x _ => m - (intOf x).toNat)
          case atStart => exact ⟨0, by omega, rfl, World.ownsRow_nil _ _ _ _, Below.refl _ _⟩
          case round =>
            obtain ⟨x, hx, rfl, ho, hbx⟩ := hrel
            by_cases hxl : x < m
            · have HV := Lib.hid (HLb.out b x)
              obtain ⟨X, eX⟩ : ∃ X, m * b = X := ⟨_, rfl⟩
              have hqx : (m : Int) * (b : Int) = (X : Int) := by rw [← eX]; push_cast; rfl
              have hX81 : X ≤ 9 * 9 := by rw [← eX]; exact Nat.mul_le_mul (by omega) (by omega)
              have HE := Lib.hid eX
              have hzx := hbx.size
              clear eX
              go_wp2_with (first
                | (at_builtin; refine wpList_app3 _ rfl (.tmp 74) (.tmp 80) rfl wp.heap.size _ x _ rfl (ho.alloc _) ⟨wr.heap.size, 0, none⟩ _ _ rfl (by simp [go_sem]; rfl) rfl (by omega) (by simp; omega) ?_; intro v' w6 o6 g6 k6)
                | fail)
              go_roundw
              case rel =>
                refine ⟨x + 1, by omega, by go_num, ?_, (hbx.alloc hzx _).grown g6 (by simp; omega) (fun b e => (ho.lt b e).1)⟩
                rw [mapRange_succ, HV.out, HE.out]
                first | exact o6 | (push_cast; exact o6)
              case measure => simp [intOf]; omega
            · obtain rfl : x = m := by omega
              obtain ⟨vd, hh, rows, ho38, hrows⟩ := HPM.out.heap
              obtain ⟨A, cd, rfl⟩ := own_slice ho38
              obtain ⟨A9, c9, rfl⟩ := own_slice ho
              have ho38' := own_below ho38 hbx (Nat.le_refl _)
              have hdl : w1.heap.size < wp.heap.size := lt_of_block hh
              have hhr := (hbx.block w1.heap.size hdl).trans hh
              have cd0 : wr.cell? ⟨w1.heap.size, 1, none⟩ = some (.slice A (Q + b) cd) := by simp [World.cell?, hhr]
              have l5 : w1.heap.size < wr.heap.size := Nat.lt_of_lt_of_le hdl hbx.size
              have l6 : ¬ w1.heap.size = wr.heap.size := by omega
              go_wp2_with (first
                | (at_builtin; refine wpList_app38 _ rfl (.tmp 84) (.tmp 86) rfl (w1.heap.size + 1) _ (Q + b) _ rfl (ho38'.alloc _) ⟨wr.heap.size, 0, none⟩ _ _ rfl (by simp [go_sem]; rfl) rfl (by omega) (by simp; omega) ?_; intro v' w6 o6 g6 k6; obtain ⟨A1, cc1, e1⟩ := own_slice o6; subst e1; obtain ⟨h6, d1, d2⟩ := after_app48 hhr g6 (fun b e => (ho38'.lt b e).1))
                | fail)
              go_wp2_with fail
              go_roundw
              case rel =>
                refine ⟨b + 1, by omega, by go_num, ?_⟩
                rw [← Nat.add_assoc]
                have hlen : (affL k (Q + b)).length = x := by rw [HL.out]; simp
                exact DM.snoc (HPM.out.below.trans (hbx.mono (Nat.le_of_lt hdl))) hhr (own_below ho38 hbx (Nat.le_refl _)) (fun a ha => by obtain ⟨rv, r1, r2⟩ := hrows a ha; exact ⟨rv, r1, own_below r2 hbx (Nat.le_refl _)⟩) (by rw [hlen, HL.out]; exact ho) (by omega) o6 g6
              case measure => simp [intOf]; omega
        · obtain rfl : b = m := by omega
          obtain ⟨vd, hh, hrows⟩ := hP.heap
          obtain ⟨A, cd, rfl⟩ := own_slice hrows.choose_spec.1
          obtain ⟨d0, d1, -, -⟩ := cells2 hh
          have hq := hP.below
          obtain ⟨r0, r1, r2, r3, hBw⟩ := des_cells B1
          have hwl := World.block_lt_of_cell? _ _ r0
          have e0 := (hq.cell (p := ⟨w.heap.size, 0, none⟩) hwl).trans r0
          have e1 := (hq.cell (p := ⟨w.heap.size, 1, none⟩) hwl).trans r1
          have e2 := (hq.frozen (p := ⟨w.heap.size, 0, none⟩) hwl).trans r2
          have e3 := (hq.frozen (p := ⟨w.heap.size, 1, none⟩) hwl).trans r3
          have hBr := hBw.trans (hq.mono hBw.size)
          have D := des_out (.int .i64 Q) (.slice A (Q + b) cd) e0 e1 hBr
          have hwl2 : w.heap.size < w1.heap.size + 1 := Nat.lt_succ_of_lt hwl
          clear r0 r1 r2 r3
          go_wp2_with fail
          (try simp only [Exit.inBlock, Exit.then])
          refine bodyPost_ret_by (results_des rfl _ _ w.heap.size _ _ (.int .i64 0) rfl rfl D.c0 D.c1) rfl ?_
          exact ⟨_, rfl, ((hrows.setCell hwl2 _).setCell hwl2 _).weaken (Nat.le_of_lt hwl2), D.below⟩
end Go.Proofs.Ytnmkkflnehnioaa

/-! Reading rows and designs; the reference's Has (51), Common (49), Same (44) at equal designs. Condition: the rows are not empty. -/
namespace Go.Proofs.Ytnmkkflnehnioaa
open Go.RowKit
set_option maxRecDepth 100000

/-- A row of numbers that can be read. -/
def RRow (w : World) (v : Value) (l : List Nat) : Prop := ∃ r c, v = .slice (some ⟨r, 0, none⟩) l.length c ∧ l.length ≤ c ∧ ∀ j x, l[j]? = some x → w.cell? ⟨r, j, none⟩ = some (.int .i64 (x : Nat))
/-- Rows of numbers that can be read. -/
def RRows (w : World) (v : Value) (a : Nat) (L : Nat → List Nat) : Prop := ∃ g c, v = .slice (some ⟨g, 0, none⟩) a c ∧ a ≤ c ∧ ∀ i, i < a → ∃ rv, w.cell? ⟨g, i, none⟩ = some rv ∧ RRow w rv (L i)
theorem RRow.below {w w' : World} {v : Value} {l : List Nat} (h : RRow w v l) (hb : Below w.heap.size w w') : RRow w' v l := by
  obtain ⟨r, c, rfl, hc, h⟩ := h
  exact ⟨r, c, rfl, hc, fun j x hx => (hb.cell (p := ⟨r, j, none⟩) (World.block_lt_of_cell? _ _ (h j x hx))).trans (h j x hx)⟩
theorem RRows.below {w w' : World} {v : Value} {a : Nat} {L : Nat → List Nat} (h : RRows w v a L) (hb : Below w.heap.size w w') : RRows w' v a L := by
  obtain ⟨g, c, rfl, hc, h⟩ := h
  refine ⟨g, c, rfl, hc, fun i hi => ?_⟩
  obtain ⟨rv, h1, h2⟩ := h i hi
  exact ⟨rv, (hb.cell (p := ⟨g, i, none⟩) (World.block_lt_of_cell? _ _ h1)).trans h1, h2.below hb⟩
theorem RRow.of_own {w : World} {base : Nat} {v : Value} {l : List Nat} (h : w.ownsRow base 3 1 v l.length (natVals l)) (hl : 0 < l.length) : RRow w v l := by
  obtain ⟨r, c, rfl⟩ := own_form h hl
  refine ⟨r, c, rfl, own_cap h, fun j x hx => own_cell h ?_⟩
  simp [natVals, hx]
theorem RowsOf.read {w : World} {base : Nat} {v : Value} {a : Nat} {L : Nat → List Nat} (h : RowsOf w base v a L) (ha : 0 < a) (hl : ∀ i, i < a → 0 < (L i).length) : RRows w v a L := by
  obtain ⟨rows, ho, hr⟩ := h
  obtain ⟨g, c, rfl⟩ := own_form ho ha
  refine ⟨g, c, rfl, own_cap ho, fun i hi => ?_⟩
  obtain ⟨rv, h1, h2⟩ := hr i hi
  exact ⟨rv, own_cell ho h1, RRow.of_own h2 (hl i hi)⟩
theorem RRows.take {w : World} {g c a b : Nat} {L : Nat → List Nat} (h : RRows w (.slice (some ⟨g, 0, none⟩) a c) a L) (hb : b ≤ a) : RRows w (.slice (some ⟨g, 0, none⟩) b c) b L := by
  obtain ⟨g', c', e, hc, h⟩ := h
  cases e
  exact ⟨g, c, rfl, by omega, fun i hi => h i (by omega)⟩

set_option maxHeartbeats 1600000 in
theorem has_any (l : List Nat) (hl : l.length < 2000000000) (n : Nat) (w : World) (v : Value) (hv : RRow w v l) : Calls Try.prog 51 #[v, .int .i64 n] w fun e w' => e = .returned (.bool (l.contains n)) ∧ w = w' := by
  obtain ⟨r, c, rfl, hc, h⟩ := hv
  have H := Lib.hid h
  clear h
  obtain ⟨m, em⟩ : ∃ m, l.length = m := ⟨_, rfl⟩
  have HM := Lib.hid em
  rw [em] at hl hc ⊢
  clear em
  go_enter Try.func51, Try.ntmps51
  go_wp2_with fail
  go_loopw [5] (fun x wr => ∃ i : Nat, i ≤ m ∧ x = .int .i64 i ∧ (∀ j, j < i → l[j]? ≠ some n) ∧ wr = w) (fun x _ => m - (intOf x).toNat)
  case atStart => exact ⟨0, by omega, rfl, fun j hj => absurd hj (Nat.not_lt_zero _), rfl⟩
  case round =>
    obtain ⟨i, hi, rfl, hno, rfl⟩ := hrel
    by_cases hil : i < m
    · obtain ⟨x, hx⟩ : ∃ x, l[i]? = some x := ⟨l[i]'(by rw [HM.out]; exact hil), List.getElem?_eq_getElem _⟩
      have hcx := H.out i x hx
      have HX := Lib.hid hx
      have HNO := Lib.hid hno
      clear hx hno
      by_cases hxn : x = n
      · subst hxn
        go_wp2_with fail
        go_ret
        have : l.contains x = true := List.contains_iff_mem.2 (List.mem_of_getElem? HX.out)
        exact ⟨by rw [this]; rfl, rfl⟩
      · have hxi : ¬ (x : Int) = (n : Int) := by omega
        have HXN := Lib.hid hxn
        clear hxn
        go_wp2_with fail
        go_roundw
        case rel =>
          refine ⟨i + 1, by omega, by go_num, fun j hj => ?_, by trivial⟩
          by_cases hji : j < i
          · exact HNO.out j hji
          · obtain rfl : j = i := by omega
            rw [HX.out]
            exact fun e => HXN.out (Option.some.inj e)
        case measure => simp [intOf]; omega
    · obtain rfl : i = m := by omega
      have HNO := Lib.hid hno
      clear hno
      go_wp2_with fail
      go_ret
      have : l.contains n = false := by
        rw [← Bool.not_eq_true, List.contains_iff_mem]
        intro hm
        obtain ⟨j, hj, e⟩ := List.getElem_of_mem hm
        exact HNO.out j (by rw [← HM.out]; exact hj) (by rw [List.getElem?_eq_getElem hj, e])
      exact ⟨by rw [this]; rfl, rfl⟩

theorem commonTo_len (a b : List Nat) (i : Nat) : ((a.take i).filter b.contains).length ≤ i := by
  have := List.length_filter_le b.contains (a.take i)
  have := List.length_take_le i a
  omega
set_option maxHeartbeats 1600000 in
theorem common_any (a b : List Nat) (hla : a.length < 2000000000) (hlb : b.length < 2000000000) (w : World) (v u : Value) (hv : RRow w v a) (hu : RRow w u b) : Calls Try.prog 49 #[v, u] w fun e w' => ∃ y, e = .returned y ∧ w'.ownsRow w.heap.size 3 1 y (a.filter b.contains).length (natVals (a.filter b.contains)) ∧ Below w.heap.size w w' := by
  have HU := Lib.hid (And.intro hu hlb)
  clear hlb
  obtain ⟨r, c, rfl, hc, h⟩ := hv
  obtain ⟨r2, c2, rfl, hc2, -⟩ := hu
  have H := Lib.hid h
  clear h
  obtain ⟨m, em⟩ : ∃ m, a.length = m := ⟨_, rfl⟩
  have HM := Lib.hid em
  rw [em] at hla hc ⊢
  clear em
  go_enter Try.func49, Try.ntmps49
  go_wp2_with fail
  go_loopw [5, 6] (fun v x wr => ∃ i : Nat, i ≤ m ∧ x = .int .i64 i ∧ wr.ownsRow w.heap.size 3 1 v ((a.take i).filter b.contains).length (natVals ((a.take i).filter b.contains)) ∧ Below w.heap.size w wr) (fun _ x _ => m - (intOf x).toNat)
  case atStart => exact ⟨0, by omega, rfl, World.ownsRow_nil _ _ _ _, Below.refl _ _⟩
  case round =>
    obtain ⟨i, hi, rfl, ho, hb⟩ := hrel
    by_cases hil : i < m
    · obtain ⟨x, hx⟩ : ∃ x, a[i]? = some x := ⟨a[i]'(by rw [HM.out]; exact hil), List.getElem?_eq_getElem _⟩
      have hx0 := H.out i x hx
      have hcx := (hb.cell (p := ⟨r, i, none⟩) (World.block_lt_of_cell? _ _ hx0)).trans hx0
      have HT : Hid (a.take (i + 1) = a.take i ++ [x]) := Lib.hid (by rw [List.take_add_one, hx]; rfl)
      have HB := Lib.hid (has_any b HU.out.2 x wr _ (HU.out.1.below hb))
      have hz := hb.size
      have hlen := commonTo_len a b i
      have hrn : ¬ r = wr.heap.size := by have := World.block_lt_of_cell? _ _ hcx; simp only at this; omega
      have hrl : r < wr.heap.size := World.block_lt_of_cell? _ _ hcx
      clear hx hx0
      cases hbx : b.contains x
      · have HF := Lib.hid hbx
        rw [hbx] at HB
        clear hbx
        go_wp2_with (first | (go_at_call 51; refine HB.out.mono ?_; rintro e w' ⟨rfl, rfl⟩) | fail)
        go_roundw
        case rel =>
          refine ⟨i + 1, by omega, by go_num, ?_, hb⟩
          have e : (a.take (i + 1)).filter b.contains = (a.take i).filter b.contains := by rw [HT.out, List.filter_append, show List.filter b.contains [x] = _ from (by unfold List.filter; rw [HF.out])]; simp
          rw [e]
          exact ho
        case measure => simp [intOf]; omega
      · have HF := Lib.hid hbx
        rw [hbx] at HB
        clear hbx
        go_wp2_with (first | (go_at_call 51; refine HB.out.mono ?_; rintro e w' ⟨rfl, rfl⟩) | (at_builtin; refine wpList_app3 _ rfl (.tmp 19) (.tmp 24) rfl w.heap.size _ _ _ rfl (ho.alloc _) ⟨wr.heap.size, 0, none⟩ _ _ rfl (by simp [go_sem]; rfl) rfl (by omega) (by simp; omega) ?_; intro v' w6 o6 g6 k6) | fail)
        go_roundw
        case rel =>
          refine ⟨i + 1, by omega, by go_num, ?_, (hb.alloc hz _).grown g6 (by simp; omega) (fun b e => (ho.lt b e).1)⟩
          have e : (a.take (i + 1)).filter b.contains = (a.take i).filter b.contains ++ [x] := by rw [HT.out, List.filter_append, show List.filter b.contains [x] = _ from (by unfold List.filter; rw [HF.out])]; simp
          have e2 : natVals ((a.take i).filter b.contains ++ [x]) = natVals ((a.take i).filter b.contains) ++ [.int .i64 (x : Nat)] := by simp [natVals]
          rw [e, List.length_append, e2]
          exact o6
        case measure => simp [intOf]; omega
    · obtain rfl : i = m := by omega
      have ht : a.take i = a := by rw [← HM.out]; exact List.take_length
      rw [ht] at ho
      go_wp2_with fail
      go_ret
      exact ⟨_, rfl, ho, hb⟩

set_option maxHeartbeats 1600000 in
theorem same_true (x : Int) (a : Nat) (L : Nat → List Nat) (ha : a < 2000000000) (hL : ∀ i, i < a → (L i).length < 2000000000) (w : World) (v u : Value) (hv : RRows w v a L) (hu : RRows w u a L) : Calls Try.prog 44 #[.agg #[.int .i64 x, v], .agg #[.int .i64 x, u]] w fun e w' => e = .returned (.bool true) ∧ Below w.heap.size w w' := by
  obtain ⟨g1, c1, rfl, hc1, h1⟩ := hv
  obtain ⟨g2, c2, rfl, hc2, h2⟩ := hu
  have H1 := Lib.hid h1
  have H2 := Lib.hid h2
  have HL := Lib.hid hL
  clear h1 h2 hL
  go_enter Try.func44, Try.ntmps44
  go_wp2_with fail
  obtain ⟨W, hW⟩ : ∃ W, (w.alloc (.cells #[.int .i64 x, .slice (some ⟨g1, 0, none⟩) a c1] 48)).alloc (.cells #[.int .i64 x, .slice (some ⟨g2, 0, none⟩) a c2] 48) = W := ⟨_, rfl⟩
  have B0 : Below w.heap.size w W := by rw [← hW]; exact ((Below.refl _ w).alloc (Nat.le_refl _) _).alloc (by simp) _
  have hs2 : W.heap.size = w.heap.size + 2 := by rw [← hW]; simp
  have b1 : W.cell? ⟨w.heap.size, 1, none⟩ = some (.slice (some ⟨g1, 0, none⟩) a c1) := by rw [← hW]; simp [go_sem]
  have b2 : W.cell? ⟨w.heap.size + 1, 1, none⟩ = some (.slice (some ⟨g2, 0, none⟩) a c2) := by rw [← hW]; simp [go_sem]
  (try rw [hW])
  clear hW
  go_loopw [5] (fun v wr => ∃ i : Nat, i ≤ a ∧ v = .int .i64 i ∧ Below W.heap.size W wr) (fun v _ => a - (intOf v).toNat)
  case atStart => exact ⟨0, by omega, rfl, Below.refl _ _⟩
  case round =>
    obtain ⟨i, hi, rfl, hb⟩ := hrel
    have p1 : wr.cell? ⟨w.heap.size, 1, none⟩ = some (.slice (some ⟨g1, 0, none⟩) a c1) := (hb.cell (p := ⟨w.heap.size, 1, none⟩) (by show w.heap.size < _; omega)).trans b1
    have p2 : wr.cell? ⟨w.heap.size + 1, 1, none⟩ = some (.slice (some ⟨g2, 0, none⟩) a c2) := (hb.cell (p := ⟨w.heap.size + 1, 1, none⟩) (by show w.heap.size + 1 < _; omega)).trans b2
    by_cases hil : i < a
    · obtain ⟨rv1, q1, r1, d1, e1, k1, m1⟩ := H1.out i hil
      obtain ⟨rv2, q2, r2, d2, e2, k2, m2⟩ := H2.out i hil
      subst e1 e2
      have hBw : Below w.heap.size w wr := B0.trans (hb.mono B0.size)
      have q1' := (hBw.cell (p := ⟨g1, i, none⟩) (World.block_lt_of_cell? _ _ q1)).trans q1
      have q2' := (hBw.cell (p := ⟨g2, i, none⟩) (World.block_lt_of_cell? _ _ q2)).trans q2
      have hn := HL.out i hil
      obtain ⟨n, en⟩ : ∃ n, (L i).length = n := ⟨_, rfl⟩
      have HEN := Lib.hid en
      rw [en] at q1' q2' k1 k2 hn
      have M1 := Lib.hid m1
      have M2 := Lib.hid m2
      have HB := Lib.hid hb
      obtain ⟨wo, rfl⟩ : ∃ wo : World, wo = wr := ⟨_, rfl⟩
      clear q1 q2 en m1 m2 hb b1 b2
      go_wp2_with fail
      go_region
      go_wp2_with fail
      go_loopw [6] (fun v wr => ∃ j : Nat, j ≤ n ∧ v = .int .i64 j ∧ Below wo.heap.size wo wr) (fun v _ => n - (intOf v).toNat)
      case atStart => exact ⟨0, by omega, rfl, (Below.refl _ _).drew⟩
      case round =>
        obtain ⟨j, hj, rfl, hb2⟩ := hrel
        have s1 := (hb2.cell (p := ⟨w.heap.size, 1, none⟩) (World.block_lt_of_cell? _ _ p1)).trans p1
        have s2 := (hb2.cell (p := ⟨w.heap.size + 1, 1, none⟩) (World.block_lt_of_cell? _ _ p2)).trans p2
        have t1 := (hb2.cell (p := ⟨g1, i, none⟩) (World.block_lt_of_cell? _ _ q1')).trans q1'
        have t2 := (hb2.cell (p := ⟨g2, i, none⟩) (World.block_lt_of_cell? _ _ q2')).trans q2'
        by_cases hjl : j < n
        · obtain ⟨y, hy⟩ : ∃ y, (L i)[j]? = some y := ⟨(L i)[j]'(by rw [HEN.out]; exact hjl), List.getElem?_eq_getElem _⟩
          have hBr := hBw.trans (hb2.mono hBw.size)
          have y1 := (hBr.cell (p := ⟨r1, j, none⟩) (World.block_lt_of_cell? _ _ (M1.out j y hy))).trans (M1.out j y hy)
          have y2 := (hBr.cell (p := ⟨r2, j, none⟩) (World.block_lt_of_cell? _ _ (M2.out j y hy))).trans (M2.out j y hy)
          clear hy hBr
          go_wp2_with fail
          go_region
          go_wp2_with fail
          go_roundw
          case rel => exact ⟨j + 1, by omega, by go_num, hb2.drew⟩
          case measure => simp [intOf]; omega
        · obtain rfl : j = n := by omega
          go_wp2_with fail
          go_roundw
          case rel => exact ⟨i + 1, by omega, by go_num, HB.out.trans (hb2.mono HB.out.size)⟩
          case measure => simp [intOf]; omega
    · obtain rfl : i = a := by omega
      go_wp2_with fail
      go_ret
      exact ⟨rfl, B0.trans (hb.mono B0.size)⟩
end Go.Proofs.Ytnmkkflnehnioaa

/-! The examples of chapter 06 (41) hold; the law's sizes (48). No condition. -/
namespace Go.Proofs.Ytnmkkflnehnioaa
open Go.RowKit
set_option maxRecDepth 100000

def lineT (k i : Nat) : List Nat := lineL k i
theorem line_len : ∀ k : Fin 5, ∀ i : Fin 57, i < (allT k).length → 0 < (lineL k i).length ∧ (lineL k i).length ≤ 8 := by decide +kernel
theorem line_pos {k i : Nat} (hk : k < 5) (hi : i < (allL k).length) : 0 < (lineL k i).length ∧ (lineL k i).length ≤ 8 := by
  rw [all_eq k hk] at hi
  have h : (allT k).length ≤ 57 := (by decide : ∀ k : Fin 5, (allT k).length ≤ 57) ⟨k, hk⟩
  exact line_len ⟨k, hk⟩ ⟨i, by omega⟩ hi
theorem aff_len (k i : Nat) : (affL k i).length = szN k := by simp [affL]

theorem proj_read {k : Nat} (hk : k < 5) {w : World} {base : Nat} {v : Value} (h : RowsOf w base v (allL k).length (lineL k)) : RRows w v (allL k).length (lineL k) :=
  h.read (by have := count_k k hk; omega) fun _ hi => (line_pos hk hi).1
theorem aff_read {k : Nat} (hk : k < 5) {w : World} {base : Nat} {v : Value} (h : RowsOf w base v (szN k * szN k + szN k) (affL k)) : RRows w v (szN k * szN k + szN k) (affL k) :=
  have hq : 0 < szN k := by have := (sz_facts k (by omega)).2.1; omega
  h.read (by omega) fun i _ => by rw [aff_len]; exact hq

theorem size48 (n : Nat) (hn : n ≤ 255) (w : World) : Calls Try.prog 48 #[.int .u8 n] w fun e w' => e = .returned (.int .i64 (szN (n % 5))) ∧ Below w.heap.size w w' := by
  have hlt : n % 5 < 5 := Nat.mod_lt _ (by omega)
  have ht : Int.tmod (n : Int) 5 = ((n % 5 : Nat) : Int) := rfl
  obtain ⟨k, ek⟩ : ∃ k, n % 5 = k := ⟨_, rfl⟩
  rw [ek] at ht hlt ⊢
  have h5 : k = 0 ∨ k = 1 ∨ k = 2 ∨ k = 3 ∨ k = 4 := by omega
  clear ek
  go_enter Try.func48, Try.ntmps48
  rcases h5 with rfl | rfl | rfl | rfl | rfl
  all_goals (
    go_wp2_with fail
    go_ret
    exact ⟨rfl, (Below.refl _ w).alloc (Nat.le_refl _) _⟩)

theorem row3 {w : World} {b x y z : Nat} (h0 : w.cell? ⟨b, 0, none⟩ = some (.int .i64 (x : Nat))) (h1 : w.cell? ⟨b, 1, none⟩ = some (.int .i64 (y : Nat))) (h2 : w.cell? ⟨b, 2, none⟩ = some (.int .i64 (z : Nat))) : RRow w (.slice (some ⟨b, 0, none⟩) 3 3) [x, y, z] :=
  ⟨b, 3, rfl, Nat.le_refl _, fun j u hu => by
    match j, hu with
    | 0, hu => simp at hu; subst hu; exact h0
    | 1, hu => simp at hu; subst hu; exact h1
    | 2, hu => simp at hu; subst hu; exact h2⟩
theorem row2 {w : World} {b x y : Nat} (h0 : w.cell? ⟨b, 0, none⟩ = some (.int .i64 (x : Nat))) (h1 : w.cell? ⟨b, 1, none⟩ = some (.int .i64 (y : Nat))) : RRow w (.slice (some ⟨b, 0, none⟩) 2 2) [x, y] :=
  ⟨b, 2, rfl, Nat.le_refl _, fun j u hu => by
    match j, hu with
    | 0, hu => simp at hu; subst hu; exact h0
    | 1, hu => simp at hu; subst hu; exact h1⟩
theorem line0 : lineL 0 0 = [1, 3, 5] ∧ lineL 0 1 = [0, 3, 4] ∧ lineL 0 2 = [2, 3, 6] := by decide +kernel
theorem aff0 : affL 0 0 = [0, 2] ∧ affL 0 1 = [1, 3] ∧ affL 0 2 = [0, 3] ∧ affL 0 3 = [1, 2] ∧ affL 0 4 = [0, 1] ∧ affL 0 5 = [2, 3] := by decide +kernel
theorem lit3 {w : World} {b b0 b1 b2 : Nat} (c0 : w.cell? ⟨b, 0, none⟩ = some (.slice (some ⟨b0, 0, none⟩) 3 3)) (c1 : w.cell? ⟨b, 1, none⟩ = some (.slice (some ⟨b1, 0, none⟩) 3 3)) (c2 : w.cell? ⟨b, 2, none⟩ = some (.slice (some ⟨b2, 0, none⟩) 3 3))
    (r0 : RRow w (.slice (some ⟨b0, 0, none⟩) 3 3) [1, 3, 5]) (r1 : RRow w (.slice (some ⟨b1, 0, none⟩) 3 3) [0, 3, 4]) (r2 : RRow w (.slice (some ⟨b2, 0, none⟩) 3 3) [2, 3, 6]) : RRows w (.slice (some ⟨b, 0, none⟩) 3 3) 3 (lineL 0) :=
  ⟨b, 3, rfl, Nat.le_refl _, fun i hi => by
    match i, hi with
    | 0, _ => exact ⟨_, c0, line0.1 ▸ r0⟩
    | 1, _ => exact ⟨_, c1, line0.2.1 ▸ r1⟩
    | 2, _ => exact ⟨_, c2, line0.2.2 ▸ r2⟩⟩
theorem lit6 {w : World} {b b0 b1 b2 b3 b4 b5 : Nat} (c0 : w.cell? ⟨b, 0, none⟩ = some (.slice (some ⟨b0, 0, none⟩) 2 2)) (c1 : w.cell? ⟨b, 1, none⟩ = some (.slice (some ⟨b1, 0, none⟩) 2 2)) (c2 : w.cell? ⟨b, 2, none⟩ = some (.slice (some ⟨b2, 0, none⟩) 2 2))
    (c3 : w.cell? ⟨b, 3, none⟩ = some (.slice (some ⟨b3, 0, none⟩) 2 2)) (c4 : w.cell? ⟨b, 4, none⟩ = some (.slice (some ⟨b4, 0, none⟩) 2 2)) (c5 : w.cell? ⟨b, 5, none⟩ = some (.slice (some ⟨b5, 0, none⟩) 2 2))
    (r0 : RRow w (.slice (some ⟨b0, 0, none⟩) 2 2) [0, 2]) (r1 : RRow w (.slice (some ⟨b1, 0, none⟩) 2 2) [1, 3]) (r2 : RRow w (.slice (some ⟨b2, 0, none⟩) 2 2) [0, 3])
    (r3 : RRow w (.slice (some ⟨b3, 0, none⟩) 2 2) [1, 2]) (r4 : RRow w (.slice (some ⟨b4, 0, none⟩) 2 2) [0, 1]) (r5 : RRow w (.slice (some ⟨b5, 0, none⟩) 2 2) [2, 3]) : RRows w (.slice (some ⟨b, 0, none⟩) 6 6) 6 (affL 0) :=
  ⟨b, 6, rfl, Nat.le_refl _, fun i hi => by
    match i, hi with
    | 0, _ => exact ⟨_, c0, aff0.1 ▸ r0⟩
    | 1, _ => exact ⟨_, c1, aff0.2.1 ▸ r1⟩
    | 2, _ => exact ⟨_, c2, aff0.2.2.1 ▸ r2⟩
    | 3, _ => exact ⟨_, c3, aff0.2.2.2.1 ▸ r3⟩
    | 4, _ => exact ⟨_, c4, aff0.2.2.2.2.1 ▸ r4⟩
    | 5, _ => exact ⟨_, c5, aff0.2.2.2.2.2 ▸ r5⟩⟩

set_option maxHeartbeats 3200000 in
theorem awake6 (w : World) : Calls Try.prog 41 #[] w fun e w' => e = .returned (.bool true) ∧ Below w.heap.size w w' := by
  have e7 : (allL 0).length = 7 := by rw [all_eq 0 (by omega)]; rfl
  have HP : Hid (∀ W, Calls Try.prog 42 #[.int .i64 2] W fun e w' => ∃ v, e = .returned (.tuple #[.agg #[.int .i64 7, v], .int .i64 0]) ∧ RRows w' v 7 (lineL 0) ∧ Below W.heap.size W w') := Lib.hid fun W => by
    have := proj_yes (k := 0) (by omega) W
    refine this.mono ?_
    rintro e w' ⟨v, rfl, h, hb⟩
    have h' := proj_read (by omega) h
    rw [e7] at h' ⊢
    exact ⟨v, rfl, h', hb⟩
  have HA : Hid (∀ W, Calls Try.prog 46 #[.int .i64 2] W fun e w' => ∃ v, e = .returned (.tuple #[.agg #[.int .i64 4, v], .int .i64 0]) ∧ RRows w' v 6 (affL 0) ∧ Below W.heap.size W w') := Lib.hid fun W => by
    have := aff_yes (k := 0) (by omega) W
    refine this.mono ?_
    rintro e w' ⟨v, rfl, h, hb⟩
    exact ⟨v, rfl, aff_read (k := 0) (by omega) h, hb⟩
  have HM : Hid (∀ W, Calls Try.prog 50 #[.int .i64 2, .int .i64 0, .int .i64 1] W (Pair W 3 0)) := Lib.hid fun W => by
    have em : meetN 0 0 1 = 3 := by decide +kernel
    have := meet_of (q := szN 0) (a := (0 : Nat)) (b := (1 : Nat)) (x := (meetN 0 0 1 : Nat)) (y := 0) (fun W => common_yes (k := 0) (by omega) (by rw [e7]; omega) (by rw [e7]; omega) (by omega) W) W
    rw [em] at this
    exact this
  clear e7
  go_enter Try.func41, Try.ntmps41
  go_wp2_with fail
  refine (HP.out _).mono ?_
  rintro e w1 ⟨v, rfl, hv, B1⟩
  obtain ⟨g, c, rfl, hc, hr⟩ := hv
  go_wp2_with fail
  refine (HA.out _).mono ?_
  rintro e w2 ⟨v2, rfl, hv2, B2⟩
  obtain ⟨g2, c2, rfl, hc2, hr2⟩ := hv2
  have hl1 : w1.heap.size < (w1.alloc (.cells #[.int .i64 7, .slice (some ⟨g, 0, none⟩) 7 c] 48)).heap.size := by simp
  have d0 : w2.cell? ⟨w1.heap.size, 0, none⟩ = some (.int .i64 7) := (B2.cell (p := ⟨w1.heap.size, 0, none⟩) hl1).trans (by simp [go_sem])
  have d1 : w2.cell? ⟨w1.heap.size, 1, none⟩ = some (.slice (some ⟨g, 0, none⟩) 7 c) := (B2.cell (p := ⟨w1.heap.size, 1, none⟩) hl1).trans (by simp [go_sem])
  have hq1 : RRows w2 (.slice (some ⟨g, 0, none⟩) 7 c) 7 (lineL 0) := (RRows.below ⟨g, c, rfl, hc, hr⟩ ((Below.refl _ w1).alloc (Nat.le_refl _) _)).below B2
  have hB2 : Below w.heap.size w w2 := (B1.alloc B1.size _).trans (B2.mono (Nat.le_trans B1.size (by simp)))
  have hq2 : RRows w2 (.slice (some ⟨g2, 0, none⟩) 6 c2) 6 (affL 0) := ⟨g2, c2, rfl, hc2, hr2⟩
  clear B1 B2 hr hr2 hl1
  go_wp2_with fail
  refine (HM.out _).mono ?_
  rintro e w3 ⟨rfl, B3⟩
  obtain ⟨wa, hwa⟩ : ∃ wa, w2.alloc (.cells #[.int .i64 4, .slice (some ⟨g2, 0, none⟩) 6 c2] 48) = wa := ⟨_, rfl⟩
  have ha : Below w2.heap.size w2 wa := hwa ▸ (Below.refl _ w2).alloc (Nat.le_refl _) _
  have a0 : wa.cell? ⟨w2.heap.size, 0, none⟩ = some (.int .i64 4) := by rw [← hwa]; simp [go_sem]
  have a1 : wa.cell? ⟨w2.heap.size, 1, none⟩ = some (.slice (some ⟨g2, 0, none⟩) 6 c2) := by rw [← hwa]; simp [go_sem]
  rw [hwa] at B3
  have hB3 := ha.trans (B3.mono ha.size)
  have d0 := (hB3.cell (p := ⟨w1.heap.size, 0, none⟩) (World.block_lt_of_cell? _ _ d0)).trans d0
  have d1 := (hB3.cell (p := ⟨w1.heap.size, 1, none⟩) (World.block_lt_of_cell? _ _ d1)).trans d1
  have a0 := (B3.cell (p := ⟨w2.heap.size, 0, none⟩) (World.block_lt_of_cell? _ _ a0)).trans a0
  have a1 := (B3.cell (p := ⟨w2.heap.size, 1, none⟩) (World.block_lt_of_cell? _ _ a1)).trans a1
  have HQ1 := Lib.hid (hq1.below hB3)
  have HQ2 := Lib.hid (hq2.below hB3)
  have HB := Lib.hid (hB2.trans (hB3.mono hB2.size))
  have l1 : w1.heap.size < w3.heap.size := World.block_lt_of_cell? _ _ d0
  have l2 : w2.heap.size < w3.heap.size := World.block_lt_of_cell? _ _ a0
  clear hq1 hq2 hB2 hB3 ha B3 hwa
  go_wp2_with fail
  obtain ⟨w4, hw4⟩ : ∃ w4, (((w3.alloc (.cells #[.int .i64 1, .int .i64 3, .int .i64 5] 3)).alloc (.cells #[.int .i64 0, .int .i64 3, .int .i64 4] 3)).alloc (.cells #[.int .i64 2, .int .i64 3, .int .i64 6] 3)).alloc
      (.cells #[.slice (some ⟨w3.heap.size, 0, none⟩) 3 3, .slice (some ⟨w3.heap.size + 1, 0, none⟩) 3 3, .slice (some ⟨w3.heap.size + 1 + 1, 0, none⟩) 3 3] 38) = w4 := ⟨_, rfl⟩
  have h4 : Below w3.heap.size w3 w4 := by rw [← hw4]; exact ((((Below.refl _ w3).alloc (Nat.le_refl _) _).alloc (by simp) _).alloc (by simp; omega) _).alloc (by simp; omega) _
  have hr4 : RRows w4 (.slice (some ⟨w3.heap.size + 1 + 1 + 1, 0, none⟩) 3 3) 3 (lineL 0) := by
    rw [← hw4]
    refine lit3 (b0 := w3.heap.size) (b1 := w3.heap.size + 1) (b2 := w3.heap.size + 1 + 1) ?_ ?_ ?_ (row3 ?_ ?_ ?_) (row3 ?_ ?_ ?_) (row3 ?_ ?_ ?_)
    all_goals (simp [go_sem])
  rw [hw4]
  clear hw4
  have HQ1' := (HQ1.out.take (b := 3) (by omega)).below h4
  refine (same_true 0 3 (lineL 0) (by omega) (fun i hi => by have := (line_pos (k := 0) (i := i) (by omega) (by have := count_k 0 (by omega); have : szN 0 = 2 := rfl; omega)).2; omega) w4 _ _ HQ1' hr4).mono ?_
  rintro e w5 ⟨rfl, B5⟩
  have hB5 := h4.trans (B5.mono h4.size)
  have a0 := (hB5.cell (p := ⟨w2.heap.size, 0, none⟩) l2).trans a0
  have a1 := (hB5.cell (p := ⟨w2.heap.size, 1, none⟩) l2).trans a1
  have HQ2' := Lib.hid (HQ2.out.below hB5)
  have HB5 := Lib.hid (HB.out.trans (hB5.mono HB.out.size))
  have l3 : w2.heap.size < w5.heap.size := Nat.lt_of_lt_of_le l2 hB5.size
  clear d0 d1 l1 l2 h4 hr4 HQ1' B5 hB5 HQ1 HQ2 HB
  go_wp2_with fail
  obtain ⟨w6, hw6⟩ : ∃ w6, ((((((w5.alloc (.cells #[.int .i64 0, .int .i64 2] 3)).alloc (.cells #[.int .i64 1, .int .i64 3] 3)).alloc (.cells #[.int .i64 0, .int .i64 3] 3)).alloc (.cells #[.int .i64 1, .int .i64 2] 3)).alloc (.cells #[.int .i64 0, .int .i64 1] 3)).alloc (.cells #[.int .i64 2, .int .i64 3] 3)).alloc
      (.cells #[.slice (some ⟨w5.heap.size, 0, none⟩) 2 2, .slice (some ⟨w5.heap.size + 1, 0, none⟩) 2 2, .slice (some ⟨w5.heap.size + 1 + 1, 0, none⟩) 2 2, .slice (some ⟨w5.heap.size + 1 + 1 + 1, 0, none⟩) 2 2, .slice (some ⟨w5.heap.size + 1 + 1 + 1 + 1, 0, none⟩) 2 2, .slice (some ⟨w5.heap.size + 1 + 1 + 1 + 1 + 1, 0, none⟩) 2 2] 38) = w6 := ⟨_, rfl⟩
  have h6 : Below w5.heap.size w5 w6 := by rw [← hw6]; exact (((((((Below.refl _ w5).alloc (Nat.le_refl _) _).alloc (by simp) _).alloc (by simp; omega) _).alloc (by simp; omega) _).alloc (by simp; omega) _).alloc (by simp; omega) _).alloc (by simp; omega) _
  have hr6 : RRows w6 (.slice (some ⟨w5.heap.size + 1 + 1 + 1 + 1 + 1 + 1, 0, none⟩) 6 6) 6 (affL 0) := by
    rw [← hw6]
    refine lit6 (b0 := w5.heap.size) (b1 := w5.heap.size + 1) (b2 := w5.heap.size + 1 + 1) (b3 := w5.heap.size + 1 + 1 + 1) (b4 := w5.heap.size + 1 + 1 + 1 + 1) (b5 := w5.heap.size + 1 + 1 + 1 + 1 + 1) ?_ ?_ ?_ ?_ ?_ ?_ (row2 ?_ ?_) (row2 ?_ ?_) (row2 ?_ ?_) (row2 ?_ ?_) (row2 ?_ ?_) (row2 ?_ ?_)
    all_goals (simp [go_sem])
  rw [hw6]
  clear hw6
  refine (same_true 4 6 (affL 0) (by omega) (fun i hi => by rw [aff_len]; have : szN 0 = 2 := rfl; omega) w6 _ _ (HQ2'.out.below h6) hr6).mono ?_
  rintro e w7 ⟨rfl, B7⟩
  have hB7 := HB5.out.trans ((h6.trans (B7.mono h6.size)).mono HB5.out.size)
  go_wp2_with fail
  go_ret
  exact ⟨rfl, hB7⟩
end Go.Proofs.Ytnmkkflnehnioaa
