/-
  design.formed (81), read through rows of whole numbers that may lie anywhere. No condition.
  design.Check (58). No condition.
  Balanced designs as lists, decided by masks. No condition.
  The designs of this seat that are balanced: small complete designs, and the planes. No condition.
  slices.Index (67), slices.Contains (82), design.Shared (62), few (57) and the reference's Has (51), read through rows of whole numbers that may lie anywhere. No condition.
-/
import Derived.Test.YtnmkkflnehnioaaGc
import Derived.Deep.WholeRow
import Derived.Test.YtnmkkflnehnioaaDa
/-! design.formed (81), read through rows of whole numbers that may lie anywhere. No condition. -/
namespace Go.Proofs.Ytnmkkflnehnioaa
open Go.RowKit
set_option maxRecDepth 100000

/-- A row of whole numbers that can be read. -/
def ZRow (w : World) (v : Value) (l : List Int) : Prop := ∃ r c, v = .slice r l.length c ∧ l.length < 4000000000 ∧ ∀ i x, l[i]? = some x → ∃ b o, r = some ⟨b, o, none⟩ ∧ w.cell? ⟨b, o + i, none⟩ = some (.int .i64 x)
/-- Rows of whole numbers that can be read. -/
def ZRows (w : World) (v : Value) (n : Nat) (L : Nat → List Int) : Prop := ∃ r c, v = .slice r n c ∧ n < 4000000000 ∧ ∀ i, i < n → ∃ b o x, r = some ⟨b, o, none⟩ ∧ w.cell? ⟨b, o + i, none⟩ = some x ∧ ZRow w x (L i)

theorem ZRow.below {w w' : World} {v : Value} {l : List Int} (h : ZRow w v l) (hb : Below w.heap.size w w') : ZRow w' v l := by
  obtain ⟨r, c, rfl, hl, h⟩ := h
  refine ⟨r, c, rfl, hl, fun i x hx => ?_⟩
  obtain ⟨b, o, e, hc⟩ := h i x hx
  exact ⟨b, o, e, (hb.cell (p := ⟨b, o + i, none⟩) (World.block_lt_of_cell? _ _ hc)).trans hc⟩
theorem ZRows.below {w w' : World} {v : Value} {n : Nat} {L : Nat → List Int} (h : ZRows w v n L) (hb : Below w.heap.size w w') : ZRows w' v n L := by
  obtain ⟨r, c, rfl, hl, h⟩ := h
  refine ⟨r, c, rfl, hl, fun i hi => ?_⟩
  obtain ⟨b, o, x, e, hc, hx⟩ := h i hi
  exact ⟨b, o, x, e, (hb.cell (p := ⟨b, o + i, none⟩) (World.block_lt_of_cell? _ _ hc)).trans hc, hx.below hb⟩

/-- A row as the design wants it: rising, within the disks. -/
def OkTo (D : Int) (l : List Int) (m : Nat) : Prop := ∀ i x, i < m → l[i]? = some x → 0 ≤ x ∧ x < D ∧ ∀ y, 0 < i → l[i - 1]? = some y → y < x
def Formed (D : Int) (n : Nat) (L : Nat → List Int) : Prop := 2 ≤ D ∧ D ≤ 60 ∧ 1 ≤ n ∧ n ≤ 4096 ∧ 2 ≤ (L 0).length ∧ ∀ g, g < n → (L g).length = (L 0).length ∧ OkTo D (L g) (L g).length

/-- A yes or no on a matter, and nothing else has changed. -/
def SaysK (p : Prop) (w : World) (e : Ending) (w' : World) : Prop := ∃ b : Bool, e = .returned (.bool b) ∧ (b = true ↔ p) ∧ Below w.heap.size w w'
theorem SaysK.no {p : Prop} {w w' : World} (h : ¬ p) (hb : Below w.heap.size w w') : SaysK p w (.returned (.bool false)) w' := ⟨false, rfl, ⟨fun h => absurd h (by decide), fun h2 => absurd h2 h⟩, hb⟩
theorem SaysK.yes {p : Prop} {w w' : World} (h : p) (hb : Below w.heap.size w w') : SaysK p w (.returned (.bool true)) w' := ⟨true, rfl, ⟨fun _ => h, fun _ => rfl⟩, hb⟩

theorem OkTo.step {D : Int} {l : List Int} {m : Nat} {x : Int} (h : OkTo D l m) (hx : l[m]? = some x) (h0 : 0 ≤ x) (hD : x < D) (hy : ∀ y, 0 < m → l[m - 1]? = some y → y < x) : OkTo D l (m + 1) := fun i y hi hy2 => by
  by_cases him : i < m
  · exact h i y him hy2
  · obtain rfl : i = m := by omega
    rw [hx] at hy2
    cases hy2
    exact ⟨h0, hD, hy⟩

set_option maxHeartbeats 6400000 in
theorem formed_any (D : Int) (n : Nat) (L : Nat → List Int) (w : World) (v : Value) (hv : ZRows w v n L) : Calls Try.prog 81 #[.agg #[.int .i64 D, v]] w (SaysK (Formed D n L) w) := by
  obtain ⟨r, c, rfl, hn, hr⟩ := hv
  have HR := Lib.hid hr
  clear hr
  by_cases h1 : D < 2
  · have t1 : decide (D < 2) = true := decide_eq_true h1
    go_enter Try.func81, Try.ntmps81
    go_wp2_with fail
    go_ret
    exact .no (fun h => absurd h.1 (by omega)) ((Below.refl _ w).alloc (Nat.le_refl _) _)
  have t1 : decide (D < 2) = false := decide_eq_false h1
  by_cases h2 : 60 < D
  · have t2 : decide (60 < D) = true := decide_eq_true h2
    go_enter Try.func81, Try.ntmps81
    go_wp2_with fail
    go_ret
    exact .no (fun h => absurd h.2.1 (by omega)) ((Below.refl _ w).alloc (Nat.le_refl _) _)
  have t2 : decide (60 < D) = false := decide_eq_false h2
  by_cases h3 : n < 1
  · have t3 : decide ((n : Int) < 1) = true := decide_eq_true (by omega)
    go_enter Try.func81, Try.ntmps81
    go_wp2_with fail
    go_ret
    exact .no (fun h => absurd h.2.2.1 (by omega)) ((Below.refl _ w).alloc (Nat.le_refl _) _)
  have t3 : decide ((n : Int) < 1) = false := decide_eq_false (by omega)
  by_cases h4 : 4096 < n
  · have t4 : decide (4096 < (n : Int)) = true := decide_eq_true (by omega)
    go_enter Try.func81, Try.ntmps81
    go_wp2_with fail
    go_ret
    exact .no (fun h => absurd h.2.2.2.1 (by omega)) ((Below.refl _ w).alloc (Nat.le_refl _) _)
  have t4 : decide (4096 < (n : Int)) = false := decide_eq_false (by omega)
  obtain ⟨b, o, x0, rfl, hx0, r0, k0, rfl, hl0, -⟩ := HR.out 0 (by omega)
  obtain ⟨m, em⟩ : ∃ m, (L 0).length = m := ⟨_, rfl⟩
  have HEM := Lib.hid em
  rw [em] at hx0 hl0
  have hx0' : (w.alloc (.cells #[.int .i64 D, .slice (some ⟨b, o, none⟩) n c] 48)).cell? ⟨b, o, none⟩ = some (.slice r0 m k0) := (World.cell?_of_block (Below.heap_alloc _ _ _ (World.block_lt_of_cell? _ _ hx0))).trans hx0
  have hbl := World.block_lt_of_cell? _ _ hx0
  have hbl : b < w.heap.size := hbl
  clear em hx0
  have h3' : 0 < n := by omega
  by_cases h5 : m < 2
  · have t5 : decide ((m : Int) < 2) = true := decide_eq_true (by omega)
    go_enter Try.func81, Try.ntmps81
    go_wp2_with fail
    go_ret
    exact .no (fun h => absurd h.2.2.2.2.1 (by rw [HEM.out]; omega)) ((Below.refl _ w).alloc (Nat.le_refl _) _)
  have t5 : decide ((m : Int) < 2) = false := decide_eq_false (by omega)
  go_enter Try.func81, Try.ntmps81
  go_wp2_with fail
  obtain ⟨W, hW⟩ : ∃ W, w.alloc (.cells #[.int .i64 D, .slice (some ⟨b, o, none⟩) n c] 48) = W := ⟨_, rfl⟩
  have B0 : Below w.heap.size w W := by rw [← hW]; exact (Below.refl _ w).alloc (Nat.le_refl _) _
  have d0 : W.cell? ⟨w.heap.size, 0, none⟩ = some (.int .i64 D) := by rw [← hW]; simp [go_sem]
  have d1 : W.cell? ⟨w.heap.size, 1, none⟩ = some (.slice (some ⟨b, o, none⟩) n c) := by rw [← hW]; simp [go_sem]
  rw [hW] at hx0' ⊢
  clear hW
  have HB := Lib.hid B0
  clear B0
  go_loopw [38] (fun v wr => ∃ i : Nat, i ≤ n ∧ v = .int .i64 i ∧ W = wr ∧ ∀ g, g < i → (L g).length = m ∧ OkTo D (L g) (L g).length) (fun v _ => n - (intOf v).toNat)
  case atStart => exact ⟨0, by omega, rfl, rfl, fun g hg => absurd hg (Nat.not_lt_zero _)⟩
  case round =>
    obtain ⟨i, hi, rfl, rfl, hok⟩ := hrel
    have HOK := Lib.hid hok
    clear hok
    by_cases hil : i < n
    · obtain ⟨b', o', x, e, hx, r1, k1, rfl, hl1, hr1⟩ := HR.out i hil
      obtain ⟨rfl, rfl⟩ : b = b' ∧ o = o' := by cases e; exact ⟨rfl, rfl⟩
      have HR1 := Lib.hid hr1
      clear hr1 e
      have hx' := (HB.out.cell (p := ⟨b, o + i, none⟩) hbl).trans hx
      clear hx
      obtain ⟨m1, em1⟩ : ∃ m1, (L i).length = m1 := ⟨_, rfl⟩
      have HEM1 := Lib.hid em1
      rw [em1] at hx' hl1
      clear em1
      by_cases hm : m1 = m
      · have t6 : ((m1 : Int) != (m : Int)) = false := by rw [hm]; simp
        have HM := Lib.hid hm
        clear hm
        go_wp2_with fail
        go_loopw [52] (fun v wr => ∃ j : Nat, j ≤ m1 ∧ v = .int .i64 j ∧ W = wr ∧ OkTo D (L i) j) (fun v _ => m1 - (intOf v).toNat)
        case atStart => exact ⟨0, by omega, rfl, rfl, fun g x hg => absurd hg (Nat.not_lt_zero _)⟩
        case round =>
          obtain ⟨j, hj, rfl, rfl, hto⟩ := hrel
          have HTO := Lib.hid hto
          clear hto
          by_cases hjl : j < m1
          · obtain ⟨x, hxj⟩ : ∃ x, (L i)[j]? = some x := ⟨(L i)[j]'(by rw [HEM1.out]; exact hjl), List.getElem?_eq_getElem _⟩
            obtain ⟨b1, o1, e, hc⟩ := HR1.out j x hxj
            subst e
            have hcx := (HB.out.cell (p := ⟨b1, o1 + j, none⟩) (World.block_lt_of_cell? _ _ hc)).trans hc
            have HX := Lib.hid hxj
            clear hc hxj
            by_cases g1 : x < 0
            · have u1 : decide (x < 0) = true := decide_eq_true g1
              go_wp2_with fail
              go_ret
              exact .no (fun h => absurd ((h.2.2.2.2.2 i hil).2 j x (by rw [HEM1.out]; exact hjl) HX.out).1 (by omega)) HB.out
            have u1 : decide (x < 0) = false := decide_eq_false g1
            by_cases g2 : D ≤ x
            · have u2 : decide (D ≤ x) = true := decide_eq_true g2
              go_wp2_with fail
              go_ret
              exact .no (fun h => absurd ((h.2.2.2.2.2 i hil).2 j x (by rw [HEM1.out]; exact hjl) HX.out).2.1 (by omega)) HB.out
            have u2 : decide (D ≤ x) = false := decide_eq_false g2
            by_cases g3 : 0 < j
            · have u3 : decide ((0 : Int) < (j : Int)) = true := decide_eq_true (by omega)
              obtain ⟨j', rfl⟩ : ∃ j', j = j' + 1 := ⟨j - 1, by omega⟩
              obtain ⟨y, hyj⟩ : ∃ y, (L i)[j']? = some y := ⟨(L i)[j']'(by rw [HEM1.out]; omega), List.getElem?_eq_getElem _⟩
              obtain ⟨b2, o2, e, hc⟩ := HR1.out j' y hyj
              obtain ⟨rfl, rfl⟩ : b1 = b2 ∧ o1 = o2 := by cases e; exact ⟨rfl, rfl⟩
              have hcy := (HB.out.cell (p := ⟨b1, o1 + j', none⟩) (World.block_lt_of_cell? _ _ hc)).trans hc
              have HY := Lib.hid hyj
              clear hc hyj e g3
              have hjj : ((j' + 1 : Nat) : Int) - 1 = (j' : Int) := by omega
              by_cases g4 : x ≤ y
              · have u4 : decide (x ≤ y) = true := decide_eq_true g4
                go_wp2_with fail
                go_ret
                exact .no (fun h => absurd (((h.2.2.2.2.2 i hil).2 (j' + 1) x (by rw [HEM1.out]; exact hjl) HX.out).2.2 y (by omega) HY.out) (by omega)) HB.out
              · have u4 : decide (x ≤ y) = false := decide_eq_false g4
                go_wp2_with fail
                go_roundw
                case rel => exact ⟨j' + 1 + 1, by omega, by go_num, by trivial, HTO.out.step HX.out (by omega) (by omega) (fun z _ hz => by rw [show j' + 1 - 1 = j' from rfl, HY.out] at hz; cases hz; omega)⟩
                case measure => simp [intOf]; omega
            · obtain rfl : j = 0 := by omega
              have hcx' : W.cell? ⟨b1, o1, none⟩ = some (.int .i64 x) := hcx
              clear hcx
              go_wp2_with fail
              go_roundw
              case rel => exact ⟨1, by omega, by go_num, by trivial, HTO.out.step HX.out (by omega) (by omega) (fun z hz _ => absurd hz (by omega))⟩
              case measure => simp [intOf]; omega
          · obtain rfl : j = m1 := by omega
            go_wp2_with fail
            go_roundw
            case rel => exact ⟨i + 1, by omega, by go_num, by trivial, fun g hg => by
              by_cases hgi : g < i
              · exact HOK.out g hgi
              · obtain rfl : g = i := by omega
                exact ⟨by rw [HEM1.out, HM.out], by rw [HEM1.out]; exact HTO.out⟩⟩
            case measure => simp [intOf]; omega
      · have t6 : ((m1 : Int) != (m : Int)) = true := by simp; omega
        have HM := Lib.hid hm
        clear hm
        go_wp2_with fail
        go_ret
        exact .no (fun h => HM.out (by rw [← HEM1.out, ← HEM.out]; exact (h.2.2.2.2.2 i hil).1)) HB.out
    · obtain rfl : i = n := by omega
      go_wp2_with fail
      go_ret
      exact .yes ⟨by omega, by omega, by omega, by omega, by rw [HEM.out]; omega, fun g hg => by rw [HEM.out]; exact HOK.out g hg⟩ HB.out
end Go.Proofs.Ytnmkkflnehnioaa

/-! design.Check (58). No condition. -/
namespace Go.Proofs.Ytnmkkflnehnioaa
open Go.RowKit
set_option maxRecDepth 100000

theorem info103 : (Try.prog.info? 103).map (fun i => (i.zero, i.size)) = some (some (.agg (Array.replicate 3600 (.int .i64 0))), 3600) := by kernel_rfl
theorem info102 : (Try.prog.info? 102).map (fun i => (i.zero, i.size)) = some (some (.agg (Array.replicate 60 (.int .i64 0))), 60) := by kernel_rfl
theorem u103 : Try.prog.underlying 103 = some (.array 60 102) := by kernel_rfl
theorem u102 : Try.prog.underlying 102 = some (.array 60 3) := by kernel_rfl

/-- How often two disks lie in the first n groups. -/
def shr (L : Nat → List Int) : Nat → Nat → Nat → Nat
  | 0, _, _ => 0
  | n + 1, a, b => shr L n a b + (L n).count (a : Int) * (L n).count (b : Int)
def GoodD (D : Int) (n : Nat) (L : Nat → List Int) : Prop := Formed D n L ∧ (∀ a b : Nat, (a : Int) < D → (b : Int) < D → shr L n a b = if a = b then shr L n 0 0 else shr L n 0 1) ∧ 1 ≤ shr L n 0 1
/-- What Check answers. -/
def CheckK (D : Int) (n : Nat) (L : Nat → List Int) (w : World) (e : Ending) (w' : World) : Prop := Below w.heap.size w w' ∧
  ((GoodD D n L ∧ e = .returned (.tuple #[.int .i64 (shr L n 0 0 : Nat), .int .i64 (shr L n 0 1 : Nat), .int .i64 0])) ∨ (¬ GoodD D n L ∧ e = .returned (.tuple #[.int .i64 0, .int .i64 0, .int .i64 5])))

/-- The square of counts in memory. -/
def SqAt (w : World) (b : Nat) (T : Nat → Nat → Nat) : Prop := ∀ i j, i < 60 → j < 60 → w.cell? ⟨b, i * 60 + j, none⟩ = some (.int .i64 (T i j : Nat)) ∧ w.frozen? ⟨b, i * 60 + j, none⟩ = false

theorem okTo_lt {D : Int} {l : List Int} (h : OkTo D l l.length) (j : Nat) : ∀ (i : Nat) (hj : j < l.length) (hij : i < j), l[i] < l[j] := by
  induction j with
  | zero => intro i hj hij; omega
  | succ j ih =>
    intro i hj hij
    have h1 := (h (j + 1) l[j + 1] hj (List.getElem?_eq_getElem hj)).2.2 l[j] (by omega) (by simp)
    by_cases e : i = j
    · subst e; exact h1
    · exact Int.lt_trans (ih i (by omega) (by omega)) h1
theorem okTo_count {D : Int} {l : List Int} (h : OkTo D l l.length) (a : Int) : l.count a ≤ 1 := by
  have hp : l.Pairwise (· < ·) := List.pairwise_iff_getElem.2 fun i j hi hj hij => okTo_lt h j i hj hij
  have hn : l.Nodup := hp.imp fun h => Int.ne_of_lt h
  exact List.nodup_iff_count.1 hn a
theorem shr_le {D : Int} {n : Nat} {L : Nat → List Int} (h : ∀ g, g < n → OkTo D (L g) (L g).length) (a b : Nat) : ∀ m, m ≤ n → shr L m a b ≤ m
  | 0, _ => Nat.le_refl _
  | m + 1, hm => by
    have := shr_le h a b m (by omega)
    have h1 := okTo_count (h m (by omega)) (a : Int)
    have h2 := okTo_count (h m (by omega)) (b : Int)
    have := Nat.mul_le_mul h1 h2
    simp only [shr]
    omega
theorem take_count_le (l : List Int) (i : Nat) (a : Int) : (l.take i).count a ≤ l.count a := (List.take_sublist i l).count_le a
theorem take_count_succ {l : List Int} {i : Nat} {x : Int} (h : l[i]? = some x) (a : Int) : (l.take (i + 1)).count a = (l.take i).count a + if x = a then 1 else 0 := by
  rw [List.take_add_one, h]
  simp [List.count_cons, List.count_append]
theorem SqAt.congr {w : World} {b : Nat} {T U : Nat → Nat → Nat} (h : SqAt w b T) (e : ∀ i j, i < 60 → j < 60 → T i j = U i j) : SqAt w b U := fun i j hi hj => by
  rw [← e i j hi hj]
  exact h i j hi hj
theorem SqAt.set {w : World} {b : Nat} {T : Nat → Nat → Nat} (h : SqAt w b T) {x y : Nat} (hx : x < 60) (hy : y < 60) (t : Nat) : SqAt (w.setCell ⟨b, x * 60 + y, none⟩ (.int .i64 (t : Nat))) b (fun i j => if i = x ∧ j = y then t else T i j) := fun i j hi hj => by
  obtain ⟨h1, h2⟩ := h i j hi hj
  refine ⟨?_, ?_⟩
  · by_cases e : i = x ∧ j = y
    · obtain ⟨rfl, rfl⟩ := e
      simp only [and_self, if_true]
      exact World.cell?_setCell_same _ _ _ h1
    · simp only [if_neg e]
      refine (World.cell?_setCell_other _ _ _ _ ?_).trans h1
      intro e2
      have e3 : x * 60 + y = i * 60 + j := by simpa using congrArg Addr.off e2
      exact e ⟨by omega, by omega⟩
  · rw [World.frozen?_setCell]
    exact h2
theorem SqAt.below {w w' : World} {b : Nat} {T : Nat → Nat → Nat} (h : SqAt w b T) (hd : w'.heap[b]? = w.heap[b]?) : SqAt w' b T := fun i j hi hj => by
  have := h i j hi hj
  exact ⟨(World.cell?_of_block hd).trans this.1, (World.frozen?_of_block hd).trans this.2⟩

set_option maxHeartbeats 6400000 in
theorem check_any (D : Int) (n : Nat) (L : Nat → List Int) (w : World) (v : Value) (hv : ZRows w v n L) : Calls Try.prog 58 #[.agg #[.int .i64 D, v]] w (CheckK D n L w) := by
  have HF := Lib.hid fun W (hb : Below w.heap.size w W) => formed_any D n L W v (hv.below hb)
  obtain ⟨r, c, rfl, hn, hr⟩ := hv
  have HR := Lib.hid hr
  clear hr
  go_enter Try.func58, Try.ntmps58
  go_wp2_with fail
  refine (HF.out _ ((Below.refl _ w).alloc (Nat.le_refl _) _)).mono ?_
  rintro e w1 ⟨ok, rfl, hok, B1⟩
  have HOK := Lib.hid hok
  clear hok
  cases ok
  · have hnf : ¬ Formed D n L := fun h => absurd (HOK.out.2 h) (by decide)
    go_wp2_with fail
    go_ret3
    exact ⟨((Below.refl _ w).alloc (Nat.le_refl _) _).trans (B1.mono (by simp)), .inr ⟨fun h => hnf h.1, rfl⟩⟩
  · have hf : Formed D n L := HOK.out.1 rfl
    clear HOK
    have hs1 := B1.size
    simp only [World.size_alloc] at hs1
    have d0 : w1.cell? ⟨w.heap.size, 0, none⟩ = some (.int .i64 D) := (B1.cell (p := ⟨w.heap.size, 0, none⟩) (by simp)).trans (by simp [go_sem])
    have d1 : w1.cell? ⟨w.heap.size, 1, none⟩ = some (.slice r n c) := (B1.cell (p := ⟨w.heap.size, 1, none⟩) (by simp)).trans (by simp [go_sem])
    have Bw : Below w.heap.size w w1 := ((Below.refl _ w).alloc (Nat.le_refl _) _).trans (B1.mono (by simp))
    clear B1
    obtain ⟨Z, hZ⟩ : ∃ Z, Array.replicate 3600 (Value.int .i64 0) = Z := ⟨_, rfl⟩
    have hz := (zero_of_info info103).1
    rw [hZ] at hz
    have e1 : (w1.alloc (.cells Z 103)).cell? ⟨w.heap.size, 1, none⟩ = some (.slice r n c) := (World.cell?_of_block (Below.heap_alloc _ _ _ (by show w.heap.size < _; omega))).trans d1
    have e0 : (w1.alloc (.cells Z 103)).cell? ⟨w.heap.size, 0, none⟩ = some (.int .i64 D) := (World.cell?_of_block (Below.heap_alloc _ _ _ (by show w.heap.size < _; omega))).trans d0
    have s0 : SqAt (w1.alloc (.cells Z 103)) w1.heap.size (shr L 0) := fun i j hi hj => by
      have hb := heap_alloc_new w1 (.cells Z 103)
      rw [← hZ] at hb ⊢
      have : i * 60 + j < 3600 := by omega
      refine ⟨?_, ?_⟩
      · simp only [World.cell?, hb]
        simp [this, shr]
      · simp only [World.frozen?, hb]
        simp
    have b0 : Below w1.heap.size w1 (w1.alloc (.cells Z 103)) := (Below.refl _ w1).alloc (Nat.le_refl _) _
    have HS := Lib.hid (And.intro s0 (And.intro b0 hf))
    clear s0 b0 hZ hf
    go_wp2_with fail
    obtain ⟨A, hA⟩ : ∃ A, w1.alloc (.cells Z 103) = A := ⟨_, rfl⟩
    rw [hA] at e1 e0 HS ⊢
    clear hA hz
    go_loopw [23] (fun v wr => ∃ g : Nat, g ≤ n ∧ v = .int .i64 g ∧ Below w1.heap.size w1 wr ∧ SqAt wr w1.heap.size (shr L g)) (fun v _ => n - (intOf v).toNat)
    case atStart => exact ⟨0, by omega, rfl, HS.out.2.1, HS.out.1⟩
    case round =>
      obtain ⟨g, hg, rfl, hB, hS⟩ := hrel
      by_cases hgl : g < n
      · obtain ⟨b, o, x, rfl, hx, r1, k1, rfl, hl1, hr1⟩ := HR.out g hgl
        have HR1 := Lib.hid hr1
        clear hr1
        have hbl : b < w.heap.size := World.block_lt_of_cell? _ _ hx
        have hx' := (hB.cell (p := ⟨b, o + g, none⟩) (by show b < _; omega)).trans ((Bw.cell (p := ⟨b, o + g, none⟩) (World.block_lt_of_cell? _ _ hx)).trans hx)
        clear hx
        obtain ⟨m, em⟩ : ∃ m, (L g).length = m := ⟨_, rfl⟩
        have HEM := Lib.hid em
        rw [em] at hx' hl1
        clear em
        have HB := Lib.hid hB
        clear hB
        go_wp2_with fail
        go_loopw [29] (fun v wr => ∃ i : Nat, i ≤ m ∧ v = .int .i64 i ∧ Below w1.heap.size w1 wr ∧ SqAt wr w1.heap.size (fun a b => shr L g a b + ((L g).take i).count (a : Int) * (L g).count (b : Int))) (fun v _ => m - (intOf v).toNat)
        case atStart => exact ⟨0, by omega, rfl, HB.out, by simpa using hS⟩
        case round =>
          clear hS
          obtain ⟨i, hi, rfl, hB, hS⟩ := hrel
          by_cases hil : i < m
          · obtain ⟨x, hx⟩ : ∃ x, (L g)[i]? = some x := ⟨(L g)[i]'(by rw [HEM.out]; exact hil), List.getElem?_eq_getElem _⟩
            obtain ⟨b1, o1, e, hc⟩ := HR1.out i x hx
            subst e
            have hb1 : b1 < w.heap.size := World.block_lt_of_cell? _ _ hc
            have hcx := (hB.cell (p := ⟨b1, o1 + i, none⟩) (by show b1 < _; omega)).trans ((Bw.cell (p := ⟨b1, o1 + i, none⟩) hb1).trans hc)
            obtain ⟨hx0, hxD, -⟩ := (HS.out.2.2.2.2.2.2.2 g hgl).2 i x (by rw [HEM.out]; exact hil) hx
            obtain ⟨xn, rfl⟩ : ∃ xn : Nat, x = xn := ⟨x.toNat, by omega⟩
            have hD60 := HS.out.2.2.2.1
            have hx60 : xn < 60 := by omega
            have HX := Lib.hid hx
            have HB2 := Lib.hid hB
            clear hx hc hx0 hxD hB
            go_wp2_with fail
            go_loopw [35] (fun v wr => ∃ j : Nat, j ≤ m ∧ v = .int .i64 j ∧ Below w1.heap.size w1 wr ∧ SqAt wr w1.heap.size (fun a b => shr L g a b + ((L g).take i).count (a : Int) * (L g).count (b : Int) + if a = xn then ((L g).take j).count (b : Int) else 0)) (fun v _ => m - (intOf v).toNat)
            case atStart => exact ⟨0, by omega, rfl, HB2.out, by simpa using hS⟩
            case round =>
              clear hS hcx
              obtain ⟨j, hj, rfl, hB, hS⟩ := hrel
              by_cases hjl : j < m
              · obtain ⟨y, hy⟩ : ∃ y, (L g)[j]? = some y := ⟨(L g)[j]'(by rw [HEM.out]; exact hjl), List.getElem?_eq_getElem _⟩
                obtain ⟨b2, o2, e, hc⟩ := HR1.out j y hy
                obtain ⟨rfl, rfl⟩ : b1 = b2 ∧ o1 = o2 := by cases e; exact ⟨rfl, rfl⟩
                have hcy := (hB.cell (p := ⟨b1, o1 + j, none⟩) (by show b1 < _; omega)).trans ((Bw.cell (p := ⟨b1, o1 + j, none⟩) hb1).trans hc)
                obtain ⟨hy0, hyD, -⟩ := (HS.out.2.2.2.2.2.2.2 g hgl).2 j y (by rw [HEM.out]; exact hjl) hy
                obtain ⟨yn, rfl⟩ : ∃ yn : Nat, y = yn := ⟨y.toNat, by omega⟩
                have hy60 : yn < 60 := by omega
                obtain ⟨T, hT⟩ : ∃ T : Nat → Nat → Nat, (fun a b => shr L g a b + ((L g).take i).count (a : Int) * (L g).count (b : Int) + if a = xn then ((L g).take j).count (b : Int) else 0) = T := ⟨_, rfl⟩
                have ht : T xn yn < 1000000000 := by
                  have h1 := shr_le (fun g hg => (HS.out.2.2.2.2.2.2.2 g hg).2) xn yn g (by omega)
                  have hok := (HS.out.2.2.2.2.2.2.2 g hgl).2
                  have h2 := okTo_count hok (xn : Int)
                  have h3 := okTo_count hok (yn : Int)
                  have h4 := take_count_le (L g) i (xn : Int)
                  have h5 := take_count_le (L g) j (yn : Int)
                  have h6 := Nat.mul_le_mul (Nat.le_trans h4 h2) h3
                  have h7 := HS.out.2.2.2.2.2.1
                  rw [← hT]
                  show _ + _ + (if xn = xn then _ else 0) < _
                  rw [if_pos rfl]
                  omega
                rw [hT] at hS
                obtain ⟨hcell, hfr⟩ := hS xn yn hx60 hy60
                have HT := Lib.hid hT
                obtain ⟨t, et⟩ : ∃ t, T xn yn = t := ⟨_, rfl⟩
                rw [et] at hcell ht
                have HET := Lib.hid et
                have hxi : (xn : Int) < 60 := by omega
                have hyi : (yn : Int) < 60 := by omega
                have HY := Lib.hid hy
                have HSQ := Lib.hid hS
                have HB3 := Lib.hid hB
                clear hy hc e hy0 hyD hS et hB hT
                go_wp2_with fail
                go_region
                go_wp2_with fail
                go_roundw
                case rel =>
                  refine ⟨j + 1, by omega, by go_num, (HB3.out.drew).setCell (Nat.le_refl _) _, ?_⟩
                  have hsq : SqAt wr.drew w1.heap.size T := HSQ.out
                  have h2 := hsq.set hx60 hy60 (t + 1)
                  refine SqAt.congr (by exact_mod_cast h2) fun a b _ _ => ?_
                  have e2 := take_count_succ HY.out (b : Int)
                  rw [e2]
                  have eT : T a b = _ := (congrFun (congrFun HT.out a) b).symm
                  by_cases ha : a = xn
                  · subst ha
                    by_cases hbb : b = yn
                    · subst hbb
                      rw [← HET.out, eT]
                      simp <;> omega
                    · have : ¬ (yn : Int) = (b : Int) := by omega
                      simp only [eT]
                      simp [hbb, this]
                  · simp only [eT]
                    simp [ha]
                case measure => simp [intOf]; omega
              · obtain rfl : j = m := by omega
                have HSQ := Lib.hid hS
                have HB3 := Lib.hid hB
                clear hS hB
                go_wp2_with fail
                go_roundw
                case rel =>
                  refine ⟨i + 1, by omega, by go_num, HB3.out, HSQ.out.congr fun a b _ _ => ?_⟩
                  have e2 := take_count_succ HX.out (a : Int)
                  have e3 : (L g).take j = L g := by rw [← HEM.out]; exact List.take_length
                  rw [e2, e3]
                  by_cases ha : a = xn
                  · subst ha
                    simp [Nat.add_mul] <;> omega
                  · have : ¬ (xn : Int) = (a : Int) := by omega
                    simp [ha, this]
                case measure => simp [intOf]; omega
          · obtain rfl : i = m := by omega
            have HSQ := Lib.hid hS
            have HB3 := Lib.hid hB
            clear hS hB
            go_wp2_with fail
            go_roundw
            case rel =>
              refine ⟨g + 1, by omega, by go_num, HB3.out, HSQ.out.congr fun a b _ _ => ?_⟩
              have e3 : (L g).take i = L g := by rw [← HEM.out]; exact List.take_length
              rw [e3]
              rfl
            case measure => simp [intOf]; omega
      · obtain rfl : g = n := by omega
        have hf := HS.out.2.2
        have hle : ∀ a b, shr L g a b ≤ 4096 := fun a b => Nat.le_trans (shr_le (fun k hk => (hf.2.2.2.2.2 k hk).2) a b g (Nat.le_refl _)) hf.2.2.2.1
        obtain ⟨Dn, hDn⟩ : ∃ Dn : Nat, D = Dn := ⟨D.toNat, by have := hf.1; omega⟩
        have hD60 : Dn ≤ 60 := by have := hf.2.1; omega
        have hD2 : 2 ≤ Dn := by have := hf.1; omega
        obtain ⟨T, hT⟩ : ∃ T, shr L g = T := ⟨_, rfl⟩
        rw [hT] at hS hle
        have k00 := (hS 0 0 (by omega) (by omega)).1
        have k01 := (hS 0 1 (by omega) (by omega)).1
        obtain ⟨R, hR⟩ : ∃ R, T 0 0 = R := ⟨_, rfl⟩
        obtain ⟨M, hM⟩ : ∃ M, T 0 1 = M := ⟨_, rfl⟩
        have hRM : R ≤ 4096 ∧ M ≤ 4096 := ⟨hR ▸ hle 0 0, hM ▸ hle 0 1⟩
        rw [hR] at k00
        rw [hM] at k01
        have HT := Lib.hid hT
        have HR0 := Lib.hid hR
        have HM0 := Lib.hid hM
        have HLE := Lib.hid hle
        have HDn := Lib.hid hDn
        have HSQ := Lib.hid hS
        have HB := Lib.hid hB
        clear hT hR hM hle hS hB hf hDn
        simp only [Nat.zero_mul, Nat.zero_add] at k00 k01
        go_wp2_with fail
        go_region
        have e0' : wr.cell? ⟨w.heap.size, 0, none⟩ = some (.int .i64 Dn) := by
          rw [← HDn.out]
          exact (HB.out.cell (p := ⟨w.heap.size, 0, none⟩) (by show w.heap.size < _; omega)).trans d0
        go_wp2_with fail
        obtain ⟨A2, hA2⟩ : ∃ A2, wr.drew = A2 := ⟨_, rfl⟩
        have HSQ2 : Hid (SqAt A2 w1.heap.size T) := Lib.hid (hA2 ▸ HSQ.out)
        have HBE : Hid (Below w.heap.size w A2) := Lib.hid (Bw.trans ((hA2 ▸ HB.out.drew : Below w1.heap.size w1 A2).mono (by omega)))
        have f0 : A2.cell? ⟨w.heap.size, 0, none⟩ = some (.int .i64 Dn) := hA2 ▸ e0'
        (try rw [hA2])
        clear hA2 e0' k00 k01 HSQ HB
        have HGD : Hid (GoodD D g L ↔ ((∀ a b : Nat, a < Dn → b < Dn → T a b = if a = b then R else M) ∧ 1 ≤ M)) := Lib.hid (by
          rw [← HR0.out, ← HM0.out, ← HT.out, HDn.out]
          constructor
          · rintro ⟨_, h1, h2⟩
            exact ⟨fun a b ha hb => h1 a b (by omega) (by omega), h2⟩
          · rintro ⟨h1, h2⟩
            exact ⟨HDn.out ▸ HS.out.2.2, fun a b ha hb => h1 a b (by omega) (by omega), h2⟩)
        have HRES : Hid (shr L g 0 0 = R ∧ shr L g 0 1 = M) := Lib.hid ⟨by rw [HT.out, HR0.out], by rw [HT.out, HM0.out]⟩
        go_loopw [58] (fun v wx => ∃ a : Nat, a ≤ Dn ∧ v = .int .i64 a ∧ A2 = wx ∧ ∀ a' b', a' < a → b' < Dn → T a' b' = if a' = b' then R else M) (fun v _ => Dn - (intOf v).toNat)
        case atStart => exact ⟨0, by omega, rfl, by trivial, fun a' b' h => absurd h (Nat.not_lt_zero _)⟩
        case round =>
          obtain ⟨a, ha, rfl, rfl, hall⟩ := hrel
          have HALL := Lib.hid hall
          clear hall
          by_cases hal : a < Dn
          · go_wp2_with fail
            go_loopw [63] (fun v wx => ∃ b : Nat, b ≤ Dn ∧ v = .int .i64 b ∧ A2 = wx ∧ ∀ b', b' < b → T a b' = if a = b' then R else M) (fun v _ => Dn - (intOf v).toNat)
            case atStart => exact ⟨0, by omega, rfl, by trivial, fun b' h => absurd h (Nat.not_lt_zero _)⟩
            case round =>
              obtain ⟨b, hb, rfl, rfl, hrow⟩ := hrel
              have HROW := Lib.hid hrow
              clear hrow
              by_cases hbl : b < Dn
              · have hcell := (HSQ2.out a b (by omega) (by omega)).1
                obtain ⟨t, et⟩ : ∃ t, T a b = t := ⟨_, rfl⟩
                have ht : t ≤ 4096 := et ▸ HLE.out a b
                rw [et] at hcell
                have HET := Lib.hid et
                have hai : (a : Int) < 60 := by omega
                have hbi : (b : Int) < 60 := by omega
                clear et
                obtain ⟨wt, hwt⟩ : ∃ wt, (if a = b then R else M) = wt := ⟨_, rfl⟩
                have HWT := Lib.hid hwt
                by_cases hab : a = b
                · subst hab
                  simp only [if_pos] at hwt
                  by_cases htw : t = R
                  · have tn : ((t : Int) != (R : Int)) = false := by rw [htw]; simp
                    have HTW := Lib.hid htw
                    clear htw hwt
                    go_wp2_with fail
                    go_roundw
                    case rel =>
                      refine ⟨a + 1, by omega, by go_num, by trivial, fun b' hb' => ?_⟩
                      by_cases e : b' < a
                      · exact HROW.out b' e
                      · obtain rfl : b' = a := by omega
                        rw [if_pos rfl, HET.out, HTW.out]
                    case measure => simp [intOf]; omega
                  · have tn : ((t : Int) != (R : Int)) = true := by simp; omega
                    have HTW := Lib.hid htw
                    clear htw hwt
                    go_wp2_with fail
                    go_ret3
                    exact ⟨HBE.out, .inr ⟨fun h => HTW.out (by rw [← HET.out, (HGD.out.1 h).1 a a hal hal, if_pos rfl]), rfl⟩⟩
                · have te : ((a : Int) == (b : Int)) = false := by simp; omega
                  have HAB := Lib.hid hab
                  simp only [if_neg hab] at hwt
                  clear hab
                  by_cases htw : t = M
                  · have tn : ((t : Int) != (M : Int)) = false := by rw [htw]; simp
                    have HTW := Lib.hid htw
                    clear htw hwt
                    go_wp2_with fail
                    go_roundw
                    case rel =>
                      refine ⟨b + 1, by omega, by go_num, by trivial, fun b' hb' => ?_⟩
                      by_cases e : b' < b
                      · exact HROW.out b' e
                      · obtain rfl : b' = b := by omega
                        rw [if_neg HAB.out, HET.out, HTW.out]
                    case measure => simp [intOf]; omega
                  · have tn : ((t : Int) != (M : Int)) = true := by simp; omega
                    have HTW := Lib.hid htw
                    clear htw hwt
                    go_wp2_with fail
                    go_ret3
                    exact ⟨HBE.out, .inr ⟨fun h => HTW.out (by rw [← HET.out, (HGD.out.1 h).1 a b hal hbl, if_neg HAB.out]), rfl⟩⟩
              · obtain rfl : b = Dn := by omega
                go_wp2_with fail
                go_roundw
                case rel =>
                  refine ⟨a + 1, by omega, by go_num, by trivial, fun a' b' ha' hb' => ?_⟩
                  by_cases e : a' < a
                  · exact HALL.out a' b' e hb'
                  · obtain rfl : a' = a := by omega
                    exact HROW.out b' hb'
                case measure => simp [intOf]; omega
          · obtain rfl : a = Dn := by omega
            by_cases hm : 1 ≤ M
            · have tm : decide ((M : Int) < 1) = false := decide_eq_false (by omega)
              go_wp2_with fail
              go_ret3
              exact ⟨HBE.out, .inl ⟨HGD.out.2 ⟨fun x y hx hy => HALL.out x y hx hy, hm⟩, by rw [HRES.out.1, HRES.out.2]; rfl⟩⟩
            · have tm : decide ((M : Int) < 1) = true := decide_eq_true (by omega)
              go_wp2_with fail
              go_ret3
              exact ⟨HBE.out, .inr ⟨fun h => hm (HGD.out.1 h).2, rfl⟩⟩
end Go.Proofs.Ytnmkkflnehnioaa

/-! Balanced designs as lists, decided by masks. No condition. -/
namespace Go.Proofs.Ytnmkkflnehnioaa
open Go.RowKit

def ints (l : List Nat) : List Int := l.map Int.ofNat
/-- The rows of a list of lists. -/
def rowG (G : List (List Nat)) (i : Nat) : List Nat := G.getD i []
def rowZ (G : List (List Nat)) (i : Nat) : List Int := ints (rowG G i)
def shrG (G : List (List Nat)) (a b : Nat) : Nat := (G.map fun g => g.count a * g.count b).sum
theorem count_ints (l : List Nat) (a : Nat) : (ints l).count (a : Int) = l.count a := by
  induction l with
  | nil => rfl
  | cons x t ih =>
    simp only [ints, List.map_cons, List.count_cons] at ih ⊢
    rw [ih]
    by_cases h : x = a
    · subst h; simp
    · have h2 : ¬ (x : Int) = (a : Int) := fun e => h (Int.ofNat.inj e)
      simp [h, h2]
theorem shr_take (L : Nat → List Int) (G : List (List Nat)) (hL : ∀ i, i < G.length → L i = rowZ G i) (a b : Nat) : ∀ n, n ≤ G.length → shr L n a b = shrG (G.take n) a b
  | 0, _ => by simp [shr, shrG]
  | n + 1, h => by
    have e : G.take (n + 1) = G.take n ++ [rowG G n] := by
      rw [List.take_succ_eq_append_getElem (by omega), rowG, List.getD_eq_getElem?_getD, List.getElem?_eq_getElem (by omega)]
      rfl
    rw [shr, shr_take L G hL a b n (by omega), e, hL n (by omega), rowZ, count_ints, count_ints]
    simp [shrG]
theorem shr_list {L : Nat → List Int} {G : List (List Nat)} (hL : ∀ i, i < G.length → L i = rowZ G i) (a b : Nat) : shr L G.length a b = shrG G a b := by
  rw [shr_take L G hL a b G.length (Nat.le_refl _), List.take_length]
theorem shrG_append (A B : List (List Nat)) (a b : Nat) : shrG (A ++ B) a b = shrG A a b + shrG B a b := by simp [shrG]
theorem shrG_cons (g : List Nat) (B : List (List Nat)) (a b : Nat) : shrG (g :: B) a b = g.count a * g.count b + shrG B a b := by simp [shrG]

/-- Rising and below D. -/
def riseB (D : Nat) : List Nat → Bool
  | [] => true
  | [x] => x < D
  | x :: y :: t => x < y && riseB D (y :: t)
theorem rise_at {D : Nat} : ∀ {l : List Nat}, riseB D l = true → ∀ (i x : Nat), l[i]? = some x → x < D ∧ ∀ y, 0 < i → l[i - 1]? = some y → y < x
  | [], _, i, x, h => by simp at h
  | [z], hr, i, x, h => by
    have hz : z < D := by simpa [riseB] using hr
    cases i with
    | zero => simp at h; subst h; exact ⟨hz, fun y h => absurd h (by omega)⟩
    | succ i => simp at h
  | a :: b :: t, hr, i, x, h => by
    have hr' : a < b ∧ riseB D (b :: t) = true := by simpa [riseB] using hr
    have ih := rise_at hr'.2
    cases i with
    | zero =>
      simp at h
      subst h
      have := (ih 0 b rfl).1
      exact ⟨by omega, fun y h => absurd h (by omega)⟩
    | succ i =>
      have h2 := ih i x (by simpa using h)
      refine ⟨h2.1, fun y _ hy => ?_⟩
      cases i with
      | zero => simp at hy h; subst hy; subst h; exact hr'.1
      | succ i => exact h2.2 y (by omega) (by simpa using hy)
theorem rise_ok {D : Nat} {l : List Nat} (h : riseB D l = true) : OkTo (D : Int) (ints l) (ints l).length := by
  intro i x hi hx
  obtain ⟨n, hn, rfl⟩ : ∃ n, l[i]? = some n ∧ (n : Int) = x := by
    rw [ints, List.getElem?_map] at hx
    cases e : l[i]? with
    | none => rw [e] at hx; cases hx
    | some n => rw [e] at hx; simp at hx; exact ⟨n, rfl, hx⟩
  obtain ⟨h1, h2⟩ := rise_at h i n hn
  refine ⟨by omega, by omega, fun y h0 hy => ?_⟩
  obtain ⟨m, hm, rfl⟩ : ∃ m, l[i - 1]? = some m ∧ (m : Int) = y := by
    rw [ints, List.getElem?_map] at hy
    cases e : l[i - 1]? with
    | none => rw [e] at hy; cases hy
    | some n => rw [e] at hy; simp at hy; exact ⟨n, rfl, hy⟩
  have := h2 m h0 hm
  omega
theorem rise_nodup {D : Nat} : ∀ {l : List Nat}, riseB D l = true → l.Pairwise (· < ·)
  | [], _ => List.Pairwise.nil
  | [_], _ => List.pairwise_singleton _ _
  | a :: b :: t, hr => by
    have hr' : a < b ∧ riseB D (b :: t) = true := by simpa [riseB] using hr
    have ih := rise_nodup hr'.2
    refine List.pairwise_cons.2 ⟨fun x hx => ?_, ih⟩
    rcases List.mem_cons.1 hx with rfl | hx
    · exact hr'.1
    · exact Nat.lt_trans hr'.1 ((List.pairwise_cons.1 ih).1 x hx)
def maskL (l : List Nat) : Nat := l.foldr (fun x m => m ||| 2 ^ x) 0
theorem mask_bit (l : List Nat) (a : Nat) : (maskL l).testBit a = l.contains a := by
  induction l with
  | nil => simp [maskL]
  | cons x t ih =>
    have e : maskL (x :: t) = maskL t ||| 2 ^ x := rfl
    rw [e, Nat.testBit_or, ih, Nat.testBit_two_pow]
    rw [List.contains_cons]
    by_cases h : x = a
    · subst h; simp
    · have h2 : ¬ a = x := fun e => h e.symm
      simp [h, h2]
def cntM (M : List Nat) (a b : Nat) : Nat := M.foldr (fun m s => if m.testBit a && m.testBit b then s + 1 else s) 0
theorem count_one {D : Nat} {l : List Nat} (h : riseB D l = true) (a : Nat) : l.count a = if l.contains a then 1 else 0 := by
  have hn : l.Nodup := (rise_nodup h).imp fun h => Nat.ne_of_lt h
  by_cases ha : a ∈ l
  · rw [hn.count, if_pos ha]; simp [ha]
  · rw [List.count_eq_zero_of_not_mem ha]; simp [ha]
theorem cnt_shr {D : Nat} : ∀ {G : List (List Nat)}, (∀ g ∈ G, riseB D g = true) → ∀ a b, cntM (G.map maskL) a b = shrG G a b
  | [], _, a, b => rfl
  | g :: G, h, a, b => by
    have ih := cnt_shr (G := G) (fun x hx => h x (List.mem_cons_of_mem _ hx)) a b
    rw [shrG_cons, ← ih, count_one (h g (List.mem_cons_self)) a, count_one (h g (List.mem_cons_self)) b, List.map_cons, cntM, List.foldr_cons, mask_bit, mask_bit]
    cases g.contains a <;> cases g.contains b <;> simp [cntM] <;> omega
/-- A design whose balance is decided. -/
def balB (D k : Nat) (G : List (List Nat)) (r s : Nat) : Bool :=
  decide (2 ≤ D) && decide (D ≤ 60) && decide (1 ≤ G.length) && decide (G.length ≤ 2048) && decide (2 ≤ k) && decide (1 ≤ s) && G.all (fun g => g.length == k && riseB D g) &&
  (let M := G.map maskL; (List.range D).all fun a => (List.range D).all fun b => cntM M a b == if a == b then r else s)
structure GoodG (D k : Nat) (G : List (List Nat)) (r s : Nat) : Prop where
  D2 : 2 ≤ D
  D60 : D ≤ 60
  n1 : 1 ≤ G.length
  n2 : G.length ≤ 2048
  k2 : 2 ≤ k
  s1 : 1 ≤ s
  len : ∀ g ∈ G, g.length = k
  rise : ∀ g ∈ G, riseB D g = true
  cnt : ∀ a b, a < D → b < D → shrG G a b = if a = b then r else s
theorem balB_iff {D k : Nat} {G : List (List Nat)} {r s : Nat} (h : balB D k G r s = true) : GoodG D k G r s := by
  simp only [balB, Bool.and_eq_true, decide_eq_true_eq, List.all_eq_true, List.mem_range, beq_iff_eq] at h
  obtain ⟨⟨⟨⟨⟨⟨⟨h1, h2⟩, h3⟩, h4⟩, h5⟩, h6⟩, h7⟩, h8⟩ := h
  exact ⟨h1, h2, h3, h4, h5, h6, fun g hg => (h7 g hg).1, fun g hg => (h7 g hg).2, fun a b ha hb => by
    have := h8 a ha b hb
    rw [cnt_shr (fun g hg => (h7 g hg).2)] at this
    exact this⟩
theorem rowG_mem {G : List (List Nat)} {i : Nat} (h : i < G.length) : rowG G i ∈ G := by
  rw [rowG, List.getD_eq_getElem?_getD, List.getElem?_eq_getElem h]
  exact List.getElem_mem h
/-- A balanced design, as Check finds it. -/
theorem GoodG.good {D k : Nat} {G : List (List Nat)} {r s : Nat} (h : GoodG D k G r s) {L : Nat → List Int} (hL : ∀ i, i < G.length → L i = rowZ G i) : GoodD D G.length L ∧ shr L G.length 0 0 = r ∧ shr L G.length 0 1 = s := by
  have e00 : shr L G.length 0 0 = r := by rw [shr_list hL, h.cnt 0 0 (by have := h.D2; omega) (by have := h.D2; omega)]; rfl
  have e01 : shr L G.length 0 1 = s := by rw [shr_list hL, h.cnt 0 1 (by have := h.D2; omega) (by have := h.D2; omega)]; rfl
  have hlen : ∀ i, i < G.length → (L i).length = k := fun i hi => by rw [hL i hi, rowZ, ints, List.length_map]; exact h.len _ (rowG_mem hi)
  refine ⟨⟨⟨by have := h.D2; omega, by have := h.D60; omega, h.n1, by have := h.n2; omega, by rw [hlen 0 h.n1]; exact h.k2, fun g hg => ⟨by rw [hlen g hg, hlen 0 h.n1], ?_⟩⟩, fun a b ha hb => ?_, ?_⟩, e00, e01⟩
  · rw [hL g hg]
    exact rise_ok (h.rise _ (rowG_mem hg))
  · rw [e00, e01, shr_list hL, h.cnt a b (by omega) (by omega)]
  · rw [e01]; exact h.s1
/-- A balanced design twice. -/
theorem GoodG.twice {D k : Nat} {G : List (List Nat)} {r s : Nat} (h : GoodG D k G r s) (hn : G.length ≤ 1024) : GoodG D k (G ++ G) (2 * r) (2 * s) := by
  refine ⟨h.D2, h.D60, by have := h.n1; simp; omega, by simp; omega, h.k2, by have := h.s1; omega, fun g hg => ?_, fun g hg => ?_, fun a b ha hb => ?_⟩
  · rcases List.mem_append.1 hg with hg | hg <;> exact h.len g hg
  · rcases List.mem_append.1 hg with hg | hg <;> exact h.rise g hg
  · rw [shrG_append, h.cnt a b ha hb]
    split <;> omega
theorem len_sub : ∀ {l m : List Nat}, l.Nodup → (∀ x ∈ l, x ∈ m) → l.length ≤ m.length
  | [], m, _, _ => Nat.zero_le _
  | a :: t, m, hn, hs => by
    obtain ⟨h1, h2⟩ := List.nodup_cons.1 hn
    have ha := hs a List.mem_cons_self
    have h3 := len_sub (l := t) (m := m.erase a) h2 fun x hx => (List.mem_erase_of_ne (fun e => by subst e; exact h1 hx)).2 (hs x (List.mem_cons_of_mem _ hx))
    rw [List.length_erase_of_mem ha] at h3
    have := List.length_pos_of_mem ha
    rw [List.length_cons]
    omega
theorem exists_out {D k : Nat} {g : List Nat} (hl : g.length = k) (hk : k < D) : ∃ b, b < D ∧ b ∉ g := by
  refine Classical.byContradiction fun hno => ?_
  have hall : ∀ b, b < D → b ∈ g := fun b hb => Classical.byContradiction fun h => hno ⟨b, hb, h⟩
  have hnd : (List.range D).Nodup := List.nodup_range
  have hsub : ∀ x ∈ List.range D, x ∈ g := fun x hx => hall x (List.mem_range.1 hx)
  have := len_sub hnd hsub
  rw [List.length_range] at this
  omega
/-- A balanced design without one group is not balanced, if its width is less than the number of disks. -/
theorem GoodG.less {D k : Nat} {A B : List (List Nat)} {g : List Nat} {r s : Nat} (h : GoodG D k (A ++ g :: B) r s) (hk : k < D) {L : Nat → List Int} (hL : ∀ i, i < (A ++ B).length → L i = rowZ (A ++ B) i) : ¬ GoodD D (A ++ B).length L := by
  rintro ⟨-, hall, -⟩
  have hg : g ∈ A ++ g :: B := by simp
  obtain ⟨b, hb, hbg⟩ := exists_out (h.len g hg) hk
  obtain ⟨a, ha⟩ : ∃ a, a ∈ g := by
    have := h.len g hg
    have := h.k2
    cases g with
    | nil => simp at *; omega
    | cons x t => exact ⟨x, List.mem_cons_self⟩
  have haD : a < D := by
    obtain ⟨i, hi⟩ := List.mem_iff_getElem?.1 ha
    exact (rise_at (h.rise g hg) i a hi).1
  have e1 := hall a a (by omega) (by omega)
  have e2 := hall b b (by omega) (by omega)
  rw [if_pos rfl, shr_list hL, shrG_append] at e1
  rw [if_pos rfl, shr_list hL, shrG_append] at e2
  have f1 := h.cnt a a haD haD
  have f2 := h.cnt b b hb hb
  rw [if_pos rfl, shrG_append, shrG_cons] at f1 f2
  have c1 : g.count a = 1 := by rw [count_one (h.rise g hg)]; simp [ha]
  have c2 : g.count b = 0 := by rw [count_one (h.rise g hg)]; simp [hbg]
  rw [c1] at f1
  rw [c2] at f2
  omega
/-- The complete designs. -/
def compG (v k : Nat) : List (List Nat) := exts v k []
def rOf (v k : Nat) : Nat := bin (v - 1) (k - 1)
def sOf (v k : Nat) : Nat := bin (v - 2) (k - 2)
end Go.Proofs.Ytnmkkflnehnioaa

/-! The designs of this seat that are balanced: small complete designs, and the planes. No condition. -/
namespace Go.Proofs.Ytnmkkflnehnioaa
open Go.RowKit

theorem comp_small : ∀ v : Fin 9, ∀ k : Fin 9, 2 ≤ k.val → k.val ≤ v.val → (balB v k (compG v k) (rOf v k) (sOf v k) && (bin v k * k == v * rOf v k) && (rOf v k * (k - 1) == sOf v k * (v - 1)) && decide (bin v k ≤ 70)) = true := by decide +kernel
def eqsB (v k b r s : Nat) : Bool := (b * k == v * r) && (r * (k - 1) == s * (v - 1)) && (k == v || decide (v ≤ b))
theorem comp_mid : ∀ v : Fin 17, ∀ k : Fin 17, 4 ≤ k.val → k.val ≤ v.val → bin v k ≤ 300 → (balB v k (compG v k) (rOf v k) (sOf v k) && eqsB v k (bin v k) (rOf v k) (sOf v k)) = true := by decide +kernel
def projG (k : Nat) : List (List Nat) := (List.range (allL k).length).map (lineL k)
def affGG (k : Nat) : List (List Nat) := (List.range (szN k * szN k + szN k)).map (affL k)
theorem proj_bal : ∀ k : Fin 5, (balB (allL k).length (szN k + 1) (projG k) (szN k + 1) 1 && eqsB (allL k).length (szN k + 1) (allL k).length (szN k + 1) 1 && ((allL k).length == szN k * szN k + szN k + 1)) = true := by decide +kernel
theorem aff_bal : ∀ k : Fin 5, (balB (szN k * szN k) (szN k) (affGG k) (szN k + 1) 1 && eqsB (szN k * szN k) (szN k) (szN k * szN k + szN k) (szN k + 1) 1) = true := by decide +kernel
end Go.Proofs.Ytnmkkflnehnioaa

/-! slices.Index (67), slices.Contains (82), design.Shared (62), few (57) and the reference's Has (51), read through rows of whole numbers that may lie anywhere. No condition. -/
namespace Go.Proofs.Ytnmkkflnehnioaa
open Go.RowKit
set_option maxRecDepth 100000

def IdxK (l : List Int) (x : Int) (w : World) (e : Ending) (w' : World) : Prop := ∃ y : Int, e = .returned (.int .i64 y) ∧ (0 ≤ y ↔ x ∈ l) ∧ w = w'

set_option maxHeartbeats 1600000 in
theorem index_z (l : List Int) (x : Int) (w : World) (v : Value) (hv : ZRow w v l) : Calls Try.prog 67 #[v, .int .i64 x] w (IdxK l x w) := by
  obtain ⟨r, c, rfl, hn, hr⟩ := hv
  have HR := Lib.hid hr
  obtain ⟨m, em⟩ : ∃ m, l.length = m := ⟨_, rfl⟩
  have HEM := Lib.hid em
  rw [em] at hn ⊢
  clear hr em
  go_enter Try.func67, Try.ntmps67
  go_wp2_with fail
  go_loopw [8] (fun v wr => ∃ i : Nat, i ≤ m ∧ v = .int .i64 i ∧ w = wr ∧ ∀ k, k < i → l[k]? ≠ some x) (fun v _ => m - (intOf v).toNat)
  case atStart => exact ⟨0, by omega, rfl, rfl, fun k hk => absurd hk (Nat.not_lt_zero _)⟩
  case round =>
    obtain ⟨i, hi, rfl, rfl, hno⟩ := hrel
    have HNO := Lib.hid hno
    clear hno
    by_cases hil : i < m
    · obtain ⟨y, hy⟩ : ∃ y, l[i]? = some y := ⟨l[i]'(by rw [HEM.out]; exact hil), List.getElem?_eq_getElem _⟩
      obtain ⟨b, o, e, hc⟩ := HR.out i y hy
      subst e
      have HY := Lib.hid hy
      clear hy
      by_cases hxy : x = y
      · have t : ((x : Int) == y) = true := by simpa using hxy
        have HX := Lib.hid hxy
        clear hxy
        go_wp2_with fail
        go_ret
        exact ⟨_, rfl, ⟨fun _ => by rw [HX.out]; exact List.mem_of_getElem? HY.out, fun _ => by omega⟩, rfl⟩
      · have t : ((x : Int) == y) = false := by simpa using hxy
        have HX := Lib.hid hxy
        clear hxy
        go_wp2_with fail
        go_roundw
        case rel => exact ⟨i + 1, by omega, by go_num, by trivial, fun k hk e => by
          by_cases hki : k < i
          · exact HNO.out k hki e
          · obtain rfl : k = i := by omega
            rw [HY.out] at e
            cases e
            exact HX.out rfl⟩
        case measure => simp [intOf]; omega
    · obtain rfl : i = m := by omega
      go_wp2_with fail
      go_ret
      refine ⟨-1, rfl, ⟨fun h => absurd h (by decide), fun h => ?_⟩, rfl⟩
      obtain ⟨k, hk⟩ := List.mem_iff_getElem?.1 h
      exact absurd hk (HNO.out k (by have := (List.getElem?_eq_some_iff.1 hk).1; rw [HEM.out] at this; exact this))

set_option maxHeartbeats 1600000 in
theorem contains_z (l : List Int) (x : Int) (w : World) (v : Value) (hv : ZRow w v l) : Calls Try.prog 82 #[v, .int .i64 x] w fun e w' => e = .returned (.bool (l.contains x)) ∧ w = w' := by
  have HI := Lib.hid (index_z l x w v hv)
  obtain ⟨b, eb⟩ : ∃ b, l.contains x = b := ⟨_, rfl⟩
  have HB : Hid (x ∈ l ↔ b = true) := Lib.hid (by rw [← eb]; simp)
  rw [eb]
  clear eb
  obtain ⟨r, c, rfl, -, -⟩ := hv
  go_enter Try.func82, Try.ntmps82
  go_wp2_with fail
  refine HI.out.mono ?_
  rintro e w' ⟨y, rfl, hy, rfl⟩
  have ed : decide (0 ≤ y) = b := by
    rw [HB.out] at hy
    rw [Bool.eq_iff_iff, decide_eq_true_eq]
    exact hy
  have HE := Lib.hid ed
  clear hy ed
  go_wp2_with fail
  go_ret
  exact ⟨by rw [HE.out]; rfl, rfl⟩

set_option maxHeartbeats 1600000 in
theorem has_z (l : List Int) (x : Int) (w : World) (v : Value) (hv : ZRow w v l) : Calls Try.prog 51 #[v, .int .i64 x] w fun e w' => e = .returned (.bool (l.contains x)) ∧ w = w' := by
  obtain ⟨r, c, rfl, hn, hr⟩ := hv
  have HR := Lib.hid hr
  obtain ⟨m, em⟩ : ∃ m, l.length = m := ⟨_, rfl⟩
  have HEM := Lib.hid em
  rw [em] at hn ⊢
  clear hr em
  obtain ⟨b, eb⟩ : ∃ b, l.contains x = b := ⟨_, rfl⟩
  have HB : Hid (x ∈ l ↔ b = true) := Lib.hid (by rw [← eb]; simp)
  rw [eb]
  clear eb
  go_enter Try.func51, Try.ntmps51
  go_wp2_with fail
  go_loopw [5] (fun v wr => ∃ i : Nat, i ≤ m ∧ v = .int .i64 i ∧ w = wr ∧ ∀ k, k < i → l[k]? ≠ some x) (fun v _ => m - (intOf v).toNat)
  case atStart => exact ⟨0, by omega, rfl, rfl, fun k hk => absurd hk (Nat.not_lt_zero _)⟩
  case round =>
    obtain ⟨i, hi, rfl, rfl, hno⟩ := hrel
    have HNO := Lib.hid hno
    clear hno
    by_cases hil : i < m
    · obtain ⟨y, hy⟩ : ∃ y, l[i]? = some y := ⟨l[i]'(by rw [HEM.out]; exact hil), List.getElem?_eq_getElem _⟩
      obtain ⟨b1, o, e, hc⟩ := HR.out i y hy
      subst e
      have HY := Lib.hid hy
      clear hy
      by_cases hxy : y = x
      · have t : ((y : Int) == x) = true := by simpa using hxy
        have HX := Lib.hid hxy
        clear hxy
        go_wp2_with fail
        go_ret
        exact ⟨by rw [HB.out.1 (by rw [← HX.out]; exact List.mem_of_getElem? HY.out)]; rfl, rfl⟩
      · have t : ((y : Int) == x) = false := by simpa using hxy
        have HX := Lib.hid hxy
        clear hxy
        go_wp2_with fail
        go_roundw
        case rel => exact ⟨i + 1, by omega, by go_num, by trivial, fun k hk e => by
          by_cases hki : k < i
          · exact HNO.out k hki e
          · obtain rfl : k = i := by omega
            rw [HY.out] at e
            cases e
            exact HX.out rfl⟩
        case measure => simp [intOf]; omega
    · obtain rfl : i = m := by omega
      go_wp2_with fail
      go_ret
      refine ⟨?_, rfl⟩
      cases b
      · rfl
      · obtain ⟨k, hk⟩ := List.mem_iff_getElem?.1 (HB.out.2 rfl)
        exact absurd hk (HNO.out k (by have := (List.getElem?_eq_some_iff.1 hk).1; rw [HEM.out] at this; exact this))

/-- How many of the first n groups have both disks. -/
def both (L : Nat → List Int) (a b : Int) : Nat → Nat
  | 0 => 0
  | n + 1 => both L a b n + if (L n).contains a && (L n).contains b then 1 else 0
theorem both_le (L : Nat → List Int) (a b : Int) : ∀ n, both L a b n ≤ n
  | 0 => Nat.le_refl _
  | n + 1 => by have := both_le L a b n; unfold both; split <;> omega
def sharedN (D : Int) (L : Nat → List Int) (n : Nat) (a b : Int) : Nat := if a < 0 ∨ b < 0 ∨ D ≤ a ∨ D ≤ b then 0 else both L a b n
def SharedK (D : Int) (L : Nat → List Int) (n : Nat) (a b : Int) (w : World) (e : Ending) (w' : World) : Prop := e = .returned (.int .i64 (sharedN D L n a b : Nat)) ∧ Below w.heap.size w w'

set_option maxHeartbeats 3200000 in
theorem shared_z (D : Int) (n : Nat) (L : Nat → List Int) (a b : Int) (w : World) (v : Value) (hv : ZRows w v n L) : Calls Try.prog 62 #[.agg #[.int .i64 D, v], .int .i64 a, .int .i64 b] w (SharedK D L n a b w) := by
  obtain ⟨r, c, rfl, hn, hr⟩ := hv
  have HR := Lib.hid hr
  clear hr
  obtain ⟨mn, hmn, hmn2⟩ : ∃ mn, (if b < a then b else a) = mn ∧ (mn < 0 ↔ a < 0 ∨ b < 0) := ⟨_, rfl, by split <;> omega⟩
  obtain ⟨mx, hmx, hmx2⟩ : ∃ mx, (if a < b then b else a) = mx ∧ (D ≤ mx ↔ D ≤ a ∨ D ≤ b) := ⟨_, rfl, by split <;> omega⟩
  have hB : Below w.heap.size w (w.alloc (.cells #[.int .i64 D, .slice r n c] 48)) := (Below.refl _ w).alloc (Nat.le_refl _) _
  by_cases h1 : mn < 0
  · have e0 : sharedN D L n a b = 0 := if_pos (by omega)
    have HE := Lib.hid e0
    have t1 : decide (mn < 0) = true := decide_eq_true h1
    clear e0 hmn2 hmx2 h1
    go_enter Try.func62, Try.ntmps62
    go_wp2_with fail
    go_ret
    exact ⟨by rw [HE.out]; rfl, hB⟩
  have t1 : decide (mn < 0) = false := decide_eq_false h1
  by_cases h2 : D ≤ mx
  · have e0 : sharedN D L n a b = 0 := if_pos (by omega)
    have HE := Lib.hid e0
    have t2 : decide (D ≤ mx) = true := decide_eq_true h2
    clear e0 hmn2 hmx2 h1 h2
    go_enter Try.func62, Try.ntmps62
    go_wp2_with fail
    go_ret
    exact ⟨by rw [HE.out]; rfl, hB⟩
  · have e0 : sharedN D L n a b = both L a b n := if_neg (by omega)
    have HE := Lib.hid e0
    have t2 : decide (D ≤ mx) = false := decide_eq_false h2
    clear e0 hmn2 hmx2 h1 h2
    obtain ⟨W, hW⟩ : ∃ W, w.alloc (.cells #[.int .i64 D, .slice r n c] 48) = W := ⟨_, rfl⟩
    have d1 : W.cell? ⟨w.heap.size, 1, none⟩ = some (.slice r n c) := by rw [← hW]; simp [go_sem]
    rw [hW] at hB
    have HB := Lib.hid hB
    have HLE := Lib.hid (both_le L a b)
    have HWW := Lib.hid hW
    clear hB hW
    go_enter Try.func62, Try.ntmps62
    go_wp2_with fail
    rw [HWW.out]
    go_loopw [7, 25] (fun u v wr => ∃ i : Nat, i ≤ n ∧ v = .int .i64 i ∧ u = .int .i64 (both L a b i : Nat) ∧ W = wr) (fun _ v _ => n - (intOf v).toNat)
    case atStart => exact ⟨0, by omega, rfl, rfl, rfl⟩
    case round =>
      obtain ⟨i, hi, rfl, rfl, rfl⟩ := hrel
      obtain ⟨s, hs⟩ : ∃ s, both L a b i = s := ⟨_, rfl⟩
      have hsn : s ≤ n := by have := HLE.out i; omega
      rw [hs]
      have HS := Lib.hid hs
      clear hs
      by_cases hil : i < n
      · obtain ⟨b1, o, x, rfl, hx, hz⟩ := HR.out i hil
        have hx' := (HB.out.cell (p := ⟨b1, o + i, none⟩) (World.block_lt_of_cell? _ _ hx)).trans hx
        have HC := Lib.hid fun q => contains_z (L i) q W x (hz.below (show Below w.heap.size w W from HB.out))
        clear hx
        obtain ⟨r1, k1, rfl, -, -⟩ := hz
        obtain ⟨ca, hca⟩ : ∃ ca, (L i).contains a = ca := ⟨_, rfl⟩
        obtain ⟨cb, hcb⟩ : ∃ cb, (L i).contains b = cb := ⟨_, rfl⟩
        have HA := HC.out a
        have HBB := HC.out b
        rw [hca] at HA
        rw [hcb] at HBB
        have HNX : Hid (both L a b (i + 1) = s + if ca && cb then 1 else 0) := Lib.hid (by rw [both, HS.out, hca, hcb])
        have HHA := Lib.hid HA
        have HHB := Lib.hid HBB
        clear HA HBB hca hcb
        obtain ⟨m1, em1⟩ : ∃ m1, (L i).length = m1 := ⟨_, rfl⟩
        rw [em1] at hx' HHA HHB
        clear em1
        cases ca
        · go_wp2_with fail
          refine HHA.out.mono ?_
          rintro e w2 ⟨rfl, rfl⟩
          go_wp2_with fail
          go_roundw
          case rel => exact ⟨i + 1, by omega, by go_num, by rw [HNX.out]; rfl, by trivial⟩
          case measure => simp [intOf]; omega
        · cases cb
          · go_wp2_with fail
            refine HHA.out.mono ?_
            rintro e w2 ⟨rfl, rfl⟩
            go_wp2_with fail
            refine HHB.out.mono ?_
            rintro e w2 ⟨rfl, rfl⟩
            go_wp2_with fail
            go_roundw
            case rel => exact ⟨i + 1, by omega, by go_num, by rw [HNX.out]; rfl, by trivial⟩
            case measure => simp [intOf]; omega
          · go_wp2_with fail
            refine HHA.out.mono ?_
            rintro e w2 ⟨rfl, rfl⟩
            go_wp2_with fail
            refine HHB.out.mono ?_
            rintro e w2 ⟨rfl, rfl⟩
            go_wp2_with fail
            go_roundw
            case rel => exact ⟨i + 1, by omega, by go_num, by rw [HNX.out]; rfl, by trivial⟩
            case measure => simp [intOf]; omega
      · obtain rfl : i = n := by omega
        go_wp2_with fail
        go_ret
        exact ⟨by rw [HE.out, HS.out]; rfl, HB.out⟩
end Go.Proofs.Ytnmkkflnehnioaa
