/-
  A design that is given (an argument): its rows, opened; few (57). No condition.
-/
import Derived.Test.YtnmkkflnehnioaaDb
import Derived.Test.YtnmkkflnehnioaaLaw
import Derived.Deep.Slices
namespace Go.Proofs.Ytnmkkflnehnioaa
open Go.ChangeShapes Go.WideShapes Go.ChangeAt Go.RowKit
set_option maxRecDepth 100000

/-- A row of whole numbers that can be read, of whatever length. -/
def ZRow0 (w : World) (v : Value) (l : List Int) : Prop := ∃ r c, v = .slice r l.length c ∧ ∀ i x, l[i]? = some x → ∃ b o, r = some ⟨b, o, none⟩ ∧ w.cell? ⟨b, o + i, none⟩ = some (.int .i64 x)
def ZRows0 (w : World) (v : Value) (n : Nat) (L : Nat → List Int) : Prop := ∃ r c, v = .slice r n c ∧ ∀ i, i < n → ∃ b o x, r = some ⟨b, o, none⟩ ∧ w.cell? ⟨b, o + i, none⟩ = some x ∧ ZRow0 w x (L i)
def Few (n : Nat) (L : Nat → List Int) : Prop := n ≤ 200 ∧ ∀ i, i < n → (L i).length ≤ 70
theorem ZRows0.few {w : World} {v : Value} {n : Nat} {L : Nat → List Int} (h : ZRows0 w v n L) (hf : Few n L) : ZRows w v n L := by
  obtain ⟨r, c, rfl, hr⟩ := h
  refine ⟨r, c, rfl, by have := hf.1; omega, fun i hi => ?_⟩
  obtain ⟨b, o, x, e, hc, r1, c1, e1, h1⟩ := hr i hi
  exact ⟨b, o, x, e, hc, r1, c1, e1, by have := hf.2 i hi; omega, h1⟩
theorem ZRow0.below {w w' : World} {v : Value} {l : List Int} (h : ZRow0 w v l) (hb : Below w.heap.size w w') : ZRow0 w' v l := by
  obtain ⟨r, c, rfl, h⟩ := h
  refine ⟨r, c, rfl, fun i x hx => ?_⟩
  obtain ⟨b, o, e, hc⟩ := h i x hx
  exact ⟨b, o, e, (hb.cell (p := ⟨b, o + i, none⟩) (World.block_lt_of_cell? _ _ hc)).trans hc⟩
theorem ZRows0.below {w w' : World} {v : Value} {n : Nat} {L : Nat → List Int} (h : ZRows0 w v n L) (hb : Below w.heap.size w w') : ZRows0 w' v n L := by
  obtain ⟨r, c, rfl, h⟩ := h
  refine ⟨r, c, rfl, fun i hi => ?_⟩
  obtain ⟨b, o, x, e, hc, hx⟩ := h i hi
  exact ⟨b, o, x, e, (hb.cell (p := ⟨b, o + i, none⟩) (World.block_lt_of_cell? _ _ hc)).trans hc, hx.below hb⟩

theorem cells3 : Try.prog.cellsOf 3 = 1 := by kernel_rfl
theorem cells38 : Try.prog.cellsOf 38 = 1 := by kernel_rfl
theorem cells46 : Try.prog.cellsOf 46 = 1 := by kernel_rfl
theorem cells48 : Try.prog.cellsOf 48 = 2 := by kernel_rfl
theorem spot_none {w : World} {a : Addr} {v : Value} (h : w.cell? (a.add 0) = some v) : ∃ b o, a = ⟨b, o, none⟩ := by
  obtain ⟨b, o, s⟩ := a
  rw [show (⟨b, o, s⟩ : Addr).add 0 = ⟨b, o, s⟩ from rfl] at h
  unfold World.cell? at h
  split at h
  · split at h
    · cases h
    · cases s
      · exact ⟨b, o, rfl⟩
      · rename_i hs; simp at hs
  · cases h
theorem choose_all {α β : Type} [Inhabited β] {p : α → β → Prop} (h : ∀ a, ∃ b, p a b) : ∃ f : α → β, ∀ a, p a (f a) := ⟨fun a => (h a).choose, fun a => (h a).choose_spec⟩
theorem open_row {H : Type} {enc : TypeId × Value → H} {W : World} {fuel : Nat} {x : Value} {y : DataW H × List MemPlace} (h : DataW.trod enc Try.prog W 0 (fun _ => true) true fuel 38 [x] = some y) : ∃ l, ZRow0 W x l := by
  rcases Go.Deep.open_slice1 (e := 3) Try.underlying38 cells3 h with ⟨e, -⟩ | ⟨a, len, cap, m, n, V, D, Pl, e, -, hl, -, hm, -, hx⟩
  · cases e
    exact ⟨[], none, 0, rfl, fun i x hx => by simp at hx⟩
  · cases e
    rw [if_pos rfl] at hm
    have hint : ∀ i, i < len → ∃ z : Int, V i = .int .i64 z := fun i hi => by
      obtain ⟨z, e, -⟩ := DataW.trod_int Try.underlying3 (hx i (by omega)).2
      simp at e
      exact ⟨z, e⟩
    refine ⟨(List.range len).map fun i => match V i with | .int _ z => z | _ => 0, some a, cap, by simp, fun i z hz => ?_⟩
    rw [List.getElem?_map] at hz
    by_cases hi : i < len
    · rw [List.getElem?_range hi] at hz
      obtain ⟨q, hq⟩ := hint i hi
      simp [hq] at hz
      subst hz
      obtain ⟨b, o, rfl⟩ := spot_none (hx 0 (by omega)).1
      refine ⟨b, o, rfl, ?_⟩
      have := (hx i (by omega)).1
      rw [add_plain] at this
      rw [this, hq]
    · rw [List.getElem?_eq_none (by simp; omega)] at hz
      cases hz
theorem open_design {H : Type} {enc : TypeId × Value → H} {W : World} {v : Value} {d : DataW H} {ps : List MemPlace} {base : Nat} (ho : Value.okWide Try.prog W .any base 48 v) (hd : DataW.Trod enc Try.prog W 0 (fun _ => true) true 48 v d ps) :
    ∃ (D : Int) (u : Value) (n : Nat) (L : Nat → List Int), v = .agg #[.int .i64 D, u] ∧ ZRows0 W u n L := by
  obtain ⟨cs, rfl, hsz⟩ := okWide_struct Try.underlying48 ho
  rw [cells48] at hsz
  obtain ⟨l⟩ := cs
  obtain ⟨c0, c1, rfl⟩ := list2 l hsz
  obtain ⟨fuel, hf⟩ := hd
  obtain ⟨y0, y1, n, -, -, h0, h1⟩ := trod_struct2 Try.underlying48 hf
  simp only [cells3, cells46] at h0 h1
  obtain ⟨z, e, -⟩ := DataW.trod_int Try.underlying3 h0
  simp [Value.cells] at e
  subst e
  refine ⟨z, c1, ?_⟩
  have h1 : DataW.trod enc Try.prog W 0 (fun _ => true) true n 46 [c1] = some y1 := h1
  rcases Go.Deep.open_slice1 (e := 38) Try.underlying46 cells38 h1 with ⟨e, -⟩ | ⟨a, len, cap, m, n, V, D, Pl, e, -, hl, -, hm, -, hx⟩
  · cases e
    exact ⟨0, fun _ => [], rfl, none, 0, rfl, fun i hi => absurd hi (Nat.not_lt_zero _)⟩
  · cases e
    rw [if_pos rfl] at hm
    obtain ⟨L, hL⟩ := choose_all (p := fun (i : Nat) (l : List Int) => i < len → ZRow0 W (V i) l) (fun i => by
      by_cases hi : i < len
      · obtain ⟨l, h⟩ := open_row (hx i (by omega)).2
        exact ⟨l, fun _ => h⟩
      · exact ⟨[], fun h => absurd h hi⟩)
    refine ⟨len, L, rfl, some a, cap, rfl, fun i hi => ?_⟩
    obtain ⟨b, o, rfl⟩ := spot_none (hx 0 (by omega)).1
    refine ⟨b, o, V i, rfl, ?_, hL i hi⟩
    have := (hx i (by omega)).1
    rw [add_plain] at this
    exact this

set_option maxHeartbeats 1600000 in
theorem few_any (D : Int) (n : Nat) (L : Nat → List Int) (w : World) (v : Value) (hv : ZRows0 w v n L) : Calls Try.prog 57 #[.agg #[.int .i64 D, v]] w (SaysK (Few n L) w) := by
  obtain ⟨r, c, rfl, hr⟩ := hv
  have HR := Lib.hid hr
  clear hr
  have hB : Below w.heap.size w (w.alloc (.cells #[.int .i64 D, .slice r n c] 48)) := (Below.refl _ w).alloc (Nat.le_refl _) _
  have HB := Lib.hid hB
  by_cases h1 : 200 < n
  · have t1 : decide (200 < (n : Int)) = true := decide_eq_true (by omega)
    go_enter Try.func57, Try.ntmps57
    go_wp2_with fail
    go_ret
    exact .no (fun h => absurd h.1 (by omega)) HB.out
  · have t1 : decide (200 < (n : Int)) = false := decide_eq_false (by omega)
    go_enter Try.func57, Try.ntmps57
    go_wp2_with fail
    obtain ⟨W, hW⟩ : ∃ W, w.alloc (.cells #[.int .i64 D, .slice r n c] 48) = W := ⟨_, rfl⟩
    have d1 : W.cell? ⟨w.heap.size, 1, none⟩ = some (.slice r n c) := by rw [← hW]; simp [go_sem]
    rw [hW] at HB hB ⊢
    clear hW hB
    go_loopw [3] (fun v wr => ∃ i : Nat, i ≤ n ∧ v = .int .i64 i ∧ W = wr ∧ ∀ g, g < i → (L g).length ≤ 70) (fun v _ => n - (intOf v).toNat)
    case atStart => exact ⟨0, by omega, rfl, rfl, fun g hg => absurd hg (Nat.not_lt_zero _)⟩
    case round =>
      obtain ⟨i, hi, rfl, rfl, hok⟩ := hrel
      have HOK := Lib.hid hok
      clear hok
      by_cases hil : i < n
      · obtain ⟨b, o, x, rfl, hx, r1, k1, rfl, -⟩ := HR.out i hil
        have hx' := (HB.out.cell (p := ⟨b, o + i, none⟩) (World.block_lt_of_cell? _ _ hx)).trans hx
        clear hx
        obtain ⟨m, em⟩ : ∃ m, (L i).length = m := ⟨_, rfl⟩
        have HEM := Lib.hid em
        rw [em] at hx'
        clear em
        by_cases hm : 70 < m
        · have t2 : decide (70 < (m : Int)) = true := decide_eq_true (by omega)
          go_wp2_with fail
          go_ret
          exact .no (fun h => absurd (h.2 i hil) (by rw [HEM.out]; omega)) HB.out
        · have t2 : decide (70 < (m : Int)) = false := decide_eq_false (by omega)
          go_wp2_with fail
          go_roundw
          case rel => exact ⟨i + 1, by omega, by go_num, by trivial, fun g hg => by
            by_cases hgi : g < i
            · exact HOK.out g hgi
            · obtain rfl : g = i := by omega
              rw [HEM.out]; omega⟩
          case measure => simp [intOf]; omega
      · obtain rfl : i = n := by omega
        go_wp2_with fail
        go_ret
        exact .yes ⟨by omega, HOK.out⟩ HB.out
end Go.Proofs.Ytnmkkflnehnioaa
