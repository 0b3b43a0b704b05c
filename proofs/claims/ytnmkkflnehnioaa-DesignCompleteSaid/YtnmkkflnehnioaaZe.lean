/-
  The reference's Complete (56). Condition: 2 to 60 disks, fewer than 5000 sets.
-/
import Derived.Test.YtnmkkflnehnioaaDc
import Derived.Test.YtnmkkflnehnioaaZp
import Derived.Test.YtnmkkflnehnioaaZx
namespace Go.Proofs.Ytnmkkflnehnioaa
open Go.RowKit
set_option maxRecDepth 100000

def natRow (N : Nat) (f : Nat → Nat) : List Int := (List.range N).map fun j => (f j : Int)
theorem natRow_len (N : Nat) (f : Nat → Nat) : (natRow N f).length = N := by simp [natRow]
theorem natRow_at {N p : Nat} {f : Nat → Nat} (hp : p < N) : at0 (natRow N f) p = f p := by simp [natRow, at0, hp]
theorem natRow_congr {N : Nat} {f g : Nat → Nat} (h : ∀ j, j < N → f j = g j) : natRow N f = natRow N g := List.map_congr_left fun j hj => by rw [h j (List.mem_range.1 hj)]
theorem natRow_set {N p : Nat} {f : Nat → Nat} (v : Nat) : (natRow N f).set p (v : Int) = natRow N (fun j => if j = p then v else f j) := by
  refine List.ext_getElem (by simp [natRow]) fun j h1 h2 => ?_
  rw [List.getElem_set]
  simp only [natRow, List.getElem_map, List.getElem_range]
  by_cases h : p = j
  · subst h; simp
  · have h' : ¬ j = p := fun e => h e.symm
    rw [if_neg h, if_neg h']

/-- The state of the reference's Complete: the result's block, the design behind it (d), the set behind that (b). -/
structure RC (w W : World) (d b : Nat) (disks width : Nat) (f : Nat → Nat) (cnt : Nat) : Prop where
  hd : d = w.heap.size + 1
  hb : b = w.heap.size + 2
  below : Below w.heap.size w W
  res : W.heap[w.heap.size]? = some (.cells #[.int .i64 0, .slice none 0 0] 48 (0, 0))
  des : ∃ vd, W.heap[d]? = some (.cells #[.int .i64 disks, vd] 48 (0, 0)) ∧ RowsOf W (b + 1) vd cnt (rowG (compG disks width))
  row : RowAt W b (natRow width f)
theorem RC.set {w W : World} {d b disks width cnt : Nat} {f : Nat → Nat} (h : RC w W d b disks width f cnt) (p v : Nat) : RC w (W.setCell ⟨b, p, none⟩ (.int .i64 (v : Nat))) d b disks width (fun j => if j = p then v else f j) cnt := by
  obtain ⟨vd, h1, h2⟩ := h.des
  have e1 := h.hd
  have e2 := h.hb
  refine ⟨e1, e2, h.below.setCell (by show w.heap.size ≤ b; omega) _, ?_, ⟨vd, ?_, h2.setCell (by show b < b + 1; omega) _⟩, ?_⟩
  · rw [Below.heap_setCell _ _ _ _ (by show w.heap.size ≠ b; omega)]
    exact h.res
  · rw [Below.heap_setCell _ _ _ _ (by show d ≠ b; omega)]
    exact h1
  · have := h.row.set p (v : Int)
    rw [natRow_set] at this
    exact this
theorem RC.congr {w W : World} {d b disks width cnt : Nat} {f g : Nat → Nat} (h : RC w W d b disks width f cnt) (e : ∀ j, j < width → f j = g j) : RC w W d b disks width g cnt := ⟨h.hd, h.hb, h.below, h.res, h.des, by rw [← natRow_congr e]; exact h.row⟩
theorem RC.cell {w W : World} {d b disks width cnt : Nat} {f : Nat → Nat} (h : RC w W d b disks width f cnt) {j : Nat} (hj : j < width) : W.cell? ⟨b, j, none⟩ = some (.int .i64 (f j : Nat)) ∧ W.frozen? ⟨b, j, none⟩ = false := by
  have h1 := h.row.cell (j := j) (by rw [natRow_len]; exact hj)
  rw [natRow_at hj] at h1
  exact ⟨h1, h.row.frozen j⟩
/-- A row is appended, a copy of the set. -/
theorem RC.snoc {w W w5 w6 : World} {d b disks width cnt : Nat} {f : Nat → Nat} {vd rv v' : Value} {rows : List Value} {o : Obj} (h : RC w W d b disks width f cnt) (hd : W.heap[d]? = some (.cells #[.int .i64 disks, vd] 48 (0, 0)))
    (ho : W.ownsRow (b + 1) 38 1 vd cnt rows) (hr : ∀ i, i < cnt → ∃ rv, rows[i]? = some rv ∧ W.ownsRow (b + 1) 3 1 rv (rowG (compG disks width) i).length (natVals (rowG (compG disks width) i)))
    (h5 : Below W.heap.size W w5) (hrv : w5.ownsRow W.heap.size 3 1 rv width (natVals (rowG (compG disks width) cnt))) (hlen : (rowG (compG disks width) cnt).length = width)
    (o6 : w6.ownsRow (b + 1) 38 1 v' (cnt + 1) (rows ++ [rv])) (g6 : (w5.alloc o).grownBy w6 vd.ownBlock) : RC w (w6.setCell ⟨d, 1, none⟩ v') d b disks width f (cnt + 1) := by
  have e1 := h.hd
  have e2 := h.hb
  have hbl : b < W.heap.size := h.row.lt
  have hd5 := (h5.block d (lt_of_block hd)).trans hd
  obtain ⟨h6, -, -⟩ := after_app48 (o := o) hd5 g6 (fun k e => by have := (ho.lt k e).1; omega)
  have ho5 := own_below ho h5 (Nat.le_refl _)
  have hB5 : Below w.heap.size w w5 := h.below.trans (h5.mono h.below.size)
  have keep : ∀ k, k < b + 1 → w6.heap[k]? = W.heap[k]? := fun k hk => by
    rw [g6.block k (by have := h5.size; simp; omega) (fun e => by have := (ho.lt k e.symm).1; omega), Below.heap_alloc _ _ _ (by have := h5.size; omega), h5.block k (by omega)]
  have hz := h5.size
  refine ⟨e1, e2, ?_, ?_, ⟨v', put2 h6, RowsOf.setCell ?_ (by show d < b + 1; omega) v'⟩, ?_⟩
  · exact (((hB5.alloc hB5.size o).grown g6 (by have := hB5.size; simp; omega) (fun k e => by have := (ho.lt k e).1; omega))).setCell (by show w.heap.size ≤ d; omega) v'
  · rw [Below.heap_setCell _ _ _ _ (by show w.heap.size ≠ d; omega), keep _ (by omega)]
    exact h.res
  · refine rows_snoc (ho5.alloc o) (fun j hj => ?_) ?_ o6 g6
    · obtain ⟨rv, r1, r2⟩ := hr j hj
      exact ⟨rv, r1, (own_below r2 h5 (Nat.le_refl _)).alloc o⟩
    · rw [hlen]
      exact (own_weaken hrv (by omega)).alloc o
  · show (w6.setCell ⟨d, 1, none⟩ v').heap[b]? = _
    rw [Below.heap_setCell _ _ _ _ (by show b ≠ d; omega), keep b (by omega)]
    exact h.row
/-- How many rows the design has. -/
def rowsIn (W : World) (d : Nat) : Nat := match W.cell? ⟨d, 1, none⟩ with | some (.slice _ n _) => n | _ => 0
theorem rowsIn_of {W : World} {d n c : Nat} {A : Option Addr} (h : W.cell? ⟨d, 1, none⟩ = some (.slice A n c)) : rowsIn W d = n := by simp [rowsIn, h]

theorem RC.rowsIn {w W : World} {d b disks width cnt : Nat} {f : Nat → Nat} (h : RC w W d b disks width f cnt) : rowsIn W d = cnt := by
  obtain ⟨vd, h1, rows, ho, -⟩ := h.des
  obtain ⟨A, c, rfl⟩ := own_slice ho
  exact rowsIn_of (cells2 h1).2.1

set_option maxHeartbeats 6400000 in
theorem rcomplete_any (disks width : Nat) (hw2 : 2 ≤ width) (hwd : width ≤ disks) (hd60 : disks ≤ 60) (hlen : (compG disks width).length < 5000) (w : World) :
    Calls Try.prog 56 #[.int .i64 disks, .int .i64 width] w fun e w' => ∃ v, e = .returned (.agg #[.int .i64 disks, v]) ∧ RowsOf w' w.heap.size v (compG disks width).length (rowG (compG disks width)) ∧ Below w.heap.size w w' := by
  have hmk : ∀ W, (Instr.makeSlice 38 (.int .i64 width) (.int .i64 width)).run Try.prog W = .ok (.slice (some ⟨W.heap.size, 0, none⟩) width width) (W.alloc (.cells (intCells (List.replicate width 0)) 3)) := by
    have h5 : width = 2 ∨ width = 3 ∨ width = 4 ∨ width = 5 ∨ width = 6 ∨ width = 7 ∨ width = 8 ∨ width = 9 ∨ width = 10 ∨ width = 11 ∨ width = 12 ∨ width = 13 ∨ width = 14 ∨ width = 15 ∨ width = 16 ∨ width = 17 ∨ width = 18 ∨ width = 19 ∨ width = 20 ∨ width = 21 ∨ width = 22 ∨ width = 23 ∨ width = 24 ∨ width = 25 ∨ width = 26 ∨ width = 27 ∨ width = 28 ∨ width = 29 ∨ width = 30 ∨ width = 31 ∨ width = 32 ∨ width = 33 ∨ width = 34 ∨ width = 35 ∨ width = 36 ∨ width = 37 ∨ width = 38 ∨ width = 39 ∨ width = 40 ∨ width = 41 ∨ width = 42 ∨ width = 43 ∨ width = 44 ∨ width = 45 ∨ width = 46 ∨ width = 47 ∨ width = 48 ∨ width = 49 ∨ width = 50 ∨ width = 51 ∨ width = 52 ∨ width = 53 ∨ width = 54 ∨ width = 55 ∨ width = 56 ∨ width = 57 ∨ width = 58 ∨ width = 59 ∨ width = 60 := by omega
    intro W
    rcases h5 with h | h | h | h | h | h | h | h | h | h | h | h | h | h | h | h | h | h | h | h | h | h | h | h | h | h | h | h | h | h | h | h | h | h | h | h | h | h | h | h | h | h | h | h | h | h | h | h | h | h | h | h | h | h | h | h | h | h | h <;> (rw [h]; kernel_rfl)
  obtain ⟨N, hN⟩ : ∃ N, (compG disks width).length = N := ⟨_, rfl⟩
  have HN := Lib.hid hN
  rw [hN] at hlen ⊢
  clear hN
  go_enter Try.func56, Try.ntmps56
  go_wp2_with fail
  obtain ⟨d, hd⟩ : ∃ d, w.heap.size + 1 = d := ⟨_, rfl⟩
  obtain ⟨b, hb⟩ : ∃ b, d + 1 = b := ⟨_, rfl⟩
  obtain ⟨W0, hW0⟩ : ∃ W0, ((w.alloc (.cells #[.int .i64 0, .slice none 0 0] 48)).alloc (.cells #[.int .i64 disks, .slice none 0 0] 48)).alloc (.cells (intCells (List.replicate width 0)) 3) = W0 := ⟨_, rfl⟩
  have hR0 : RC w W0 d b disks width (fun _ => 0) 0 := by
    have z1 : (w.alloc (.cells #[.int .i64 0, .slice none 0 0] 48)).heap.size = w.heap.size + 1 := by simp
    have z2 : ((w.alloc (.cells #[.int .i64 0, .slice none 0 0] 48)).alloc (.cells #[.int .i64 disks, .slice none 0 0] 48)).heap.size = w.heap.size + 2 := by simp
    refine ⟨hd.symm, by omega, by rw [← hW0]; exact (((Below.refl _ w).alloc (Nat.le_refl _) _).alloc (by simp) _).alloc (by simp <;> omega) _, ?_, ⟨.slice none 0 0, ?_, [], World.ownsRow_nil _ _ _ _, fun i hi => absurd hi (Nat.not_lt_zero _)⟩, ?_⟩
    · rw [← hW0, Below.heap_alloc _ _ _ (by omega), Below.heap_alloc _ _ _ (by omega)]
      exact heap_alloc_new w _
    · rw [← hW0, ← hd, Below.heap_alloc _ _ _ (by omega)]
      have := heap_alloc_new (w.alloc (.cells #[.int .i64 0, .slice none 0 0] 48)) (.cells #[.int .i64 disks, .slice none 0 0] 48)
      rw [z1] at this
      exact this
    · have := RowAt.new ((w.alloc (.cells #[.int .i64 0, .slice none 0 0] 48)).alloc (.cells #[.int .i64 disks, .slice none 0 0] 48)) (List.replicate width 0)
      rw [z2] at this
      rw [show natRow width (fun _ => 0) = List.replicate width 0 from List.eq_replicate_iff.2 ⟨by simp [natRow], by simp [natRow]⟩, ← hW0, ← hb, ← hd]
      exact this
  rw [hd, hb, hW0]
  have HR0 := Lib.hid hR0
  have HDB := Lib.hid (And.intro hd hb)
  clear hR0 hW0 hmk hd hb
  go_loopw [7] (fun v wr => ∃ i : Nat, i ≤ width ∧ v = .int .i64 i ∧ RC w wr d b disks width (fun j => if j < i then j else 0) 0) (fun v _ => width - (intOf v).toNat)
  case atStart => exact ⟨0, by omega, rfl, HR0.out.congr fun j _ => by rw [if_neg (Nat.not_lt_zero _)]⟩
  case round =>
    obtain ⟨i, hi, rfl, hR⟩ := hrel
    have HR := Lib.hid hR
    clear hR
    by_cases hil : i < width
    · obtain ⟨c0, c1⟩ := HR.out.cell hil
      go_wp2_with fail
      go_roundw
      case rel => exact ⟨i + 1, by omega, by go_num, (HR.out.set i i).congr fun j _ => by
        by_cases h : j = i
        · subst h; rw [if_pos rfl, if_pos (by omega)]
        · rw [if_neg h]
          by_cases h2 : j < i
          · rw [if_pos h2, if_pos (by omega)]
          · rw [if_neg h2, if_neg (by omega)]⟩
      case measure => simp [intOf]; omega
    · obtain rfl : i = width := by omega
      go_wp2_with fail
      go_loopw [8] (fun v wx => ∃ t : Nat, t < N ∧ RC w wx d b disks i (setAt disks i t) t) (fun v wx => N - rowsIn wx d)
      case atStart => exact ⟨0, by have := bin_pos disks i hwd; rw [← HN.out, compG_len hwd]; omega, HR.out.congr fun j hj => by rw [if_pos hj, set_zero hwd hj]⟩
      case round =>
        obtain ⟨t, htN, hR⟩ := hrel
        have HR := Lib.hid hR
        obtain ⟨vd, hdes, rows, ho, hrows⟩ := hR.des
        obtain ⟨A, cd, rfl⟩ := own_slice ho
        obtain ⟨-, c1, -, f1⟩ := cells2 hdes
        have hdl : d < wr.heap.size := lt_of_block hdes
        have hbl : b < wr.heap.size := hR.row.lt
        have hE := set_row hwd (t := t) (by rw [← HN.out] at htN; exact htN)
        have hEr : rowG (compG disks i) t = (List.range i).map (setAt disks i t) := hE
        have HE := Lib.hid hEr
        obtain ⟨ys, hys⟩ : ∃ ys, natVals (rowG (compG disks i) t) = ys := ⟨_, rfl⟩
        have hyl : ys.length = i := by rw [← hys, hEr]; simp [natVals]
        have hyc : ∀ (j : Nat) (u : Value), ys[j]? = some u → j < i ∧ u = .int .i64 (setAt disks i t j : Nat) := fun j u hu => by
          rw [← hys, hEr] at hu
          by_cases hj : j < i
          · simp [natVals, hj] at hu
            exact ⟨hj, hu.symm⟩
          · rw [List.getElem?_eq_none (by simp [natVals]; omega)] at hu
            cases hu
        have HY := Lib.hid (And.intro hyl (fun (u : Value) (hu : u ∈ ys) => (by
          obtain ⟨j, hj⟩ := List.mem_iff_getElem?.1 hu
          rw [(hyc j u hj).2]; rfl : u.oneCell' = true)))
        have HX := Lib.hid (fun Y (hY : Below wr.heap.size wr Y) (j : Nat) (u : Value) (hu : ys[j]? = some u) => (by
          obtain ⟨h1, rfl⟩ := hyc j u hu
          rw [show (⟨b, 0, none⟩ : Addr).add j = ⟨b, j, none⟩ by rw [Go.WideShapes.add_plain, Nat.zero_add]]
          exact (hY.cell (p := ⟨b, j, none⟩) hbl).trans (HR.out.cell h1).1 : Y.cell? ((⟨b, 0, none⟩ : Addr).add j) = some u))
        have HF := Lib.hid (fun Y (hY : Below wr.heap.size wr Y) => And.intro ((hY.cell (p := ⟨d, 1, none⟩) hdl).trans c1) (And.intro ((hY.frozen (p := ⟨d, 1, none⟩) hdl).trans f1) (And.intro (show ¬ d = Y.heap.size from fun e => by have := hY.size; omega) (show d < Y.heap.size from Nat.lt_of_lt_of_le hdl hY.size))))
        have HO := Lib.hid (And.intro ho (And.intro hrows hdes))
        have HYS := Lib.hid hys
        have hne : ¬ d = wr.heap.size := by omega
        have ht6 : t + 1 < 6000 := by omega
        have hi6 : 0 + i < 6000 := by omega
        have hbw : b + 1 ≤ wr.heap.size := by omega
        have hdb : d < b := by have := HDB.out; omega
        clear hR ho hrows hdes hE hEr hys hyl hyc
        go_upto_region 7 with (fail)
        go_cut [8] (fun _ wx => RC w wx d b disks i (setAt disks i t) (t + 1))
        case first =>
          go_region_law (first
            | (refine step_app38m rfl (.tmp 25) (.tmp 26) rfl wr.heap.size (.slice (some ⟨wr.heap.size, 0, none⟩) 0 0) 0 [] ?_ (own_empty (Nat.le_refl _) (by first | exact heap_alloc_new wr _ | exact heap_alloc_new wr.drew _)) ⟨b, 0, none⟩ i i ys ?_ HY.out.1 (HX.out _ (by first | exact ((Below.refl _ wr).drew.alloc (Nat.le_refl _) _) | exact ((Below.refl _ wr).alloc (Nat.le_refl _) _).drew)) HY.out.2 hi6 (by simp) ?_; (focus (simp [Act.eval]; done)); (focus (simp [Act.eval]; done)); intro v5 w5 o5 g5 at5; have hB5 : Below wr.heap.size wr w5 := Below.grown (by first | exact ((Below.refl _ wr).drew.alloc (Nat.le_refl _) _) | exact ((Below.refl _ wr).alloc (Nat.le_refl _) _).drew) g5 (by simp) (fun k e => by cases e; exact Nat.le_refl _); rw [Nat.zero_add, List.nil_append] at o5; obtain ⟨A5, c5, e5⟩ := own_slice o5; subst e5; obtain ⟨q1, q2, q3, q4⟩ := HF.out w5 hB5; have z5 := hB5.size)
            | (refine step_app46 rfl (.tmp 24) (.tmp 28) rfl (b + 1) (.slice A t cd) t rows ?_ ((own_below HO.out.1 hB5 (Nat.le_refl _)).alloc _) ⟨w5.heap.size, 0, none⟩ 1 1 [.slice A5 i c5] ?_ rfl ?_ (by simp [Value.oneCell']) ht6 (Nat.le_trans (Nat.le_trans hbw hB5.size) (by simp)) ?_; (focus (simp [Act.eval]; done)); (focus (simp [Act.eval]; done)); (focus (intro j u hu; match j, hu with | 0, hu => (simp at hu; subst hu; simp [go_sem]))); intro v6 w6 o6 g6 at6; obtain ⟨A6, c6, e6⟩ := own_slice o6; subst e6; obtain ⟨p0, p1, p2⟩ := after_app48 ((hB5.block d hdl).trans HO.out.2.2) g6 (fun k e => by have := (HO.out.1.lt k e).1; omega))
            | fail)
          all_goals (
            go_wp2_with fail
            go_meet
            exact RC.snoc HR.out HO.out.2.2 HO.out.1 HO.out.2.1 hB5 (by rw [HYS.out]; exact o5) (by rw [HE.out]; simp) o6 g6)
        case rest =>
          have HRC := Lib.hid hcut
          clear hcut c1 f1 hdl hbl hne ht6 hi6 hbw
          obtain ⟨dd, hdd⟩ : ∃ dd, disks - i = dd := ⟨_, rfl⟩
          have hddi : (disks : Int) - (i : Int) = (dd : Int) := by omega
          have hdd60 : dd ≤ 60 := by omega
          have HDD := Lib.hid hdd
          clear hdd
          have HT := Lib.hid (show t < (exts disks i []).length by rw [← HN.out] at htN; exact htN)
          go_wp2_with fail
          go_loopw [8] (fun v wz => ∃ x : Int, v = .int .i64 x ∧ -1 ≤ x ∧ x < i ∧ wc = wz ∧ ∀ k : Nat, x < k → k < i → setAt disks i t k = dd + k) (fun v _ => (intOf v + 1).toNat)
          case atStart => exact ⟨(i : Int) - 1, rfl, by omega, by omega, rfl, fun k h1 h2 => by omega⟩
          case round =>
            obtain ⟨x, rfl, hx1, hx2, rfl, hmax⟩ := hrel
            have HMAX := Lib.hid hmax
            clear hmax
            by_cases hx0 : 0 ≤ x
            · obtain ⟨m, rfl⟩ : ∃ m : Nat, x = m := ⟨x.toNat, by omega⟩
              have hm : m < i := by omega
              obtain ⟨k0, k1⟩ := HRC.out.cell hm
              obtain ⟨s, hs⟩ : ∃ s, setAt disks i t m = s := ⟨_, rfl⟩
              have hs60 : s < 60 := by have := set_lt hwd HT.out hm; omega
              rw [hs] at k0
              have HS := Lib.hid hs
              clear hs
              by_cases he : s = dd + m
              · have te : ((s : Int) == (dd : Int) + (m : Int)) = true := by simp; omega
                have HEQ := Lib.hid he
                clear he hx0 hx1 hx2
                go_wp2_with fail
                go_roundw
                case rel => exact ⟨(m : Int) - 1, rfl, by omega, by omega, by trivial, fun k h1 h2 => by
                  by_cases h : k = m
                  · subst h; rw [HS.out]; exact HEQ.out
                  · exact HMAX.out k (by omega) h2⟩
                case measure => simp [intOf]
              · have te : ((s : Int) == (dd : Int) + (m : Int)) = false := by simp; omega
                have HNE := Lib.hid he
                clear he hx0 hx1 hx2
                have HNEXT := Lib.hid (set_next hwd HT.out hm (fun k h1 h2 => by rw [HMAX.out k (by omega) h2, HDD.out]) (by rw [HS.out, HDD.out]; exact HNE.out))
                go_wp2_with fail
                go_loopw [9] (fun v wz => ∃ k : Nat, m + 1 ≤ k ∧ k ≤ i ∧ v = .int .i64 k ∧ RC w wz d b disks i (fun j => if j < m then setAt disks i t j else if j < k then s + 1 + (j - m) else setAt disks i t j) (t + 1)) (fun v _ => i - (intOf v).toNat)
                case atStart =>
                  have hset := (HRC.out.set m (s + 1)).congr (g := fun j => if j < m then setAt disks i t j else if j < m + 1 then s + 1 + (j - m) else setAt disks i t j) (fun j _ => by
                    show (if j = m then s + 1 else setAt disks i t j) = if j < m then setAt disks i t j else if j < m + 1 then s + 1 + (j - m) else setAt disks i t j
                    by_cases h : j = m
                    · subst h; rw [if_pos rfl, if_neg (Nat.lt_irrefl _), if_pos (Nat.lt_succ_self _)]; omega
                    · rw [if_neg h]
                      by_cases h2 : j < m
                      · rw [if_pos h2]
                      · rw [if_neg h2, if_neg (by omega)])
                  exact ⟨m + 1, Nat.le_refl _, by omega, by go_num, by push_cast at hset; exact hset⟩
                case round =>
                  obtain ⟨k, hk1, hk2, rfl, hR2⟩ := hrel
                  have HR2 := Lib.hid hR2
                  clear hR2 k0 k1
                  by_cases hki : k < i
                  · obtain ⟨u, hu⟩ : ∃ u, s + 1 + (k - 1 - m) = u := ⟨_, rfl⟩
                    have hu200 : u < 200 := by omega
                    obtain ⟨k0, -⟩ := HR2.out.cell (show k - 1 < i by omega)
                    rw [if_neg (by omega), if_pos (by omega), hu] at k0
                    obtain ⟨k1, k2⟩ := HR2.out.cell hki
                    have hkm : (k : Int) - 1 = ((k - 1 : Nat) : Int) := by omega
                    have hk1i : k - 1 < i := by omega
                    have HU := Lib.hid hu
                    clear hu
                    go_wp2_with fail
                    go_roundw
                    case rel =>
                      have hset := (HR2.out.set k (u + 1)).congr (g := fun j => if j < m then setAt disks i t j else if j < k + 1 then s + 1 + (j - m) else setAt disks i t j) (fun j _ => by
                        have hu := HU.out
                        show (if j = k then u + 1 else (if j < m then setAt disks i t j else if j < k then s + 1 + (j - m) else setAt disks i t j)) = if j < m then setAt disks i t j else if j < k + 1 then s + 1 + (j - m) else setAt disks i t j
                        by_cases h : j = k
                        · subst h; rw [if_pos rfl, if_neg (by omega), if_pos (Nat.lt_succ_self _)]; omega
                        · rw [if_neg h]
                          by_cases h2 : j < m
                          · rw [if_pos h2, if_pos h2]
                          · rw [if_neg h2, if_neg h2]
                            by_cases h3 : j < k
                            · rw [if_pos h3, if_pos (by omega)]
                            · rw [if_neg h3, if_neg (by omega)])
                      exact ⟨k + 1, by omega, by omega, by go_num, by push_cast at hset; exact hset⟩
                    case measure => simp [intOf]; omega
                  · obtain rfl : k = i := by omega
                    go_wp2_with fail
                    go_roundw
                    case rel => exact ⟨t + 1, by rw [← HN.out]; exact HNEXT.out.1, HR2.out.congr fun j hj => by
                      rw [HNEXT.out.2 j hj, HS.out]
                      by_cases h : j < m
                      · rw [if_pos h, if_pos h]
                      · rw [if_neg h, if_neg h, if_pos hj]⟩
                    case measure =>
                      have e1 := HR.out.rowsIn
                      have e2 := HR2.out.rowsIn
                      simp only [e1, e2]
                      omega
            · obtain rfl : x = -1 := by omega
              have hlast := set_last hwd HT.out (fun k hk => by rw [HMAX.out k (by omega) hk, HDD.out])
              have HL : Hid (t + 1 = N) := Lib.hid (by rw [hlast]; exact HN.out)
              clear hlast
              obtain ⟨vd2, g1, rows2, ho2, hr2⟩ := HRC.out.des
              obtain ⟨A2, c2, rfl⟩ := own_slice ho2
              obtain ⟨d0, d1, -, -⟩ := cells2 g1
              obtain ⟨e0, e1, e2, e3⟩ := cells2 HRC.out.res
              have hwb : w.heap.size < b + 1 := by have := HRC.out.hb; omega
              have D := des_out (.int .i64 disks) (.slice A2 (t + 1) c2) e0 e1 HRC.out.below
              have hro : RowsOf wc (b + 1) (.slice A2 (t + 1) c2) (t + 1) (rowG (compG disks i)) := ⟨rows2, ho2, hr2⟩
              have HH := Lib.hid (And.intro D hro)
              clear g1 ho2 hr2 D hro
              go_wp2_with fail
              (try simp only [Exit.inBlock, Exit.then])
              refine bodyPost_ret_by (results_des1 rfl _ _ w.heap.size _ _ rfl HH.out.1.c0 HH.out.1.c1) rfl ?_
              refine ⟨_, rfl, ?_, HH.out.1.below⟩
              rw [← HL.out]
              exact ((HH.out.2.setCell (by exact hwb) _).setCell (by exact hwb) _).weaken (Nat.le_of_lt hwb)
end Go.Proofs.Ytnmkkflnehnioaa
