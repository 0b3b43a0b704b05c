/-
  THE LAW DesignShared returns true: its walk. Condition: the argument can be read.
-/
import Derived.Test.YtnmkkflnehnioaaZw
import Derived.Test.YtnmkkflnehnioaaZo
namespace Go.Proofs.Ytnmkkflnehnioaa
open Go.RowKit
set_option maxRecDepth 100000

theorem both_comm (L : Nat → List Int) (a b : Int) : ∀ n, both L a b n = both L b a n
  | 0 => rfl
  | n + 1 => by rw [both, both, both_comm L a b n, Bool.and_comm]
theorem sharedN_comm (D : Int) (L : Nat → List Int) (n : Nat) (a b : Int) : sharedN D L n b a = sharedN D L n a b := by
  unfold sharedN
  rw [both_comm L b a n]
  by_cases h : a < 0 ∨ b < 0 ∨ D ≤ a ∨ D ≤ b
  · rw [if_pos h, if_pos (by omega)]
  · rw [if_neg h, if_neg (by omega)]

set_option maxHeartbeats 6400000 in
theorem walk_dshared (D : Int) (n : Nat) (L : Nat → List Int) (a b : Int) (w : World) (v : Value) (hv : ZRows0 w v n L) : Calls Try.prog 22 #[.agg #[.int .i64 D, v], .int .i64 a, .int .i64 b] w fun e w' => e = .returned (.bool true) ∧ Below w.heap.size w w' := by
  have HF := Lib.hid fun W (hb : Below w.heap.size w W) => few_any D n L W v (hv.below hb)
  have HZ := Lib.hid fun W (hb : Below w.heap.size w W) (hf : Few n L) => (hv.below hb).few hf
  obtain ⟨r, c, rfl, -⟩ := hv
  obtain ⟨wa, hwa⟩ : ∃ wa, w.alloc (.cells #[.int .i64 D, .slice r n c] 48) = wa := ⟨_, rfl⟩
  have ha : Below w.heap.size w wa := hwa ▸ (Below.refl _ w).alloc (Nat.le_refl _) _
  have a0 : wa.cell? ⟨w.heap.size, 0, none⟩ = some (.int .i64 D) := by rw [← hwa]; simp [go_sem]
  have a1 : wa.cell? ⟨w.heap.size, 1, none⟩ = some (.slice r n c) := by rw [← hwa]; simp [go_sem]
  have l1 : w.heap.size < wa.heap.size := World.block_lt_of_cell? _ _ a0
  have HWA := Lib.hid hwa
  clear hwa
  go_enter Try.func22, Try.ntmps22
  go_wp2_with fail
  rw [HWA.out]
  refine (awake7 _).mono ?_
  rintro e w1 ⟨rfl, B1⟩
  have a0 := (B1.cell (p := ⟨w.heap.size, 0, none⟩) l1).trans a0
  have a1 := (B1.cell (p := ⟨w.heap.size, 1, none⟩) l1).trans a1
  have l1 : w.heap.size < w1.heap.size := World.block_lt_of_cell? _ _ a0
  have HB1 := Lib.hid (ha.trans (B1.mono ha.size))
  clear B1 ha HWA
  go_wp2_with fail
  refine (HF.out _ HB1.out).mono ?_
  rintro e w2 ⟨ok, rfl, hok, B2⟩
  have a0 := (B2.cell (p := ⟨w.heap.size, 0, none⟩) l1).trans a0
  have a1 := (B2.cell (p := ⟨w.heap.size, 1, none⟩) l1).trans a1
  have l1 : w.heap.size < w2.heap.size := World.block_lt_of_cell? _ _ a0
  have HB2 := Lib.hid (HB1.out.trans (B2.mono HB1.out.size))
  have HOK := Lib.hid hok
  clear B2 HB1 hok
  cases ok
  · go_wp2_with fail
    go_ret
    exact ⟨rfl, HB2.out⟩
  · have hfw := HOK.out.1 rfl
    have hn200 : n ≤ 200 := hfw.1
    have HZR := Lib.hid (HZ.out w2 HB2.out hfw)
    have HLE := Lib.hid (both_le L a b)
    have HS : Hid (∀ W, Below w2.heap.size w2 W → Calls Try.prog 62 #[.agg #[.int .i64 D, .slice r n c], .int .i64 a, .int .i64 b] W (SharedK D L n a b W) ∧ Calls Try.prog 62 #[.agg #[.int .i64 D, .slice r n c], .int .i64 b, .int .i64 a] W (SharedK D L n b a W)) :=
      Lib.hid fun W hb => ⟨shared_z D n L a b W _ (HZR.out.below hb), shared_z D n L b a W _ (HZR.out.below hb)⟩
    have HROW : Hid (∀ i, i < n → ∃ b1 o x, r = some ⟨b1, o, none⟩ ∧ w2.cell? ⟨b1, o + i, none⟩ = some x ∧ ZRow w2 x (L i)) := Lib.hid (by
      obtain ⟨r', c', e, -, h⟩ := HZR.out
      cases e
      exact h)
    clear hfw HOK HF HZ
    go_wp2_with fail
    go_loopw [7, 8] (fun u v wr => ∃ i : Nat, i ≤ n ∧ v = .int .i64 i ∧ u = .int .i64 (both L a b i : Nat) ∧ w2 = wr) (fun _ v _ => n - (intOf v).toNat)
    case atStart => exact ⟨0, by omega, rfl, rfl, rfl⟩
    case round =>
      obtain ⟨i, hi, rfl, rfl, rfl⟩ := hrel
      obtain ⟨s, hs⟩ : ∃ s, both L a b i = s := ⟨_, rfl⟩
      have hsn : s ≤ i := by have := HLE.out i; omega
      rw [hs]
      have HSS := Lib.hid hs
      clear hs
      by_cases hil : i < n
      · obtain ⟨b1, o, x, rfl, hx, hz⟩ := HROW.out i hil
        have HC := Lib.hid fun q => has_z (L i) q w2 x hz
        obtain ⟨r1, k1, rfl, -, -⟩ := hz
        obtain ⟨ca, hca⟩ : ∃ ca, (L i).contains a = ca := ⟨_, rfl⟩
        obtain ⟨cb, hcb⟩ : ∃ cb, (L i).contains b = cb := ⟨_, rfl⟩
        have HA := HC.out a
        have HBB := HC.out b
        rw [hca] at HA
        rw [hcb] at HBB
        have HNX : Hid (both L a b (i + 1) = s + if ca && cb then 1 else 0) := Lib.hid (by rw [both, HSS.out, hca, hcb])
        have HHA := Lib.hid HA
        have HHB := Lib.hid HBB
        clear HA HBB hca hcb
        obtain ⟨m1, em1⟩ : ∃ m1, (L i).length = m1 := ⟨_, rfl⟩
        rw [em1] at hx HHA HHB
        clear em1
        cases ca
        · go_wp2_with fail
          refine HHA.out.mono ?_
          rintro e w2 ⟨rfl, rfl⟩
          go_wp2_with fail
          go_roundw
          case rel => exact ⟨i + 1, by omega, by go_num, by rw [HNX.out]; rfl, by trivial⟩
          case measure => simp [intOf]; omega
        · cases cb
          · go_wp2_with fail
            refine HHA.out.mono ?_
            rintro e w2 ⟨rfl, rfl⟩
            go_wp2_with fail
            refine HHB.out.mono ?_
            rintro e w2 ⟨rfl, rfl⟩
            go_wp2_with fail
            go_roundw
            case rel => exact ⟨i + 1, by omega, by go_num, by rw [HNX.out]; rfl, by trivial⟩
            case measure => simp [intOf]; omega
          · go_wp2_with fail
            refine HHA.out.mono ?_
            rintro e w2 ⟨rfl, rfl⟩
            go_wp2_with fail
            refine HHB.out.mono ?_
            rintro e w2 ⟨rfl, rfl⟩
            go_wp2_with fail
            go_roundw
            case rel => exact ⟨i + 1, by omega, by go_num, by rw [HNX.out]; rfl, by trivial⟩
            case measure => simp [intOf]; omega
      · obtain rfl : i = n := by omega
        have hend : ∀ (x : Nat), sharedN D L i a b = x → ∀ W, Below w2.heap.size w2 W → Calls Try.prog 62 #[.agg #[.int .i64 D, .slice r i c], .int .i64 a, .int .i64 b] W (fun e W' => e = .returned (.int .i64 (x : Nat)) ∧ Below W.heap.size W W') ∧ Calls Try.prog 62 #[.agg #[.int .i64 D, .slice r i c], .int .i64 b, .int .i64 a] W (fun e W' => e = .returned (.int .i64 (x : Nat)) ∧ Below W.heap.size W W') := fun x hx W hb => by
          obtain ⟨h1, h2⟩ := HS.out W hb
          refine ⟨h1.mono fun e W' ⟨h, k⟩ => ⟨by rw [h, hx], k⟩, h2.mono fun e W' ⟨h, k⟩ => ⟨by rw [h, sharedN_comm, hx], k⟩⟩
        have HE := Lib.hid hend
        clear hend
        by_cases hbad : a < 0 ∨ b < 0 ∨ D ≤ a ∨ D ≤ b
        · have HH := Lib.hid (HE.out 0 (if_pos hbad))
          by_cases g1 : a < 0
          · have u1 : decide (a < 0) = true := decide_eq_true g1
            clear hbad
            go_wp2_with fail
            refine (HH.out _ (Below.refl _ _)).1.mono ?_
            rintro e w5 ⟨rfl, B5⟩
            have a0 := (B5.cell (p := ⟨w.heap.size, 0, none⟩) l1).trans a0
            have a1 := (B5.cell (p := ⟨w.heap.size, 1, none⟩) l1).trans a1
            go_wp2_with fail
            refine (HH.out _ B5).2.mono ?_
            rintro e w6 ⟨rfl, B6⟩
            have HBX := Lib.hid (HB2.out.trans ((B5.trans (B6.mono B5.size)).mono HB2.out.size))
            clear B5 B6
            go_wp2_with fail
            go_ret
            exact ⟨rfl, HBX.out⟩
          have u1 : decide (a < 0) = false := decide_eq_false g1
          by_cases g2 : D ≤ a
          · have u2 : decide (D ≤ a) = true := decide_eq_true g2
            clear hbad
            go_wp2_with fail
            refine (HH.out _ (Below.refl _ _)).1.mono ?_
            rintro e w5 ⟨rfl, B5⟩
            have a0 := (B5.cell (p := ⟨w.heap.size, 0, none⟩) l1).trans a0
            have a1 := (B5.cell (p := ⟨w.heap.size, 1, none⟩) l1).trans a1
            go_wp2_with fail
            refine (HH.out _ B5).2.mono ?_
            rintro e w6 ⟨rfl, B6⟩
            have HBX := Lib.hid (HB2.out.trans ((B5.trans (B6.mono B5.size)).mono HB2.out.size))
            clear B5 B6
            go_wp2_with fail
            go_ret
            exact ⟨rfl, HBX.out⟩
          have u2 : decide (D ≤ a) = false := decide_eq_false g2
          by_cases g3 : b < 0
          · have u3 : decide (b < 0) = true := decide_eq_true g3
            clear hbad
            go_wp2_with fail
            refine (HH.out _ (Below.refl _ _)).1.mono ?_
            rintro e w5 ⟨rfl, B5⟩
            have a0 := (B5.cell (p := ⟨w.heap.size, 0, none⟩) l1).trans a0
            have a1 := (B5.cell (p := ⟨w.heap.size, 1, none⟩) l1).trans a1
            go_wp2_with fail
            refine (HH.out _ B5).2.mono ?_
            rintro e w6 ⟨rfl, B6⟩
            have HBX := Lib.hid (HB2.out.trans ((B5.trans (B6.mono B5.size)).mono HB2.out.size))
            clear B5 B6
            go_wp2_with fail
            go_ret
            exact ⟨rfl, HBX.out⟩
          have u3 : decide (b < 0) = false := decide_eq_false g3
          have u4 : decide (D ≤ b) = true := decide_eq_true (by omega)
          clear hbad
          go_wp2_with fail
          refine (HH.out _ (Below.refl _ _)).1.mono ?_
          rintro e w5 ⟨rfl, B5⟩
          have a0 := (B5.cell (p := ⟨w.heap.size, 0, none⟩) l1).trans a0
          have a1 := (B5.cell (p := ⟨w.heap.size, 1, none⟩) l1).trans a1
          go_wp2_with fail
          refine (HH.out _ B5).2.mono ?_
          rintro e w6 ⟨rfl, B6⟩
          have HBX := Lib.hid (HB2.out.trans ((B5.trans (B6.mono B5.size)).mono HB2.out.size))
          clear B5 B6
          go_wp2_with fail
          go_ret
          exact ⟨rfl, HBX.out⟩
        · have HH := Lib.hid (HE.out s (by unfold sharedN; rw [if_neg hbad]; exact HSS.out))
          have u1 : decide (a < 0) = false := decide_eq_false (by omega)
          have u2 : decide (D ≤ a) = false := decide_eq_false (by omega)
          have u3 : decide (b < 0) = false := decide_eq_false (by omega)
          have u4 : decide (D ≤ b) = false := decide_eq_false (by omega)
          clear hbad
          go_wp2_with fail
          refine (HH.out _ (Below.refl _ _)).1.mono ?_
          rintro e w5 ⟨rfl, B5⟩
          have a0 := (B5.cell (p := ⟨w.heap.size, 0, none⟩) l1).trans a0
          have a1 := (B5.cell (p := ⟨w.heap.size, 1, none⟩) l1).trans a1
          go_wp2_with fail
          refine (HH.out _ B5).2.mono ?_
          rintro e w6 ⟨rfl, B6⟩
          have HBX := Lib.hid (HB2.out.trans ((B5.trans (B6.mono B5.size)).mono HB2.out.size))
          clear B5 B6
          go_wp2_with fail
          go_ret
          exact ⟨rfl, HBX.out⟩
end Go.Proofs.Ytnmkkflnehnioaa
