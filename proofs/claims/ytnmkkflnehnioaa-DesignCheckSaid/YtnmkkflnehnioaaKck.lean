/-
  THE LAW DesignCheck returns true: its walk. Condition: the argument can be read.
-/
import Derived.Test.YtnmkkflnehnioaaZw
import Derived.Test.YtnmkkflnehnioaaZc
import Derived.Test.YtnmkkflnehnioaaZo
namespace Go.Proofs.Ytnmkkflnehnioaa
open Go.RowKit
set_option maxRecDepth 100000

set_option maxHeartbeats 3200000 in
theorem walk_dcheck (D : Int) (n : Nat) (L : Nat → List Int) (w : World) (v : Value) (hv : ZRows0 w v n L) : Calls Try.prog 19 #[.agg #[.int .i64 D, v]] w fun e w' => e = .returned (.bool true) ∧ Below w.heap.size w w' := by
  have HF := Lib.hid fun W (hb : Below w.heap.size w W) => few_any D n L W v (hv.below hb)
  have HC := Lib.hid fun W (hb : Below w.heap.size w W) (hf : Few n L) => check_any D n L W v ((hv.below hb).few hf)
  have HRC := Lib.hid fun W (hb : Below w.heap.size w W) (hf : Few n L) => rcheck_any D n L W v ((hv.below hb).few hf)
  obtain ⟨r, c, rfl, -⟩ := hv
  obtain ⟨wa, hwa⟩ : ∃ wa, w.alloc (.cells #[.int .i64 D, .slice r n c] 48) = wa := ⟨_, rfl⟩
  have ha : Below w.heap.size w wa := hwa ▸ (Below.refl _ w).alloc (Nat.le_refl _) _
  have a0 : wa.cell? ⟨w.heap.size, 0, none⟩ = some (.int .i64 D) := by rw [← hwa]; simp [go_sem]
  have a1 : wa.cell? ⟨w.heap.size, 1, none⟩ = some (.slice r n c) := by rw [← hwa]; simp [go_sem]
  have l1 : w.heap.size < wa.heap.size := World.block_lt_of_cell? _ _ a0
  have HWA := Lib.hid hwa
  clear hwa
  go_enter Try.func19, Try.ntmps19
  go_wp2_with fail
  rw [HWA.out]
  refine (awake7 _).mono ?_
  rintro e w1 ⟨rfl, B1⟩
  have a0 := (B1.cell (p := ⟨w.heap.size, 0, none⟩) l1).trans a0
  have a1 := (B1.cell (p := ⟨w.heap.size, 1, none⟩) l1).trans a1
  have l1 : w.heap.size < w1.heap.size := World.block_lt_of_cell? _ _ a0
  have HB1 := Lib.hid (ha.trans (B1.mono ha.size))
  clear B1 ha HWA
  go_wp2_with fail
  refine (HF.out _ HB1.out).mono ?_
  rintro e w2 ⟨ok, rfl, hok, B2⟩
  have a0 := (B2.cell (p := ⟨w.heap.size, 0, none⟩) l1).trans a0
  have a1 := (B2.cell (p := ⟨w.heap.size, 1, none⟩) l1).trans a1
  have l1 : w.heap.size < w2.heap.size := World.block_lt_of_cell? _ _ a0
  have HB2 := Lib.hid (HB1.out.trans (B2.mono HB1.out.size))
  have HOK := Lib.hid hok
  clear B2 HB1 hok
  cases ok
  · go_wp2_with fail
    go_ret
    exact ⟨rfl, HB2.out⟩
  · have HFW := Lib.hid (HOK.out.1 rfl)
    go_wp2_with fail
    refine (HC.out _ HB2.out HFW.out).mono ?_
    rintro e w3 ⟨B3, hres⟩
    have a0 := (B3.cell (p := ⟨w.heap.size, 0, none⟩) l1).trans a0
    have a1 := (B3.cell (p := ⟨w.heap.size, 1, none⟩) l1).trans a1
    have l1 : w.heap.size < w3.heap.size := World.block_lt_of_cell? _ _ a0
    have HB3 := Lib.hid (HB2.out.trans (B3.mono HB2.out.size))
    clear B3 HB2 HOK
    rcases hres with ⟨hg, rfl⟩ | ⟨hg, rfl⟩
    · have HG := Lib.hid hg
      clear hg
      obtain ⟨R, hR⟩ : ∃ R, shr L n 0 0 = R := ⟨_, rfl⟩
      obtain ⟨M, hM⟩ : ∃ M, shr L n 0 1 = M := ⟨_, rfl⟩
      have HRM := Lib.hid (And.intro hR hM)
      rw [hR, hM]
      clear hR hM
      go_wp2_with fail
      refine (HRC.out _ HB3.out HFW.out).mono ?_
      rintro e w4 ⟨B4, hres⟩
      have HB4 := Lib.hid (HB3.out.trans (B4.mono HB3.out.size))
      clear B4
      rcases hres with ⟨-, rfl⟩ | ⟨hg, -⟩
      · rw [HRM.out.1, HRM.out.2]
        go_wp2_with fail
        go_ret
        exact ⟨rfl, HB4.out⟩
      · exact absurd HG.out hg
    · have HG := Lib.hid hg
      clear hg
      go_wp2_with fail
      refine (HRC.out _ HB3.out HFW.out).mono ?_
      rintro e w4 ⟨B4, hres⟩
      have HB4 := Lib.hid (HB3.out.trans (B4.mono HB3.out.size))
      clear B4
      rcases hres with ⟨hg, -⟩ | ⟨-, x, y, rfl⟩
      · exact absurd hg HG.out
      · go_wp2_with fail
        go_ret
        exact ⟨rfl, HB4.out⟩
end Go.Proofs.Ytnmkkflnehnioaa
