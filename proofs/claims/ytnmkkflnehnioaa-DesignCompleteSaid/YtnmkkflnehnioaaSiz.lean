/-
  smallfield.Sizes (38) and tegularef05.Prime (40). No condition (Prime: at the seven sizes).
-/
import Derived.Test.YtnmkkflnehnioaaTwo
namespace Go.Proofs.Ytnmkkflnehnioaa
open Go.RowKit

set_option maxRecDepth 100000 in
set_option maxHeartbeats 1600000 in
theorem ref_prime (k : Nat) (hk : k < 7) (w : World) : Calls Try.prog 40 #[.int .i64 (szN k)] w fun e w' => ∃ d, e = .returned (.tuple #[.int .i64 (prN k), .int .i64 d]) ∧ w = w' := by
  have : k = 0 ∨ k = 1 ∨ k = 2 ∨ k = 3 ∨ k = 4 ∨ k = 5 ∨ k = 6 := by omega
  rcases this with rfl | rfl | rfl | rfl | rfl | rfl | rfl
  all_goals
    go_enter Try.func40, Try.ntmps40
    first
      | rw [show ((szN 0 : Nat) : Int) = 2 by decide]
      | rw [show ((szN 1 : Nat) : Int) = 3 by decide]
      | rw [show ((szN 2 : Nat) : Int) = 4 by decide]
      | rw [show ((szN 3 : Nat) : Int) = 5 by decide]
      | rw [show ((szN 4 : Nat) : Int) = 7 by decide]
      | rw [show ((szN 5 : Nat) : Int) = 8 by decide]
      | rw [show ((szN 6 : Nat) : Int) = 9 by decide]
    go_wp2
    go_ret2
    exact ⟨_, rfl, rfl⟩

set_option maxRecDepth 100000 in
set_option maxHeartbeats 1600000 in
theorem sizes_any (w : World) : Calls Try.prog 38 #[] w fun e w' => ∃ b c, e = .returned (.slice (some ⟨b, 0, none⟩) 7 c) ∧ w.heap.size ≤ b ∧ b < w'.heap.size ∧ (∀ j, j < 7 → w'.cell? ⟨b, j, none⟩ = some (.int .i64 (at0 sizes j))) ∧ Below w.heap.size w w' := by
  go_enter Try.func38, Try.ntmps38
  go_wp2_with fail
  refine (shapes_any _).mono ?_
  rintro e w1 ⟨sb, rfl, hsb, hS, B1⟩
  have hz := hS.lt
  go_wp2_with fail
  go_loopw [1, 6] (fun v i wr => ∃ j : Nat, j ≤ 7 ∧ i = .int .i64 j ∧ wr.ownsRow w1.heap.size 3 1 v j (rowVals (at0 sizes) j) ∧ Below w1.heap.size w1 wr) (fun _ i _ => 7 - (intOf i).toNat)
  case atStart => exact ⟨0, by omega, rfl, World.ownsRow_nil _ _ _ _, Below.refl _ _⟩
  case round =>
    obtain ⟨j, hj, rfl, ho, hb⟩ := hrel
    by_cases hlt : j < 7
    · obtain ⟨h0, h1, h2⟩ := (hS.below hb).cell j hlt
      obtain ⟨q, hq⟩ : ∃ q, at0 sizes j = q := ⟨_, rfl⟩
      have HQ := Lib.hid hq
      rw [hq] at h0
      clear hq
      have hz2 := hb.size
      go_wp2_with (first
        | (at_builtin; refine wpList_app3 _ rfl (.tmp 10) (.tmp 13) rfl w1.heap.size _ j _ rfl ((ho.alloc _).alloc _) ⟨wr.heap.size + 1, 0, none⟩ _ _ rfl (by simp [go_sem]; rfl) rfl (by omega) (by simp; omega) ?_; intro v' w3 o3 g3 k3)
        | fail)
      go_roundw
      case rel =>
        refine ⟨j + 1, by omega, by go_num, by rw [rowVals_succ, HQ.out]; exact o3, ?_⟩
        exact ((hb.alloc hz2 _).alloc (by simp; omega) _).grown g3 (by simp; omega) (fun k e => (ho.lt k e).1)
      case measure => simp [intOf]; omega
    · obtain rfl : j = 7 := by omega
      go_wp2_with fail
      go_ret
      obtain ⟨g, cap, rfl⟩ := own_form ho (by omega)
      exact ⟨g, cap, rfl, Nat.le_trans B1.size (ho.lt g (by simp [Value.ownBlock])).1, (ho.lt g (by simp [Value.ownBlock])).2, fun j hj => own_cell ho (rowVals_get _ _ j hj), B1.trans (hb.mono B1.size)⟩
end Go.Proofs.Ytnmkkflnehnioaa
