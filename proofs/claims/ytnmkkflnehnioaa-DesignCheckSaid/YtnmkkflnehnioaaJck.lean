/-
  The row of DesignCheck: for every argument the law returns true, and its arguments read behind the call as they read before. No condition.
-/
import Derived.Test.YtnmkkflnehnioaaLaw
import Derived.Test.YtnmkkflnehnioaaKck
namespace Go.Proofs.Ytnmkkflnehnioaa.designCheck
open Go.ChangeShapes Go.WideShapes Go.ChangeAt Go.RowKit
set_option linter.unusedVariables false

set_option maxRecDepth 100000 in
theorem lifted (os : Os) (started : os.Started) (H : Type) (enc : TypeId × Value → H) :
    ReturnsInHanded {} Try.checked os 19 .any (Rows.designCheckSpec.pre6 enc Try.prog Try.f19 Rows.designCheckRow.domain false) (Rows.designCheckSpec.post enc Try.prog Try.f19 false true false false) := by
  refine returnsInHanded_of_change (C := Try.checked) own started (by kernel_rfl) Try.func19
    (ChangeSpec.witness6 (enc := enc) (C := Try.checked) false ⟨#[], #[.agg #[.int .i64 0, .slice none 0 0]], []⟩ 8 (by kernel_rfl) (by kernel_rfl) (by kernel_rfl) (by kernel_rfl)) ?_
  intro W base args ds gs before hval0 hW hcnd _
  have hval : ∀ (j : Nat) t v, Try.f19.params[j]? = some t → args[j]? = some v → Value.okWide Try.prog W .any base t v := hval0
  have hW' := hW
  obtain ⟨p, q, hA0, hV, rfl, hfz, hnd⟩ := hW
  have hA : DataW.TrodAll enc Try.prog W 0 (fun _ => true) true Try.f19.params.toList args.toList ds p := hA0
  rw [Try.params19] at hA hval
  obtain ⟨rfl, rfl⟩ := trodVars_none hV
  obtain ⟨v0, vs0, d0, ds0, p0, q0, hargs, rfl, rfl, h0, r0⟩ := trodAll_cons hA
  obtain ⟨rfl, rfl, rfl⟩ := trodAll_nil r0
  obtain rfl : args = #[v0] := by cases args; simp_all
  obtain ⟨D0, u0, m0, L0, rfl, z0⟩ := open_design (hval 0 48 v0 rfl rfl) h0
  refine (walk_dcheck D0 m0 L0 W u0 z0).mono fun e W' ⟨he, hb⟩ => ?_
  subst he
  exact ⟨_, rfl, law_post (by rw [Try.params19]; decide +kernel) rfl rfl hW' rfl rfl rfl hb⟩

theorem closed : joinedFacts Try.prog 19 Try.f19 Rows.designCheckSpec Rows.designCheckRow = true := by
  unfold joinedFacts
  rw [may_enter, lifts_final, make_cut]
  kernel_rfl

theorem over : Rows.designCheckRow.holds Try.pinned (OpenSpec.ofChange Rows.designCheckSpec) :=
  OpenClaim.holds_of_wide 19 Try.f19 rfl rfl rfl rfl rfl rfl rfl ⟨rfl, rfl, rfl, rfl, rfl⟩ rfl rfl rfl rfl rfl (by kernel_rfl) Try.func19 closed
    (of_decide_eq_true (by kernel_rfl)) (by unfold Func.isWrapper; first | (rw [if_pos (by decide +kernel)]; kernel_rfl) | (rw [if_neg (by decide +kernel)]; exact ⟨rfl, rfl⟩))
    (fun os started H enc _ => lifted os started H enc)

/-- THE STATEMENT. -/
theorem proved : Rows.DesignCheckSaid :=
  over
#print axioms proved
end Go.Proofs.Ytnmkkflnehnioaa.designCheck
