/-
  The row of DesignShared: for every argument the law returns true, and its arguments read behind the call as they read before. No condition.
-/
import Derived.Test.YtnmkkflnehnioaaLaw
import Derived.Test.YtnmkkflnehnioaaKsh
namespace Go.Proofs.Ytnmkkflnehnioaa.designShared
open Go.ChangeShapes Go.WideShapes Go.ChangeAt Go.RowKit
set_option linter.unusedVariables false

set_option maxRecDepth 100000 in
theorem lifted (os : Os) (started : os.Started) (H : Type) (enc : TypeId × Value → H) :
    ReturnsInHanded {} Try.checked os 22 .any (Rows.designSharedSpec.pre6 enc Try.prog Try.f22 Rows.designSharedRow.domain false) (Rows.designSharedSpec.post enc Try.prog Try.f22 false true false false) := by
  refine returnsInHanded_of_change (C := Try.checked) own started (by kernel_rfl) Try.func22
    (ChangeSpec.witness6 (enc := enc) (C := Try.checked) false ⟨#[], #[.agg #[.int .i64 0, .slice none 0 0], .int .i64 0, .int .i64 0], []⟩ 8 (by kernel_rfl) (by kernel_rfl) (by kernel_rfl) (by kernel_rfl)) ?_
  intro W base args ds gs before hval0 hW hcnd _
  have hval : ∀ (j : Nat) t v, Try.f22.params[j]? = some t → args[j]? = some v → Value.okWide Try.prog W .any base t v := hval0
  have hW' := hW
  obtain ⟨p, q, hA0, hV, rfl, hfz, hnd⟩ := hW
  have hA : DataW.TrodAll enc Try.prog W 0 (fun _ => true) true Try.f22.params.toList args.toList ds p := hA0
  rw [Try.params22] at hA hval
  obtain ⟨rfl, rfl⟩ := trodVars_none hV
  obtain ⟨v0, vs0, d0, ds0, p0, q0, hargs, rfl, rfl, h0, r0⟩ := trodAll_cons hA
  obtain ⟨v1, vs1, d1, ds1, p1, q1, rfl, rfl, rfl, h1, r1⟩ := trodAll_cons r0
  obtain ⟨v2, vs2, d2, ds2, p2, q2, rfl, rfl, rfl, h2, r2⟩ := trodAll_cons r1
  obtain ⟨rfl, rfl, rfl⟩ := trodAll_nil r2
  obtain rfl : args = #[v0, v1, v2] := by cases args; simp_all
  obtain ⟨D0, u0, m0, L0, rfl, z0⟩ := open_design (hval 0 48 v0 rfl rfl) h0
  obtain ⟨n1, rfl, b1⟩ := open_num (hval 1 3 v1 rfl rfl) h1
  obtain ⟨n2, rfl, b2⟩ := open_num (hval 2 3 v2 rfl rfl) h2
  refine (walk_dshared D0 m0 L0 n1 n2 W u0 z0).mono fun e W' ⟨he, hb⟩ => ?_
  subst he
  exact ⟨_, rfl, law_post (by rw [Try.params22]; decide +kernel) rfl rfl hW' rfl rfl rfl hb⟩

theorem closed : joinedFacts Try.prog 22 Try.f22 Rows.designSharedSpec Rows.designSharedRow = true := by
  unfold joinedFacts
  rw [may_enter, lifts_final, make_cut]
  kernel_rfl

theorem over : Rows.designSharedRow.holds Try.pinned (OpenSpec.ofChange Rows.designSharedSpec) :=
  OpenClaim.holds_of_wide 22 Try.f22 rfl rfl rfl rfl rfl rfl rfl ⟨rfl, rfl, rfl, rfl, rfl⟩ rfl rfl rfl rfl rfl (by kernel_rfl) Try.func22 closed
    (of_decide_eq_true (by kernel_rfl)) (by unfold Func.isWrapper; first | (rw [if_pos (by decide +kernel)]; kernel_rfl) | (rw [if_neg (by decide +kernel)]; exact ⟨rfl, rfl⟩))
    (fun os started H enc _ => lifted os started H enc)

/-- THE STATEMENT. -/
theorem proved : Rows.DesignSharedSaid :=
  over
#print axioms proved
end Go.Proofs.Ytnmkkflnehnioaa.designShared
