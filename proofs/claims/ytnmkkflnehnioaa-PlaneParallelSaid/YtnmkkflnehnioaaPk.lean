/-
  What plane.Projective and plane.Affine make, for reading. Condition: the five sizes with at most 60 points.
-/
import Derived.Test.YtnmkkflnehnioaaPl
namespace Go.Proofs.Ytnmkkflnehnioaa
open Go.RowKit
set_option maxRecDepth 100000

/-- What plane.Projective makes, for reading. -/
theorem proj_rd {k : Nat} (hk : k < 5) (W : World) : Calls Try.prog 42 #[.int .i64 (szN k)] W fun e w' => ∃ g c, e = .returned (.tuple #[.agg #[.int .i64 ((allL k).length : Nat), .slice (some ⟨g, 0, none⟩) (allL k).length c], .int .i64 0]) ∧ RRows w' (.slice (some ⟨g, 0, none⟩) (allL k).length c) (allL k).length (lineL k) ∧ Below W.heap.size W w' :=
  (proj_yes hk W).mono fun e w' ⟨v, he, hr, hb⟩ => by
    have hr' := proj_read hk hr
    obtain ⟨g, c, rfl, hc, hrr⟩ := hr'
    exact ⟨g, c, he, ⟨g, c, rfl, hc, hrr⟩, hb⟩
theorem row_at {w : World} {g c a : Nat} {L : Nat → List Nat} (h : RRows w (.slice (some ⟨g, 0, none⟩) a c) a L) (i : Nat) (hi : i < a) : ∃ r d, w.cell? ⟨g, i, none⟩ = some (.slice (some ⟨r, 0, none⟩) (L i).length d) ∧ RRow w (.slice (some ⟨r, 0, none⟩) (L i).length d) (L i) := by
  obtain ⟨g', c', e, hc, h⟩ := h
  cases e
  obtain ⟨rv, h1, h2⟩ := h i hi
  obtain ⟨r, d, rfl, h3⟩ := h2
  exact ⟨r, d, h1, r, d, rfl, h3⟩
theorem row_cap {w : World} {g c a : Nat} {L : Nat → List Nat} (h : RRows w (.slice (some ⟨g, 0, none⟩) a c) a L) : a ≤ c := by
  obtain ⟨g', c', e, hc, h⟩ := h
  cases e
  exact hc

theorem aff_rd {k : Nat} (hk : k < 5) (W : World) : Calls Try.prog 46 #[.int .i64 (szN k)] W fun e w' => ∃ g c, e = .returned (.tuple #[.agg #[.int .i64 ((szN k * szN k : Nat) : Int), .slice (some ⟨g, 0, none⟩) (szN k * szN k + szN k) c], .int .i64 0]) ∧ RRows w' (.slice (some ⟨g, 0, none⟩) (szN k * szN k + szN k) c) (szN k * szN k + szN k) (affL k) ∧ Below W.heap.size W w' :=
  (aff_yes hk W).mono fun e w' ⟨v, he, hr, hb⟩ => by
    have hr' := aff_read hk hr
    obtain ⟨g, c, rfl, hc, hrr⟩ := hr'
    exact ⟨g, c, he, ⟨g, c, rfl, hc, hrr⟩, hb⟩
end Go.Proofs.Ytnmkkflnehnioaa
