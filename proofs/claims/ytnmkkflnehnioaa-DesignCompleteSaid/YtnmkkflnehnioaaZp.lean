/-
  The next set of disks, as the reference finds it. No condition.
-/
import Derived.Test.YtnmkkflnehnioaaDa
namespace Go.Proofs.Ytnmkkflnehnioaa

theorem exts_lt (disks : Nat) : ∀ (r : Nat) (p l : List Nat), (∀ x ∈ p, x < disks) → l ∈ exts disks r p → ∀ x ∈ l, x < disks
  | 0, p, l, hp, h => by simp [exts] at h; subst h; exact hp
  | r + 1, p, l, hp, h => by
    rw [exts] at h
    obtain ⟨i, hi, hl⟩ := List.mem_flatMap.1 h
    have := List.mem_range.1 hi
    exact exts_lt disks r _ l (fun x hx => by
      rcases List.mem_append.1 hx with hx | hx
      · exact hp x hx
      · simp at hx; omega) hl
/-- The set number t, place j. -/
def setAt (disks width t j : Nat) : Nat := ((exts disks width []).getD t []).getD j 0
theorem nx_at {D W : Nat} {l l' : List Nat} (h : Nx D W l l') {i : Nat} (hi : i < W) (hmax : ∀ k, i < k → k < W → l.getD k 0 = D - W + k) (hne : l.getD i 0 ≠ D - W + i) : (∀ j, j < W → l'.getD j 0 = if j < i then l.getD j 0 else l.getD i 0 + 1 + (j - i)) := by
  obtain ⟨i0, x, h1, h2, h3, h4, h5, h6⟩ := h
  have e : i0 = i := by
    rcases Nat.lt_trichotomy i0 i with h | h | h
    · have := h4 i h hi
      rw [List.getD_eq_getElem?_getD, this] at hne
      exact absurd rfl hne
    · exact h
    · have := hmax i0 h h1
      rw [List.getD_eq_getElem?_getD, h2] at this
      have : x = D - W + i0 := this
      omega
  subst e
  intro j hj
  by_cases hji : j < i0
  · rw [if_pos hji, List.getD_eq_getElem?_getD, List.getD_eq_getElem?_getD, h5 j hji]
  · rw [if_neg hji, List.getD_eq_getElem?_getD, List.getD_eq_getElem?_getD, h6 j (by omega) hj, h2]
    rfl
theorem getD_at {α : Type} {l : List α} {t : Nat} (d : α) (h : t < l.length) : l.getD t d = l[t] := by
  rw [List.getD_eq_getElem?_getD, List.getElem?_eq_getElem h]
  rfl
theorem getD_some {α : Type} {l : List α} {t : Nat} {x : α} (d : α) (h : l[t]? = some x) : l.getD t d = x := by
  rw [List.getD_eq_getElem?_getD, h]
  rfl
theorem set_eq {D W t : Nat} (ht : t < (exts D W []).length) (j : Nat) : setAt D W t j = ((exts D W [])[t]).getD j 0 := by
  rw [setAt, getD_at [] ht]
section
variable {D W : Nat} (hw : W ≤ D)
include hw
theorem set_zero {j : Nat} (hj : j < W) : setAt D W 0 j = j := by
  rw [setAt, getD_some [] (exts_all hw).1]
  exact getD_some 0 (by rw [List.getElem?_range hj])
theorem set_lt {t j : Nat} (ht : t < (exts D W []).length) (hj : j < W) : setAt D W t j < D := by
  have hm : (exts D W [])[t] ∈ exts D W [] := List.getElem_mem ht
  have hl := (exts_all hw).2.2.2 _ hm
  rw [set_eq ht, getD_at 0 (by omega)]
  exact exts_lt D W [] _ (by simp) hm _ (List.getElem_mem _)
/-- All places are at their greatest: the last set. -/
theorem set_last {t : Nat} (ht : t < (exts D W []).length) (h : ∀ k, k < W → setAt D W t k = D - W + k) : t + 1 = (exts D W []).length := by
  refine Classical.byContradiction fun hne => ?_
  have h1 : t + 1 < (exts D W []).length := by omega
  obtain ⟨i, x, g1, g2, g3, -⟩ := (exts_all hw).2.2.1 t _ _ (List.getElem?_eq_getElem ht) (List.getElem?_eq_getElem h1)
  have := h i g1
  rw [set_eq ht, getD_some 0 g2] at this
  omega
theorem set_next {t i : Nat} (ht : t < (exts D W []).length) (hi : i < W) (hmax : ∀ k, i < k → k < W → setAt D W t k = D - W + k) (hne : setAt D W t i ≠ D - W + i) :
    t + 1 < (exts D W []).length ∧ ∀ j, j < W → setAt D W (t + 1) j = if j < i then setAt D W t j else setAt D W t i + 1 + (j - i) := by
  have h1 : t + 1 < (exts D W []).length := by
    refine Classical.byContradiction fun hno => ?_
    have he : t + 1 = (exts D W []).length := by omega
    have hl : (exts D W []).getLast? = some (exts D W [])[t] := by
      rw [List.getLast?_eq_getElem?, ← he]
      exact List.getElem?_eq_getElem ht
    have h2 := (exts_all hw).2.1 _ hl i hi
    refine hne ?_
    rw [set_eq ht]
    exact getD_some 0 h2
  refine ⟨h1, fun j hj => ?_⟩
  have hn := (exts_all hw).2.2.1 t _ _ (List.getElem?_eq_getElem ht) (List.getElem?_eq_getElem h1)
  have := nx_at hn hi (fun k hk hkw => by rw [← set_eq ht]; exact hmax k hk hkw) (by rw [← set_eq ht]; exact hne) j hj
  rw [set_eq ht, set_eq ht, set_eq h1]
  exact this
theorem set_row {t : Nat} (ht : t < (exts D W []).length) : (exts D W []).getD t [] = (List.range W).map (setAt D W t) := by
  have hm : (exts D W [])[t] ∈ exts D W [] := List.getElem_mem ht
  have hl := (exts_all hw).2.2.2 _ hm
  rw [getD_at [] ht]
  refine List.ext_getElem (by simp [hl]) fun j h1 h2 => ?_
  simp only [List.getElem_map, List.getElem_range]
  rw [set_eq ht, getD_at 0 h1]
end
end Go.Proofs.Ytnmkkflnehnioaa
