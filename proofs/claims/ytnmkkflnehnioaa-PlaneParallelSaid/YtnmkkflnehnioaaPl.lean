/-
  The plain laws of the projective planes: lines as literal lists; two different lines have one common point, which meetN gives; points and lines may be exchanged. Condition: the five sizes with at most 60 points.
-/
import Derived.Test.YtnmkkflnehnioaaGb
namespace Go.Proofs.Ytnmkkflnehnioaa
open Go.RowKit
set_option maxRecDepth 100000

def lineZ (k i : Nat) : List Nat := (([[[1, 3, 5], [0, 3, 4], [2, 3, 6], [0, 1, 2], [1, 4, 6], [0, 5, 6], [2, 4, 5]], [[1, 4, 7, 10], [0, 4, 5, 6], [3, 4, 9, 11], [2, 4, 8, 12], [0, 1, 2, 3], [1, 6, 9, 12], [1, 5, 8, 11], [0, 10, 11, 12], [3, 6, 8, 10], [2, 5, 9, 10], [0, 7, 8, 9], [2, 6, 7, 11], [3, 5, 7, 12]], [[1, 5, 9, 13, 17], [0, 5, 6, 7, 8], [2, 5, 10, 15, 20], [4, 5, 12, 14, 19], [3, 5, 11, 16, 18], [0, 1, 2, 3, 4], [1, 6, 10, 14, 18], [1, 8, 12, 16, 20], [1, 7, 11, 15, 19], [0, 9, 10, 11, 12], [2, 6, 9, 16, 19], [4, 8, 9, 15, 18], [3, 7, 9, 14, 20], [0, 17, 18, 19, 20], [3, 6, 12, 15, 17], [2, 8, 11, 14, 17], [4, 7, 10, 16, 17], [0, 13, 14, 15, 16], [4, 6, 11, 13, 20], [3, 8, 10, 13, 19], [2, 7, 12, 13, 18]], [[1, 6, 11, 16, 21, 26], [0, 6, 7, 8, 9, 10], [5, 6, 15, 19, 23, 27], [3, 6, 13, 20, 22, 29], [4, 6, 14, 17, 25, 28], [2, 6, 12, 18, 24, 30], [0, 1, 2, 3, 4, 5], [1, 10, 15, 20, 25, 30], [1, 8, 13, 18, 23, 28], [1, 9, 14, 19, 24, 29], [1, 7, 12, 17, 22, 27], [0, 26, 27, 28, 29, 30], [5, 10, 14, 18, 22, 26], [3, 8, 15, 17, 24, 26], [4, 9, 12, 20, 23, 26], [2, 7, 13, 19, 25, 26], [0, 16, 17, 18, 19, 20], [4, 10, 13, 16, 24, 27], [5, 8, 12, 16, 25, 29], [2, 9, 15, 16, 22, 28], [3, 7, 14, 16, 23, 30], [0, 21, 22, 23, 24, 25], [3, 10, 12, 19, 21, 28], [2, 8, 14, 20, 21, 27], [5, 9, 13, 17, 21, 30], [4, 7, 15, 18, 21, 29], [0, 11, 12, 13, 14, 15], [2, 10, 11, 17, 23, 29], [4, 8, 11, 19, 22, 30], [3, 9, 11, 18, 25, 27], [5, 7, 11, 20, 24, 28]], [[1, 8, 15, 22, 29, 36, 43, 50], [0, 8, 9, 10, 11, 12, 13, 14], [7, 8, 21, 27, 33, 39, 45, 51], [4, 8, 18, 28, 31, 41, 44, 54], [3, 8, 17, 26, 35, 37, 46, 55], [6, 8, 20, 25, 30, 42, 47, 52], [5, 8, 19, 23, 34, 38, 49, 53], [2, 8, 16, 24, 32, 40, 48, 56], [0, 1, 2, 3, 4, 5, 6, 7], [1, 14, 21, 28, 35, 42, 49, 56], [1, 11, 18, 25, 32, 39, 46, 53], [1, 10, 17, 24, 31, 38, 45, 52], [1, 13, 20, 27, 34, 41, 48, 55], [1, 12, 19, 26, 33, 40, 47, 54], [1, 9, 16, 23, 30, 37, 44, 51], [0, 50, 51, 52, 53, 54, 55, 56], [7, 14, 20, 26, 32, 38, 44, 50], [4, 11, 21, 24, 34, 37, 47, 50], [3, 10, 19, 28, 30, 39, 48, 50], [6, 13, 18, 23, 35, 40, 45, 50], [5, 12, 16, 27, 31, 42, 46, 50], [2, 9, 17, 25, 33, 41, 49, 50], [0, 29, 30, 31, 32, 33, 34, 35], [6, 14, 19, 24, 29, 41, 46, 51], [7, 11, 17, 23, 29, 42, 48, 54], [5, 10, 21, 25, 29, 40, 44, 55], [4, 13, 16, 26, 29, 39, 49, 52], [2, 12, 20, 28, 29, 37, 45, 53], [3, 9, 18, 27, 29, 38, 47, 56], [0, 22, 23, 24, 25, 26, 27, 28], [5, 14, 18, 22, 33, 37, 48, 52], [3, 11, 20, 22, 31, 40, 49, 51], [7, 10, 16, 22, 35, 41, 47, 53], [2, 13, 21, 22, 30, 38, 46, 54], [6, 12, 17, 22, 34, 39, 44, 56], [4, 9, 19, 22, 32, 42, 45, 55], [0, 43, 44, 45, 46, 47, 48, 49], [4, 14, 17, 27, 30, 40, 43, 53], [6, 11, 16, 28, 33, 38, 43, 55], [2, 10, 18, 26, 34, 42, 43, 51], [7, 13, 19, 25, 31, 37, 43, 56], [3, 12, 21, 23, 32, 41, 43, 52], [5, 9, 20, 24, 35, 39, 43, 54], [0, 36, 37, 38, 39, 40, 41, 42], [3, 14, 16, 25, 34, 36, 45, 54], [2, 11, 19, 27, 35, 36, 44, 52], [4, 10, 20, 23, 33, 36, 46, 56], [5, 13, 17, 28, 32, 36, 47, 51], [7, 12, 18, 24, 30, 36, 49, 55], [6, 9, 21, 26, 31, 36, 48, 53], [0, 15, 16, 17, 18, 19, 20, 21], [2, 14, 15, 23, 31, 39, 47, 55], [5, 11, 15, 26, 30, 41, 45, 56], [6, 10, 15, 27, 32, 37, 49, 54], [3, 13, 15, 24, 33, 42, 44, 53], [4, 12, 15, 25, 35, 38, 48, 51], [7, 9, 15, 28, 34, 40, 46, 52]]] : List (List (List Nat))).getD k []).getD i []
theorem line_lit : ∀ k : Fin 5, ∀ i : Fin 57, i < (allT k).length → lineL k i = lineZ k i := by decide +kernel
theorem line_eq {k i : Nat} (hk : k < 5) (hi : i < (allL k).length) : lineL k i = lineZ k i := by
  rw [all_eq k hk] at hi
  have h : (allT k).length ≤ 57 := (by decide : ∀ k : Fin 5, (allT k).length ≤ 57) ⟨k, hk⟩
  exact line_lit ⟨k, hk⟩ ⟨i, by omega⟩ hi
theorem line_lenZ : ∀ k : Fin 5, ∀ i : Fin 57, i < (allT k).length → (lineZ k i).length = szN k + 1 := by decide +kernel
theorem line_length {k i : Nat} (hk : k < 5) (hi : i < (allL k).length) : (lineL k i).length = szN k + 1 := by
  rw [line_eq hk hi]
  rw [all_eq k hk] at hi
  have h : (allT k).length ≤ 57 := (by decide : ∀ k : Fin 5, (allT k).length ≤ 57) ⟨k, hk⟩
  exact line_lenZ ⟨k, hk⟩ ⟨i, by omega⟩ hi

def posT (k t : Nat) : Nat := ((allT k).filter fun u => Nat.blt u t).length
theorem sel_pos : ∀ k : Fin 5, ∀ t : Fin 99, t ≤ 2 * (szN k * szN k) → (selL k t).length = posT k t := by decide +kernel
def meetOk (k : Nat) : Bool := (List.range (allT k).length).all fun a => (List.range (allT k).length).all fun b => a == b || ((lineZ k a).filter (lineZ k b).contains == [posT k (numT k (crossN k (tripT k ((allT k).getD a 0)) (tripT k ((allT k).getD b 0))))])
theorem meet_ok : ∀ k : Fin 5, meetOk k = true := by decide +kernel
theorem common_eq {k a b : Nat} (hk : k < 5) (ha : a < (allL k).length) (hb : b < (allL k).length) (h : a ≠ b) : (lineL k a).filter (lineL k b).contains = [meetN k a b] := by
  have hc := cross_pt hk ha hb h
  rw [line_eq hk ha, line_eq hk hb]
  have h0 := meet_ok ⟨k, hk⟩
  have e := all_eq k hk
  unfold meetOk at h0
  rw [List.all_eq_true] at h0
  have h1 := h0 a (List.mem_range.2 (e ▸ ha))
  rw [List.all_eq_true] at h1
  have h2 := h1 b (List.mem_range.2 (e ▸ hb))
  rw [Bool.or_eq_true] at h2
  rcases h2 with h2 | h2
  · exact absurd (by simpa using h2) h
  · have h3 := eq_of_beq h2
    rw [h3]
    have h98 : 2 * (szN k * szN k) ≤ 98 := (by decide : ∀ k : Fin 5, 2 * (szN k * szN k) ≤ 98) ⟨k, hk⟩
    have h4 : (selL k (meetT k a b)).length = posT k (meetT k a b) := sel_pos ⟨k, hk⟩ ⟨meetT k a b, by omega⟩ (Nat.le_of_lt hc.1)
    unfold meetN
    rw [h4]
    unfold meetT ptT
    rw [e]

theorem line_filter (k i : Nat) : ∀ n, lineTo k i n = (List.range n).filter fun g => dotTo k (ptT k i) (ptT k g) 3 == 0
  | 0 => rfl
  | n + 1 => by
    rw [List.range_succ, List.filter_append, ← line_filter k i n, lineTo]
    by_cases h : dotTo k (ptT k i) (ptT k n) 3 = 0
    · simp [h]
    · simp [h]
theorem prod_comm : ∀ k : Fin 7, ∀ a b : Fin 9, a < szN k → b < szN k → prodN k a b = prodN k b a := by decide +kernel
theorem dot_comm {k : Nat} (hk : k < 7) {T U : Nat → Nat} (hT : ∀ j, j < 3 → T j < szN k) (hU : ∀ j, j < 3 → U j < szN k) : ∀ n, n ≤ 3 → dotTo k T U n = dotTo k U T n
  | 0, _ => rfl
  | n + 1, h => by
    have h9 := (sz_facts k hk).2.1.2
    unfold dotTo
    have a := hT n (by omega)
    have b := hU n (by omega)
    rw [dot_comm hk hT hU n (by omega), prod_comm ⟨k, hk⟩ ⟨T n, by omega⟩ ⟨U n, by omega⟩ a b]
theorem mem_line {k i g : Nat} : (lineL k i).contains g = (decide (g < (allL k).length) && (dotTo k (ptT k i) (ptT k g) 3 == 0)) := by
  rw [Bool.eq_iff_iff, List.contains_iff_mem, lineL, line_filter]
  simp [List.mem_filter]
theorem dual {k a b : Nat} (hk : k < 5) (ha : a < (allL k).length) (hb : b < (allL k).length) : (lineL k a).contains b = (lineL k b).contains a := by
  have hk7 : k < 7 := by omega
  rw [mem_line, mem_line, dot_comm hk7 (pt_lt hk7 ha) (pt_lt hk7 hb) 3 (by omega)]
  simp [ha, hb]
theorem line_range {k i : Nat} : lineL k i = (List.range (allL k).length).filter (lineL k i).contains := by
  conv => lhs; rw [lineL, line_filter]
  refine List.filter_congr fun g hg => ?_
  rw [mem_line]
  simp [List.mem_range.1 hg]
/-- The lines through two points. -/
def through (k a b n : Nat) : List Nat := (List.range n).filter fun g => (lineL k g).contains a && (lineL k g).contains b
theorem through_eq {k a b : Nat} (hk : k < 5) (ha : a < (allL k).length) (hb : b < (allL k).length) : through k a b (allL k).length = (lineL k a).filter (lineL k b).contains := by
  conv => rhs; rw [line_range (i := a), List.filter_filter]
  unfold through
  refine List.filter_congr fun g hg => ?_
  have hg' := List.mem_range.1 hg
  rw [dual hk hg' ha, dual hk hg' hb, Bool.and_comm]
theorem through_ne {k a b : Nat} (hk : k < 5) (ha : a < (allL k).length) (hb : b < (allL k).length) (h : a ≠ b) : through k a b (allL k).length = [meetN k a b] := by rw [through_eq hk ha hb, common_eq hk ha hb h]
theorem through_same {k a : Nat} (hk : k < 5) (ha : a < (allL k).length) : (through k a a (allL k).length).length = szN k + 1 := by
  rw [through_eq hk ha ha, List.filter_eq_self.2 (fun x hx => List.contains_iff_mem.2 hx), line_length hk ha]
theorem meet_mem {k a b : Nat} (hk : k < 5) (ha : a < (allL k).length) (hb : b < (allL k).length) (h : a ≠ b) : (lineL k a).contains (meetN k a b) = true ∧ (lineL k b).contains (meetN k a b) = true := by
  have : meetN k a b ∈ (lineL k a).filter (lineL k b).contains := by rw [common_eq hk ha hb h]; simp
  rw [List.mem_filter] at this
  exact ⟨List.contains_iff_mem.2 this.1, this.2⟩
theorem meet_lt {k a b : Nat} (hk : k < 5) (ha : a < (allL k).length) (hb : b < (allL k).length) (h : a ≠ b) : meetN k a b < (allL k).length := by
  have := (meet_mem hk ha hb h).1
  rw [mem_line, Bool.and_eq_true] at this
  exact of_decide_eq_true this.1
theorem meet_comm {k a b : Nat} (hk : k < 5) (ha : a < (allL k).length) (hb : b < (allL k).length) (h : a ≠ b) : meetN k a b = meetN k b a := by
  have h1 := meet_mem hk hb ha (Ne.symm h)
  have : meetN k b a ∈ (lineL k a).filter (lineL k b).contains := by rw [List.mem_filter]; exact ⟨List.contains_iff_mem.1 h1.2, h1.1⟩
  rw [common_eq hk ha hb h] at this
  exact (List.mem_singleton.1 this).symm
end Go.Proofs.Ytnmkkflnehnioaa
