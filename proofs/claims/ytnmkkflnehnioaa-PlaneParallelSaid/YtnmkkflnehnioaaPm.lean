/-
  The plain laws of the affine planes: through each point there is at most one parallel of a line; two different points lie on one line. Condition: the five sizes with at most 60 points.
-/
import Derived.Test.YtnmkkflnehnioaaPk
namespace Go.Proofs.Ytnmkkflnehnioaa
open Go.RowKit
set_option maxRecDepth 100000

def affZ (k i : Nat) : List Nat := (([[[0, 2], [1, 3], [0, 3], [1, 2], [0, 1], [2, 3]], [[0, 3, 6], [1, 4, 7], [2, 5, 8], [0, 4, 8], [1, 5, 6], [2, 3, 7], [0, 5, 7], [1, 3, 8], [2, 4, 6], [0, 1, 2], [3, 4, 5], [6, 7, 8]], [[0, 4, 8, 12], [1, 5, 9, 13], [2, 6, 10, 14], [3, 7, 11, 15], [0, 5, 10, 15], [1, 4, 11, 14], [2, 7, 8, 13], [3, 6, 9, 12], [0, 6, 11, 13], [1, 7, 10, 12], [2, 4, 9, 15], [3, 5, 8, 14], [0, 7, 9, 14], [1, 6, 8, 15], [2, 5, 11, 12], [3, 4, 10, 13], [0, 1, 2, 3], [4, 5, 6, 7], [8, 9, 10, 11], [12, 13, 14, 15]], [[0, 5, 10, 15, 20], [1, 6, 11, 16, 21], [2, 7, 12, 17, 22], [3, 8, 13, 18, 23], [4, 9, 14, 19, 24], [0, 6, 12, 18, 24], [1, 7, 13, 19, 20], [2, 8, 14, 15, 21], [3, 9, 10, 16, 22], [4, 5, 11, 17, 23], [0, 7, 14, 16, 23], [1, 8, 10, 17, 24], [2, 9, 11, 18, 20], [3, 5, 12, 19, 21], [4, 6, 13, 15, 22], [0, 8, 11, 19, 22], [1, 9, 12, 15, 23], [2, 5, 13, 16, 24], [3, 6, 14, 17, 20], [4, 7, 10, 18, 21], [0, 9, 13, 17, 21], [1, 5, 14, 18, 22], [2, 6, 10, 19, 23], [3, 7, 11, 15, 24], [4, 8, 12, 16, 20], [0, 1, 2, 3, 4], [5, 6, 7, 8, 9], [10, 11, 12, 13, 14], [15, 16, 17, 18, 19], [20, 21, 22, 23, 24]], [[0, 7, 14, 21, 28, 35, 42], [1, 8, 15, 22, 29, 36, 43], [2, 9, 16, 23, 30, 37, 44], [3, 10, 17, 24, 31, 38, 45], [4, 11, 18, 25, 32, 39, 46], [5, 12, 19, 26, 33, 40, 47], [6, 13, 20, 27, 34, 41, 48], [0, 8, 16, 24, 32, 40, 48], [1, 9, 17, 25, 33, 41, 42], [2, 10, 18, 26, 34, 35, 43], [3, 11, 19, 27, 28, 36, 44], [4, 12, 20, 21, 29, 37, 45], [5, 13, 14, 22, 30, 38, 46], [6, 7, 15, 23, 31, 39, 47], [0, 9, 18, 27, 29, 38, 47], [1, 10, 19, 21, 30, 39, 48], [2, 11, 20, 22, 31, 40, 42], [3, 12, 14, 23, 32, 41, 43], [4, 13, 15, 24, 33, 35, 44], [5, 7, 16, 25, 34, 36, 45], [6, 8, 17, 26, 28, 37, 46], [0, 10, 20, 23, 33, 36, 46], [1, 11, 14, 24, 34, 37, 47], [2, 12, 15, 25, 28, 38, 48], [3, 13, 16, 26, 29, 39, 42], [4, 7, 17, 27, 30, 40, 43], [5, 8, 18, 21, 31, 41, 44], [6, 9, 19, 22, 32, 35, 45], [0, 11, 15, 26, 30, 41, 45], [1, 12, 16, 27, 31, 35, 46], [2, 13, 17, 21, 32, 36, 47], [3, 7, 18, 22, 33, 37, 48], [4, 8, 19, 23, 34, 38, 42], [5, 9, 20, 24, 28, 39, 43], [6, 10, 14, 25, 29, 40, 44], [0, 12, 17, 22, 34, 39, 44], [1, 13, 18, 23, 28, 40, 45], [2, 7, 19, 24, 29, 41, 46], [3, 8, 20, 25, 30, 35, 47], [4, 9, 14, 26, 31, 36, 48], [5, 10, 15, 27, 32, 37, 42], [6, 11, 16, 21, 33, 38, 43], [0, 13, 19, 25, 31, 37, 43], [1, 7, 20, 26, 32, 38, 44], [2, 8, 14, 27, 33, 39, 45], [3, 9, 15, 21, 34, 40, 46], [4, 10, 16, 22, 28, 41, 47], [5, 11, 17, 23, 29, 35, 48], [6, 12, 18, 24, 30, 36, 42], [0, 1, 2, 3, 4, 5, 6], [7, 8, 9, 10, 11, 12, 13], [14, 15, 16, 17, 18, 19, 20], [21, 22, 23, 24, 25, 26, 27], [28, 29, 30, 31, 32, 33, 34], [35, 36, 37, 38, 39, 40, 41], [42, 43, 44, 45, 46, 47, 48]]] : List (List (List Nat))).getD k []).getD i []
theorem aff_lit : ∀ k : Fin 5, ∀ i : Fin 56, i.val < szN k * szN k + szN k → affL k i = affZ k i := by decide +kernel
theorem sz_m : ∀ k : Fin 5, szN k * szN k + szN k ≤ 56 := by decide
theorem aff_eq {k i : Nat} (hk : k < 5) (hi : i < szN k * szN k + szN k) : affL k i = affZ k i := by
  have h : szN k * szN k + szN k ≤ 56 := sz_m ⟨k, hk⟩
  exact aff_lit ⟨k, hk⟩ ⟨i, by omega⟩ hi
def parB (k g a h : Nat) : Bool := (affL k h).contains a && ((affL k h).filter (affL k g).contains).isEmpty
def joiB (k a b h : Nat) : Bool := (affL k h).contains a && (affL k h).contains b
def parN (k g a t : Nat) : Nat := ((List.range t).filter (parB k g a)).length
def joiN (k a b t : Nat) : Nat := ((List.range t).filter (joiB k a b)).length
def parZ (k g a h : Nat) : Bool := (affZ k h).contains a && ((affZ k h).filter (affZ k g).contains).isEmpty
def joiZ (k a b h : Nat) : Bool := (affZ k h).contains a && (affZ k h).contains b
def parOk (k : Nat) : Bool := (List.range (szN k * szN k + szN k)).all fun g => (List.range (szN k * szN k)).all fun a =>
  match ((List.range (szN k * szN k + szN k)).filter (parZ k g a)) with
  | [] => (affZ k g).contains a
  | [_] => !(affZ k g).contains a
  | _ => false
def joiOk (k : Nat) : Bool := (List.range (szN k * szN k)).all fun a => (List.range (szN k * szN k)).all fun b =>
  ((List.range (szN k * szN k + szN k)).filter (joiZ k a b)).length == (if a == b then szN k + 1 else 1)
theorem par_ok : ∀ k : Fin 5, parOk k = true := by decide +kernel
theorem joi_ok : ∀ k : Fin 5, joiOk k = true := by decide +kernel
theorem par_fact {k g a : Nat} (hk : k < 5) (hg : g < szN k * szN k + szN k) (ha : a < szN k * szN k) :
    (affL k g).contains a = true ∧ parN k g a (szN k * szN k + szN k) = 0 ∨ (affL k g).contains a = false ∧ parN k g a (szN k * szN k + szN k) = 1 := by
  have h0 := par_ok ⟨k, hk⟩
  unfold parOk at h0
  rw [List.all_eq_true] at h0
  have h1 := h0 g (List.mem_range.2 hg)
  rw [List.all_eq_true] at h1
  have h2 := h1 a (List.mem_range.2 ha)
  have e : (List.range (szN k * szN k + szN k)).filter (parB k g a) = (List.range (szN k * szN k + szN k)).filter (parZ k g a) := by
    refine List.filter_congr fun h hh => ?_
    unfold parB parZ
    rw [aff_eq hk (List.mem_range.1 hh), aff_eq hk hg]
  unfold parN
  rw [e, aff_eq hk hg]
  revert h2
  show (match (List.range (szN k * szN k + szN k)).filter (parZ k g a) with
    | [] => (affZ k g).contains a
    | [_] => !(affZ k g).contains a
    | _ => false) = true → _
  generalize (List.range (szN k * szN k + szN k)).filter (parZ k g a) = l
  intro h2
  match l, h2 with
  | [], h2 => exact .inl ⟨h2, rfl⟩
  | [x], h2 => exact .inr ⟨by simpa using h2, rfl⟩
theorem joi_fact {k a b : Nat} (hk : k < 5) (ha : a < szN k * szN k) (hb : b < szN k * szN k) :
    joiN k a b (szN k * szN k + szN k) = if a = b then szN k + 1 else 1 := by
  have h0 := joi_ok ⟨k, hk⟩
  unfold joiOk at h0
  rw [List.all_eq_true] at h0
  have h1 := h0 a (List.mem_range.2 ha)
  rw [List.all_eq_true] at h1
  have h2 := eq_of_beq (h1 b (List.mem_range.2 hb))
  have e : (List.range (szN k * szN k + szN k)).filter (joiB k a b) = (List.range (szN k * szN k + szN k)).filter (joiZ k a b) := by
    refine List.filter_congr fun h hh => ?_
    unfold joiB joiZ
    rw [aff_eq hk (List.mem_range.1 hh)]
  unfold joiN
  rw [e]
  by_cases h : a = b
  · rw [if_pos h]
    subst h
    simpa using h2
  · rw [if_neg h]
    have hb : (a == b) = false := by simpa using h
    rw [hb] at h2
    simpa using h2
theorem parN_succ (k g a t : Nat) : parN k g a (t + 1) = parN k g a t + (if parB k g a t then 1 else 0) := by
  unfold parN
  rw [List.range_succ, List.filter_append, List.length_append]
  cases h : parB k g a t <;> simp [h]
theorem joiN_succ (k a b t : Nat) : joiN k a b (t + 1) = joiN k a b t + (if joiB k a b t then 1 else 0) := by
  unfold joiN
  rw [List.range_succ, List.filter_append, List.length_append]
  cases h : joiB k a b t <;> simp [h]
theorem parN_le (k g a t : Nat) : parN k g a t ≤ t := by
  unfold parN
  have := List.length_filter_le (parB k g a) (List.range t)
  rw [List.length_range] at this
  exact this
theorem joiN_le (k a b t : Nat) : joiN k a b t ≤ t := by
  unfold joiN
  have := List.length_filter_le (joiB k a b) (List.range t)
  rw [List.length_range] at this
  exact this
end Go.Proofs.Ytnmkkflnehnioaa
