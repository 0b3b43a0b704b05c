/-
  The plain law of a projective plane without one line: the counts. Condition: the five sizes with at most 60 points.
-/
import Derived.Test.YtnmkkflnehnioaaPk
namespace Go.Proofs.Ytnmkkflnehnioaa
open Go.RowKit
set_option maxRecDepth 100000

def rowF (N : Nat) (f : Nat → Int) : List Int := (List.range N).map f
theorem rowF_len (N : Nat) (f : Nat → Int) : (rowF N f).length = N := by simp [rowF]
theorem rowF_at {N p : Nat} {f : Nat → Int} (hp : p < N) : at0 (rowF N f) p = f p := by simp [rowF, at0, hp]
theorem rowF_congr {N : Nat} {f g : Nat → Int} (h : ∀ j, j < N → f j = g j) : rowF N f = rowF N g := List.map_congr_left fun j hj => h j (List.mem_range.1 hj)
theorem rowF_set {N p : Nat} {f : Nat → Int} (v : Int) : (rowF N f).set p v = rowF N (fun j => if j = p then v else f j) := by
  refine List.ext_getElem? fun j => ?_
  rw [List.getElem?_set]
  by_cases hjp : p = j
  · subst hjp
    by_cases hp : p < N
    · simp [rowF, hp]
    · simp [rowF, hp]
  · have : ¬ j = p := fun e => hjp e.symm
    simp only [if_neg hjp]
    by_cases hj : j < N
    · simp [rowF, hj, this]
    · simp [rowF, hj]
theorem rowF_zero (N : Nat) : rowF N (fun _ => 0) = List.replicate N 0 := List.eq_replicate_iff.2 ⟨by simp [rowF], by simp [rowF]⟩

def outL (k g h i : Nat) : List Nat := ((lineL k h).take i).filter (fun p => !(lineL k g).contains p)
def incI (l : List Nat) (p : Nat) : Int := if l.contains p then 1 else 0
def cntI (k g : Nat) : Nat → Nat → Int
  | 0, _ => 0
  | t + 1, p => cntI k g t p + (if t = g then 0 else incI (outL k g t (szN k + 1)) p)

theorem out_zero (k g h : Nat) : outL k g h 0 = [] := by simp [outL]
theorem out_succ {k g h i p : Nat} (hp : (lineL k h)[i]? = some p) : outL k g h (i + 1) = outL k g h i ++ (if (lineL k g).contains p then [] else [p]) := by
  unfold outL
  rw [List.take_add_one, hp, List.filter_append]
  congr 1
  show List.filter (fun p => !(lineL k g).contains p) [p] = _
  cases h : (lineL k g).contains p
  · simp only [List.filter, h, Bool.not_false]; simp
  · simp only [List.filter, h, Bool.not_true]; simp
theorem line_nodup (k i : Nat) : (lineL k i).Nodup := by
  rw [lineL, line_filter]
  exact List.nodup_range.filter _
theorem out_not {k g h i p : Nat} (hp : (lineL k h)[i]? = some p) : ¬ p ∈ outL k g h i := fun hm => by
  unfold outL at hm
  have h1 := (List.mem_filter.1 hm).1
  obtain ⟨j, hj, e⟩ := List.getElem_of_mem h1
  have hjl : j < i := by have := hj; simp at this; omega
  have e2 : (lineL k h)[j]? = some p := by
    have := List.getElem?_eq_getElem hj
    rw [e, List.getElem?_take_of_lt hjl] at this
    exact this
  obtain ⟨hi', ei⟩ := List.getElem?_eq_some_iff.1 hp
  obtain ⟨hj', ej⟩ := List.getElem?_eq_some_iff.1 e2
  have := List.pairwise_iff_getElem.1 (line_nodup k h) j i hj' hi' hjl
  exact this (ej.trans ei.symm)
theorem inc_step {k g h i p : Nat} (hp : (lineL k h)[i]? = some p) (hg : (lineL k g).contains p = false) (c : Nat → Int) (j : Nat) :
    (if j = p then c p + incI (outL k g h i) p + 1 else c j + incI (outL k g h i) j) = c j + incI (outL k g h (i + 1)) j := by
  rw [out_succ hp, hg]
  have hn := out_not (g := g) hp
  have h0 : (outL k g h i).contains p = false := by rw [← Bool.not_eq_true, List.contains_iff_mem]; exact hn
  unfold incI
  by_cases hjp : j = p
  · subst hjp
    rw [if_pos rfl, h0]
    have : (outL k g h i ++ (if false = true then [] else [j])).contains j = true := by simp
    rw [this]
    simp
  · rw [if_neg hjp]
    have : (outL k g h i ++ (if false = true then [] else [p])).contains j = (outL k g h i).contains j := by
      rw [Bool.eq_iff_iff, List.contains_iff_mem, List.contains_iff_mem]
      simp [hjp]
    rw [this]
theorem split_len {α : Type} (f : α → Bool) : ∀ l : List α, (l.filter f).length + (l.filter fun x => !f x).length = l.length
  | [] => rfl
  | x :: l => by
    have := split_len f l
    cases h : f x <;> simp [h] <;> omega
theorem out_len {k g h : Nat} (hk : k < 5) (hg : g < (allL k).length) (hh : h < (allL k).length) (hne : h ≠ g) : (outL k g h (szN k + 1)).length = szN k := by
  have hl := line_length hk hh
  have ht : (lineL k h).take (szN k + 1) = lineL k h := by rw [← hl]; exact List.take_length
  unfold outL
  rw [ht]
  have h1 := split_len (lineL k g).contains (lineL k h)
  rw [common_eq hk hh hg hne, hl] at h1
  simp only [List.length_cons, List.length_nil] at h1
  omega
theorem line_lt {k h i p : Nat} (hp : (lineL k h)[i]? = some p) : p < (allL k).length := by
  have hm : (lineL k h).contains p = true := List.contains_iff_mem.2 (List.mem_of_getElem? hp)
  rw [mem_line, Bool.and_eq_true] at hm
  exact of_decide_eq_true hm.1
theorem inc_le (l : List Nat) (p : Nat) : 0 ≤ incI l p ∧ incI l p ≤ 1 := by
  unfold incI
  split <;> omega
theorem cnt_le (k g : Nat) : ∀ t p, 0 ≤ cntI k g t p ∧ cntI k g t p ≤ t
  | 0, _ => ⟨Int.le_refl _, Int.le_refl _⟩
  | t + 1, p => by
    have h1 := cnt_le k g t p
    have h2 := inc_le (outL k g t (szN k + 1)) p
    unfold cntI
    split <;> omega
theorem inc_out {k g t p : Nat} (hk : k < 5) (ht : t < (allL k).length) : incI (outL k g t (szN k + 1)) p = if (lineL k t).contains p && !(lineL k g).contains p then 1 else 0 := by
  have hl := line_length hk ht
  have he : (lineL k t).take (szN k + 1) = lineL k t := by rw [← hl]; exact List.take_length
  have : (outL k g t (szN k + 1)).contains p = ((lineL k t).contains p && !(lineL k g).contains p) := by
    unfold outL
    rw [he, Bool.eq_iff_iff, List.contains_iff_mem, List.mem_filter, Bool.and_eq_true, List.contains_iff_mem]
  unfold incI
  rw [this]
theorem cnt_in {k g p : Nat} (hk : k < 5) (h : (lineL k g).contains p = true) : ∀ t, t ≤ (allL k).length → cntI k g t p = 0
  | 0, _ => rfl
  | t + 1, ht => by
    unfold cntI
    rw [cnt_in hk h t (by omega), inc_out hk (by omega), h]
    simp
theorem cnt_out {k g p : Nat} (hk : k < 5) (h : (lineL k g).contains p = false) : ∀ t, t ≤ (allL k).length → cntI k g t p = ((through k p p t).length : Int)
  | 0, _ => by simp [cntI, through]
  | t + 1, ht => by
    unfold cntI
    rw [cnt_out hk h t (by omega), inc_out hk (by omega), h]
    have e : (through k p p (t + 1)).length = (through k p p t).length + (if (lineL k t).contains p then 1 else 0) := by
      unfold through
      rw [List.range_succ, List.filter_append, List.length_append]
      cases hc : (lineL k t).contains p
      · rw [show List.filter (fun g => (lineL k g).contains p && (lineL k g).contains p) [t] = [] by simp only [List.filter, hc, Bool.and_self]]; simp
      · rw [show List.filter (fun g => (lineL k g).contains p && (lineL k g).contains p) [t] = [t] by simp only [List.filter, hc, Bool.and_self]]; simp
    rw [e]
    by_cases htg : t = g
    · subst htg
      rw [h]
      simp
    · rw [if_neg htg]
      cases hc : (lineL k t).contains p <;> simp
theorem cnt_end {k g p : Nat} (hk : k < 5) (hp : p < (allL k).length) : cntI k g (allL k).length p = if (lineL k g).contains p then 0 else ((szN k : Nat) : Int) + 1 := by
  cases h : (lineL k g).contains p
  · rw [cnt_out hk h _ (Nat.le_refl _), through_same hk hp]
    simp
  · rw [cnt_in hk h _ (Nat.le_refl _)]
    simp
end Go.Proofs.Ytnmkkflnehnioaa
