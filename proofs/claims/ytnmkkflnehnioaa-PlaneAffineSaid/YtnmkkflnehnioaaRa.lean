/-
  The reference's affine plane (47), by the printed contract: the same lines. Condition: a size with at most 60 points.
-/
import Derived.Test.YtnmkkflnehnioaaGb
import Derived.Test.YtnmkkflnehnioaaPPlaneAffinex5
namespace Go.Proofs.Ytnmkkflnehnioaa
open Go.RowKit Go.Proofs.Ytnmkkflnehnioaa.PPlaneAffine
set_option maxRecDepth 100000

theorem raff_f : ∀ k : Fin 5, tegularef06_Affine.f 3200 (szN k) = some (((szN k * szN k : Nat) : Int), (List.range (szN k * szN k + szN k)).map fun i => (affL k i).map Int.ofNat) := by decide +kernel

theorem one_of {cs : List Value} {j : Nat} {u : Value} (h : (cs.drop (j * 1)).take 1 = [u]) : cs[j]? = some u := by
  rw [Nat.mul_one] at h
  have h0 : ((cs.drop j).take 1)[0]? = some u := by rw [h]; rfl
  rw [List.getElem?_take_of_lt (by omega), List.getElem?_drop] at h0
  simpa using h0
theorem ints_of {w : World} {base : Nat} {ok : Nat → Prop} {v : Value} {l : List Nat} (h : YtnmkkflnehnioaaW.PrintWords.Kd.R (YtnmkkflnehnioaaW.PrintWords.Kd.int .i64) 3 w base ok v (l.map Int.ofNat)) : w.ownsRow base 3 1 v l.length (natVals l) := by
  obtain ⟨_, inner, ho, hl, hr⟩ := h
  have hl' : inner.length = l.length := by
    have : inner.length = (l.map Int.ofNat).length * 1 := hl
    simpa using this
  have e : inner = natVals l := by
    refine List.ext_getElem? fun j => ?_
    by_cases hj : j < l.length
    · have h1 : (l.map Int.ofNat)[j]? = some (Int.ofNat l[j]) := by simp [hj]
      have h2 := one_of (hr j _ h1)
      rw [h2]
      simp [natVals, hj]
    · rw [List.getElem?_eq_none (by omega), List.getElem?_eq_none (by simp [natVals]; omega)]
  rw [← e]
  have ho' : w.ownsRow base 3 1 v (l.map Int.ofNat).length inner := ho
  rw [List.length_map] at ho'
  exact ho'
theorem rows_of_R {w : World} {base : Nat} {ok : Nat → Prop} {v : Value} {a : Nat} {L : Nat → List Nat} (h : YtnmkkflnehnioaaW.PrintWords.Kd.R (YtnmkkflnehnioaaW.PrintWords.Kd.slice 3 (YtnmkkflnehnioaaW.PrintWords.Kd.int .i64)) 38 w base ok v ((List.range a).map fun i => (L i).map Int.ofNat)) : RowsOf w base v a L := by
  obtain ⟨_, inner, ho, hl, hr⟩ := h
  have ho' : w.ownsRow base 38 1 v ((List.range a).map fun i => (L i).map Int.ofNat).length inner := ho
  rw [List.length_map, List.length_range] at ho'
  refine ⟨inner, ho', fun i hi => ?_⟩
  obtain ⟨rv, h1, h2⟩ := hr i ((L i).map Int.ofNat) (by simp [hi])
  exact ⟨rv, one_of h1, ints_of h2⟩

theorem raff_k {k : Nat} (hk : k < 5) (w : World) : Calls Try.prog 47 #[.int .i64 (szN k)] w fun e w' => ∃ v, e = .returned (.agg #[.int .i64 ((szN k * szN k : Nat) : Int), v]) ∧ RowsOf w' w.heap.size v (szN k * szN k + szN k) (affL k) ∧ Below w.heap.size w w' := by
  refine (tegularef06_Affine.calls 3200 _ _ _ w (raff_f ⟨k, hk⟩)).mono ?_
  rintro e w' ⟨v, rfl, hS, hB⟩
  exact ⟨v, rfl, rows_of_R (YtnmkkflnehnioaaW.PrintWords.Kd.S_R hS), hB⟩
end Go.Proofs.Ytnmkkflnehnioaa
