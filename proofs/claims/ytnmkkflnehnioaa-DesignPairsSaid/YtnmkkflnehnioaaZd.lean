/-
  What the statements on designs call, in the form in which they read it. Conditions: as stated.
-/
import Derived.Test.YtnmkkflnehnioaaDa
import Derived.Test.YtnmkkflnehnioaaDb
import Derived.Test.YtnmkkflnehnioaaWr
namespace Go.Proofs.Ytnmkkflnehnioaa
open Go.RowKit
set_option maxRecDepth 100000

theorem RRow.z {w : World} {v : Value} {l : List Nat} (h : RRow w v l) (hl : l.length < 4000000000) : ZRow w v (ints l) := by
  obtain ⟨r, c, rfl, -, h⟩ := h
  refine ⟨some ⟨r, 0, none⟩, c, by simp [ints], by simpa [ints] using hl, fun i x hx => ⟨r, 0, rfl, ?_⟩⟩
  rw [ints, List.getElem?_map] at hx
  cases e : l[i]? with
  | none => rw [e] at hx; cases hx
  | some n =>
    rw [e] at hx
    simp at hx
    subst hx
    rw [Nat.zero_add]
    exact h i n e
theorem RRows.z {w : World} {v : Value} {n : Nat} {f : Nat → List Nat} (h : RRows w v n f) (hn : n < 4000000000) (hl : ∀ i, i < n → (f i).length < 4000000000) : ZRows w v n fun i => ints (f i) := by
  obtain ⟨g, c, rfl, -, h⟩ := h
  refine ⟨some ⟨g, 0, none⟩, c, rfl, hn, fun i hi => ?_⟩
  obtain ⟨rv, h1, h2⟩ := h i hi
  exact ⟨g, 0, rv, rfl, by rw [Nat.zero_add]; exact h1, h2.z (hl i hi)⟩
theorem rowZ_eq (G : List (List Nat)) : (fun i => ints (rowG G i)) = rowZ G := rfl

/-- A design that can be read has been returned. -/
def Rd (D : Int) (n : Nat) (f : Nat → List Nat) (w : World) (e : Ending) (w' : World) : Prop :=
  ∃ g c, e = .returned (.tuple #[.agg #[.int .i64 D, .slice (some ⟨g, 0, none⟩) n c], .int .i64 0]) ∧ RRows w' (.slice (some ⟨g, 0, none⟩) n c) n f ∧ Below w.heap.size w w'
theorem Rd.of_rows {D : Int} {n : Nat} {f : Nat → List Nat} {w w' : World} {e : Ending} (hn : 0 < n) (hl : ∀ i, i < n → 0 < (f i).length) (h : ∃ v, e = .returned (.tuple #[.agg #[.int .i64 D, v], .int .i64 0]) ∧ RowsOf w' w.heap.size v n f ∧ Below w.heap.size w w') : Rd D n f w e w' := by
  obtain ⟨v, rfl, h1, h2⟩ := h
  have h3 := h1.read hn hl
  have h4 := h3
  obtain ⟨g, c, rfl, -, -⟩ := h4
  exact ⟨g, c, rfl, h3, h2⟩
theorem Rd.of_made {D : Int} {n : Nat} {f : Nat → List Nat} {w w' : World} {e : Ending} (hn : 0 < n) (hl : ∀ i, i < n → 0 < (f i).length) (h : Made D n f 0 w e w') : Rd D n f w e w' := by
  obtain ⟨d, v, rfl, -, h1, h2, -⟩ := h
  obtain ⟨rfl, h3⟩ := h2 rfl
  exact Rd.of_rows hn hl ⟨v, rfl, h3, h1⟩
theorem Rd.congr {D : Int} {n : Nat} {f g : Nat → List Nat} {w w' : World} {e : Ending} (h : Rd D n f w e w') (hfg : ∀ i, i < n → f i = g i) : Rd D n g w e w' := by
  obtain ⟨b, c, rfl, ⟨b', c', e, hc, h1⟩, h2⟩ := h
  exact ⟨b, c, rfl, ⟨b', c', e, hc, fun i hi => by obtain ⟨rv, k1, k2⟩ := h1 i hi; exact ⟨rv, k1, by rw [← hfg i hi]; exact k2⟩⟩, h2⟩
/-- Check of a balanced design. -/
theorem check_good {D k : Nat} {G : List (List Nat)} {r s n : Nat} (hG : GoodG D k G r s) (hn : G.length = n) (w : World) (v : Value) (hv : RRows w v n (rowG G)) :
    Calls Try.prog 58 #[.agg #[.int .i64 D, v]] w fun e w' => e = .returned (.tuple #[.int .i64 (r : Nat), .int .i64 (s : Nat), .int .i64 0]) ∧ Below w.heap.size w w' := by
  subst hn
  have hlen : ∀ i, i < G.length → (rowG G i).length < 4000000000 := fun i hi => by
    have h1 := hG.rise _ (rowG_mem hi)
    have h2 := rise_nodup h1
    have h3 : (rowG G i).length ≤ D := by
      have := len_sub (m := List.range D) (h2.imp fun h => Nat.ne_of_lt h) (fun x hx => by
        obtain ⟨j, hj⟩ := List.mem_iff_getElem?.1 hx
        exact List.mem_range.2 (rise_at h1 j x hj).1)
      simpa using this
    have := hG.D60
    omega
  obtain ⟨h1, h2, h3⟩ := hG.good (L := rowZ G) (fun i _ => rfl)
  refine (check_any (D : Int) G.length (rowZ G) w v (hv.z (by have := hG.n2; omega) hlen)).mono ?_
  rintro e w' ⟨hB, h | h⟩
  · exact ⟨by rw [h.2, h2, h3], hB⟩
  · exact absurd h1 h.1
theorem compG_len {v k : Nat} (_ : k ≤ v) : (compG v k).length = bin v k := by
  rw [compG, exts_len v k [] (Nat.zero_le _)]
  rfl
theorem compG_row {v k i : Nat} (hi : i < (compG v k).length) : (rowG (compG v k) i).length = k := by
  have := exts_item v k [] _ (rowG_mem hi)
  simp only [List.length_nil, Nat.zero_add] at this
  exact this
/-- Complete, read. -/
theorem comp_rd {v k : Nat} (h2 : 2 ≤ v) (h60 : v ≤ 60) (hk2 : 2 ≤ k) (hkv : k ≤ v) (hc : cntGo v 1 0 (min k (v - k)) ≤ 4096) (w : World) : Calls Try.prog 54 #[.int .i64 v, .int .i64 k] w (Rd v (bin v k) (rowG (compG v k)) w) := by
  have hl := exts_count hkv (by omega : cntGo v 1 0 (min k (v - k)) ≤ 1099511627776)
  have hb := count_bin hkv (by omega : cntGo v 1 0 (min k (v - k)) ≤ 1099511627776)
  have hp := bin_pos v k hkv
  refine (complete_yes v k h2 h60 hk2 hkv hc (by omega) w).mono fun e w' h => Rd.of_rows hp (fun i hi => ?_) ?_
  · rw [compG_row (by rw [compG_len hkv]; exact hi)]
    omega
  · rw [show bin v k = (exts v k []).length by omega]
    exact h
theorem bin_pow : ∀ n k : Nat, bin n k ≤ 2 ^ n
  | n, 0 => by rw [bin_zero]; exact Nat.one_le_two_pow
  | 0, k + 1 => Nat.zero_le _
  | n + 1, k + 1 => by
    have h1 := bin_pow n k
    have h2 := bin_pow n (k + 1)
    rw [bin_succ, Nat.pow_succ]
    omega
theorem cntGo_small {disks : Nat} (hd : disks ≤ 40) : ∀ (f i : Nat), i + f ≤ disks → cntGo disks (bin disks i) i f = bin disks (i + f)
  | 0, i, _ => rfl
  | f + 1, i, h => by
    have h1 := bin_pow disks (i + 1)
    have h2 : 2 ^ disks ≤ 2 ^ 40 := Nat.pow_le_pow_right (by decide) hd
    rw [cntGo, bin_step disks i (by omega), if_neg (by omega), cntGo_small hd f (i + 1) (by omega), show i + 1 + f = i + (f + 1) by omega]
theorem cnt_small {v k : Nat} (hkv : k ≤ v) (h40 : v ≤ 40) : cntGo v 1 0 (min k (v - k)) = bin v k := by
  have e := cntGo_small h40 (min k (v - k)) 0 (by omega)
  rw [bin_zero, Nat.zero_add] at e
  rw [e]
  rcases Nat.le_total k (v - k) with h1 | h1
  · rw [Nat.min_eq_left h1]
  · rw [Nat.min_eq_right h1]
    exact (bin_symm v k hkv).symm
theorem choose_proj {k : Nat} (h1 : 1 ≤ k) (hk : k < 5) (w : World) : Calls Try.prog 60 #[.int .i64 ((allL k).length : Nat), .int .i64 ((szN k + 1 : Nat) : Int)] w (Rd ((allL k).length : Nat) (allL k).length (rowG (projG k)) w) := by
  have hs : 3 ≤ szN k ∧ szN k ≤ 7 := (by decide : ∀ k : Fin 5, 1 ≤ k.val → 3 ≤ szN k ∧ szN k ≤ 7) ⟨k, hk⟩ h1
  have hb := proj_bal ⟨k, hk⟩
  simp only [Bool.and_eq_true, beq_iff_eq] at hb
  obtain ⟨⟨hb1, -⟩, hb3⟩ := hb
  have hG := balB_iff hb1
  have hsq : szN k * szN k ≤ 49 := Nat.mul_le_mul hs.2 hs.2
  have hsq2 : 3 * szN k ≤ szN k * szN k := Nat.mul_le_mul_right _ hs.1
  have e1 : (szN k + 1) * (szN k + 1) - (szN k + 1) + 1 = (allL k).length := by
    rw [hb3, Nat.add_mul, Nat.mul_add]
    omega
  have e2 : (szN k + 1) * (szN k + 1) ≠ (allL k).length := by
    rw [hb3, Nat.add_mul, Nat.mul_add]
    omega
  have hlen : (projG k).length = (allL k).length := by simp [projG]
  have hrow : ∀ i, i < (allL k).length → lineL k i = rowG (projG k) i := fun i hi => by
    rw [rowG, List.getD_eq_getElem?_getD, projG, List.getElem?_map, List.getElem?_range hi]
    rfl
  refine (choose_gen (allL k).length (szN k + 1) (by omega) (by omega) (by omega) (by omega) (allL k).length (lineL k) 0 False True (.inr (.inr ⟨e1, rfl, fun W => ?_⟩)) (.inr (.inl ⟨e2, trivial⟩)) (fun h => h.elim) w).mono fun e w' h => ?_
  · rw [show (((szN k + 1 : Nat) : Int) - 1) = (szN k : Int) by omega]
    exact (proj_yes hk W).mono fun e w' h => Made.of_yes h
  · refine (Rd.of_made (by omega) (fun i hi => ?_) h).congr hrow
    rw [hrow i hi, hG.len _ (rowG_mem (by omega))]
    omega
theorem choose_aff {k : Nat} (h1 : 2 ≤ k) (hk : k < 5) (w : World) : Calls Try.prog 60 #[.int .i64 ((szN k * szN k : Nat) : Int), .int .i64 (szN k : Int)] w (Rd ((szN k * szN k : Nat) : Int) (szN k * szN k + szN k) (rowG (affGG k)) w) := by
  have hs : 4 ≤ szN k ∧ szN k ≤ 7 := (by decide : ∀ k : Fin 5, 2 ≤ k.val → 4 ≤ szN k ∧ szN k ≤ 7) ⟨k, hk⟩ h1
  have hb := aff_bal ⟨k, hk⟩
  simp only [Bool.and_eq_true] at hb
  have hG := balB_iff hb.1
  have hsq : szN k * szN k ≤ 49 := Nat.mul_le_mul hs.2 hs.2
  have hsq2 : 4 * szN k ≤ szN k * szN k := Nat.mul_le_mul_right _ hs.1
  have hlen : (affGG k).length = szN k * szN k + szN k := by simp [affGG]
  have hrow : ∀ i, i < szN k * szN k + szN k → affL k i = rowG (affGG k) i := fun i hi => by
    rw [rowG, List.getD_eq_getElem?_getD, affGG, List.getElem?_map, List.getElem?_range hi]
    rfl
  refine (choose_gen (szN k * szN k) (szN k) (by omega) (by omega) (by omega) (by omega) (szN k * szN k + szN k) (affL k) 0 True False (.inr (.inl ⟨by omega, trivial⟩)) (.inr (.inr ⟨rfl, rfl, fun W => ?_⟩)) (fun _ h => h.elim) w).mono fun e w' h => ?_
  · exact (aff_yes hk W).mono fun e w' h => Made.of_yes h
  · refine (Rd.of_made (by omega) (fun i hi => ?_) h).congr hrow
    rw [aff_len]
    omega
theorem fails_proj {q : Nat} (h : ∀ k, k < 5 → szN k ≠ q) (h60 : q * q + q + 1 ≤ 60) : Fails 42 (q : Int) := by
  have h7 : q ≤ 7 := Nat.le_of_lt_succ (Nat.lt_of_not_le fun h8 => by have := Nat.mul_le_mul h8 h8; omega)
  refine ⟨1, by decide, fun W => ?_⟩
  refine (proj_no1 (q : Int) (fun k hk e => ?_) W).mono fun e w' h => h
  have := (by decide : ∀ k : Fin 7, ∀ q : Fin 8, (∀ j : Fin 5, szN j ≠ q.val) → at0 sizes k ≠ (q.val : Int)) ⟨k, hk⟩ ⟨q, by omega⟩ (fun j => h j j.2)
  exact this e
theorem fails_aff {q : Nat} (h : ∀ k, k < 5 → szN k ≠ q) (h60 : q * q ≤ 60) : Fails 46 (q : Int) := by
  have h7 : q ≤ 7 := Nat.le_of_lt_succ (Nat.lt_of_not_le fun h8 => by have := Nat.mul_le_mul h8 h8; omega)
  refine ⟨1, by decide, fun W => ?_⟩
  refine (aff_no1 (q : Int) (fun k hk e => ?_) W).mono fun e w' h => h
  have := (by decide : ∀ k : Fin 7, ∀ q : Fin 8, (∀ j : Fin 5, szN j ≠ q.val) → at0 sizes k ≠ (q.val : Int)) ⟨k, hk⟩ ⟨q, by omega⟩ (fun j => h j j.2)
  exact this e
/-- No plane has these numbers. -/
def NoPlane (D W : Nat) : Prop := (∀ k, k < 5 → ¬ (D = szN k * szN k + szN k + 1 ∧ W = szN k + 1)) ∧ ∀ k, k < 5 → ¬ (D = szN k * szN k ∧ W = szN k)
theorem choose_any {D W : Nat} (h1 : 4 ≤ W) (h2 : W ≤ 16) (h3 : W ≤ D) (h4 : D ≤ 60) (hno : NoPlane D W) {n : Nat} {f : Nat → List Nat} {er : Int} (hc : ∀ w, Calls Try.prog 54 #[.int .i64 D, .int .i64 W] w (Made D n f er w)) (w : World) :
    Calls Try.prog 60 #[.int .i64 D, .int .i64 W] w (Made D n f er w) := by
  obtain ⟨q, rfl⟩ : ∃ q, W = q + 1 := ⟨W - 1, by omega⟩
  refine choose_gen D (q + 1) h1 h2 h3 h4 n f er True True ?_ ?_ (fun _ _ => hc) w
  · by_cases e : (q + 1) * (q + 1) - (q + 1) + 1 = D
    · refine .inl ⟨e, trivial, ?_⟩
      have e2 : q * q + q + 1 = D := by
        rw [Nat.add_mul, Nat.mul_add] at e
        omega
      rw [show (((q + 1 : Nat) : Int) - 1) = (q : Int) by omega]
      exact fails_proj (fun k hk e3 => hno.1 k hk ⟨by rw [e3]; omega, by omega⟩) (by omega)
    · exact .inr (.inl ⟨e, trivial⟩)
  · by_cases e : (q + 1) * (q + 1) = D
    · exact .inl ⟨e, trivial, fails_aff (fun k hk e3 => hno.2 k hk ⟨by rw [e3]; omega, by omega⟩) (by omega)⟩
    · exact .inr (.inl ⟨e, trivial⟩)
end Go.Proofs.Ytnmkkflnehnioaa
