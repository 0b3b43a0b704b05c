/-
  What the statements on designs call, in the form in which they read it. Conditions: as stated.
  The seventh layer's awake (53). No condition.
  small (63): the numbers of a small complete design. No condition.
  The reference's count (80) and Count (55). Condition: at most 60 disks.
-/
import Derived.Test.YtnmkkflnehnioaaDa
import Derived.Test.YtnmkkflnehnioaaDb
import Derived.Test.YtnmkkflnehnioaaWr
import Derived.Laws.BitsLemmas
/-! What the statements on designs call, in the form in which they read it. Conditions: as stated. -/
namespace Go.Proofs.Ytnmkkflnehnioaa
open Go.RowKit
set_option maxRecDepth 100000

theorem RRow.z {w : World} {v : Value} {l : List Nat} (h : RRow w v l) (hl : l.length < 4000000000) : ZRow w v (ints l) := by
  obtain ⟨r, c, rfl, -, h⟩ := h
  refine ⟨some ⟨r, 0, none⟩, c, by simp [ints], by simpa [ints] using hl, fun i x hx => ⟨r, 0, rfl, ?_⟩⟩
  rw [ints, List.getElem?_map] at hx
  cases e : l[i]? with
  | none => rw [e] at hx; cases hx
  | some n =>
    rw [e] at hx
    simp at hx
    subst hx
    rw [Nat.zero_add]
    exact h i n e
theorem RRows.z {w : World} {v : Value} {n : Nat} {f : Nat → List Nat} (h : RRows w v n f) (hn : n < 4000000000) (hl : ∀ i, i < n → (f i).length < 4000000000) : ZRows w v n fun i => ints (f i) := by
  obtain ⟨g, c, rfl, -, h⟩ := h
  refine ⟨some ⟨g, 0, none⟩, c, rfl, hn, fun i hi => ?_⟩
  obtain ⟨rv, h1, h2⟩ := h i hi
  exact ⟨g, 0, rv, rfl, by rw [Nat.zero_add]; exact h1, h2.z (hl i hi)⟩
theorem rowZ_eq (G : List (List Nat)) : (fun i => ints (rowG G i)) = rowZ G := rfl

/-- A design that can be read has been returned. -/
def Rd (D : Int) (n : Nat) (f : Nat → List Nat) (w : World) (e : Ending) (w' : World) : Prop :=
  ∃ g c, e = .returned (.tuple #[.agg #[.int .i64 D, .slice (some ⟨g, 0, none⟩) n c], .int .i64 0]) ∧ RRows w' (.slice (some ⟨g, 0, none⟩) n c) n f ∧ Below w.heap.size w w'
theorem Rd.of_rows {D : Int} {n : Nat} {f : Nat → List Nat} {w w' : World} {e : Ending} (hn : 0 < n) (hl : ∀ i, i < n → 0 < (f i).length) (h : ∃ v, e = .returned (.tuple #[.agg #[.int .i64 D, v], .int .i64 0]) ∧ RowsOf w' w.heap.size v n f ∧ Below w.heap.size w w') : Rd D n f w e w' := by
  obtain ⟨v, rfl, h1, h2⟩ := h
  have h3 := h1.read hn hl
  have h4 := h3
  obtain ⟨g, c, rfl, -, -⟩ := h4
  exact ⟨g, c, rfl, h3, h2⟩
theorem Rd.of_made {D : Int} {n : Nat} {f : Nat → List Nat} {w w' : World} {e : Ending} (hn : 0 < n) (hl : ∀ i, i < n → 0 < (f i).length) (h : Made D n f 0 w e w') : Rd D n f w e w' := by
  obtain ⟨d, v, rfl, -, h1, h2, -⟩ := h
  obtain ⟨rfl, h3⟩ := h2 rfl
  exact Rd.of_rows hn hl ⟨v, rfl, h3, h1⟩
theorem Rd.congr {D : Int} {n : Nat} {f g : Nat → List Nat} {w w' : World} {e : Ending} (h : Rd D n f w e w') (hfg : ∀ i, i < n → f i = g i) : Rd D n g w e w' := by
  obtain ⟨b, c, rfl, ⟨b', c', e, hc, h1⟩, h2⟩ := h
  exact ⟨b, c, rfl, ⟨b', c', e, hc, fun i hi => by obtain ⟨rv, k1, k2⟩ := h1 i hi; exact ⟨rv, k1, by rw [← hfg i hi]; exact k2⟩⟩, h2⟩
/-- Check of a balanced design. -/
theorem check_good {D k : Nat} {G : List (List Nat)} {r s n : Nat} (hG : GoodG D k G r s) (hn : G.length = n) (w : World) (v : Value) (hv : RRows w v n (rowG G)) :
    Calls Try.prog 58 #[.agg #[.int .i64 D, v]] w fun e w' => e = .returned (.tuple #[.int .i64 (r : Nat), .int .i64 (s : Nat), .int .i64 0]) ∧ Below w.heap.size w w' := by
  subst hn
  have hlen : ∀ i, i < G.length → (rowG G i).length < 4000000000 := fun i hi => by
    have h1 := hG.rise _ (rowG_mem hi)
    have h2 := rise_nodup h1
    have h3 : (rowG G i).length ≤ D := by
      have := len_sub (m := List.range D) (h2.imp fun h => Nat.ne_of_lt h) (fun x hx => by
        obtain ⟨j, hj⟩ := List.mem_iff_getElem?.1 hx
        exact List.mem_range.2 (rise_at h1 j x hj).1)
      simpa using this
    have := hG.D60
    omega
  obtain ⟨h1, h2, h3⟩ := hG.good (L := rowZ G) (fun i _ => rfl)
  refine (check_any (D : Int) G.length (rowZ G) w v (hv.z (by have := hG.n2; omega) hlen)).mono ?_
  rintro e w' ⟨hB, h | h⟩
  · exact ⟨by rw [h.2, h2, h3], hB⟩
  · exact absurd h1 h.1
theorem compG_len {v k : Nat} (_ : k ≤ v) : (compG v k).length = bin v k := by
  rw [compG, exts_len v k [] (Nat.zero_le _)]
  rfl
theorem compG_row {v k i : Nat} (hi : i < (compG v k).length) : (rowG (compG v k) i).length = k := by
  have := exts_item v k [] _ (rowG_mem hi)
  simp only [List.length_nil, Nat.zero_add] at this
  exact this
/-- Complete, read. -/
theorem comp_rd {v k : Nat} (h2 : 2 ≤ v) (h60 : v ≤ 60) (hk2 : 2 ≤ k) (hkv : k ≤ v) (hc : cntGo v 1 0 (min k (v - k)) ≤ 4096) (w : World) : Calls Try.prog 54 #[.int .i64 v, .int .i64 k] w (Rd v (bin v k) (rowG (compG v k)) w) := by
  have hl := exts_count hkv (by omega : cntGo v 1 0 (min k (v - k)) ≤ 1099511627776)
  have hb := count_bin hkv (by omega : cntGo v 1 0 (min k (v - k)) ≤ 1099511627776)
  have hp := bin_pos v k hkv
  refine (complete_yes v k h2 h60 hk2 hkv hc (by omega) w).mono fun e w' h => Rd.of_rows hp (fun i hi => ?_) ?_
  · rw [compG_row (by rw [compG_len hkv]; exact hi)]
    omega
  · rw [show bin v k = (exts v k []).length by omega]
    exact h
theorem bin_pow : ∀ n k : Nat, bin n k ≤ 2 ^ n
  | n, 0 => by rw [bin_zero]; exact Nat.one_le_two_pow
  | 0, k + 1 => Nat.zero_le _
  | n + 1, k + 1 => by
    have h1 := bin_pow n k
    have h2 := bin_pow n (k + 1)
    rw [bin_succ, Nat.pow_succ]
    omega
theorem cntGo_small {disks : Nat} (hd : disks ≤ 40) : ∀ (f i : Nat), i + f ≤ disks → cntGo disks (bin disks i) i f = bin disks (i + f)
  | 0, i, _ => rfl
  | f + 1, i, h => by
    have h1 := bin_pow disks (i + 1)
    have h2 : 2 ^ disks ≤ 2 ^ 40 := Nat.pow_le_pow_right (by decide) hd
    rw [cntGo, bin_step disks i (by omega), if_neg (by omega), cntGo_small hd f (i + 1) (by omega), show i + 1 + f = i + (f + 1) by omega]
theorem cnt_small {v k : Nat} (hkv : k ≤ v) (h40 : v ≤ 40) : cntGo v 1 0 (min k (v - k)) = bin v k := by
  have e := cntGo_small h40 (min k (v - k)) 0 (by omega)
  rw [bin_zero, Nat.zero_add] at e
  rw [e]
  rcases Nat.le_total k (v - k) with h1 | h1
  · rw [Nat.min_eq_left h1]
  · rw [Nat.min_eq_right h1]
    exact (bin_symm v k hkv).symm
theorem choose_proj {k : Nat} (h1 : 1 ≤ k) (hk : k < 5) (w : World) : Calls Try.prog 60 #[.int .i64 ((allL k).length : Nat), .int .i64 ((szN k + 1 : Nat) : Int)] w (Rd ((allL k).length : Nat) (allL k).length (rowG (projG k)) w) := by
  have hs : 3 ≤ szN k ∧ szN k ≤ 7 := (by decide : ∀ k : Fin 5, 1 ≤ k.val → 3 ≤ szN k ∧ szN k ≤ 7) ⟨k, hk⟩ h1
  have hb := proj_bal ⟨k, hk⟩
  simp only [Bool.and_eq_true, beq_iff_eq] at hb
  obtain ⟨⟨hb1, -⟩, hb3⟩ := hb
  have hG := balB_iff hb1
  have hsq : szN k * szN k ≤ 49 := Nat.mul_le_mul hs.2 hs.2
  have hsq2 : 3 * szN k ≤ szN k * szN k := Nat.mul_le_mul_right _ hs.1
  have e1 : (szN k + 1) * (szN k + 1) - (szN k + 1) + 1 = (allL k).length := by
    rw [hb3, Nat.add_mul, Nat.mul_add]
    omega
  have e2 : (szN k + 1) * (szN k + 1) ≠ (allL k).length := by
    rw [hb3, Nat.add_mul, Nat.mul_add]
    omega
  have hlen : (projG k).length = (allL k).length := by simp [projG]
  have hrow : ∀ i, i < (allL k).length → lineL k i = rowG (projG k) i := fun i hi => by
    rw [rowG, List.getD_eq_getElem?_getD, projG, List.getElem?_map, List.getElem?_range hi]
    rfl
  refine (choose_gen (allL k).length (szN k + 1) (by omega) (by omega) (by omega) (by omega) (allL k).length (lineL k) 0 False True (.inr (.inr ⟨e1, rfl, fun W => ?_⟩)) (.inr (.inl ⟨e2, trivial⟩)) (fun h => h.elim) w).mono fun e w' h => ?_
  · rw [show (((szN k + 1 : Nat) : Int) - 1) = (szN k : Int) by omega]
    exact (proj_yes hk W).mono fun e w' h => Made.of_yes h
  · refine (Rd.of_made (by omega) (fun i hi => ?_) h).congr hrow
    rw [hrow i hi, hG.len _ (rowG_mem (by omega))]
    omega
theorem choose_aff {k : Nat} (h1 : 2 ≤ k) (hk : k < 5) (w : World) : Calls Try.prog 60 #[.int .i64 ((szN k * szN k : Nat) : Int), .int .i64 (szN k : Int)] w (Rd ((szN k * szN k : Nat) : Int) (szN k * szN k + szN k) (rowG (affGG k)) w) := by
  have hs : 4 ≤ szN k ∧ szN k ≤ 7 := (by decide : ∀ k : Fin 5, 2 ≤ k.val → 4 ≤ szN k ∧ szN k ≤ 7) ⟨k, hk⟩ h1
  have hb := aff_bal ⟨k, hk⟩
  simp only [Bool.and_eq_true] at hb
  have hG := balB_iff hb.1
  have hsq : szN k * szN k ≤ 49 := Nat.mul_le_mul hs.2 hs.2
  have hsq2 : 4 * szN k ≤ szN k * szN k := Nat.mul_le_mul_right _ hs.1
  have hlen : (affGG k).length = szN k * szN k + szN k := by simp [affGG]
  have hrow : ∀ i, i < szN k * szN k + szN k → affL k i = rowG (affGG k) i := fun i hi => by
    rw [rowG, List.getD_eq_getElem?_getD, affGG, List.getElem?_map, List.getElem?_range hi]
    rfl
  refine (choose_gen (szN k * szN k) (szN k) (by omega) (by omega) (by omega) (by omega) (szN k * szN k + szN k) (affL k) 0 True False (.inr (.inl ⟨by omega, trivial⟩)) (.inr (.inr ⟨rfl, rfl, fun W => ?_⟩)) (fun _ h => h.elim) w).mono fun e w' h => ?_
  · exact (aff_yes hk W).mono fun e w' h => Made.of_yes h
  · refine (Rd.of_made (by omega) (fun i hi => ?_) h).congr hrow
    rw [aff_len]
    omega
theorem fails_proj {q : Nat} (h : ∀ k, k < 5 → szN k ≠ q) (h60 : q * q + q + 1 ≤ 60) : Fails 42 (q : Int) := by
  have h7 : q ≤ 7 := Nat.le_of_lt_succ (Nat.lt_of_not_le fun h8 => by have := Nat.mul_le_mul h8 h8; omega)
  refine ⟨1, by decide, fun W => ?_⟩
  refine (proj_no1 (q : Int) (fun k hk e => ?_) W).mono fun e w' h => h
  have := (by decide : ∀ k : Fin 7, ∀ q : Fin 8, (∀ j : Fin 5, szN j ≠ q.val) → at0 sizes k ≠ (q.val : Int)) ⟨k, hk⟩ ⟨q, by omega⟩ (fun j => h j j.2)
  exact this e
theorem fails_aff {q : Nat} (h : ∀ k, k < 5 → szN k ≠ q) (h60 : q * q ≤ 60) : Fails 46 (q : Int) := by
  have h7 : q ≤ 7 := Nat.le_of_lt_succ (Nat.lt_of_not_le fun h8 => by have := Nat.mul_le_mul h8 h8; omega)
  refine ⟨1, by decide, fun W => ?_⟩
  refine (aff_no1 (q : Int) (fun k hk e => ?_) W).mono fun e w' h => h
  have := (by decide : ∀ k : Fin 7, ∀ q : Fin 8, (∀ j : Fin 5, szN j ≠ q.val) → at0 sizes k ≠ (q.val : Int)) ⟨k, hk⟩ ⟨q, by omega⟩ (fun j => h j j.2)
  exact this e
/-- No plane has these numbers. -/
def NoPlane (D W : Nat) : Prop := (∀ k, k < 5 → ¬ (D = szN k * szN k + szN k + 1 ∧ W = szN k + 1)) ∧ ∀ k, k < 5 → ¬ (D = szN k * szN k ∧ W = szN k)
theorem choose_any {D W : Nat} (h1 : 4 ≤ W) (h2 : W ≤ 16) (h3 : W ≤ D) (h4 : D ≤ 60) (hno : NoPlane D W) {n : Nat} {f : Nat → List Nat} {er : Int} (hc : ∀ w, Calls Try.prog 54 #[.int .i64 D, .int .i64 W] w (Made D n f er w)) (w : World) :
    Calls Try.prog 60 #[.int .i64 D, .int .i64 W] w (Made D n f er w) := by
  obtain ⟨q, rfl⟩ : ∃ q, W = q + 1 := ⟨W - 1, by omega⟩
  refine choose_gen D (q + 1) h1 h2 h3 h4 n f er True True ?_ ?_ (fun _ _ => hc) w
  · by_cases e : (q + 1) * (q + 1) - (q + 1) + 1 = D
    · refine .inl ⟨e, trivial, ?_⟩
      have e2 : q * q + q + 1 = D := by
        rw [Nat.add_mul, Nat.mul_add] at e
        omega
      rw [show (((q + 1 : Nat) : Int) - 1) = (q : Int) by omega]
      exact fails_proj (fun k hk e3 => hno.1 k hk ⟨by rw [e3]; omega, by omega⟩) (by omega)
    · exact .inr (.inl ⟨e, trivial⟩)
  · by_cases e : (q + 1) * (q + 1) = D
    · exact .inl ⟨e, trivial, fails_aff (fun k hk e3 => hno.2 k hk ⟨by rw [e3]; omega, by omega⟩) (by omega)⟩
    · exact .inr (.inl ⟨e, trivial⟩)
end Go.Proofs.Ytnmkkflnehnioaa

/-! The seventh layer's awake (53). No condition. -/
namespace Go.Proofs.Ytnmkkflnehnioaa
open Go.RowKit
set_option maxRecDepth 100000

theorem comp42 : compG 4 2 = [[0, 1], [0, 2], [0, 3], [1, 2], [1, 3], [2, 3]] := by decide +kernel
theorem lit6c {w : World} {b b0 b1 b2 b3 b4 b5 : Nat} (c0 : w.cell? ⟨b, 0, none⟩ = some (.slice (some ⟨b0, 0, none⟩) 2 2)) (c1 : w.cell? ⟨b, 1, none⟩ = some (.slice (some ⟨b1, 0, none⟩) 2 2)) (c2 : w.cell? ⟨b, 2, none⟩ = some (.slice (some ⟨b2, 0, none⟩) 2 2))
    (c3 : w.cell? ⟨b, 3, none⟩ = some (.slice (some ⟨b3, 0, none⟩) 2 2)) (c4 : w.cell? ⟨b, 4, none⟩ = some (.slice (some ⟨b4, 0, none⟩) 2 2)) (c5 : w.cell? ⟨b, 5, none⟩ = some (.slice (some ⟨b5, 0, none⟩) 2 2))
    (h0 : RRow w (.slice (some ⟨b0, 0, none⟩) 2 2) [0, 1]) (h1 : RRow w (.slice (some ⟨b1, 0, none⟩) 2 2) [0, 2]) (h2 : RRow w (.slice (some ⟨b2, 0, none⟩) 2 2) [0, 3]) (h3 : RRow w (.slice (some ⟨b3, 0, none⟩) 2 2) [1, 2]) (h4 : RRow w (.slice (some ⟨b4, 0, none⟩) 2 2) [1, 3]) (h5 : RRow w (.slice (some ⟨b5, 0, none⟩) 2 2) [2, 3]) :
    RRows w (.slice (some ⟨b, 0, none⟩) 6 6) 6 (rowG (compG 4 2)) := by
  rw [comp42]
  refine ⟨b, 6, rfl, Nat.le_refl _, fun i hi => ?_⟩
  obtain rfl | rfl | rfl | rfl | rfl | rfl : i = 0 ∨ i = 1 ∨ i = 2 ∨ i = 3 ∨ i = 4 ∨ i = 5 := by omega
  · exact ⟨_, c0, h0⟩
  · exact ⟨_, c1, h1⟩
  · exact ⟨_, c2, h2⟩
  · exact ⟨_, c3, h3⟩
  · exact ⟨_, c4, h4⟩
  · exact ⟨_, c5, h5⟩
theorem good42 : GoodG 4 2 (compG 4 2) 3 1 := balB_iff (by decide +kernel)
theorem proj13 : (allL 1).length = 13 := by decide +kernel
theorem good13 : GoodG 13 4 (projG 1) 4 1 := by
  have hb := proj_bal 1
  simp only [Bool.and_eq_true] at hb
  have := balB_iff hb.1.1
  rw [show ((1 : Fin 5) : Nat) = 1 from rfl, proj13] at this
  exact this
theorem both_list (G : List (List Nat)) (a b : Nat) : ∀ n, n ≤ G.length → both (rowZ G) (a : Int) (b : Int) n = ((G.take n).filter fun g => g.contains a && g.contains b).length
  | 0, _ => by simp [both]
  | n + 1, h => by
    have e : G.take (n + 1) = G.take n ++ [rowG G n] := by
      rw [List.take_succ_eq_append_getElem (by omega), rowG, List.getD_eq_getElem?_getD, List.getElem?_eq_getElem (by omega)]
      rfl
    have hc : ∀ x : Nat, (rowZ G n).contains (x : Int) = (rowG G n).contains x := fun x => by
      rw [Bool.eq_iff_iff, List.contains_iff_mem, List.contains_iff_mem, ← List.count_pos_iff, ← List.count_pos_iff, rowZ, count_ints]
    rw [both, both_list G a b n (by omega), e, List.filter_append, List.length_append, hc, hc]
    cases h2 : (rowG G n).contains a && (rowG G n).contains b <;> simp only [List.filter_cons, List.filter_nil, h2] <;> rfl
theorem shared01 : sharedN 13 (rowZ (projG 1)) 13 0 1 = 1 := by
  have e : sharedN 13 (rowZ (projG 1)) 13 0 1 = both (rowZ (projG 1)) ((0 : Nat) : Int) ((1 : Nat) : Int) 13 := if_neg (by omega)
  rw [e, both_list _ _ _ _ (by rw [projG, List.length_map, List.length_range, proj13]; omega)]
  decide +kernel

set_option maxHeartbeats 3200000 in
theorem awake7 (w : World) : Calls Try.prog 53 #[] w fun e w' => e = .returned (.bool true) ∧ Below w.heap.size w w' := by
  have HC : Hid (∀ W, Calls Try.prog 54 #[.int .i64 4, .int .i64 2] W (Rd 4 6 (rowG (compG 4 2)) W)) := Lib.hid fun W => comp_rd (v := 4) (k := 2) (by omega) (by omega) (by omega) (by omega) (by decide) W
  have HK : Hid (∀ W v, RRows W v 6 (rowG (compG 4 2)) → Calls Try.prog 58 #[.agg #[.int .i64 4, v]] W fun e w' => e = .returned (.tuple #[.int .i64 3, .int .i64 1, .int .i64 0]) ∧ Below W.heap.size W w') := Lib.hid fun W v hv => check_good good42 (by rw [comp42]; rfl) W v hv
  have HP : Hid (∀ W, Calls Try.prog 60 #[.int .i64 13, .int .i64 4] W (Rd 13 13 (rowG (projG 1)) W)) := Lib.hid fun W => by
    have := choose_proj (k := 1) (by omega) (by omega) W
    rw [proj13] at this
    exact this
  have HK2 : Hid (∀ W v, RRows W v 13 (rowG (projG 1)) → Calls Try.prog 58 #[.agg #[.int .i64 13, v]] W fun e w' => e = .returned (.tuple #[.int .i64 4, .int .i64 1, .int .i64 0]) ∧ Below W.heap.size W w') := Lib.hid fun W v hv => check_good good13 (by rw [projG, List.length_map, List.length_range, proj13]) W v hv
  have HN : Hid (∀ W, Calls Try.prog 60 #[.int .i64 40, .int .i64 8] W (Made 40 0 (fun _ => []) 7 W)) := Lib.hid fun W => by
    refine choose_any (D := 40) (W := 8) (by omega) (by omega) (by omega) (by omega) ⟨?_, ?_⟩ (fun w => ?_) W
    · exact fun k hk => (by decide : ∀ k : Fin 5, ¬ (40 = szN k * szN k + szN k + 1 ∧ 8 = szN k + 1)) ⟨k, hk⟩
    · exact fun k hk => (by decide : ∀ k : Fin 5, ¬ (40 = szN k * szN k ∧ 8 = szN k)) ⟨k, hk⟩
    · exact (complete_no2 40 8 (by omega) (by omega) (by omega) (by omega) (by decide +kernel) w).mono fun e w' h => Made.of_err (by decide) h
  go_enter Try.func53, Try.ntmps53
  go_wp2_with fail
  refine (HC.out _).mono ?_
  rintro e w1 ⟨g, c, rfl, hr, B1⟩
  obtain ⟨wa, hwa⟩ : ∃ wa, w1.alloc (.cells #[.int .i64 4, .slice (some ⟨g, 0, none⟩) 6 c] 48) = wa := ⟨_, rfl⟩
  have ha : Below w1.heap.size w1 wa := hwa ▸ (Below.refl _ w1).alloc (Nat.le_refl _) _
  have a0 : wa.cell? ⟨w1.heap.size, 0, none⟩ = some (.int .i64 4) := by rw [← hwa]; simp [go_sem]
  have a1 : wa.cell? ⟨w1.heap.size, 1, none⟩ = some (.slice (some ⟨g, 0, none⟩) 6 c) := by rw [← hwa]; simp [go_sem]
  have HWA := Lib.hid hwa
  have HQ := Lib.hid (hr.below ha)
  have HB := Lib.hid (B1.trans (ha.mono B1.size))
  have l1 : w1.heap.size < wa.heap.size := World.block_lt_of_cell? _ _ a0
  clear hr B1 ha hwa
  go_wp2_with fail
  rw [HWA.out]
  refine (HK.out _ _ HQ.out).mono ?_
  rintro e w2 ⟨rfl, B2⟩
  have a0 := (B2.cell (p := ⟨w1.heap.size, 0, none⟩) l1).trans a0
  have a1 := (B2.cell (p := ⟨w1.heap.size, 1, none⟩) l1).trans a1
  have l1 : w1.heap.size < w2.heap.size := World.block_lt_of_cell? _ _ a0
  have HQ2 := Lib.hid (HQ.out.below B2)
  have HB2 := Lib.hid (HB.out.trans (B2.mono HB.out.size))
  clear B2 HWA HQ HB
  go_wp2_with fail
  refine (HP.out _).mono ?_
  rintro e w3 ⟨g3, c3, rfl, hr3, B3⟩
  obtain ⟨wb, hwb⟩ : ∃ wb, w3.alloc (.cells #[.int .i64 13, .slice (some ⟨g3, 0, none⟩) 13 c3] 48) = wb := ⟨_, rfl⟩
  have hb : Below w3.heap.size w3 wb := hwb ▸ (Below.refl _ w3).alloc (Nat.le_refl _) _
  have b0 : wb.cell? ⟨w3.heap.size, 0, none⟩ = some (.int .i64 13) := by rw [← hwb]; simp [go_sem]
  have b1 : wb.cell? ⟨w3.heap.size, 1, none⟩ = some (.slice (some ⟨g3, 0, none⟩) 13 c3) := by rw [← hwb]; simp [go_sem]
  have hB3 := B3.trans (hb.mono B3.size)
  have a0 := (hB3.cell (p := ⟨w1.heap.size, 0, none⟩) l1).trans a0
  have a1 := (hB3.cell (p := ⟨w1.heap.size, 1, none⟩) l1).trans a1
  have HWB := Lib.hid hwb
  have HQ3 := Lib.hid (hr3.below hb)
  have HQ23 := Lib.hid (HQ2.out.below hB3)
  have HB3 := Lib.hid (HB2.out.trans (hB3.mono HB2.out.size))
  have l1 : w1.heap.size < wb.heap.size := World.block_lt_of_cell? _ _ a0
  have l3 : w3.heap.size < wb.heap.size := World.block_lt_of_cell? _ _ b0
  clear hr3 B3 hb hwb hB3 HQ2 HB2
  go_wp2_with fail
  rw [HWB.out]
  refine (HK2.out _ _ HQ3.out).mono ?_
  rintro e w4 ⟨rfl, B4⟩
  have a0 := (B4.cell (p := ⟨w1.heap.size, 0, none⟩) l1).trans a0
  have a1 := (B4.cell (p := ⟨w1.heap.size, 1, none⟩) l1).trans a1
  have b0 := (B4.cell (p := ⟨w3.heap.size, 0, none⟩) l3).trans b0
  have b1 := (B4.cell (p := ⟨w3.heap.size, 1, none⟩) l3).trans b1
  have l1 : w1.heap.size < w4.heap.size := World.block_lt_of_cell? _ _ a0
  have l3 : w3.heap.size < w4.heap.size := World.block_lt_of_cell? _ _ b0
  have HQ34 := Lib.hid (HQ3.out.below B4)
  have HQ24 := Lib.hid (HQ23.out.below B4)
  have HB4 := Lib.hid (HB3.out.trans (B4.mono HB3.out.size))
  clear B4 HWB HQ3 HQ23 HB3
  go_wp2_with fail
  refine (HN.out _).mono ?_
  rintro e w5 ⟨d5, v5, rfl, -, B5, -, hno5⟩
  obtain ⟨rfl, rfl⟩ := hno5 (by decide)
  have a0 := (B5.cell (p := ⟨w1.heap.size, 0, none⟩) l1).trans a0
  have a1 := (B5.cell (p := ⟨w1.heap.size, 1, none⟩) l1).trans a1
  have b0 := (B5.cell (p := ⟨w3.heap.size, 0, none⟩) l3).trans b0
  have b1 := (B5.cell (p := ⟨w3.heap.size, 1, none⟩) l3).trans b1
  have l1 : w1.heap.size < w5.heap.size := World.block_lt_of_cell? _ _ a0
  have l3 : w3.heap.size < w5.heap.size := World.block_lt_of_cell? _ _ b0
  have HQ35 := Lib.hid (HQ34.out.below B5)
  have HQ25 := Lib.hid (HQ24.out.below B5)
  have HB5 := Lib.hid (HB4.out.trans (B5.mono HB4.out.size))
  have n1 : ¬ w1.heap.size = w5.heap.size := by omega
  have n3 : ¬ w3.heap.size = w5.heap.size := by omega
  clear B5 HQ34 HQ24 HB4 hno5
  go_wp2_with fail
  obtain ⟨w6, hw6⟩ : ∃ w6, (((((((w5.alloc (.cells #[.int .i64 0, .slice none 0 0] 48)).alloc (.cells #[.int .i64 0, .int .i64 1] 3)).alloc (.cells #[.int .i64 0, .int .i64 2] 3)).alloc (.cells #[.int .i64 0, .int .i64 3] 3)).alloc (.cells #[.int .i64 1, .int .i64 2] 3)).alloc (.cells #[.int .i64 1, .int .i64 3] 3)).alloc (.cells #[.int .i64 2, .int .i64 3] 3)).alloc (.cells #[.slice (some ⟨w5.heap.size + 1, 0, none⟩) 2 2, .slice (some ⟨w5.heap.size + 1 + 1, 0, none⟩) 2 2, .slice (some ⟨w5.heap.size + 1 + 1 + 1, 0, none⟩) 2 2, .slice (some ⟨w5.heap.size + 1 + 1 + 1 + 1, 0, none⟩) 2 2, .slice (some ⟨w5.heap.size + 1 + 1 + 1 + 1 + 1, 0, none⟩) 2 2, .slice (some ⟨w5.heap.size + 1 + 1 + 1 + 1 + 1 + 1, 0, none⟩) 2 2] 38) = w6 := ⟨_, rfl⟩
  have h6 : Below w5.heap.size w5 w6 := by rw [← hw6]; exact (((((((((Below.refl _ w5).alloc (Nat.le_refl _) _).alloc (by simp <;> omega) _).alloc (by simp <;> omega) _).alloc (by simp <;> omega) _).alloc (by simp <;> omega) _).alloc (by simp <;> omega) _).alloc (by simp <;> omega) _).alloc (by simp <;> omega) _)
  have hr6 : RRows w6 (.slice (some ⟨w5.heap.size + 1 + 1 + 1 + 1 + 1 + 1 + 1, 0, none⟩) 6 6) 6 (rowG (compG 4 2)) := by
    rw [← hw6]
    refine lit6c (b0 := w5.heap.size + 1) (b1 := w5.heap.size + 1 + 1) (b2 := w5.heap.size + 1 + 1 + 1) (b3 := w5.heap.size + 1 + 1 + 1 + 1) (b4 := w5.heap.size + 1 + 1 + 1 + 1 + 1) (b5 := w5.heap.size + 1 + 1 + 1 + 1 + 1 + 1) ?_ ?_ ?_ ?_ ?_ ?_ (row2 ?_ ?_) (row2 ?_ ?_) (row2 ?_ ?_) (row2 ?_ ?_) (row2 ?_ ?_) (row2 ?_ ?_)
    all_goals (simp [go_sem])
  rw [hw6]
  clear hw6
  refine (same_true 4 6 (rowG (compG 4 2)) (by omega) (fun i hi => by rw [compG_row (by rw [comp42]; exact hi)]; omega) w6 _ _ (HQ25.out.below h6) hr6).mono ?_
  rintro e w7 ⟨rfl, B7⟩
  have hB7 := h6.trans (B7.mono h6.size)
  have b0 := (hB7.cell (p := ⟨w3.heap.size, 0, none⟩) l3).trans b0
  have b1 := (hB7.cell (p := ⟨w3.heap.size, 1, none⟩) l3).trans b1
  have HQ37 := Lib.hid (HQ35.out.below hB7)
  have HB7 := Lib.hid (HB5.out.trans (hB7.mono HB5.out.size))
  clear h6 hr6 B7 hB7 a0 a1 l1 n1
  go_wp2_with fail
  have hz : ∀ i, i < 13 → (rowG (projG 1) i).length < 4000000000 := fun i hi => by rw [good13.len _ (rowG_mem (by rw [projG, List.length_map, List.length_range, proj13]; exact hi))]; omega
  refine (shared_z 13 13 (rowZ (projG 1)) 0 1 _ _ (HQ37.out.z (by omega) hz)).mono ?_
  rintro e w8 ⟨rfl, B8⟩
  have h01 := shared01
  have HB8 := Lib.hid (HB7.out.trans (B8.mono HB7.out.size))
  clear hz B8
  go_wp2_with fail
  go_ret
  exact ⟨rfl, HB8.out⟩
end Go.Proofs.Ytnmkkflnehnioaa

/-! small (63): the numbers of a small complete design. No condition. -/
namespace Go.Proofs.Ytnmkkflnehnioaa
open Go.RowKit
set_option maxRecDepth 100000

def SmallK (w : World) (e : Ending) (w' : World) : Prop := ∃ v k : Nat, 2 ≤ v ∧ v ≤ 8 ∧ 2 ≤ k ∧ k ≤ v ∧ e = .returned (.tuple #[.int .i64 (v : Nat), .int .i64 (k : Nat)]) ∧ Below w.heap.size w w'

theorem u16_wrap (m : Int) (h0 : 0 ≤ m) (h1 : m < 2 ^ 16) : IntKind.u16.wrap m = m := by
  have : IntKind.u16.wrap m = m % 65536 := by simp [IntKind.wrap, IntKind.bits, IntKind.signed]
  rw [this]
  omega
theorem and_255 (n : Nat) (hn : n ≤ 65535) : ∃ m : Nat, m ≤ 65535 ∧ bits .and .u16 (n : Int) 255 = (m : Int) := by
  have h := (bits_nat .u16 16 (by decide) u16_wrap n 255 (by omega) (by omega)).1
  exact ⟨n &&& 255, Nat.le_trans Nat.and_le_left hn, h⟩

set_option maxHeartbeats 3200000 in
theorem small_any (n : Nat) (hn : n ≤ 65535) (w : World) : Calls Try.prog 63 #[.int .u16 n] w (SmallK w) := by
  go_enter Try.func63, Try.ntmps63
  go_wp2_with fail
  obtain ⟨v0, hv⟩ : ∃ v0 : Nat, 2 + (n : Int) / 256 % 7 = (v0 : Int) := ⟨2 + n / 256 % 7, by omega⟩
  have h2 : 2 ≤ v0 := by omega
  have h8 : v0 ≤ 8 := by omega
  rw [hv]
  have h1 : (v0 : Int) - 1 = ((v0 - 1 : Nat) : Int) := by omega
  have h0 : ¬ ((v0 - 1 : Nat) : Int) = 0 := by omega
  clear hv
  go_region
  go_wp2_with fail
  obtain ⟨m, hm, em⟩ := and_255 n hn
  rw [em]
  have e1 : wrap64 (m : Int) = m := by unfold wrap64; omega
  rw [e1]
  have e2 : Int.tmod (m : Int) ((v0 - 1 : Nat) : Int) = ((m % (v0 - 1) : Nat) : Int) := rfl
  rw [e2]
  have hlt : m % (v0 - 1) < v0 - 1 := Nat.mod_lt _ (by omega)
  have e3 : wrap64 (2 + ((m % (v0 - 1) : Nat) : Int)) = ((2 + m % (v0 - 1) : Nat) : Int) := by unfold wrap64; omega
  rw [e3]
  clear e1 e2 e3 em h0 h1
  go_ret2
  exact ⟨v0, 2 + m % (v0 - 1), h2, h8, by omega, by omega, rfl, (Below.refl _ w).drew⟩
end Go.Proofs.Ytnmkkflnehnioaa

/-! The reference's count (80) and Count (55). Condition: at most 60 disks. -/
namespace Go.Proofs.Ytnmkkflnehnioaa
open Go.RowKit
set_option maxRecDepth 100000

set_option maxHeartbeats 1600000 in
theorem rcount_any (disks k : Nat) (hd : disks ≤ 60) (hk : k ≤ disks) (w : World) : Calls Try.prog 80 #[.int .i64 disks, .int .i64 k] w fun e w' => e = .returned (.int .i64 (cntGo disks 1 0 k)) ∧ w = w' := by
  obtain ⟨tot, et⟩ : ∃ tot, cntGo disks 1 0 k = tot := ⟨_, rfl⟩
  have HT := Lib.hid et
  rw [et]
  clear et
  go_enter Try.func80, Try.ntmps80
  go_wp2_with fail
  go_loopw [5, 6] (fun nv iv wr => ∃ n i : Nat, i ≤ k ∧ iv = .int .i64 i ∧ nv = .int .i64 n ∧ n ≤ 1099511627776 ∧ cntGo disks n i (k - i) = tot ∧ wr = w) (fun _ x _ => k - (intOf x).toNat)
  case atStart => exact ⟨1, 0, by omega, rfl, rfl, by omega, HT.out, rfl⟩
  case round =>
    obtain ⟨n, i, hi, rfl, rfl, hn, hgo, rfl⟩ := hrel
    by_cases hil : i < k
    · obtain ⟨f, ef⟩ : ∃ f, k - i = f + 1 := ⟨k - i - 1, by omega⟩
      rw [ef, cntGo] at hgo
      obtain ⟨m, em⟩ : ∃ m, disks - i = m := ⟨_, rfl⟩
      have hdi : (disks : Int) - (i : Int) = (m : Int) := by omega
      rw [em] at hgo
      obtain ⟨P, eP⟩ : ∃ P, n * m = P := ⟨_, rfl⟩
      have hmul : (n : Int) * (m : Int) = (P : Int) := by rw [← eP]; push_cast; rfl
      have hP : P ≤ 1099511627776 * 60 := by rw [← eP]; exact Nat.mul_le_mul hn (by omega)
      rw [eP] at hgo
      obtain ⟨q, eq⟩ : ∃ q, P / (i + 1) = q := ⟨_, rfl⟩
      have hq : Int.tdiv (P : Int) ((i : Int) + 1) = (q : Int) := by rw [← eq]; rfl
      have hqP : q ≤ P := by rw [← eq]; exact Nat.div_le_self _ _
      have hi0 : ¬ (i : Int) + 1 = 0 := by omega
      rw [eq] at hgo
      have HG := Lib.hid hgo
      have HF := Lib.hid ef
      clear hgo ef em eP eq
      by_cases hb : 1099511627776 < q
      · have hbi : decide ((1099511627776 : Int) < (q : Int)) = true := decide_eq_true (by omega)
        have e := HG.out
        rw [if_pos hb] at e
        have HE := Lib.hid e
        clear hb e
        go_wp2_with fail
        go_ret
        exact ⟨by rw [← HE.out]; rfl, rfl⟩
      · have hbi : decide ((1099511627776 : Int) < (q : Int)) = false := decide_eq_false (by omega)
        have e := HG.out
        rw [if_neg hb] at e
        have HE := Lib.hid e
        clear e
        go_wp2_with fail
        go_roundw
        case rel => exact ⟨q, i + 1, by omega, by go_num, rfl, by omega, by have := HE.out; rw [show k - (i + 1) = f from by have := HF.out; omega]; exact this, by trivial⟩
        case measure => simp [intOf]; omega
    · obtain rfl : i = k := by omega
      have HG := Lib.hid hgo
      clear hgo
      go_wp2_with fail
      go_ret
      have e := HG.out
      rw [Nat.sub_self] at e
      exact ⟨by rw [← e]; rfl, rfl⟩

set_option maxHeartbeats 1600000 in
theorem rCount_any (disks width : Nat) (hd : disks ≤ 60) (hk : width ≤ disks) (w : World) : Calls Try.prog 55 #[.int .i64 disks, .int .i64 width] w fun e w' => e = .returned (.int .i64 (cntGo disks 1 0 (min width (disks - width)) : Nat)) ∧ w = w' := by
  have hsub : (disks : Int) - (width : Int) = ((disks - width : Nat) : Int) := by omega
  by_cases hm : disks - width < width
  · have HC := Lib.hid fun W => rcount_any disks (disks - width) hd (by omega) W
    have e : min width (disks - width) = disks - width := by omega
    rw [e]
    clear e
    go_enter Try.func55, Try.ntmps55
    go_wp2_with fail
    refine (HC.out _).mono ?_
    rintro e w' ⟨rfl, rfl⟩
    go_wp2_with fail
    go_ret
    exact ⟨rfl, rfl⟩
  · have HC := Lib.hid fun W => rcount_any disks width hd (by omega) W
    have e : min width (disks - width) = width := by omega
    rw [e]
    clear e
    go_enter Try.func55, Try.ntmps55
    go_wp2_with fail
    refine (HC.out _).mono ?_
    rintro e w' ⟨rfl, rfl⟩
    go_wp2_with fail
    go_ret
    exact ⟨rfl, rfl⟩
end Go.Proofs.Ytnmkkflnehnioaa
