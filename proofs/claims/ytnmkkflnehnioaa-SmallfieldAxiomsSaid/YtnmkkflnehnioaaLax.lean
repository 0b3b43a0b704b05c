/-
  THE LAW SmallfieldAxioms returns true: its walk. No condition.
-/
import Derived.Test.YtnmkkflnehnioaaTab
import Derived.BigRegion
namespace Go.Proofs.Ytnmkkflnehnioaa
open Go.RowKit

theorem add_comm_k : ∀ k : Fin 7, ∀ a b : Fin 9, a < szN k → b < szN k → sumN k b a = sumN k a b ∧ prodN k b a = prodN k a b ∧ sumN k a 0 = a ∧ prodN k a 1 = a ∧ prodN k a 0 = 0 := by decide +kernel
theorem add_assoc_k : ∀ k : Fin 7, ∀ a b c : Fin 9, a < szN k → b < szN k → c < szN k → sumN k a (sumN k b c) = sumN k (sumN k a b) c ∧ prodN k a (prodN k b c) = prodN k (prodN k a b) c ∧ sumN k (prodN k a b) (prodN k a c) = prodN k a (sumN k b c) := by decide +kernel

/-- What the law asks of three elements. -/
structure Ax (k a b c : Nat) : Prop where
  cs : sumN k b a = sumN k a b
  cp : prodN k b a = prodN k a b
  ass : sumN k a (sumN k b c) = sumN k (sumN k a b) c
  ap : prodN k a (prodN k b c) = prodN k (prodN k a b) c
  di : sumN k (prodN k a b) (prodN k a c) = prodN k a (sumN k b c)
  a0 : sumN k a 0 = a
  m1 : prodN k a 1 = a
  m0 : prodN k a 0 = 0
  ls : sumN k a b < szN k
  lp : prodN k a b < szN k
  lbc : sumN k b c < szN k
  lpbc : prodN k b c < szN k
  lpac : prodN k a c < szN k
theorem ax_at {k a b c : Nat} (hk : k < 7) (ha : a < szN k) (hb : b < szN k) (hc : c < szN k) : Ax k a b c := by
  have h9 := (sz_facts k hk).2.1.2
  obtain ⟨h1, h2, h3, h4, h5⟩ := add_comm_k ⟨k, hk⟩ ⟨a, by omega⟩ ⟨b, by omega⟩ ha hb
  obtain ⟨g1, g2, g3⟩ := add_assoc_k ⟨k, hk⟩ ⟨a, by omega⟩ ⟨b, by omega⟩ ⟨c, by omega⟩ ha hb hc
  exact ⟨h1, h2, g1, g2, g3, h3, h4, h5, (tab_at hk ha hb).2.2.1, (tab_at hk ha hb).2.2.2, (tab_at hk hb hc).2.2.1, (tab_at hk hb hc).2.2.2, (tab_at hk ha hc).2.2.2⟩

theorem mod_u8 (x q : Nat) : (x : Int) % (q : Int) = ((x % q : Nat) : Int) := by omega

set_option maxRecDepth 100000 in
set_option maxHeartbeats 3200000 in
theorem walk_axioms (n : Nat) (hn : n ≤ 255) (x0 x1 x2 : Nat) (h0 : x0 ≤ 255) (h1 : x1 ≤ 255) (h2 : x2 ≤ 255) (w : World) :
    Calls Try.prog 3 #[.int .u8 n, .agg #[.int .u8 x0, .int .u8 x1, .int .u8 x2]] w fun e w' => e = .returned (.bool true) ∧ Below w.heap.size w w' := by
  obtain ⟨k, hk⟩ : ∃ k, n % 7 = k := ⟨_, rfl⟩
  have hk7 : k < 7 := by omega
  have hF := fun W => field_k n hn W
  rw [hk] at hF
  have HF := Lib.hid hF
  clear hF hk
  have hsz := (sz_facts k hk7).2.1
  obtain ⟨a, ha'⟩ : ∃ a, x0 % szN k = a := ⟨_, rfl⟩
  obtain ⟨b, hb'⟩ : ∃ b, x1 % szN k = b := ⟨_, rfl⟩
  obtain ⟨c, hc'⟩ : ∃ c, x2 % szN k = c := ⟨_, rfl⟩
  have ha : a < szN k := ha' ▸ Nat.mod_lt _ (by omega)
  have hb : b < szN k := hb' ▸ Nat.mod_lt _ (by omega)
  have hc : c < szN k := hc' ▸ Nat.mod_lt _ (by omega)
  have ea : (x0 : Int) % (szN k : Int) = a := by rw [mod_u8, ha']
  have eb : (x1 : Int) % (szN k : Int) = b := by rw [mod_u8, hb']
  have ec : (x2 : Int) % (szN k : Int) = c := by rw [mod_u8, hc']
  have hq0 : ¬ (szN k : Int) = 0 := by omega
  have Q := ax_at hk7 ha hb hc
  have hls := Q.ls
  clear ha' hb' hc'
  go_enter Try.func3, Try.ntmps3
  go_wp2_with fail
  refine (awake5 _).mono ?_
  rintro e w1 ⟨rfl, B1⟩
  go_wp2_with fail
  refine (HF.out _).mono ?_
  rintro e w2 ⟨f, rfl, F, B2⟩
  have hB : Below w.heap.size w w2 := by
    have h := ((Below.refl _ w).alloc (Nat.le_refl _) _).trans (B1.mono (by simp))
    exact h.trans (B2.mono h.size)
  have hz1 : w.heap.size < w1.heap.size := by have := B1.size; simp at this; omega
  have cc : ∀ j, w2.cell? ⟨w.heap.size, j, none⟩ = (w.alloc (.cells #[.int .u8 x0, .int .u8 x1, .int .u8 x2] 22)).cell? ⟨w.heap.size, j, none⟩ := fun j => by
    rw [B2.cell (p := ⟨w.heap.size, j, none⟩) hz1, B1.cell (p := ⟨w.heap.size, j, none⟩) (by simp)]
  have c0 : w2.cell? ⟨w.heap.size, 0, none⟩ = some (.int .u8 x0) := by rw [cc]; simp [go_sem]
  have c1 : w2.cell? ⟨w.heap.size, 1, none⟩ = some (.int .u8 x1) := by rw [cc]; simp [go_sem]
  have c2 : w2.cell? ⟨w.heap.size, 2, none⟩ = some (.int .u8 x2) := by rw [cc]; simp [go_sem]
  clear cc
  go_wp2_with fail
  go_region
  have hB' := hB.drew
  have F' : NF w2.drew f k := F.below (Below.refl _ _).drew
  go_wp2_with fail
  rw [ea, eb, ec]
  clear hB F c0 c1 c2 ea eb ec B1 B2
  refine (addK F' a b ha hb).mono ?_
  rintro e w' ⟨rfl, rfl⟩
  go_wp2_with fail
  refine (addK F' b a hb ha).mono ?_
  rintro e w' ⟨rfl, rfl⟩
  rw [Q.cs]
  go_wp2_with fail
  refine (mulK F' a b ha hb).mono ?_
  rintro e w' ⟨rfl, rfl⟩
  go_wp2_with fail
  refine (mulK F' b a hb ha).mono ?_
  rintro e w' ⟨rfl, rfl⟩
  rw [Q.cp]
  go_wp2_with fail
  refine (addK F' a b ha hb).mono ?_
  rintro e w' ⟨rfl, rfl⟩
  go_wp2_with fail
  refine (addK F' (sumN k a b) c Q.ls hc).mono ?_
  rintro e w' ⟨rfl, rfl⟩
  go_wp2_with fail
  refine (addK F' b c hb hc).mono ?_
  rintro e w' ⟨rfl, rfl⟩
  go_wp2_with fail
  refine (addK F' a (sumN k b c) ha Q.lbc).mono ?_
  rintro e w' ⟨rfl, rfl⟩
  rw [Q.ass]
  go_wp2_with fail
  refine (mulK F' a b ha hb).mono ?_
  rintro e w' ⟨rfl, rfl⟩
  go_wp2_with fail
  refine (mulK F' (prodN k a b) c Q.lp hc).mono ?_
  rintro e w' ⟨rfl, rfl⟩
  go_wp2_with fail
  refine (mulK F' b c hb hc).mono ?_
  rintro e w' ⟨rfl, rfl⟩
  go_wp2_with fail
  refine (mulK F' a (prodN k b c) ha Q.lpbc).mono ?_
  rintro e w' ⟨rfl, rfl⟩
  rw [Q.ap]
  go_wp2_with fail
  refine (addK F' a b ha hb).mono ?_
  rintro e w' ⟨rfl, rfl⟩
  go_wp2_with fail
  refine (addK F' b c hb hc).mono ?_
  rintro e w' ⟨rfl, rfl⟩
  go_wp2_with fail
  refine (mulK F' a (sumN k b c) ha Q.lbc).mono ?_
  rintro e w' ⟨rfl, rfl⟩
  go_wp2_with fail
  refine (mulK F' a b ha hb).mono ?_
  rintro e w' ⟨rfl, rfl⟩
  go_wp2_with fail
  refine (mulK F' a c ha hc).mono ?_
  rintro e w' ⟨rfl, rfl⟩
  go_wp2_with fail
  refine (addK F' (prodN k a b) (prodN k a c) Q.lp Q.lpac).mono ?_
  rintro e w' ⟨rfl, rfl⟩
  rw [Q.di]
  go_wp2_with fail
  refine (addK F' a 0 ha (by omega)).mono ?_
  rintro e w' ⟨rfl, rfl⟩
  rw [Q.a0]
  go_wp2_with fail
  refine (mulK F' a 1 ha (by omega)).mono ?_
  rintro e w' ⟨rfl, rfl⟩
  rw [Q.m1]
  go_wp2_with fail
  refine (mulK F' a 0 ha (by omega)).mono ?_
  rintro e w' ⟨rfl, rfl⟩
  rw [Q.m0]
  go_wp2_with fail
  go_ret
  exact ⟨rfl, hB'⟩
end Go.Proofs.Ytnmkkflnehnioaa
