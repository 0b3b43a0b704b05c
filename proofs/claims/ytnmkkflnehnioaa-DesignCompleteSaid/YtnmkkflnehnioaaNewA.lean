/-
  smallfield.New: a size that is none, and the words for what is made on the way. No condition.
-/
import Derived.Test.YtnmkkflnehnioaaSh
import Derived.Test.YtnmkkflnehnioaaOwn
import Derived.Lib.SliceRun
import Derived.Deep.CutBlock
namespace Go.Proofs.Ytnmkkflnehnioaa
open Go.RowKit

theorem found_at {k : Nat} (hk : k < 7) {r : Int} (h : Found (at0 sizes k) r) : r = k := by
  have key : ∀ a b : Fin 7, at0 sizes a = at0 sizes b → a = b := by decide
  rcases h with ⟨j, hj, rfl, e⟩ | ⟨_, hno⟩
  · have := key ⟨j, hj⟩ ⟨k, hk⟩ e
    have := congrArg Fin.val this
    simp at this
    omega
  · exact absurd rfl (hno k hk)

theorem found_no {q r : Int} (hno : ∀ k, k < 7 → at0 sizes k ≠ q) (h : Found q r) : r = -1 := by
  rcases h with ⟨k, hk, _, e⟩ | ⟨e, _⟩
  · exact absurd e (hno k hk)
  · exact e

theorem eql38 (w : World) (a : Option Addr) (n c n' c' : Nat) : (binOp .eql 38 (.slice a n c) (.slice none n' c')).run Try.prog w = .ok (.bool a.isNone) w := Lib.run_eql_slice_nil w _ _ a n c n' c' Try.underlying38

set_option maxRecDepth 100000 in
set_option maxHeartbeats 1600000 in
theorem new_no (q : Int) (hno : ∀ k, k < 7 → at0 sizes k ≠ q) (w : World) :
    Calls Try.prog 39 #[.int .i64 q] w fun e w' => e = .returned (.tuple #[.pointer none, .int .i64 1]) ∧ Below w.heap.size w w' := by
  have HNO := Lib.hid hno
  clear hno
  go_enter Try.func39, Try.ntmps39
  go_wp2_with (first
    | (go_at_call 68; refine (shapes_any _).mono ?_; rintro e w1 ⟨b, rfl, hb1, hs1, hB1⟩; have hq1 : w1.cell? ⟨w.heap.size, 0, none⟩ = some (.int .i64 q) := (hB1.cell (p := ⟨w.heap.size, 0, none⟩) (by simp)).trans (by simp [go_sem]))
    | (go_at_call 69; refine (find_any _ _ _ q _ (by assumption) (by assumption)).mono ?_; rintro e w2 ⟨⟨r, rfl, hfd⟩, hB2⟩; obtain rfl : r = -1 := found_no HNO.out hfd))
  go_ret2
  refine ⟨rfl, ?_⟩
  have h1 : Below w.heap.size w w1 := ((Below.refl _ w).alloc (Nat.le_refl _) _).trans (hB1.mono (by simp))
  exact h1.trans (hB2.mono h1.size)
/-- A table of q rows of q ints, read. -/
def TabAt (w : World) (v : Value) (q : Nat) (T : Nat → Nat → Int) : Prop :=
  ∃ b c, v = .slice (some ⟨b, 0, none⟩) q c ∧ ∀ i, i < q → ∃ r d, w.cell? ⟨b, i, none⟩ = some (.slice (some ⟨r, 0, none⟩) q d) ∧ q ≤ d ∧ ∀ j, j < q → w.cell? ⟨r, j, none⟩ = some (.int .i64 (T i j))
theorem TabAt.below {w w' : World} {v : Value} {q : Nat} {T : Nat → Nat → Int} (h : TabAt w v q T) (hb : Below w.heap.size w w') : TabAt w' v q T := by
  obtain ⟨b, c, rfl, hr⟩ := h
  refine ⟨b, c, rfl, fun i hi => ?_⟩
  obtain ⟨r, d, h1, h2, h3⟩ := hr i hi
  exact ⟨r, d, (hb.cell (p := ⟨b, i, none⟩) (World.block_lt_of_cell? _ _ h1)).trans h1, h2, fun j hj => (hb.cell (p := ⟨r, j, none⟩) (World.block_lt_of_cell? _ _ (h3 j hj))).trans (h3 j hj)⟩
theorem OwnTab.read {w : World} {base q : Nat} {v : Value} {T : Nat → Nat → Int} (h : OwnTab w base v q (fun _ => q) T) (hq : 0 < q) : TabAt w v q T := by
  obtain ⟨rows, ho, hr⟩ := h
  obtain ⟨b, c, rfl⟩ := own_form ho hq
  refine ⟨b, c, rfl, fun i hi => ?_⟩
  obtain ⟨rv, h1, h2⟩ := hr i hi
  obtain ⟨r, d, rfl⟩ := own_form h2 hq
  exact ⟨r, d, own_cell ho h1, own_cap h2, fun j hj => own_cell h2 (rowVals_get _ _ _ hj)⟩
/-- f is a field with qn elements, its prime and its two tables. -/
structure FieldAt (w : World) (f qn : Nat) (p : Int) (S M : Nat → Nat → Int) : Prop where
  c0 : w.cell? ⟨f, 0, none⟩ = some (.int .i64 qn)
  c1 : w.cell? ⟨f, 1, none⟩ = some (.int .i64 p)
  tabs : ∃ vs vm, w.cell? ⟨f, 2, none⟩ = some vs ∧ w.cell? ⟨f, 3, none⟩ = some vm ∧ TabAt w vs qn S ∧ TabAt w vm qn M
theorem FieldAt.below {w w' : World} {f qn : Nat} {p : Int} {S M : Nat → Nat → Int} (h : FieldAt w f qn p S M) (hb : Below w.heap.size w w') : FieldAt w' f qn p S M := by
  have hf : f < w.heap.size := World.block_lt_of_cell? _ _ h.c0
  obtain ⟨vs, vm, h2, h3, t2, t3⟩ := h.tabs
  exact ⟨(hb.cell (p := ⟨f, 0, none⟩) hf).trans h.c0, (hb.cell (p := ⟨f, 1, none⟩) hf).trans h.c1, vs, vm, (hb.cell (p := ⟨f, 2, none⟩) hf).trans h2, (hb.cell (p := ⟨f, 3, none⟩) hf).trans h3, t2.below hb, t3.below hb⟩
def NewField (w : World) (qn : Nat) (p : Int) (S M : Nat → Nat → Int) (e : Ending) (w' : World) : Prop :=
  ∃ f, e = .returned (.tuple #[.pointer (some ⟨f, 0, none⟩), .int .i64 0]) ∧ FieldAt w' f qn p S M ∧ Below w.heap.size w w'

def apartV (v v2 : Value) : Prop := ∀ k, v.ownBlock = some k → v2.ownBlock ≠ some k

/-- The field that is being made: block f; a rows of each table lie there. -/
structure Making (W wr : World) (f qn : Nat) (p : Int) (a : Nat) (S M : Nat → Nat → Int) (vs vm : Value) : Prop where
  below : Below f W wr
  at_ : wr.heap[f]? = some (.cells #[.int .i64 qn, .int .i64 p, vs, vm] 78 (0, 0))
  sums : OwnTab wr (f + 1) vs a (fun _ => qn) S
  prods : OwnTab wr (f + 1) vm a (fun _ => qn) M
  apart : apartV vs vm

theorem cells4 {w : World} {f : Nat} {a b c d : Value} {t : TypeId} (h : w.heap[f]? = some (.cells #[a, b, c, d] t (0, 0))) :
    w.cell? ⟨f, 0, none⟩ = some a ∧ w.cell? ⟨f, 1, none⟩ = some b ∧ w.cell? ⟨f, 2, none⟩ = some c ∧ w.cell? ⟨f, 3, none⟩ = some d ∧ w.frozen? ⟨f, 2, none⟩ = false ∧ w.frozen? ⟨f, 3, none⟩ = false := by
  simp [World.cell?, World.frozen?, h]
theorem put4 {w : World} {f : Nat} {a b c d u v : Value} {t : TypeId} (h : w.heap[f]? = some (.cells #[a, b, c, d] t (0, 0))) :
    ((w.setCell ⟨f, 2, none⟩ u).setCell ⟨f, 3, none⟩ v).heap[f]? = some (.cells #[a, b, u, v] t (0, 0)) := by
  unfold World.setCell
  simp only [Array.getElem?_modify, h]
  simp

def mulP (p : Int) (a b : Nat) : Int := Int.tmod (wrap64 ((a : Int) * b)) p

set_option maxRecDepth 100000 in
set_option maxHeartbeats 800000 in
theorem mulP_any (p : Int) (hp : 2 ≤ p) (a b : Nat) (sb : Nat) (w : World) (hc : w.cell? ⟨sb, 1, none⟩ = some (.int .i64 p)) :
    Calls Try.prog 72 #[.int .i64 a, .int .i64 b, .pointer (some ⟨sb, 0, none⟩)] w fun e w' => e = .returned (.int .i64 (mulP p a b)) ∧ w = w' := by
  have hp0 : ¬ p = 0 := by omega
  unfold mulP
  go_enter Try.func72, Try.ntmps72
  go_wp2
  go_ret
  exact ⟨rfl, rfl⟩

theorem pair_step {wo wr w2 w3 w5 : World} {B j : Nat} {v9 v10 v9' v10' : Value} {xs9 xs10 ys9 : List Value} {o1 o2 : Obj} (h9 : wr.ownsRow B 3 1 v9 j xs9) (h10 : wr.ownsRow B 3 1 v10 j xs10) (hap : apartV v9 v10) (hB : Below B wo wr) (hBs : B ≤ wr.heap.size) (hb2 : Below wr.heap.size wr w2)
    (o9' : w3.ownsRow B 3 1 v9' (j + 1) ys9) (g9 : (w2.alloc o1).grownBy w3 v9.ownBlock) (k9 : v9'.ownBlock = v9.ownBlock ∨ v9'.ownBlock = some (w2.alloc o1).heap.size)
    (g10 : (w3.alloc o2).grownBy w5 v10.ownBlock) (k10 : v10'.ownBlock = v10.ownBlock ∨ v10'.ownBlock = some (w3.alloc o2).heap.size) :
    w5.ownsRow B 3 1 v9' (j + 1) ys9 ∧ apartV v9' v10' ∧ Below B wo w5 := by
  have hz2 := hb2.size
  have hz3 := g9.size
  simp only [World.size_alloc] at k9 k10 hz3
  have a1 : ∀ k, v9'.ownBlock = some k → v10.ownBlock ≠ some k := fun k hk e => by
    rcases k9 with h | h
    · exact hap k (h ▸ hk) e
    · rw [h] at hk
      have := (h10.lt k e).2
      simp at hk
      omega
  refine ⟨own_grown (o9'.alloc _) g10 a1, fun k hk e => ?_, ?_⟩
  · rcases k10 with h | h
    · exact a1 k hk (h ▸ e)
    · rw [h] at e
      have := (o9'.lt k hk).2
      simp at e
      omega
  · refine (((hB.trans (hb2.mono hBs)).alloc (by omega) o1).grown g9 (by simp; omega) (fun k e => (h9.lt k e).1)).alloc (by omega) o2 |>.grown g10 (by simp; omega) (fun k e => (h10.lt k e).1)

/-- The same, a call between the two appends. -/
theorem pair_step4 {wo wr w2 w3 w4 w5 : World} {B j : Nat} {v9 v10 v9' v10' : Value} {xs9 xs10 ys9 : List Value} {o1 o2 : Obj} (h9 : wr.ownsRow B 3 1 v9 j xs9) (h10 : wr.ownsRow B 3 1 v10 j xs10) (hap : apartV v9 v10) (hB : Below B wo wr) (hBs : B ≤ wr.heap.size) (hb2 : Below wr.heap.size wr w2)
    (o9' : w3.ownsRow B 3 1 v9' (j + 1) ys9) (g9 : (w2.alloc o1).grownBy w3 v9.ownBlock) (k9 : v9'.ownBlock = v9.ownBlock ∨ v9'.ownBlock = some (w2.alloc o1).heap.size) (hb4 : Below w3.heap.size w3 w4)
    (g10 : (w4.alloc o2).grownBy w5 v10.ownBlock) (k10 : v10'.ownBlock = v10.ownBlock ∨ v10'.ownBlock = some (w4.alloc o2).heap.size) :
    w5.ownsRow B 3 1 v9' (j + 1) ys9 ∧ apartV v9' v10' ∧ Below B wo w5 := by
  have hz2 := hb2.size
  have hz3 := g9.size
  have hz4 := hb4.size
  simp only [World.size_alloc] at k9 k10 hz3
  have a1 : ∀ k, v9'.ownBlock = some k → v10.ownBlock ≠ some k := fun k hk e => by
    rcases k9 with h | h
    · exact hap k (h ▸ hk) e
    · rw [h] at hk
      have := (h10.lt k e).2
      simp at hk
      omega
  refine ⟨own_grown ((own_below o9' hb4 (Nat.le_refl _)).alloc _) g10 a1, fun k hk e => ?_, ?_⟩
  · rcases k10 with h | h
    · exact a1 k hk (h ▸ e)
    · rw [h] at e
      have := (o9'.lt k hk).2
      simp at e
      omega
  · refine (((((hB.trans (hb2.mono hBs)).alloc (by omega) o1).grown g9 (by simp; omega) (fun k e => (h9.lt k e).1)).trans (hb4.mono (by omega))).alloc (by omega) o2).grown g10 (by simp; omega) (fun k e => (h10.lt k e).1)
theorem own_weaken {w : World} {base base' e size n : Nat} {v : Value} {xs : List Value} (h : w.ownsRow base e size v n xs) (hb : base' ≤ base) : w.ownsRow base' e size v n xs := by
  obtain ⟨h1, h2⟩ := h
  refine ⟨h1, ?_⟩
  rcases h2 with h2 | ⟨g, cap, cur, rfl, hg, r⟩
  · exact .inl h2
  · exact .inr ⟨g, cap, cur, rfl, Nat.le_trans hb hg, r⟩
theorem Making.moved {W wr w' : World} {f qn a : Nat} {p : Int} {S M : Nat → Nat → Int} {vs vm : Value} (h : Making W wr f qn p a S M vs vm) (hb : Below wr.heap.size wr w') : Making W w' f qn p a S M vs vm :=
  have hf := lt_of_block h.at_
  ⟨h.below.trans (hb.mono (by omega)), (hb.block f hf).trans h.at_, h.sums.below hb (Nat.le_refl _), h.prods.below hb (Nat.le_refl _), h.apart⟩

/-- The first of the two appends is done. -/
structure Half (W w1 : World) (f qn : Nat) (p : Int) (a : Nat) (S M : Nat → Nat → Int) (vs vm v1 v10 : Value) : Prop where
  below : Below f W w1
  at_ : w1.heap[f]? = some (.cells #[.int .i64 qn, .int .i64 p, vs, vm] 78 (0, 0))
  sums : OwnTab w1 (f + 1) v1 (a + 1) (fun _ => qn) S
  prods : OwnTab w1 (f + 1) vm a (fun _ => qn) M
  apart : apartV v1 vm
  row : w1.ownsRow (f + 1) 3 1 v10 qn (rowVals (M a) qn)
/-- Both are done. -/
structure Full (W w1 : World) (f qn : Nat) (p : Int) (a : Nat) (S M : Nat → Nat → Int) (vs vm v1 v2 : Value) : Prop where
  below : Below f W w1
  at_ : w1.heap[f]? = some (.cells #[.int .i64 qn, .int .i64 p, vs, vm] 78 (0, 0))
  sums : OwnTab w1 (f + 1) v1 (a + 1) (fun _ => qn) S
  prods : OwnTab w1 (f + 1) v2 (a + 1) (fun _ => qn) M
  apart : apartV v1 v2
theorem own_ne {w : World} {base e size n b : Nat} {v : Value} {xs : List Value} (h : w.ownsRow base e size v n xs) (hb : w.heap.size ≤ b) : some b ≠ v.ownBlock := fun e => by
  have := (h.lt b e.symm).2
  omega
theorem half_of {W wr X w1 : World} {f qn a : Nat} {p : Int} {S M : Nat → Nat → Int} {vs vm v1 v9 v10 : Value} {srows : List Value} (hM : Making W wr f qn p a S M vs vm) (hso : wr.ownsRow (f + 1) 38 1 vs a srows)
    (hsr : ∀ i, i < a → ∃ rv, srows[i]? = some rv ∧ wr.ownsRow (f + 1) 3 1 rv qn (rowVals (S i) qn)) (r9 : wr.ownsRow (f + 1) 3 1 v9 qn (rowVals (S a) qn)) (r10 : wr.ownsRow (f + 1) 3 1 v10 qn (rowVals (M a) qn))
    (hX : Below wr.heap.size wr X) (o1 : w1.ownsRow (f + 1) 38 1 v1 (a + 1) (srows ++ [v9])) (g1 : X.grownBy w1 vs.ownBlock) (k1 : v1.ownBlock = vs.ownBlock ∨ v1.ownBlock = some X.heap.size) : Half W w1 f qn p a S M vs vm v1 v10 := by
  have hf := lt_of_block hM.at_
  have hso' := own_below hso hX (Nat.le_refl _)
  refine ⟨?_, ?_, ?_, ?_, ?_, ?_⟩
  · exact (hM.below.trans (hX.mono (by omega))).grown g1 (by have := hX.size; omega) (fun k e => by have := (hso.lt k e).1; omega)
  · rw [g1.block f (by have := hX.size; omega) (fun e => by have := (hso.lt f e.symm).1; omega), hX.block f hf]; exact hM.at_
  · exact OwnTab.snoc hso' (fun i hi => by obtain ⟨rv, e1, e2⟩ := hsr i hi; exact ⟨rv, e1, own_below e2 hX (Nat.le_refl _)⟩) (own_below r9 hX (Nat.le_refl _)) o1 g1
  · exact (hM.prods.below hX (Nat.le_refl _)).other hso' g1 (fun k e1 e2 => hM.apart k e2 e1)
  · intro k e1 e2
    obtain ⟨prows, hpo, _⟩ := hM.prods
    rcases k1 with h | h
    · exact hM.apart k (h ▸ e1) e2
    · rw [h] at e1
      have := (hpo.lt k e2).2
      have := hX.size
      simp at e1
      omega
  · exact own_grown (own_below r10 hX (Nat.le_refl _)) g1 (own_apart (own_below r10 hX (Nat.le_refl _)) hso' (by decide))
theorem full_of {W wr X w1 : World} {f qn a : Nat} {p : Int} {S M : Nat → Nat → Int} {vs vm v1 v2 v10 : Value} {prows : List Value} (hM : Half W wr f qn p a S M vs vm v1 v10) (hpo : wr.ownsRow (f + 1) 38 1 vm a prows)
    (hpr : ∀ i, i < a → ∃ rv, prows[i]? = some rv ∧ wr.ownsRow (f + 1) 3 1 rv qn (rowVals (M i) qn))
    (hX : Below wr.heap.size wr X) (o1 : w1.ownsRow (f + 1) 38 1 v2 (a + 1) (prows ++ [v10])) (g1 : X.grownBy w1 vm.ownBlock) (k1 : v2.ownBlock = vm.ownBlock ∨ v2.ownBlock = some X.heap.size) : Full W w1 f qn p a S M vs vm v1 v2 := by
  have hf := lt_of_block hM.at_
  have hpo' := own_below hpo hX (Nat.le_refl _)
  refine ⟨?_, ?_, ?_, ?_, ?_⟩
  · exact (hM.below.trans (hX.mono (by omega))).grown g1 (by have := hX.size; omega) (fun k e => by have := (hpo.lt k e).1; omega)
  · rw [g1.block f (by have := hX.size; omega) (fun e => by have := (hpo.lt f e.symm).1; omega), hX.block f hf]; exact hM.at_
  · exact (hM.sums.below hX (Nat.le_refl _)).other hpo' g1 (fun k e1 e2 => hM.apart k e1 e2)
  · exact OwnTab.snoc hpo' (fun i hi => by obtain ⟨rv, e1, e2⟩ := hpr i hi; exact ⟨rv, e1, own_below e2 hX (Nat.le_refl _)⟩) (own_below hM.row hX (Nat.le_refl _)) o1 g1
  · intro k e1 e2
    obtain ⟨srows, hso, _⟩ := hM.sums
    rcases k1 with h | h
    · exact hM.apart k e1 (h ▸ e2)
    · rw [h] at e2
      have := (hso.lt k e1).2
      have := hX.size
      simp at e2
      omega
theorem made_of {W w1 : World} {f qn a : Nat} {p : Int} {S M : Nat → Nat → Int} {vs vm v1 v2 : Value} (h : Full W w1 f qn p a S M vs vm v1 v2) : Making W ((w1.setCell ⟨f, 2, none⟩ v1).setCell ⟨f, 3, none⟩ v2) f qn p (a + 1) S M v1 v2 :=
  ⟨(h.below.setCell (Nat.le_refl f) _).setCell (Nat.le_refl f) _, put4 h.at_, (h.sums.setCell (Nat.lt_succ_self f) _).setCell (Nat.lt_succ_self f) _, (h.prods.setCell (Nat.lt_succ_self f) _).setCell (Nat.lt_succ_self f) _, h.apart⟩

theorem mul_any (n : Nat) (hn : n = 2 ∨ n = 3) (sz p : Int) (bz : Nat) (Z : List Int) (hZ0 : ∀ j, j < n → 0 ≤ at0 Z j ∧ at0 Z j ≤ 1) (a b : Int) (w : World) (hbz : bz < w.heap.size) (hcz : ∀ j, j < n → w.cell? ⟨bz, j, none⟩ = some (.int .i64 (at0 Z j)))
    (hp : 2 ≤ p) (hp' : p ≤ 9) (ha : 0 ≤ a) (ha' : a ≤ 9) (hb : 0 ≤ b) (hb' : b ≤ 9) :
    Calls Try.prog 71 #[.agg #[.int .i64 sz, .int .i64 p, .slice (some ⟨bz, 0, none⟩) n n], .int .i64 a, .int .i64 b] w fun e w' => e = .returned (.int .i64 (mulS p Z n a b)) ∧ Below w.heap.size w w' := by
  rcases hn with rfl | rfl
  · exact mul_2 sz p bz Z hZ0 a b w hbz hcz hp hp' ha ha' hb hb'
  · exact mul_3 sz p bz Z hZ0 a b w hbz hcz hp hp' ha ha' hb hb'

end Go.Proofs.Ytnmkkflnehnioaa
