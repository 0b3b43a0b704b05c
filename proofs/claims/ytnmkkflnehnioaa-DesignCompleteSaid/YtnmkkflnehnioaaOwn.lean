/-
  Slices that a call makes and appends to, one element at a time: what they own, what keeps it; tables of rows of ints. No condition but that a slice has fewer than 2^32 elements.
-/
import Derived.Test.YtnmkkflnehnioaaBase
import Derived.Maps.AppendAt
import Derived.Deep.RegionLaw
namespace Go.Proofs.Ytnmkkflnehnioaa
open Go.RowKit

section
variable {w w' w1 : World} {base e size n : Nat} {v : Value} {xs : List Value}
theorem own_move (h : w.ownsRow base e size v n xs) (hm : ∀ k, v.ownBlock = some k → w'.heap[k]? = w.heap[k]?) : w'.ownsRow base e size v n xs := by
  obtain ⟨h1, h2⟩ := h
  refine ⟨h1, ?_⟩
  rcases h2 with h2 | ⟨g, cap, cur, rfl, hg, hh, r⟩
  · exact .inl h2
  · exact .inr ⟨g, cap, cur, rfl, hg, (hm g (by simp [Value.ownBlock])).trans hh, r⟩
theorem own_typed (h : w.ownsRow base e size v n xs) (k : Nat) (hk : v.ownBlock = some k) : ∃ cells, w.heap[k]? = some (.cells cells e (0, 0)) := by
  rcases h.2 with ⟨rfl, _⟩ | ⟨g, cap, cur, rfl, hg, hh, r⟩
  · simp [Value.ownBlock] at hk
  · have : g = k := by simpa [Value.ownBlock] using hk
    subst this
    exact ⟨cur, hh⟩
theorem own_below {B : Nat} (h : w.ownsRow base e size v n xs) (hb : Below B w w') (hB : w.heap.size ≤ B) : w'.ownsRow base e size v n xs :=
  own_move h fun k hk => hb.block k (by have := (h.lt k hk).2; omega)
/-- Rows of two element types lie in two blocks. -/
theorem own_apart {e2 b2 s2 n2 : Nat} {v2 : Value} {ys : List Value} (h : w.ownsRow base e size v n xs) (h2 : w.ownsRow b2 e2 s2 v2 n2 ys) (he : e ≠ e2) (k : Nat) (hk : v.ownBlock = some k) : v2.ownBlock ≠ some k := fun hk2 => by
  obtain ⟨c1, h1⟩ := own_typed h k hk
  obtain ⟨c2, h3⟩ := own_typed h2 k hk2
  rw [h1] at h3
  injection h3 with h3
  injection h3 with _ h3
  exact he h3
theorem own_grown {row : Option Nat} (h : w.ownsRow base e size v n xs) (hg : w.grownBy w' row) (hne : ∀ k, v.ownBlock = some k → row ≠ some k) : w'.ownsRow base e size v n xs :=
  own_move h fun k hk => hg.block k (h.lt k hk).2 (fun e => hne k hk e.symm)
theorem own_setCell (h : w.ownsRow base e size v n xs) {a : Addr} (ha : a.block < base) (u : Value) : (w.setCell a u).ownsRow base e size v n xs := ownsRow_setCell_below h ha u
theorem own_form (h : w.ownsRow base e size v n xs) (hn : 0 < n) : ∃ g cap, v = .slice (some ⟨g, 0, none⟩) n cap := by
  rcases h.2 with ⟨_, h0⟩ | ⟨g, cap, _, hv, _⟩
  · omega
  · exact ⟨g, cap, hv⟩
theorem own_cell {g cap : Nat} (h : w.ownsRow base e 1 (.slice (some ⟨g, 0, none⟩) n cap) n xs) {j : Nat} {u : Value} (hu : xs[j]? = some u) : w.cell? ⟨g, j, none⟩ = some u := by
  have hj : j < n := by have := (List.getElem?_eq_some_iff.1 hu).1; have := h.1; omega
  rw [h.cellAt j (by omega)]
  exact hu
theorem own_cap {g cap : Nat} (h : w.ownsRow base e size (.slice (some ⟨g, 0, none⟩) n cap) n xs) : n ≤ cap := by
  rcases h.2 with ⟨h0, _⟩ | ⟨g', cap', cur, hv, _, _, hc, _⟩
  · simp at h0
  · simp only [Value.slice.injEq] at hv
    omega
end

theorem one_news {w : World} {ad : Addr} {y : Value} (hy : w.cell? ad = some y) : ∀ j u, [y][j]? = some u → w.cell? (ad.add j) = some u := by
  intro j u hj
  match j, hj with
  | 0, hj => simp at hj; subst hj; simpa [Addr.add] using hy

theorem info38 : (Try.prog.info? 38).map (fun i => (i.zero, i.size, i.bytes)) = some (some (.slice none 0 0), 1, 24) := by kernel_rfl

/-- append of one element to a []int (type 38) that the call owns. -/
theorem wpList_app3 (w : World) {ops : Array Oper} {rest : List Oper} {o : Oper} {a : Act} {Q : Exit → Act → World → Prop} (hgd : o.guard = none) (s x : Operand)
    (ho : o.op = .call { callee := .builtin .append, args := #[s, x], argTypes := #[38, 38] })
    (base : Nat) (v : Value) (n : Nat) (xs : List Value) (hs : a.eval s = v) (hown : w.ownsRow base 3 1 v n xs)
    (ad : Addr) (c : Nat) (y : Value) (hx : a.eval x = .slice (some ad) 1 c) (hy : w.cell? ad = some y) (h1 : y.oneCell' = true) (hn : n < 4294967296) (hbase : base ≤ w.heap.size)
    (h : ∀ v' w', w'.ownsRow base 3 1 v' (n + 1) (xs ++ [y]) → w.grownBy w' v.ownBlock → (v'.ownBlock = v.ownBlock ∨ v'.ownBlock = some w.heap.size) → wpList Try.prog ops Q rest (a.put o.dst v') w') :
    wpList Try.prog ops Q (o :: rest) a w := by
  obtain ⟨i, hi, hz0, hz1, hz2⟩ := info_parts info3
  exact wpList_append_own_at w hgd s x 38 ho base 3 i (.int .i64 0) 1 8 Try.underlying38 hi hz0 hz1 hz2 rfl (by decide) v n xs hs hown ad 1 c [y] hx rfl (one_news hy) (by intro u hu; simp at hu; subst hu; exact h1) (by unfold maxLen; omega) (by omega) hbase
    (fun v' w' h2 h3 _ h5 => h v' w' h2 h3 h5)

/-- append of one row to a [][]int (type 46) that the call owns. -/
theorem wpList_app38 (w : World) {ops : Array Oper} {rest : List Oper} {o : Oper} {a : Act} {Q : Exit → Act → World → Prop} (hgd : o.guard = none) (s x : Operand)
    (ho : o.op = .call { callee := .builtin .append, args := #[s, x], argTypes := #[46, 46] })
    (base : Nat) (v : Value) (n : Nat) (xs : List Value) (hs : a.eval s = v) (hown : w.ownsRow base 38 1 v n xs)
    (ad : Addr) (c : Nat) (y : Value) (hx : a.eval x = .slice (some ad) 1 c) (hy : w.cell? ad = some y) (h1 : y.oneCell' = true) (hn : n < 4294967296) (hbase : base ≤ w.heap.size)
    (h : ∀ v' w', w'.ownsRow base 38 1 v' (n + 1) (xs ++ [y]) → w.grownBy w' v.ownBlock → (v'.ownBlock = v.ownBlock ∨ v'.ownBlock = some w.heap.size) → wpList Try.prog ops Q rest (a.put o.dst v') w') :
    wpList Try.prog ops Q (o :: rest) a w := by
  obtain ⟨i, hi, hz0, hz1, hz2⟩ := info_parts info38
  exact wpList_append_own_at w hgd s x 46 ho base 38 i (.slice none 0 0) 1 24 Try.underlying46 hi hz0 hz1 hz2 rfl (by decide) v n xs hs hown ad 1 c [y] hx rfl (one_news hy) (by intro u hu; simp at hu; subst hu; exact h1) (by unfold maxLen; omega) (by omega) hbase
    (fun v' w' h2 h3 _ h5 => h v' w' h2 h3 h5)

/-- The same as one step of a region that draws its order. -/
theorem step_app38 {ops : Array Oper} {o : Oper} {a : Act} {w : World} {K : Act → World → Prop} {Q : Exit → Act → World → Prop} {E : Prop}
    (hg : o.guard = none) (s x : Operand) (hop : o.op = Op.call { callee := Callee.builtin Builtin.append, args := #[s, x], argTypes := #[46, 46] })
    (base : Nat) (v : Value) (n : Nat) (xs : List Value) (hs : a.eval s = v) (hown : w.ownsRow base 38 1 v n xs)
    (ad : Addr) (c : Nat) (y : Value) (hx : a.eval x = .slice (some ad) 1 c) (hy : w.cell? ad = some y) (h1 : y.oneCell' = true) (hn : n < 4294967296) (hbase : base ≤ w.heap.size)
    (hK : ∀ v' w', w'.ownsRow base 38 1 v' (n + 1) (xs ++ [y]) → w.grownBy w' v.ownBlock → (v'.ownBlock = v.ownBlock ∨ v'.ownBlock = some w.heap.size) → K (a.put o.dst v') w') :
    if Region.wanted o (yielded ops a.tmps) = true then Oper.wp Try.prog o a w K Q else E := by
  have hw : Region.wanted o (yielded ops a.tmps) = true := by simp [Region.wanted, hg]
  rw [if_pos hw]
  obtain ⟨i, hi, hz0, hz1, hz2⟩ := info_parts info38
  obtain ⟨v', w', hrun, r1, r2, _, r4⟩ := run_append_own_at (P := Try.prog) w base 46 o.type 38 i (.slice none 0 0) 1 24 Try.underlying46 hi hz0 hz1 hz2 rfl (by decide) v n xs hown ad 1 c [y] rfl (one_news hy) (by intro u hu; simp at hu; subst hu; exact h1) (by unfold maxLen; omega) (by omega) hbase
  unfold Oper.wp
  simp [execOp, hop, resolve, invoke, builtin, hs, hx, hrun, Result.andThen]
  exact hK v' w' r1 r2 r4

/-! ### tables: a slice of rows of ints -/
def rowVals (T : Nat → Int) (q : Nat) : List Value := (List.range q).map fun j => Value.int .i64 (T j)
theorem rowVals_succ (T : Nat → Int) (q : Nat) : rowVals T (q + 1) = rowVals T q ++ [.int .i64 (T q)] := by simp [rowVals, List.range_succ]
theorem rowVals_get (T : Nat → Int) (q j : Nat) (hj : j < q) : (rowVals T q)[j]? = some (.int .i64 (T j)) := by simp [rowVals, hj]

/-- v owns a rows; row i owns the q i ints T i. -/
def OwnTab (w : World) (base : Nat) (v : Value) (a : Nat) (q : Nat → Nat) (T : Nat → Nat → Int) : Prop :=
  ∃ rows : List Value, w.ownsRow base 38 1 v a rows ∧ ∀ i, i < a → ∃ rv, rows[i]? = some rv ∧ w.ownsRow base 3 1 rv (q i) (rowVals (T i) (q i))
theorem OwnTab.nil (w : World) (base : Nat) (q : Nat → Nat) (T : Nat → Nat → Int) : OwnTab w base (.slice none 0 0) 0 q T := ⟨[], World.ownsRow_nil _ _ _ _, fun _ hi => absurd hi (Nat.not_lt_zero _)⟩
/-- Whatever leaves the int rows and v's own block alone. -/
theorem OwnTab.move {w w' : World} {base : Nat} {v : Value} {a : Nat} {q : Nat → Nat} {T : Nat → Nat → Int} (h : OwnTab w base v a q T)
    (hm : ∀ k, base ≤ k → k < w.heap.size → (v.ownBlock = some k ∨ ∃ cur, w.heap[k]? = some (.cells cur 3 (0, 0))) → w'.heap[k]? = w.heap[k]?) : OwnTab w' base v a q T := by
  obtain ⟨rows, ho, hr⟩ := h
  refine ⟨rows, own_move ho fun k hk => hm k (ho.lt k hk).1 (ho.lt k hk).2 (.inl hk), fun i hi => ?_⟩
  obtain ⟨rv, h1, h2⟩ := hr i hi
  exact ⟨rv, h1, own_move h2 fun k hk => hm k (h2.lt k hk).1 (h2.lt k hk).2 (.inr (own_typed h2 k hk))⟩
theorem OwnTab.below {w w' : World} {base B : Nat} {v : Value} {a : Nat} {q : Nat → Nat} {T : Nat → Nat → Int} (h : OwnTab w base v a q T) (hb : Below B w w') (hB : w.heap.size ≤ B) : OwnTab w' base v a q T :=
  h.move fun k _ hk _ => hb.block k (by omega)
theorem OwnTab.alloc {w : World} {base : Nat} {v : Value} {a : Nat} {q : Nat → Nat} {T : Nat → Nat → Int} (h : OwnTab w base v a q T) (o : Obj) : OwnTab (w.alloc o) base v a q T :=
  h.move fun k _ hk _ => Below.heap_alloc w o k hk
theorem OwnTab.drew {w : World} {base : Nat} {v : Value} {a : Nat} {q : Nat → Nat} {T : Nat → Nat → Int} (h : OwnTab w base v a q T) : OwnTab w.drew base v a q T := h
theorem OwnTab.setCell {w : World} {base : Nat} {v : Value} {a : Nat} {q : Nat → Nat} {T : Nat → Nat → Int} (h : OwnTab w base v a q T) {p : Addr} (hp : p.block < base) (u : Value) : OwnTab (w.setCell p u) base v a q T :=
  h.move fun k hb _ _ => Below.heap_setCell w p u k (by omega)
/-- Another slice of rows has been appended to. -/
theorem OwnTab.other {w w' : World} {base : Nat} {v v2 : Value} {a n2 b2 s2 : Nat} {ys : List Value} {q : Nat → Nat} {T : Nat → Nat → Int} (h : OwnTab w base v a q T) (h2 : w.ownsRow b2 38 s2 v2 n2 ys) (hg : w.grownBy w' v2.ownBlock) (hne : ∀ k, v.ownBlock = some k → v2.ownBlock ≠ some k) : OwnTab w' base v a q T :=
  h.move fun k _ hk hc => hg.block k hk fun e => by
    rcases hc with hc | ⟨cur, hc⟩
    · exact hne k hc e.symm
    · obtain ⟨c2, h3⟩ := own_typed h2 k e.symm
      rw [h3] at hc
      injection hc with hc
      injection hc with _ hc
      exact absurd hc (by decide)
/-- A row of ints has been appended. -/
theorem OwnTab.snoc {w w' : World} {base : Nat} {v v' : Value} {a : Nat} {q : Nat → Nat} {T : Nat → Nat → Int} {rows : List Value} (ho : w.ownsRow base 38 1 v a rows) (hr : ∀ i, i < a → ∃ rv, rows[i]? = some rv ∧ w.ownsRow base 3 1 rv (q i) (rowVals (T i) (q i)))
    {rv : Value} (hrv : w.ownsRow base 3 1 rv (q a) (rowVals (T a) (q a))) (hown : w'.ownsRow base 38 1 v' (a + 1) (rows ++ [rv])) (hg : w.grownBy w' v.ownBlock) : OwnTab w' base v' (a + 1) q T := by
  have hrl : rows.length = a := by have := ho.1; omega
  refine ⟨rows ++ [rv], hown, fun i hi => ?_⟩
  by_cases h : i < a
  · obtain ⟨r, h1, h2⟩ := hr i h
    exact ⟨r, by rw [List.getElem?_append_left (by omega)]; exact h1, own_grown h2 hg (own_apart h2 ho (by decide))⟩
  · obtain rfl : i = a := by omega
    exact ⟨rv, by rw [List.getElem?_append_right (by omega), hrl]; simp, own_grown hrv hg (own_apart hrv ho (by decide))⟩

end Go.Proofs.Ytnmkkflnehnioaa
