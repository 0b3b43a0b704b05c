/-
  The reference's coordinates (76): the same points in the same order. Condition: a size with at most 60 points in its plane.
  The reference's projective plane (45): the same lines. Condition: a size with at most 60 points.
-/
import Derived.Test.YtnmkkflnehnioaaGa
import Derived.Test.YtnmkkflnehnioaaGb
import Derived.Test.YtnmkkflnehnioaaLtab
/-! The reference's coordinates (76): the same points in the same order. Condition: a size with at most 60 points in its plane. -/
namespace Go.Proofs.Ytnmkkflnehnioaa
open Go.RowKit
set_option maxRecDepth 100000

def refB (k t : Nat) : Bool := tripT k t 0 == 1 || (tripT k t 0 == 0 && tripT k t 1 == 1) || (tripT k t 0 == 0 && tripT k t 1 == 0 && tripT k t 2 == 1)
def refL (k : Nat) : Nat → List Nat
  | 0 => []
  | t + 1 => if refB k t then refL k t ++ [t] else refL k t
theorem ref_all : ∀ k : Nat, k < 5 → refL k (szN k * szN k * szN k) = allL k := by decide +kernel
theorem refL_le (k : Nat) : ∀ n, (refL k n).length ≤ n
  | 0 => Nat.le_refl _
  | n + 1 => by
    have := refL_le k n
    unfold refL
    split
    · rw [List.length_append]; simp; omega
    · omega
theorem info94 : (Try.prog.info? 94).map (fun i => (i.zero, i.size, i.bytes)) = some (some (.agg #[.int .i64 0, .int .i64 0, .int .i64 0]), 3, 24) := by kernel_rfl
theorem wpList_app94 (w : World) {ops : Array Oper} {rest : List Oper} {o : Oper} {a : Act} {Q : Exit → Act → World → Prop} (hgd : o.guard = none) (s x : Operand)
    (ho : o.op = .call { callee := .builtin .append, args := #[s, x], argTypes := #[97, 97] })
    (base : Nat) (v : Value) (n : Nat) (xs : List Value) (hs : a.eval s = v) (hown : w.ownsRow base 94 3 v n xs)
    (b c : Nat) (T : Nat → Nat) (hx : a.eval x = .slice (some ⟨b, 0, none⟩) 1 c) (hy : ∀ j, j < 3 → w.cell? ⟨b, j, none⟩ = some (.int .i64 (T j))) (hn : n < 4294967296) (hbase : base ≤ w.heap.size)
    (h : ∀ v' w', w'.ownsRow base 94 3 v' (n + 1) (xs ++ triCells T) → w.grownBy w' v.ownBlock → (v'.ownBlock = v.ownBlock ∨ v'.ownBlock = some w.heap.size) → wpList Try.prog ops Q rest (a.put o.dst v') w') :
    wpList Try.prog ops Q (o :: rest) a w := by
  obtain ⟨i, hi, hz0, hz1, hz2⟩ := info_parts info94
  exact wpList_append_own_at w hgd s x 97 ho base 94 i (.agg #[.int .i64 0, .int .i64 0, .int .i64 0]) 3 24 Try.underlying97 hi hz0 hz1 hz2 rfl (by decide) v n xs hs hown ⟨b, 0, none⟩ 1 c (triCells T) hx rfl (tri_news hy) (by intro u hu; simp [triCells] at hu; rcases hu with rfl | rfl | rfl <;> rfl) (by unfold maxLen; omega) (by omega) hbase
    (fun v' w' h2 h3 _ h5 => h v' w' h2 h3 h5)

theorem tri_cells3 {w : World} {b x y z : Nat} (h0 : w.cell? ⟨b, 0, none⟩ = some (.int .i64 x)) (h1 : w.cell? ⟨b, 1, none⟩ = some (.int .i64 y)) (h2 : w.cell? ⟨b, 2, none⟩ = some (.int .i64 z)) : ∀ j, j < 3 → w.cell? ⟨b, j, none⟩ = some (.int .i64 (tri x y z j)) := fun j hj => by
  have : j = 0 ∨ j = 1 ∨ j = 2 := by omega
  rcases this with rfl | rfl | rfl
  · exact h0
  · exact h1
  · exact h2
def CoAt (W w : World) (k : Nat) (v : Value) (t : Nat) : Prop := w.ownsRow W.heap.size 94 3 v (refL k t).length (flatV k (refL k t)) ∧ Below W.heap.size W w
theorem CoAt.skip {W w : World} {k t : Nat} {v : Value} (h : CoAt W w k v t) (hf : refB k t = false) : CoAt W w k v (t + 1) := by
  have e : refL k (t + 1) = refL k t := by rw [refL, if_neg (by simp [hf])]
  unfold CoAt
  rw [e]
  exact h
theorem CoAt.add {W w w' : World} {k t : Nat} {v v' : Value} {o : Obj} (h : CoAt W w k v t) (hf : refB k t = true) {T : Nat → Nat} (hT : triCells T = triCells (tripT k t)) (h' : w'.ownsRow W.heap.size 94 3 v' ((refL k t).length + 1) (flatV k (refL k t) ++ triCells T)) (hg : (w.alloc o).grownBy w' v.ownBlock) : CoAt W w' k v' (t + 1) := by
  have e : refL k (t + 1) = refL k t ++ [t] := by rw [refL, if_pos hf]
  have e2 : flatV k (refL k t ++ [t]) = flatV k (refL k t) ++ triCells (tripT k t) := by simp [flatV]
  refine ⟨?_, (h.2.alloc h.2.size o).grown hg (by have := h.2.size; simp; omega) (fun b e => (h.1.lt b e).1)⟩
  rw [e, List.length_append, e2, ← hT]
  exact h'

set_option maxHeartbeats 3200000 in
theorem coordinates_k {k : Nat} (hk : k < 5) (w : World) :
    Calls Try.prog 76 #[.int .i64 (szN k)] w fun e w' => ∃ v, e = .returned v ∧ w'.ownsRow w.heap.size 94 3 v (allL k).length (flatV k (allL k)) ∧ Below w.heap.size w w' := by
  have hk7 : k < 7 := by omega
  have hsz := (sz_facts k hk7).2.1
  have hR := ref_all k hk
  have hT := fun x y z t hy hz ht => @trip_at k x y z t hy hz ht
  generalize szN k = q at *
  have hQ81 : q * q ≤ 81 := Nat.mul_le_mul hsz.2 hsz.2
  obtain ⟨Q, hQ⟩ : ∃ Q, q * q = Q := ⟨_, rfl⟩
  rw [hQ] at hQ81 hR hT
  have HR := Lib.hid hR
  have HT := Lib.hid hT
  have HQ := Lib.hid hQ
  clear hQ hR hT
  go_enter Try.func76, Try.ntmps76
  go_wp2_with fail
  go_loopw [3, 4] (fun v xv wr => ∃ x : Nat, x ≤ q ∧ xv = .int .i64 x ∧ CoAt w wr k v (x * Q)) (fun _ xv _ => q - (intOf xv).toNat)
  case atStart => exact ⟨0, by omega, rfl, by rw [Nat.zero_mul]; exact ⟨World.ownsRow_nil _ _ _ _, Below.refl _ _⟩⟩
  case round =>
    obtain ⟨x, hx, rfl, hC⟩ := hrel
    by_cases hxl : x < q
    · go_wp2_with fail
      go_loopw [3, 5] (fun v yv wr => ∃ y : Nat, y ≤ q ∧ yv = .int .i64 y ∧ CoAt w wr k v (x * Q + y * q)) (fun _ yv _ => q - (intOf yv).toNat)
      case atStart => exact ⟨0, by omega, rfl, by rw [Nat.zero_mul, Nat.add_zero]; exact hC⟩
      case round =>
        obtain ⟨y, hy, rfl, hC2⟩ := hrel
        clear hC
        by_cases hyl : y < q
        · go_wp2_with fail
          go_loopw [3, 6] (fun v zv wr => ∃ z : Nat, z ≤ q ∧ zv = .int .i64 z ∧ CoAt w wr k v (x * Q + y * q + z)) (fun _ zv _ => q - (intOf zv).toNat)
          case atStart => exact ⟨0, by omega, rfl, hC2⟩
          case round =>
            obtain ⟨z, hz, rfl, hC3⟩ := hrel
            clear hC2
            by_cases hzl : z < q
            · obtain ⟨t, et⟩ : ∃ t, x * Q + y * q + z = t := ⟨_, rfl⟩
              have ht := HT.out x y z t hyl hzl et.symm
              have h1 : x * Q ≤ 9 * 81 := Nat.mul_le_mul (by omega) hQ81
              have h2 : y * q ≤ 9 * 9 := Nat.mul_le_mul (by omega) (by omega)
              have hle := refL_le k t
              have htl : (refL k t).length < 1000 := by omega
              have hrf : refB k t = (x == 1 || (x == 0 && y == 1) || (x == 0 && y == 0 && z == 1)) := by unfold refB; rw [ht.1, ht.2.1, ht.2.2]
              have hTc : triCells (tri x y z) = triCells (tripT k t) := by unfold triCells; rw [ht.1, ht.2.1, ht.2.2]; rfl
              rw [et] at hC3
              have hskip : refB k t = false → CoAt w wr k _ (x * Q + y * q + (z + 1)) := fun hf => by rw [← Nat.add_assoc, et]; exact hC3.skip hf
              have hadd : ∀ o v' w', refB k t = true → w'.ownsRow w.heap.size 94 3 v' ((refL k t).length + 1) (flatV k (refL k t) ++ triCells (tri x y z)) → (wr.alloc o).grownBy w' _ → CoAt w w' k v' (x * Q + y * q + (z + 1)) := fun o v' w' hf h' hg => by
                rw [← Nat.add_assoc, et]; exact hC3.add hf hTc h' hg
              have HS := Lib.hid hskip
              have HAd := Lib.hid hadd
              have ho := hC3.1
              have hsz2 := hC3.2.size
              clear hskip hadd ht hle h1 h2 et hC3 hTc
              by_cases hx1 : (x : Int) ≤ 1 ∧ 1 ≤ (x : Int)
              · have HB := Lib.hid (show refB k t = true by rw [hrf]; simp; omega)
                clear hrf
                go_wp2_with (first
                  | (at_builtin; refine wpList_app94 _ rfl (.tmp 44) (.tmp 49) rfl w.heap.size _ (refL k t).length _ rfl (ho.alloc _) wr.heap.size 1 (tri x y z) rfl (tri_cells3 (by simp [go_sem] <;> omega) (by simp [go_sem] <;> omega) (by simp [go_sem] <;> omega)) (by omega) (by simp; omega) ?_; intro v' w6 o6 g6 k6)
                  | fail)
                have e1 : Value.int IntKind.i64 1 = Value.int IntKind.i64 (x : Int) := by congr 1; omega
                rw [e1]
                go_roundw
                case rel =>
                  refine ⟨z + 1, ?_, ?_, ?_⟩
                  · omega
                  · first | go_num | (simp; omega)
                  · exact HAd.out _ _ _ HB.out o6 g6
                case measure => simp [intOf]; omega
              by_cases hx0 : (x : Int) ≤ 0 ∧ 0 ≤ (x : Int)
              · by_cases hy1 : (y : Int) ≤ 1 ∧ 1 ≤ (y : Int)
                · have HB := Lib.hid (show refB k t = true by rw [hrf]; simp; omega)
                  clear hrf
                  go_wp2_with (first
                    | (at_builtin; refine wpList_app94 _ rfl (.tmp 44) (.tmp 49) rfl w.heap.size _ (refL k t).length _ rfl (ho.alloc _) wr.heap.size 1 (tri x y z) rfl (tri_cells3 (by simp [go_sem] <;> omega) (by simp [go_sem] <;> omega) (by simp [go_sem] <;> omega)) (by omega) (by simp; omega) ?_; intro v' w6 o6 g6 k6)
                    | fail)
                  have e1 : Value.int IntKind.i64 1 = Value.int IntKind.i64 (y : Int) := by congr 1; omega
                  rw [e1]
                  have e0 : Value.int IntKind.i64 0 = Value.int IntKind.i64 (x : Int) := by congr 1; omega
                  rw [e0]
                  go_roundw
                  case rel =>
                    refine ⟨z + 1, ?_, ?_, ?_⟩
                    · omega
                    · first | go_num | (simp; omega)
                    · exact HAd.out _ _ _ HB.out o6 g6
                  case measure => simp [intOf]; omega
                by_cases hy0 : (y : Int) ≤ 0 ∧ 0 ≤ (y : Int)
                · have hyx : x = y := by omega
                  subst hyx
                  by_cases hz1 : (z : Int) ≤ 1 ∧ 1 ≤ (z : Int)
                  · have HB := Lib.hid (show refB k t = true by rw [hrf]; simp; omega)
                    clear hrf
                    go_wp2_with (first
                      | (at_builtin; refine wpList_app94 _ rfl (.tmp 44) (.tmp 49) rfl w.heap.size _ (refL k t).length _ rfl (ho.alloc _) wr.heap.size 1 (tri x x z) rfl (tri_cells3 (by simp [go_sem] <;> omega) (by simp [go_sem] <;> omega) (by simp [go_sem] <;> omega)) (by omega) (by simp; omega) ?_; intro v' w6 o6 g6 k6)
                      | fail)
                    have e0 : Value.int IntKind.i64 0 = Value.int IntKind.i64 (x : Int) := by congr 1; omega
                    rw [e0]
                    go_roundw
                    case rel =>
                      refine ⟨z + 1, ?_, ?_, ?_⟩
                      · omega
                      · first | go_num | (simp; omega)
                      · exact HAd.out _ _ _ HB.out o6 g6
                    case measure => simp [intOf]; omega
                  · have HB := Lib.hid (show refB k t = false by rw [hrf]; simp; omega)
                    clear hrf
                    go_wp2_with fail
                    have e0 : Value.int IntKind.i64 0 = Value.int IntKind.i64 (x : Int) := by congr 1; omega
                    rw [e0]
                    go_roundw
                    case rel =>
                      refine ⟨z + 1, ?_, ?_, ?_⟩
                      · omega
                      · first | go_num | (simp; omega)
                      · exact HS.out HB.out
                    case measure => simp [intOf]; omega
                · have HB := Lib.hid (show refB k t = false by rw [hrf]; simp; omega)
                  clear hrf
                  go_wp2_with fail
                  have e0 : Value.int IntKind.i64 0 = Value.int IntKind.i64 (x : Int) := by congr 1; omega
                  rw [e0]
                  go_roundw
                  case rel =>
                    refine ⟨z + 1, ?_, ?_, ?_⟩
                    · omega
                    · first | go_num | (simp; omega)
                    · exact HS.out HB.out
                  case measure => simp [intOf]; omega
              · have HB := Lib.hid (show refB k t = false by rw [hrf]; simp; omega)
                clear hrf
                go_wp2_with fail
                go_roundw
                case rel =>
                  refine ⟨z + 1, ?_, ?_, ?_⟩
                  · omega
                  · first | go_num | (simp; omega)
                  · exact HS.out HB.out
                case measure => simp [intOf]; omega
            · obtain rfl : z = q := by omega
              go_wp2_with fail
              go_roundw
              case rel => exact ⟨y + 1, by omega, by go_num, by rw [Nat.succ_mul, ← Nat.add_assoc]; exact hC3⟩
              case measure => simp [intOf]; omega
        · obtain rfl : y = q := by omega
          go_wp2_with fail
          go_roundw
          case rel => exact ⟨x + 1, by omega, by go_num, by rw [Nat.succ_mul, ← HQ.out]; rw [← HQ.out] at hC2; exact hC2⟩
          case measure => simp [intOf]; omega
    · obtain rfl : x = q := by omega
      go_wp2_with fail
      go_ret
      have e : x * Q = Q * x := Nat.mul_comm _ _
      rw [e] at hC
      have hC1 := hC.1
      rw [HR.out] at hC1
      exact ⟨_, rfl, hC1, hC.2⟩
end Go.Proofs.Ytnmkkflnehnioaa

/-! The reference's projective plane (45): the same lines. Condition: a size with at most 60 points. -/
namespace Go.Proofs.Ytnmkkflnehnioaa
open Go.RowKit
set_option maxRecDepth 100000

theorem results_des1 {fn : Func} {p : Tmp} (h : fn.results = #[.cell p 48]) (tmps : Array Value) (w : World) (b : Nat) (x v : Value) (hp : tmps.getD p undef = .pointer (some ⟨b, 0, none⟩))
    (c0 : w.cell? ⟨b, 0, none⟩ = some x) (c1 : w.cell? ⟨b, 1, none⟩ = some v) : (results fn tmps).run Try.prog w = .ok (.agg #[x, v]) w := by
  have hp2 : tmps[p]?.getD undef = .pointer (some ⟨b, 0, none⟩) := by simpa using hp
  simp only [results, h]
  simp [go_sem, Sem.run_bind, Result.andThen, hp2, c0, c1]

set_option maxHeartbeats 3200000 in
theorem rproj_k {k : Nat} (hk : k < 5) (w : World) : Calls Try.prog 45 #[.int .i64 (szN k)] w fun e w' => ∃ v, e = .returned (.agg #[.int .i64 ((allL k).length : Nat), v]) ∧ RowsOf w' w.heap.size v (allL k).length (lineL k) ∧ Below w.heap.size w w' := by
  have hk7 : k < 7 := by omega
  have hc := count_k k hk
  have h60 := sq60 hk
  have HC := Lib.hid (fun W => coordinates_k hk W)
  obtain ⟨n, en⟩ : ∃ n, (allL k).length = n := ⟨_, rfl⟩
  have HEN := Lib.hid en
  rw [en]
  rw [en] at hc
  have hn60 : 0 < n ∧ n ≤ 60 := by omega
  have hszk : 2 ≤ szN k ∧ szN k ≤ 9 := (sz_facts k hk7).2.1
  clear hc h60 en
  go_enter Try.func45, Try.ntmps45
  go_wp2_with fail
  refine (HC.out _).mono ?_
  rintro e w1 ⟨v, rfl, ho, hB1⟩
  rw [HEN.out] at ho
  obtain ⟨g, c, rfl⟩ := own_form ho hn60.1
  have hg : g < w1.heap.size := (ho.lt g (by simp [Value.ownBlock])).2
  have hpt : ∀ i j, i < n → j < 3 → w1.cell? ⟨g, i * 3 + j, none⟩ = some (.int .i64 (ptT k i j)) := fun i j hi hj => by
    have := ho.cellAt (i * 3 + j) (by omega)
    rw [this]
    exact flatV_get k _ i j (by rw [HEN.out]; exact hi) hj
  clear ho HC
  go_wp2_with fail
  obtain ⟨w2, hw2⟩ : ∃ w2, w1.alloc (.cells #[.int .i64 (n : Nat), .slice none 0 0] 48) = w2 := ⟨_, rfl⟩
  have hP0 : DM w1 w2 w1.heap.size n (lineL k) 0 := by
    rw [← hw2]
    exact ⟨(Below.refl _ _).alloc (Nat.le_refl _) _, .slice none 0 0, by simpa using heap_alloc_new w1 _, [], World.ownsRow_nil _ _ _ _, fun i hi => absurd hi (Nat.not_lt_zero _)⟩
  rw [hw2]
  clear hw2
  go_loopw [5] (fun v wr => ∃ i : Nat, i ≤ n ∧ v = .int .i64 i ∧ DM w1 wr w1.heap.size n (lineL k) i) (fun v _ => n - (intOf v).toNat)
  case atStart => exact ⟨0, by omega, rfl, hP0⟩
  case round =>
    obtain ⟨i, hi, rfl, hP⟩ := hrel
    by_cases hlt : i < n
    · obtain ⟨wp, rfl⟩ : ∃ wp : World, wp = wr := ⟨_, rfl⟩
      have HPM := Lib.hid hP
      clear hP hP0
      go_wp2_with fail
      go_loopw [6, 7] (fun v x wx => ∃ j : Nat, j ≤ n ∧ x = .int .i64 j ∧ wx.ownsRow wp.heap.size 3 1 v (lineTo k i j).length (natVals (lineTo k i j)) ∧ Below wp.heap.size wp wx) (fun _ x _ => n - (intOf x).toNat)
      case atStart => exact ⟨0, by omega, rfl, World.ownsRow_nil _ _ _ _, Below.refl _ _⟩
      case round =>
        obtain ⟨j, hj, rfl, ho, hbx⟩ := hrel
        obtain ⟨wx, rfl⟩ : ∃ wx : World, wx = wr := ⟨_, rfl⟩
        have B3 : Below w1.heap.size w1 wx := HPM.out.below.trans (hbx.mono HPM.out.below.size)
        by_cases hjt : j < n
        · have HO := Lib.hid ho
          have HBX := Lib.hid hbx
          clear ho hbx
          go_wp2_with fail
          go_loopw [8, 9] (fun s x wz => ∃ t : Nat, t ≤ 3 ∧ x = .int .i64 t ∧ s = .int .i64 (dotTo k (ptT k i) (ptT k j) t) ∧ Below wx.heap.size wx wz) (fun _ x _ => 3 - (intOf x).toNat)
          case atStart => exact ⟨0, by omega, rfl, rfl, Below.refl _ _⟩
          case round =>
            obtain ⟨t, ht, rfl, rfl, hbz⟩ := hrel
            have B4 : Below w1.heap.size w1 wr := B3.trans (hbz.mono B3.size)
            by_cases htt : t < 3
            · have u0 : wr.cell? ⟨g, i * 3 + t, none⟩ = _ := (B4.cell (p := ⟨g, i * 3 + t, none⟩) hg).trans (hpt i t hlt htt)
              have u1 : wr.cell? ⟨g, j * 3 + t, none⟩ = _ := (B4.cell (p := ⟨g, j * 3 + t, none⟩) hg).trans (hpt j t hjt htt)
              have hd3 : decide ((t : Int) < 3) = true := by simp; omega
              have p0 := pt_lt hk7 (i := i) (by rw [HEN.out]; exact hlt) t htt
              have p1 := pt_lt hk7 (i := j) (by rw [HEN.out]; exact hjt) t htt
              have p2 := (tab_at hk7 p0 p1).2.2.2
              have p3 := dotTo_lt hk7 (T := ptT k i) (U := ptT k j) (pt_lt hk7 (by rw [HEN.out]; exact hlt)) (pt_lt hk7 (by rw [HEN.out]; exact hjt)) t ht
              have hn : dotTo k (ptT k i) (ptT k j) (t + 1) = sumN k (dotTo k (ptT k i) (ptT k j) t) (prodN k (ptT k i t) (ptT k j t)) := rfl
              have HM := Lib.hid (rmul hk7 _ _ p0 p1)
              have HS := Lib.hid (radd hk7 _ _ p3 p2)
              have HN := Lib.hid hn
              have HBZ := Lib.hid hbz
              clear hn p0 p1 p2 p3
              go_wp2_with fail
              (first | go_region_with (first | (go_at_call 30; refine (HM.out _).mono ?_; rintro e w5 ⟨rfl, b5⟩) | (go_at_call 29; refine (HS.out _).mono ?_; rintro e w6 ⟨rfl, b6⟩)) | fail)
              all_goals (
                go_wp2_with fail
                go_roundw
                case rel =>
                  refine ⟨t + 1, by omega, by go_num, by rw [HN.out], ?_⟩
                  have hb5 := HBZ.out.drew.trans (b5.mono HBZ.out.size)
                  exact hb5.trans (b6.mono hb5.size)
                case measure => simp [intOf]; omega)
            · obtain rfl : t = 3 := by omega
              have ho5 := own_below HO.out hbz (Nat.le_refl _)
              have hb5 := HBX.out.trans (hbz.mono HBX.out.size)
              have hz5 := hb5.size
              have hle := lineTo_le k i j
              by_cases hd : dotTo k (ptT k i) (ptT k j) 3 = 0
              · have HD := Lib.hid hd
                rw [hd]
                clear hd
                go_wp2_with (first
                  | (at_builtin; refine wpList_app3 _ rfl (.tmp 50) (.tmp 52) rfl wp.heap.size _ (lineTo k i j).length _ rfl (ho5.alloc _) ⟨wr.heap.size, 0, none⟩ _ _ rfl (by simp [go_sem]; rfl) rfl (by omega) (by simp; omega) ?_; intro v' w6 o6 g6 k6)
                  | fail)
                go_roundw
                case rel =>
                  refine ⟨j + 1, by omega, by go_num, ?_, (hb5.alloc hz5 _).grown g6 (by simp; omega) (fun b e => (ho5.lt b e).1)⟩
                  have e1 : lineTo k i (j + 1) = lineTo k i j ++ [j] := by rw [lineTo, if_pos HD.out]
                  rw [e1, List.length_append]
                  have e2 : natVals (lineTo k i j ++ [j]) = natVals (lineTo k i j) ++ [.int .i64 (j : Nat)] := by simp [natVals]
                  rw [e2]
                  exact o6
                case measure => simp [intOf]; omega
              · have hdi : ¬ (dotTo k (ptT k i) (ptT k j) 3 : Int) = 0 := by omega
                have HD := Lib.hid hd
                clear hd
                go_wp2_with fail
                go_roundw
                case rel =>
                  have e1 : lineTo k i (j + 1) = lineTo k i j := by rw [lineTo, if_neg HD.out]
                  exact ⟨j + 1, by omega, by go_num, by rw [e1]; exact ho5, hb5⟩
                case measure => simp [intOf]; omega
        · obtain rfl : j = n := by omega
          obtain ⟨vd, hh, rows, ho38, hrows⟩ := HPM.out.heap
          obtain ⟨A, cd, rfl⟩ := own_slice ho38
          obtain ⟨A9, c9, rfl⟩ := own_slice ho
          have ho38' := own_below ho38 hbx (Nat.le_refl _)
          have hdl : w1.heap.size < wp.heap.size := lt_of_block hh
          have hhr := (hbx.block w1.heap.size hdl).trans hh
          have cd0 : wx.cell? ⟨w1.heap.size, 1, none⟩ = some (.slice A i cd) := by simp [World.cell?, hhr]
          have l5 : w1.heap.size < wx.heap.size := Nat.lt_of_lt_of_le hdl hbx.size
          have l6 : ¬ w1.heap.size = wx.heap.size := by omega
          go_wp2_with (first
            | (at_builtin; refine wpList_app38 _ rfl (.tmp 55) (.tmp 57) rfl (w1.heap.size + 1) _ i _ rfl (ho38'.alloc _) ⟨wx.heap.size, 0, none⟩ _ _ rfl (by simp [go_sem]; rfl) rfl (by omega) (by simp; omega) ?_; intro v' w6 o6 g6 k6; obtain ⟨A1, cc1, e1⟩ := own_slice o6; subst e1; obtain ⟨h6, d1, d2⟩ := after_app48 hhr g6 (fun b e => (ho38'.lt b e).1))
            | fail)
          go_wp2_with fail
          go_roundw
          case rel =>
            refine ⟨i + 1, by omega, by go_num, ?_⟩
            have eL : lineL k i = lineTo k i j := by rw [← HEN.out]; rfl
            exact DM.snoc (HPM.out.below.trans (hbx.mono (Nat.le_of_lt hdl))) hhr (own_below ho38 hbx (Nat.le_refl _)) (fun a ha => by obtain ⟨rv, r1, r2⟩ := hrows a ha; exact ⟨rv, r1, own_below r2 hbx (Nat.le_refl _)⟩) (by rw [eL]; exact ho) (by omega) o6 g6
          case measure => simp [intOf]; omega
    · obtain rfl : i = n := by omega
      obtain ⟨vd, hh, hrows⟩ := hP.heap
      obtain ⟨A, cd, rfl⟩ := own_slice hrows.choose_spec.1
      obtain ⟨d0, d1, -, -⟩ := cells2 hh
      have hq := hP.below
      obtain ⟨r0, r1, r2, r3, hBw⟩ := des_cells hB1
      have hwl := World.block_lt_of_cell? _ _ r0
      have e0 := (hq.cell (p := ⟨w.heap.size, 0, none⟩) hwl).trans r0
      have e1 := (hq.cell (p := ⟨w.heap.size, 1, none⟩) hwl).trans r1
      have e2 := (hq.frozen (p := ⟨w.heap.size, 0, none⟩) hwl).trans r2
      have e3 := (hq.frozen (p := ⟨w.heap.size, 1, none⟩) hwl).trans r3
      have hBr := hBw.trans (hq.mono hBw.size)
      have D := des_out (.int .i64 i) (.slice A i cd) e0 e1 hBr
      have hwl2 : w.heap.size < w1.heap.size + 1 := Nat.lt_succ_of_lt hwl
      clear r0 r1 r2 r3
      go_wp2_with fail
      (try simp only [Exit.inBlock, Exit.then])
      refine bodyPost_ret_by (results_des1 rfl _ _ w.heap.size _ _ rfl D.c0 D.c1) rfl ?_
      exact ⟨_, rfl, ((hrows.setCell hwl2 _).setCell hwl2 _).weaken (Nat.le_of_lt hwl2), D.below⟩
end Go.Proofs.Ytnmkkflnehnioaa
