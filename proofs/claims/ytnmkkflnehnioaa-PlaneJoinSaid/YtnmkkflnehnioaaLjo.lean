/-
  THE LAW PlaneJoin returns true: its walk. No condition.
-/
import Derived.Test.YtnmkkflnehnioaaPk
namespace Go.Proofs.Ytnmkkflnehnioaa
open Go.RowKit
set_option maxRecDepth 100000

theorem through_le (k a b : Nat) (n : Nat) : (through k a b n).length ≤ n := by
  unfold through
  have := List.length_filter_le (fun g => (lineL k g).contains a && (lineL k g).contains b) (List.range n)
  rw [List.length_range] at this
  exact this
theorem through_yes {k a b n : Nat} (h1 : (lineL k n).contains a = true) (h2 : (lineL k n).contains b = true) : through k a b (n + 1) = through k a b n ++ [n] := by
  unfold through
  rw [List.range_succ, List.filter_append, show List.filter (fun g => (lineL k g).contains a && (lineL k g).contains b) [n] = [n] by simp only [List.filter, h1, h2, Bool.and_self]]
theorem through_no {k a b n : Nat} (h : ((lineL k n).contains a && (lineL k n).contains b) = false) : through k a b (n + 1) = through k a b n := by
  unfold through
  rw [List.range_succ, List.filter_append, show List.filter (fun g => (lineL k g).contains a && (lineL k g).contains b) [n] = [] by simp only [List.filter, h], List.append_nil]
set_option maxHeartbeats 3200000 in
theorem walk_join (n i j : Nat) (hn : n ≤ 255) (hi : i ≤ 255) (hj : j ≤ 255) (w : World) : Calls Try.prog 16 #[.int .u8 n, .int .u8 i, .int .u8 j] w fun e w' => e = .returned (.bool true) ∧ Below w.heap.size w w' := by
  obtain ⟨k, ek⟩ : ∃ k, n % 5 = k := ⟨_, rfl⟩
  have hk : k < 5 := by omega
  have hS := fun W => size48 n hn W
  rw [ek] at hS
  have HS := Lib.hid hS
  have HP := Lib.hid (fun W => proj_rd hk W)
  have hc := count_k k hk
  have h60 := sq60 hk
  obtain ⟨N, eN⟩ : ∃ N, (allL k).length = N := ⟨_, rfl⟩
  have HEN := Lib.hid eN
  obtain ⟨q, eq⟩ : ∃ q, szN k = q := ⟨_, rfl⟩
  have HEQ := Lib.hid eq
  rw [eN, eq] at hc
  rw [eq] at h60
  rw [eq] at HS HP
  rw [eN] at HP
  have hmul : (q : Int) * (q : Int) = ((q * q : Nat) : Int) := by push_cast; rfl
  obtain ⟨Q, eQ⟩ : ∃ Q, q * q = Q := ⟨_, rfl⟩
  rw [eQ] at hc h60 hmul
  have hN0 : ¬ (N : Int) = 0 := by omega
  obtain ⟨a, ea⟩ : ∃ a, i % N = a := ⟨_, rfl⟩
  obtain ⟨b, eb⟩ : ∃ b, j % N = b := ⟨_, rfl⟩
  have haN : a < N := ea ▸ Nat.mod_lt _ (by omega)
  have hbN : b < N := eb ▸ Nat.mod_lt _ (by omega)
  have ta : Int.tmod (i : Int) (N : Int) = (a : Int) := by rw [← ea]; rfl
  have tb : Int.tmod (j : Int) (N : Int) = (b : Int) := by rw [← eb]; rfl
  have hsum : (Q : Int) + (q : Int) + 1 = (N : Int) := by omega
  have hN60 : N ≤ 60 := by omega
  clear hS ek eN eq eQ ea eb hc
  go_enter Try.func16, Try.ntmps16
  go_wp2_with fail
  refine (awake6 _).mono ?_
  rintro e w1 ⟨rfl, B1⟩
  go_wp2_with fail
  refine (HS.out _).mono ?_
  rintro e w2 ⟨rfl, B2⟩
  go_wp2_with fail
  refine (HP.out _).mono ?_
  rintro e w3 ⟨g, c, rfl, hr, B3⟩
  have hB := (B1.trans (B2.mono B1.size)).trans (B3.mono (Nat.le_trans B1.size B2.size))
  obtain ⟨wa, hwa⟩ : ∃ wa, w3.alloc (.cells #[.int .i64 N, .slice (some ⟨g, 0, none⟩) N c] 48) = wa := ⟨_, rfl⟩
  have ha : Below w3.heap.size w3 wa := hwa ▸ (Below.refl _ w3).alloc (Nat.le_refl _) _
  have a0 : wa.cell? ⟨w3.heap.size, 0, none⟩ = some (.int .i64 N) := by rw [← hwa]; simp [go_sem]
  have a1 : wa.cell? ⟨w3.heap.size, 1, none⟩ = some (.slice (some ⟨g, 0, none⟩) N c) := by rw [← hwa]; simp [go_sem]
  have hq := hr.below ha
  have hNc := row_cap hq
  have hBa := hB.trans (ha.mono hB.size)
  have hzw : w3.heap.size < wa.heap.size := World.block_lt_of_cell? _ _ a0
  have HBA := Lib.hid hBa
  clear hr ha hB B1 B2 B3 hBa HS HP
  have HQ := Lib.hid hq
  clear hq
  go_wp2_with fail
  (try rw [hwa])
  clear hwa
  go_region
  go_wp2_with fail
  obtain ⟨wd, hwd⟩ : ∃ wd, wa.drew = wd := ⟨_, rfl⟩
  have hBd : Below wa.heap.size wa wd := hwd ▸ (Below.refl _ wa).drew
  have a0 := (hBd.cell (p := ⟨w3.heap.size, 0, none⟩) hzw).trans a0
  have a1 := (hBd.cell (p := ⟨w3.heap.size, 1, none⟩) hzw).trans a1
  have HQD := Lib.hid (HQ.out.below hBd)
  have HBD := Lib.hid (HBA.out.trans (hBd.mono HBA.out.size))
  rw [hwd]
  clear hwd hBd HQ HBA hzw
  clear hmul hsum
  go_loopw [12, 13] (fun v gv wx => ∃ t : Nat, t ≤ N ∧ gv = .int .i64 t ∧ wx.ownsRow wd.heap.size 3 1 v (through k a b t).length (natVals (through k a b t)) ∧ Below wd.heap.size wd wx) (fun _ x _ => N - (intOf x).toNat)
  case atStart => exact ⟨0, by omega, rfl, World.ownsRow_nil _ _ _ _, Below.refl _ _⟩
  case round =>
    obtain ⟨t, ht, rfl, ho, hb⟩ := hrel
    have a1' := (hb.cell (p := ⟨w3.heap.size, 1, none⟩) (World.block_lt_of_cell? _ _ a1)).trans a1
    by_cases htl : t < N
    · obtain ⟨rt, dt, ct, r1⟩ := row_at (HQD.out.below hb) t htl
      have hlt := line_length hk (by rw [HEN.out]; exact htl)
      rw [HEQ.out] at hlt
      have H1 := Lib.hid (has_any (lineL k t) (by rw [hlt]; omega) a wr _ r1)
      have H2 := Lib.hid (has_any (lineL k t) (by rw [hlt]; omega) b wr _ r1)
      rw [hlt] at ct H1 H2
      have hthr := through_le k a b t
      have hz := hb.size
      clear r1 hlt
      cases e1 : (lineL k t).contains a
      · have HN := Lib.hid (through_no (k := k) (a := a) (b := b) (n := t) (by rw [e1]; rfl))
        rw [e1] at H1
        clear e1
        go_wp2_with (first | (go_at_call 51; refine H1.out.mono ?_; rintro e w' ⟨rfl, rfl⟩) | fail)
        go_roundw
        case rel => exact ⟨t + 1, by omega, by go_num, by rw [HN.out]; exact ho, hb⟩
        case measure => simp [intOf]; omega
      · cases e2 : (lineL k t).contains b
        · have HN := Lib.hid (through_no (k := k) (a := a) (b := b) (n := t) (by rw [e1, e2]; rfl))
          rw [e1] at H1
          rw [e2] at H2
          clear e1 e2
          go_wp2_with fail
          refine H1.out.mono ?_
          rintro e w' ⟨rfl, rfl⟩
          go_wp2_with fail
          refine H2.out.mono ?_
          rintro e w' ⟨rfl, rfl⟩
          go_wp2_with fail
          go_roundw
          case rel => exact ⟨t + 1, by omega, by go_num, by rw [HN.out]; exact ho, hb⟩
          case measure => simp [intOf]; omega
        · have HN := Lib.hid (through_yes (k := k) (a := a) (b := b) (n := t) e1 e2)
          rw [e1] at H1
          rw [e2] at H2
          clear e1 e2
          go_wp2_with fail
          refine H1.out.mono ?_
          rintro e w' ⟨rfl, rfl⟩
          go_wp2_with fail
          refine H2.out.mono ?_
          rintro e w' ⟨rfl, rfl⟩
          go_wp2_with (first | (at_builtin; refine wpList_app3 _ rfl (.tmp 71) (.tmp 73) rfl wd.heap.size _ (through k a b t).length _ rfl (ho.alloc _) ⟨wr.heap.size, 0, none⟩ _ _ rfl (by simp [go_sem]; rfl) rfl (by omega) (by simp; omega) ?_; intro v' w6 o6 g6 k6) | fail)
          go_roundw
          case rel =>
            refine ⟨t + 1, by omega, by go_num, ?_, (hb.alloc hz _).grown g6 (by simp; omega) (fun b e => (ho.lt b e).1)⟩
            rw [HN.out, List.length_append, show natVals (through k a b t ++ [t]) = natVals (through k a b t) ++ [.int .i64 (t : Nat)] by simp [natVals]]
            exact o6
          case measure => simp [intOf]; omega
    · obtain rfl : t = N := by omega
      have hBw := HBD.out.trans (hb.mono HBD.out.size)
      by_cases hab : a = b
      · subst hab
        have hl := through_same hk (by rw [HEN.out]; exact haN)
        rw [HEN.out, HEQ.out] at hl
        rw [hl] at ho
        obtain ⟨A9, c9, rfl⟩ := own_slice ho
        clear hl
        go_wp2_with fail
        go_ret
        exact ⟨rfl, hBw⟩
      · have habi : ¬ (a : Int) = (b : Int) := by omega
        have hl := through_ne hk (by rw [HEN.out]; exact haN) (by rw [HEN.out]; exact hbN) hab
        rw [HEN.out] at hl
        rw [hl] at ho
        have HJO : Hid (∀ W, Calls Try.prog 52 #[.int .i64 q, .int .i64 a, .int .i64 b] W (Pair W (meetN k a b : Nat) 0)) := Lib.hid fun W => by
          rw [← HEQ.out]
          exact join_of (fun W => common_yes hk (by rw [HEN.out]; exact haN) (by rw [HEN.out]; exact hbN) hab W) W
        obtain ⟨p, ep⟩ : ∃ p, meetN k a b = p := ⟨_, rfl⟩
        rw [ep] at ho HJO
        obtain ⟨g5, c5, rfl⟩ := own_form ho (by simp)
        have y0 := own_cell ho (j := 0) (u := .int .i64 (p : Nat)) (by simp [natVals])
        clear hl ep hab
        go_wp2_with fail
        refine (HJO.out _).mono ?_
        rintro e w6 ⟨rfl, b6⟩
        have y0 := (b6.cell (p := ⟨g5, 0, none⟩) (World.block_lt_of_cell? _ _ y0)).trans y0
        go_wp2_with fail
        go_ret
        exact ⟨rfl, hBw.trans (b6.mono hBw.size)⟩
end Go.Proofs.Ytnmkkflnehnioaa
