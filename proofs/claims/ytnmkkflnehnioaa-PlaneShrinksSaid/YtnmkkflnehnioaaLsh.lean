/-
  THE LAW PlaneShrinks returns true: its walk. No condition.
-/
import Derived.Test.YtnmkkflnehnioaaPn
namespace Go.Proofs.Ytnmkkflnehnioaa
open Go.RowKit
set_option maxRecDepth 100000

theorem belowS {B : Nat} {a w : World} (h : Below B a w) (n : Nat) : Below B a (w.drewN n) := ⟨h.os, h.tape, h.output, h.size, h.block⟩
set_option maxHeartbeats 3200000 in
theorem walk_shrinks (n i : Nat) (hn : n ≤ 255) (hi : i ≤ 255) (w : World) : Calls Try.prog 14 #[.int .u8 n, .int .u8 i] w fun e w' => e = .returned (.bool true) ∧ Below w.heap.size w w' := by
  obtain ⟨k, ek⟩ : ∃ k, n % 5 = k := ⟨_, rfl⟩
  have hk : k < 5 := by omega
  have hS := fun W => size48 n hn W
  rw [ek] at hS
  have HS := Lib.hid hS
  have HP := Lib.hid (fun W => proj_rd hk W)
  have hc := count_k k hk
  have h60 := sq60 hk
  obtain ⟨N, eN⟩ : ∃ N, (allL k).length = N := ⟨_, rfl⟩
  have HEN := Lib.hid eN
  obtain ⟨q, eq⟩ : ∃ q, szN k = q := ⟨_, rfl⟩
  have HEQ := Lib.hid eq
  rw [eN, eq] at hc
  rw [eq] at h60
  rw [eq] at HS HP
  rw [eN] at HP
  have hmul : (q : Int) * (q : Int) = ((q * q : Nat) : Int) := by push_cast; rfl
  have hmk : ∀ W, (Instr.makeSlice 38 (.int .i64 N) (.int .i64 N)).run Try.prog W = .ok (.slice (some ⟨W.heap.size, 0, none⟩) N N) (W.alloc (.cells (intCells (List.replicate N 0)) 3)) := by
    have h5 : N = 7 ∨ N = 13 ∨ N = 21 ∨ N = 31 ∨ N = 57 := by
      rw [← eN, all_eq k hk]
      have : k = 0 ∨ k = 1 ∨ k = 2 ∨ k = 3 ∨ k = 4 := by omega
      rcases this with rfl | rfl | rfl | rfl | rfl <;> decide
    intro W
    rcases h5 with h | h | h | h | h <;> (rw [h]; kernel_rfl)
  obtain ⟨Q, eQ⟩ : ∃ Q, q * q = Q := ⟨_, rfl⟩
  rw [eQ] at hc h60 hmul
  have hN0 : ¬ (N : Int) = 0 := by omega
  obtain ⟨a, ea⟩ : ∃ a, i % N = a := ⟨_, rfl⟩
  have haN : a < N := ea ▸ Nat.mod_lt _ (by omega)
  have ta : Int.tmod (i : Int) (N : Int) = (a : Int) := by rw [← ea]; rfl
  have hsum : (Q : Int) + (q : Int) + 1 = (N : Int) := by omega
  have hN60 : N ≤ 60 := by omega
  clear hS ek eN eq eQ ea hc
  go_enter Try.func14, Try.ntmps14
  go_wp2_with fail
  refine (awake6 _).mono ?_
  rintro e w1 ⟨rfl, B1⟩
  go_wp2_with fail
  refine (HS.out _).mono ?_
  rintro e w2 ⟨rfl, B2⟩
  go_wp2_with fail
  refine (HP.out _).mono ?_
  rintro e w3 ⟨g, c, rfl, hr, B3⟩
  have hB := (B1.trans (B2.mono B1.size)).trans (B3.mono (Nat.le_trans B1.size B2.size))
  obtain ⟨wa, hwa⟩ : ∃ wa, w3.alloc (.cells #[.int .i64 N, .slice (some ⟨g, 0, none⟩) N c] 48) = wa := ⟨_, rfl⟩
  have ha : Below w3.heap.size w3 wa := hwa ▸ (Below.refl _ w3).alloc (Nat.le_refl _) _
  have a0 : wa.cell? ⟨w3.heap.size, 0, none⟩ = some (.int .i64 N) := by rw [← hwa]; simp [go_sem]
  have a1 : wa.cell? ⟨w3.heap.size, 1, none⟩ = some (.slice (some ⟨g, 0, none⟩) N c) := by rw [← hwa]; simp [go_sem]
  have hq := hr.below ha
  have hNc := row_cap hq
  have hBa := hB.trans (ha.mono hB.size)
  have hzw : w3.heap.size < wa.heap.size := World.block_lt_of_cell? _ _ a0
  have HBA := Lib.hid hBa
  clear hr ha hB B1 B2 B3 hBa HS HP
  have HQ := Lib.hid hq
  clear hq
  go_wp2_with fail
  (try rw [hwa])
  clear hwa
  obtain ⟨C, hC⟩ : ∃ C, wa.heap.size = C := ⟨_, rfl⟩
  obtain ⟨w4, hw4⟩ : ∃ w4, wa.alloc (.cells (intCells (List.replicate N 0)) 3) = w4 := ⟨_, rfl⟩
  have hB4 : Below C wa w4 := by rw [← hw4, ← hC]; exact (Below.refl _ wa).alloc (Nat.le_refl _) _
  have hR4 : RowAt w4 C (rowF N (cntI k a 0)) := by
    have : rowF N (cntI k a 0) = List.replicate N 0 := rowF_zero N
    rw [this, ← hw4, ← hC]
    exact RowAt.new wa _
  have HCw := Lib.hid hC
  rw [hw4, hC]
  rw [hC] at hzw
  clear hw4 hmk hmul hsum ta hC
  have HK : Hid (∀ W, Below C wa W → W.cell? ⟨w3.heap.size, 1, none⟩ = some (.slice (some ⟨g, 0, none⟩) N c) ∧ RRows W (.slice (some ⟨g, 0, none⟩) N c) N (lineL k)) := Lib.hid fun W h => by
    have h' : Below wa.heap.size wa W := by rw [HCw.out]; exact h
    exact ⟨(h'.cell (p := ⟨w3.heap.size, 1, none⟩) (by rw [HCw.out]; exact hzw)).trans a1, HQ.out.below h'⟩
  clear a0 a1 HQ
  go_loopw [10] (fun hv wx => ∃ t : Nat, t ≤ N ∧ hv = .int .i64 t ∧ RowAt wx C (rowF N (cntI k a t)) ∧ Below C wa wx) (fun x _ => N - (intOf x).toNat)
  case atStart => exact ⟨0, by omega, rfl, hR4, hB4⟩
  case round =>
    clear hR4 hB4
    obtain ⟨t, ht, rfl, hR, hb⟩ := hrel
    obtain ⟨a1', hq'⟩ := HK.out wr hb
    by_cases htl : t < N
    · by_cases hta : t = a
      · subst hta
        have HR := Lib.hid hR
        clear hR hq'
        go_wp2_with fail
        go_roundw
        case rel =>
          refine ⟨t + 1, by omega, by go_num, ?_, hb⟩
          have e : cntI k t (t + 1) = cntI k t t := by funext j; simp [cntI]
          rw [e]
          exact HR.out
        case measure => simp [intOf]; omega
      · have htai : ((t : Int) == (a : Int)) = false := by simp; omega
        have HR := Lib.hid hR
        have HTA := Lib.hid hta
        have HB := Lib.hid hb
        clear hR hq' hta hb
        go_wp2_with fail
        go_loopw [11, 12] (fun lv iv wx => ∃ i : Nat, i ≤ q + 1 ∧ iv = .int .i64 i ∧ lv = .int .i64 ((outL k a t i).length : Nat) ∧ RowAt wx C (rowF N fun j => cntI k a t j + incI (outL k a t i) j) ∧ Below C wa wx) (fun _ x _ => q + 1 - (intOf x).toNat)
        case atStart =>
          refine ⟨0, by omega, rfl, by rw [out_zero]; rfl, ?_, HB.out⟩
          have e : (fun j => cntI k a t j + incI (outL k a t 0) j) = cntI k a t := by funext j; rw [out_zero]; simp [incI]
          rw [e]
          exact HR.out
        case round =>
          obtain ⟨i, hi, rfl, rfl, hR, hb⟩ := hrel
          obtain ⟨b1, hq'⟩ := HK.out wr hb
          obtain ⟨rt, dt, ct, r1⟩ := row_at hq' t htl
          obtain ⟨ra, da, ca, r2⟩ := row_at hq' a haN
          have hlt := line_length hk (by rw [HEN.out]; exact htl)
          have hla := line_length hk (by rw [HEN.out]; exact haN)
          rw [HEQ.out] at hlt hla
          obtain ⟨rt', dt', er, hdt, hcell⟩ := r1
          cases er
          rw [hlt] at ct hdt
          rw [hla] at ca r2
          have hol : (outL k a t i).length ≤ i := by
            have h1 := List.length_filter_le (fun p => !(lineL k a).contains p) ((lineL k t).take i)
            have h2 := List.length_take_le i (lineL k t)
            unfold outL
            omega
          by_cases hil : i < q + 1
          · obtain ⟨p, hp⟩ : ∃ p, (lineL k t)[i]? = some p := ⟨(lineL k t)[i]'(by rw [hlt]; exact hil), List.getElem?_eq_getElem _⟩
            have cp := hcell i p hp
            have hpN : p < N := by have := line_lt hp; rw [HEN.out] at this; exact this
            have hcv := hR.cell (j := p) (by rw [rowF_len]; exact hpN)
            rw [rowF_at hpN] at hcv
            have hfz := hR.frozen p
            have hset := fun v => (hR.set p v)
            have hcl := cnt_le k a t p
            have hil2 := inc_le (outL k a t i) p
            have H1 := Lib.hid (has_any (lineL k a) (by rw [hla]; omega) p wr _ r2)
            have hos := out_succ (g := a) hp
            have hst := fun h => inc_step (g := a) hp h (cntI k a t)
            obtain ⟨cv, ecv⟩ : ∃ cv : Int, cntI k a t p + incI (outL k a t i) p = cv := ⟨_, rfl⟩
            have hcv61 : 0 ≤ cv ∧ cv ≤ 61 := by omega
            rw [ecv] at hcv
            have HR := Lib.hid hR
            have HOS := Lib.hid hos
            have HST := Lib.hid hst
            have HECV := Lib.hid ecv
            have HHB := Lib.hid hb
            have hpi : (p : Int) < (N : Int) := by omega
            have d1 : decide ((p : Int) < 0) = false := by simp
            have d2 : decide ((N : Int) ≤ (p : Int)) = false := by simp; omega
            have d3 : decide ((i : Int) < (q : Int) + 1) = true := by simp; omega
            clear hcell hp r2 hR hset hcl hil2 hos hst ecv hlt hla hq' hb
            obtain ⟨hc, ehc⟩ : ∃ hc, (lineL k a).contains p = hc := ⟨_, rfl⟩
            rw [ehc] at H1
            have HHC := Lib.hid ehc
            clear ehc
            cases hc
            · go_wp2_with (first | (go_at_call 51; refine H1.out.mono ?_; rintro e w' ⟨rfl, rfl⟩) | fail)
              go_roundw
              case rel =>
                have e := HOS.out
                rw [HHC.out] at e
                refine ⟨i + 1, by omega, by go_num, ?_, ?_, HHB.out.setCell (Nat.le_refl _) _⟩
                · rw [e]; simp
                · have h2 := HR.out.set p (cv + 1)
                  rw [rowF_set] at h2
                  have e3 : rowF N (fun j => cntI k a t j + incI (outL k a t (i + 1)) j) = rowF N (fun j => if j = p then cv + 1 else cntI k a t j + incI (outL k a t i) j) := rowF_congr fun j _ => by
                    rw [← HECV.out]
                    exact (HST.out HHC.out j).symm
                  rw [e3]
                  exact h2
              case measure => simp [intOf]; omega
            · go_wp2_with (first | (go_at_call 51; refine H1.out.mono ?_; rintro e w' ⟨rfl, rfl⟩) | fail)
              go_roundw
              case rel =>
                have e := HOS.out
                rw [HHC.out] at e
                have e2 : outL k a t (i + 1) = outL k a t i := by rw [e]; simp
                exact ⟨i + 1, by omega, by go_num, by rw [e2], by rw [e2]; exact HR.out, HHB.out⟩
              case measure => simp [intOf]; omega
          · obtain rfl : i = q + 1 := by omega
            have hol2 := out_len hk (g := a) (h := t) (by rw [HEN.out]; exact haN) (by rw [HEN.out]; exact htl) HTA.out
            rw [HEQ.out] at hol2
            rw [hol2]
            have HRR := Lib.hid hR
            have d3 : decide (((q + 1 : Nat) : Int) < (q : Int) + 1) = false := by simp
            clear hcell r2 hR hol hol2 hlt hla hq'
            go_wp2_with fail
            go_roundw
            case rel =>
              refine ⟨t + 1, by omega, by go_num, ?_, hb⟩
              have e : cntI k a (t + 1) = fun j => cntI k a t j + incI (outL k a t (q + 1)) j := by funext j; rw [cntI, if_neg HTA.out, HEQ.out]
              rw [e]
              exact HRR.out
            case measure => simp [intOf]; omega
    · obtain rfl : t = N := by omega
      have HR := Lib.hid hR
      obtain ⟨ra, da, ca, r2⟩ := row_at hq' a haN
      have hla := line_length hk (i := a) (by rw [HEN.out]; exact haN)
      rw [HEQ.out] at hla
      have HA := Lib.hid (fun p W hW => has_any (lineL k a) (by rw [hla]; omega) p W _ (r2.below (w' := W) hW))
      rw [hla] at ca HA
      have hCl := hR.lt
      clear hR hq' hla r2
      go_wp2_with fail
      obtain ⟨wo, rfl⟩ : ∃ wo : World, wo = wr := ⟨_, rfl⟩
      go_loopw [14] (fun pv wx => ∃ p : Nat, p ≤ t ∧ pv = .int .i64 p ∧ Below wo.heap.size wo wx) (fun x _ => t - (intOf x).toNat)
      case atStart => exact ⟨0, by omega, rfl, Below.refl _ _⟩
      case round =>
        obtain ⟨p, hp, rfl, hb2⟩ := hrel
        have b1 := (hb2.cell (p := ⟨w3.heap.size, 1, none⟩) (World.block_lt_of_cell? _ _ a1')).trans a1'
        have b2 := (hb2.cell (p := ⟨g, a, none⟩) (World.block_lt_of_cell? _ _ ca)).trans ca
        by_cases hpt : p < t
        · have hcv := (HR.out.below hb2 hCl).cell (j := p) (by rw [rowF_len]; exact hpt)
          rw [rowF_at hpt] at hcv
          have hce := cnt_end (k := k) (g := a) (p := p) hk (by rw [HEN.out]; exact hpt)
          rw [HEN.out, HEQ.out] at hce
          rw [hce] at hcv
          have H1 := Lib.hid (fun n => HA.out p (wr.drewN n) (belowS hb2 n))
          clear hce
          cases hc : (lineL k a).contains p
          · rw [hc] at hcv H1
            have hcv : wr.cell? ⟨C, p, none⟩ = some (.int .i64 ((q : Int) + 1)) := hcv
            have hq0 : ((q : Int) + 1 == 0) = false := by simp; omega
            have hq1 : ((q : Int) + 1 != 0) = true := by simp; omega
            clear hc
            go_wp2_with fail
            go_quiet ((go_at_call 51; refine Calls.quiet_of_same ((H1.out _).mono fun _ _ h => ⟨h.1, h.2.symm⟩)))
            go_wp2_with fail
            go_roundw
            case rel => exact ⟨p + 1, by omega, by go_num, belowS hb2 _⟩
            case measure => simp [intOf]; omega
          · rw [hc] at hcv H1
            have hcv : wr.cell? ⟨C, p, none⟩ = some (.int .i64 0) := hcv
            clear hc
            go_wp2_with fail
            go_quiet ((go_at_call 51; refine Calls.quiet_of_same ((H1.out _).mono fun _ _ h => ⟨h.1, h.2.symm⟩)))
            go_wp2_with fail
            go_roundw
            case rel => exact ⟨p + 1, by omega, by go_num, belowS hb2 _⟩
            case measure => simp [intOf]; omega
        · obtain rfl : p = t := by omega
          go_wp2_with fail
          go_ret
          have hbC : Below wa.heap.size wa wr := by rw [HCw.out]; exact hb.trans (hb2.mono (by omega))
          exact ⟨rfl, HBA.out.trans (hbC.mono HBA.out.size)⟩
end Go.Proofs.Ytnmkkflnehnioaa
