/-
  THE LAW PlaneParallel returns true: its walk. No condition.
-/
import Derived.Test.YtnmkkflnehnioaaPm
import Derived.StillTailTactics
namespace Go.Proofs.Ytnmkkflnehnioaa
open Go.RowKit
set_option maxRecDepth 100000

def lineT0 (k i : Nat) : List Nat := affL k i
theorem belowP {B : Nat} {a w : World} (h : Below B a w) (n : Nat) : Below B a (w.drewN n) := ⟨h.os, h.tape, h.output, h.size, h.block⟩
set_option maxHeartbeats 3200000 in
theorem walk_parallel (n x0 x1 x2 : Nat) (hn : n ≤ 255) (h0 : x0 ≤ 255) (h1 : x1 ≤ 255) (h2 : x2 ≤ 255) (w : World) : Calls Try.prog 13 #[.int .u8 n, .agg #[.int .u8 x0, .int .u8 x1, .int .u8 x2]] w fun e w' => e = .returned (.bool true) ∧ Below w.heap.size w w' := by
  obtain ⟨k, ek⟩ : ∃ k, n % 5 = k := ⟨_, rfl⟩
  have hk : k < 5 := by omega
  have hS := fun W => size48 n hn W
  rw [ek] at hS
  have hP := fun W => aff_rd hk W
  have h60 := sq60 hk
  have hsz := (sz_facts k (by omega)).2.1
  have hpf := fun g a hg ha => par_fact (k := k) (g := g) (a := a) hk hg ha
  have hjf := fun a b ha hb => joi_fact (k := k) (a := a) (b := b) hk ha hb
  have hal := aff_len k
  obtain ⟨q, eq⟩ : ∃ q, szN k = q := ⟨_, rfl⟩
  have hmul : (q : Int) * (q : Int) = ((q * q : Nat) : Int) := by push_cast; rfl
  rw [eq] at hS hP h60 hsz hpf hjf hal
  have hQq : q ≤ q * q := Nat.le_mul_of_pos_left q (by omega)
  obtain ⟨Q, eQ⟩ : ∃ Q, q * q = Q := ⟨_, rfl⟩
  rw [eQ] at hP h60 hpf hjf hmul hQq
  obtain ⟨M, eM⟩ : ∃ M, Q + q = M := ⟨_, rfl⟩
  rw [eM] at hP hpf hjf
  have hsum : (Q : Int) + (q : Int) = (M : Int) := by omega
  have hM60 : M ≤ 60 := by omega
  have hQM : Q ≤ M := by omega
  have hq9 : q ≤ 9 := hsz.2
  have hq2 : 2 ≤ q := hsz.1
  have hQ0 : ¬ (Q : Int) = 0 := by omega
  have hM0 : ¬ (M : Int) = 0 := by omega
  obtain ⟨a, ea⟩ : ∃ a, x1 % Q = a := ⟨_, rfl⟩
  obtain ⟨b, eb⟩ : ∃ b, x2 % Q = b := ⟨_, rfl⟩
  obtain ⟨gg, eg⟩ : ∃ gg, x0 % M = gg := ⟨_, rfl⟩
  have haQ : a < Q := ea ▸ Nat.mod_lt _ (by omega)
  have hbQ : b < Q := eb ▸ Nat.mod_lt _ (by omega)
  have hgM : gg < M := eg ▸ Nat.mod_lt _ (by omega)
  have ta : Int.tmod (x1 : Int) (Q : Int) = (a : Int) := by rw [← ea]; rfl
  have tb : Int.tmod (x2 : Int) (Q : Int) = (b : Int) := by rw [← eb]; rfl
  have tg : Int.tmod (x0 : Int) (M : Int) = (gg : Int) := by rw [← eg]; rfl
  have HS := Lib.hid hS
  have HP := Lib.hid hP
  have HPF := Lib.hid (hpf gg a hgM haQ)
  have HJF := Lib.hid (hjf a b haQ hbQ)
  have HAL := Lib.hid hal
  clear hS hP hpf hjf hal ek eq eQ eM ea eb eg hsz h60 hQq
  go_enter Try.func13, Try.ntmps13
  go_wp2_with fail
  obtain ⟨wb, hwb⟩ : ∃ wb, w.alloc (.cells #[.int .u8 x0, .int .u8 x1, .int .u8 x2] 22) = wb := ⟨_, rfl⟩
  have hb0 : Below w.heap.size w wb := hwb ▸ (Below.refl _ w).alloc (Nat.le_refl _) _
  have y0 : wb.cell? ⟨w.heap.size, 0, none⟩ = some (.int .u8 x0) := by rw [← hwb]; simp [go_sem]
  have y1 : wb.cell? ⟨w.heap.size, 1, none⟩ = some (.int .u8 x1) := by rw [← hwb]; simp [go_sem]
  have y2 : wb.cell? ⟨w.heap.size, 2, none⟩ = some (.int .u8 x2) := by rw [← hwb]; simp [go_sem]
  (try rw [hwb])
  clear hwb
  refine (awake6 _).mono ?_
  rintro e w1 ⟨rfl, B1⟩
  have y0 := (B1.cell (p := ⟨w.heap.size, 0, none⟩) (World.block_lt_of_cell? _ _ y0)).trans y0
  have y1 := (B1.cell (p := ⟨w.heap.size, 1, none⟩) (World.block_lt_of_cell? _ _ y1)).trans y1
  have y2 := (B1.cell (p := ⟨w.heap.size, 2, none⟩) (World.block_lt_of_cell? _ _ y2)).trans y2
  have hb1 := hb0.trans (B1.mono hb0.size)
  clear B1 hb0
  go_wp2_with fail
  go_region
  go_wp2_with fail
  refine (HS.out _).mono ?_
  rintro e w2 ⟨rfl, B2⟩
  go_wp2_with fail
  refine (HP.out _).mono ?_
  rintro e w3 ⟨g, c, rfl, hr, B3⟩
  have hb3 := (hb1.drew.trans (B2.mono hb1.size)).trans (B3.mono (Nat.le_trans hb1.size B2.size))
  obtain ⟨wa, hwa⟩ : ∃ wa, w3.alloc (.cells #[.int .i64 Q, .slice (some ⟨g, 0, none⟩) M c] 48) = wa := ⟨_, rfl⟩
  have ha : Below w3.heap.size w3 wa := hwa ▸ (Below.refl _ w3).alloc (Nat.le_refl _) _
  have a0 : wa.cell? ⟨w3.heap.size, 0, none⟩ = some (.int .i64 Q) := by rw [← hwa]; simp [go_sem]
  have a1 : wa.cell? ⟨w3.heap.size, 1, none⟩ = some (.slice (some ⟨g, 0, none⟩) M c) := by rw [← hwa]; simp [go_sem]
  have hq := hr.below ha
  have hNc := row_cap hq
  have hBa := hb3.trans (ha.mono hb3.size)
  have HQ := Lib.hid hq
  have HBA := Lib.hid hBa
  clear hr ha hq hb1 hb3 B2 B3 hBa HS HP y0 y1 y2
  go_wp2_with fail
  (try rw [hwa])
  clear hwa
  go_region
  go_wp2_with fail
  obtain ⟨wd, hwd⟩ : ∃ wd, wa.drew = wd := ⟨_, rfl⟩
  have hzw : w3.heap.size < wa.heap.size := World.block_lt_of_cell? _ _ a0
  have hBd : Below wa.heap.size wa wd := hwd ▸ (Below.refl _ wa).drew
  have a0 := (hBd.cell (p := ⟨w3.heap.size, 0, none⟩) hzw).trans a0
  have a1 := (hBd.cell (p := ⟨w3.heap.size, 1, none⟩) hzw).trans a1
  have HQD := Lib.hid (HQ.out.below hBd)
  have HBD := Lib.hid (HBA.out.trans (hBd.mono HBA.out.size))
  rw [hwd]
  clear hwd hBd HQ HBA hzw
  clear hmul hsum ta tb tg
  go_loopw [14, 15, 16] (fun pv jv hv wx => ∃ t : Nat, t ≤ M ∧ hv = .int .i64 t ∧ pv = .int .i64 (parN k gg a t) ∧ jv = .int .i64 (joiN k a b t) ∧ Below wd.heap.size wd wx) (fun _ _ x _ => M - (intOf x).toNat)
  case atStart => exact ⟨0, by omega, rfl, rfl, rfl, Below.refl _ _⟩
  case round =>
    obtain ⟨t, ht, rfl, rfl, rfl, hb⟩ := hrel
    have a1' := (hb.cell (p := ⟨w3.heap.size, 1, none⟩) (World.block_lt_of_cell? _ _ a1)).trans a1
    obtain ⟨rg, dg, cg, r2⟩ := row_at (HQD.out.below hb) gg hgM
    rw [HAL.out] at cg r2
    obtain ⟨wx, rfl⟩ : ∃ wx : World, wx = wr := ⟨_, rfl⟩
    by_cases htl : t < M
    · obtain ⟨rt, dt, ct, r1⟩ := row_at (HQD.out.below hb) t htl
      rw [HAL.out] at ct r1
      have hlt := HAL.out t
      have hlg := HAL.out gg
      have H1 := Lib.hid (fun W hW => has_any (lineT0 k t) (by rw [lineT0, hlt]; omega) a W _ (r1.below (w' := W) hW))
      have H2 := Lib.hid (fun W hW => has_any (lineT0 k t) (by rw [lineT0, hlt]; omega) b W _ (r1.below (w' := W) hW))
      have H3 := Lib.hid (fun W hW => common_any (lineT0 k t) (lineT0 k gg) (by rw [lineT0, hlt]; omega) (by rw [lineT0, hlg]; omega) W _ _ (r1.below (w' := W) hW) (r2.below (w' := W) hW))
      have hp1 := parN_succ k gg a t
      have hj1 := joiN_succ k a b t
      have hpl := parN_le k gg a t
      have hjl := joiN_le k a b t
      have hpb : parB k gg a t = ((lineT0 k t).contains a && ((lineT0 k t).filter (lineT0 k gg).contains).isEmpty) := rfl
      have hjb : joiB k a b t = ((lineT0 k t).contains a && (lineT0 k t).contains b) := rfl
      obtain ⟨P, eP⟩ : ∃ P, parN k gg a t = P := ⟨_, rfl⟩
      obtain ⟨J, eJ⟩ : ∃ J, joiN k a b t = J := ⟨_, rfl⟩
      obtain ⟨pb, epb⟩ : ∃ pb, parB k gg a t = pb := ⟨_, rfl⟩
      obtain ⟨ca, eca⟩ : ∃ ca, (lineT0 k t).contains a = ca := ⟨_, rfl⟩
      obtain ⟨cb, ecb⟩ : ∃ cb, (lineT0 k t).contains b = cb := ⟨_, rfl⟩
      obtain ⟨I, eI⟩ : ∃ I, (lineT0 k t).filter (lineT0 k gg).contains = I := ⟨_, rfl⟩
      rw [eP] at hp1 hpl ⊢
      rw [eJ] at hj1 hjl ⊢
      rw [epb] at hp1 hpb
      rw [eca] at hpb hjb H1
      rw [ecb] at hjb H2
      rw [eI] at hpb H3
      rw [hjb] at hj1
      have HPB := Lib.hid hpb
      have HP1 := Lib.hid hp1
      have HJ1 := Lib.hid hj1
      have HB := Lib.hid hb
      clear hlt hlg r1 r2 hp1 hj1 hpb hjb eP eJ epb eca ecb eI hb
      go_wp2_with fail
      go_cut [97] from 76 to 97 (fun v wc => v = .bool pb ∧ Below wx.heap.size wx wc)
      case first =>
        cases ca
        · go_quiet ((go_at_call 51; refine Calls.quiet_of_same ((H1.out _ (belowP (Below.refl _ _) _)).mono fun _ _ h => ⟨h.1, h.2.symm⟩)))
          go_wp2_with fail
          go_meet
          exact ⟨by rw [HPB.out]; rfl, belowP (Below.refl _ _) _⟩
        · have hD : Below wx.heap.size wx wx.drew := (Below.refl _ wx).drew
          cases I with
          | nil =>
            rw [List.length_nil] at H3
            go_still_tail 18, (by kernel_rfl)
            still_call ((H1.out _ hD).mono fun _ _ h => ⟨h.1, h.2.symm⟩)
            repeat still_step
            refine wpStill_nil ?_
            change wpList _ _ _ _ _ wx.drew
            go_wp2_with (first | (go_at_call 49; refine (H3.out _ hD).mono ?_; rintro e w5 ⟨y, rfl, hy, b5⟩; obtain ⟨A5, c5, rfl⟩ := own_slice hy) | fail)
            go_meet
            exact ⟨by rw [HPB.out]; rfl, hD.trans b5⟩
          | cons u l =>
            obtain ⟨nn, enn⟩ : ∃ nn, (u :: l).length = nn := ⟨_, rfl⟩
            have hnn : ¬ (nn : Int) = 0 := by rw [← enn]; simp; omega
            rw [enn] at H3
            clear enn
            go_still_tail 18, (by kernel_rfl)
            still_call ((H1.out _ hD).mono fun _ _ h => ⟨h.1, h.2.symm⟩)
            repeat still_step
            refine wpStill_nil ?_
            change wpList _ _ _ _ _ wx.drew
            go_wp2_with (first | (go_at_call 49; refine (H3.out _ hD).mono ?_; rintro e w5 ⟨y, rfl, hy, b5⟩; obtain ⟨A5, c5, rfl⟩ := own_slice hy) | fail)
            go_meet
            have hz : ((nn : Int) == 0) = false := by simpa using hnn
            exact ⟨by rw [HPB.out]; first | (rw [hz]; rfl) | (simp; omega), hD.trans b5⟩
      case rest =>
        obtain ⟨hv, hcb⟩ := hcut
        subst hv
        have hbc := HB.out.trans (hcb.mono HB.out.size)
        have a1c := (hcb.cell (p := ⟨w3.heap.size, 1, none⟩) (World.block_lt_of_cell? _ _ a1')).trans a1'
        have ctc := (hcb.cell (p := ⟨g, t, none⟩) (World.block_lt_of_cell? _ _ ct)).trans ct
        have H1c := Lib.hid (H1.out wc hcb)
        have H2c := Lib.hid (H2.out wc hcb)
        clear H1 H2 H3 hcb a1' ct cg
        cases ca
        · have hpb := HPB.out
          rw [Bool.false_and] at hpb
          subst hpb
          clear HPB
          go_wp2_with fail
          refine H1c.out.mono ?_
          rintro e w' ⟨rfl, rfl⟩
          go_wp2_with fail
          go_roundw
          case rel => exact ⟨t + 1, by omega, by go_num, by rw [HP1.out]; simp, by rw [HJ1.out]; simp, hbc⟩
          case measure => simp [intOf]; omega
        · clear HPB
          cases pb
          · cases cb
            all_goals (
              go_wp2_with fail
              refine H1c.out.mono ?_
              rintro e w' ⟨rfl, rfl⟩
              go_wp2_with fail
              refine H2c.out.mono ?_
              rintro e w' ⟨rfl, rfl⟩
              go_wp2_with fail
              go_roundw
              case rel => exact ⟨t + 1, by omega, by go_num, by rw [HP1.out]; simp, by rw [HJ1.out]; simp, hbc⟩
              case measure => simp [intOf]; omega)
          · cases cb
            all_goals (
              go_wp2_with fail
              refine H1c.out.mono ?_
              rintro e w' ⟨rfl, rfl⟩
              go_wp2_with fail
              refine H2c.out.mono ?_
              rintro e w' ⟨rfl, rfl⟩
              go_wp2_with fail
              go_roundw
              case rel => exact ⟨t + 1, by omega, by go_num, by rw [HP1.out]; simp, by rw [HJ1.out]; simp, hbc⟩
              case measure => simp [intOf]; omega)
    · obtain rfl : t = M := by omega
      have hlg := HAL.out gg
      have H3 := Lib.hid (has_any (lineT0 k gg) (by rw [lineT0, hlg]; omega) a wx _ r2)
      have hpf := HPF.out
      have hjf := HJF.out
      have hBw := HBD.out.trans (hb.mono HBD.out.size)
      have hcc : (lineT0 k gg).contains a = (affL k gg).contains a := rfl
      rw [hcc] at H3
      clear hcc hlg r2 HPF HJF
      have hjb : (a = b ∧ joiN k a b t = q + 1) ∨ (¬ a = b ∧ joiN k a b t = 1) := by
        by_cases hab : a = b
        · rw [if_pos hab] at hjf; exact .inl ⟨hab, hjf⟩
        · rw [if_neg hab] at hjf; exact .inr ⟨hab, hjf⟩
      clear hjf
      rcases hpf with ⟨e1, e2⟩ | ⟨e1, e2⟩
      all_goals
        rw [e1] at H3
        rw [e2]
        clear e1 e2
        rcases hjb with ⟨hab, e3⟩ | ⟨hab, e3⟩
      · rw [e3]
        subst hab
        clear e3
        go_wp2_with fail
        refine H3.out.mono ?_
        rintro e w' ⟨rfl, rfl⟩
        go_wp2_with fail
        go_ret
        exact ⟨rfl, hBw⟩
      · rw [e3]
        have habi : ¬ (a : Int) = (b : Int) := by omega
        have hne : ((a : Int) != (b : Int)) = true := by simpa using habi
        clear e3
        go_wp2_with fail
        refine H3.out.mono ?_
        rintro e w' ⟨rfl, rfl⟩
        go_wp2_with fail
        go_ret
        exact ⟨rfl, hBw⟩
      · rw [e3]
        subst hab
        clear e3
        go_wp2_with fail
        refine H3.out.mono ?_
        rintro e w' ⟨rfl, rfl⟩
        go_wp2_with fail
        go_ret
        exact ⟨rfl, hBw⟩
      · rw [e3]
        have habi : ¬ (a : Int) = (b : Int) := by omega
        have hne : ((a : Int) != (b : Int)) = true := by simpa using habi
        clear e3
        go_wp2_with fail
        refine H3.out.mono ?_
        rintro e w' ⟨rfl, rfl⟩
        go_wp2_with fail
        go_ret
        exact ⟨rfl, hBw⟩
end Go.Proofs.Ytnmkkflnehnioaa
