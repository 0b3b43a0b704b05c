/-
  smallfield.New at a prime size. Conditions: the size is one of the sizes.
-/
import Derived.Test.YtnmkkflnehnioaaNewA
namespace Go.Proofs.Ytnmkkflnehnioaa
open Go.RowKit

set_option maxRecDepth 100000 in
set_option maxHeartbeats 3200000 in
theorem new_prime (k qn : Nat) (hk : k < 7) (hqn : at0 sizes k = qn) (h29 : 2 ≤ qn ∧ qn ≤ 9) (p : Int) (hpk : at0 primes k = p) (hp : 2 ≤ p) (hp' : p ≤ 9) (hA : ∀ N, polyA N k = none) (hN : polyN k = 0) (w : World) :
    Calls Try.prog 39 #[.int .i64 qn] w (NewField w qn p (fun a b => addS p 1 a b) (mulP p)) := by
  have HQ := Lib.hid hqn
  have HP := Lib.hid hpk
  have HA := Lib.hid hA
  have HN := Lib.hid hN
  clear hqn hA hN hpk
  obtain ⟨h2q, h9q⟩ := h29
  have HE := @eql38
  have hk0 : decide ((k : Int) < 0) = false := by simp
  go_enter Try.func39, Try.ntmps39
  go_wp2_with (first
    | (go_at_call 68; refine (shapes_any _).mono ?_; rintro e w1 ⟨b, rfl, hb1, hs1, hB1⟩; have hq1 : w1.cell? ⟨w.heap.size, 0, none⟩ = some (.int .i64 qn) := (hB1.cell (p := ⟨w.heap.size, 0, none⟩) (by simp)).trans (by simp [go_sem]))
    | (go_at_call 69; refine (find_any _ _ _ qn _ (by assumption) (by assumption)).mono ?_; rintro e w2 ⟨⟨r, rfl, hfd⟩, hB2⟩; obtain rfl : r = k := found_at hk (HQ.out ▸ hfd); have hq2 : w2.cell? ⟨w.heap.size, 0, none⟩ = some (.int .i64 qn) := (hB2.cell (p := ⟨w.heap.size, 0, none⟩) (World.block_lt_of_cell? _ _ hq1)).trans hq1)
    | (go_at_call 68; refine (shapes_any _).mono ?_; rintro e w3 ⟨b3, rfl, hb3, hs3, hB3⟩; obtain ⟨s0, s1, s2⟩ := hs3.cell k hk; rw [HA.out, HN.out] at s2; rw [HP.out] at s1; have hq3 : w3.cell? ⟨w.heap.size, 0, none⟩ = some (.int .i64 qn) := (hB3.cell (p := ⟨w.heap.size, 0, none⟩) (World.block_lt_of_cell? _ _ hq2)).trans hq2; have hz3 : w.heap.size < w3.heap.size := World.block_lt_of_cell? _ _ hq3))
  clear HE hk0
  obtain ⟨sb, hsb⟩ : ∃ sb, w3.heap.size = sb := ⟨_, rfl⟩
  obtain ⟨W, hW⟩ : ∃ W, (w3.alloc (.cells #[.int .i64 (at0 sizes k), .int .i64 p, .slice none 0 0] 84)).alloc (.cells #[.int .i64 qn, .int .i64 p, .slice none 0 0, .slice none 0 0] 78) = W := ⟨_, rfl⟩
  have hWs : W.heap.size = sb + 2 := by rw [← hW, ← hsb]; simp
  have hWq : W.cell? ⟨w.heap.size, 0, none⟩ = some (.int .i64 qn) := by
    rw [← hW, World.cell?_alloc_old _ _ _ (by simp; omega), World.cell?_alloc_old _ _ _ (by simp; omega)]; exact hq3
  have hW0 : W.cell? ⟨sb, 0, none⟩ = some (.int .i64 (at0 sizes k)) := by rw [← hW, ← hsb]; simp [go_sem]
  have hW1 : W.cell? ⟨sb, 1, none⟩ = some (.int .i64 p) := by rw [← hW, ← hsb]; simp [go_sem]
  have hW2 : W.cell? ⟨sb, 2, none⟩ = some (.slice none 0 0) := by rw [← hW, ← hsb]; simp [go_sem]
  have hWf : W.heap[sb + 1]? = some (.cells #[.int .i64 qn, .int .i64 p, .slice none 0 0, .slice none 0 0] 78 (0, 0)) := by
    rw [← hW, ← hsb]; have := heap_alloc_new (w3.alloc (.cells #[.int .i64 (at0 sizes k), .int .i64 p, .slice none 0 0] 84)) (.cells #[.int .i64 qn, .int .i64 p, .slice none 0 0, .slice none 0 0] 78); simpa using this
  have hNs : w.heap.size < sb := by omega
  have hWB : Below w.heap.size w W := by
    have e1 : Below w.heap.size w w1 := ((Below.refl _ w).alloc (Nat.le_refl _) _).trans (hB1.mono (by simp))
    have e2 := e1.trans (hB2.mono e1.size)
    have e3 := e2.trans (hB3.mono e2.size)
    rw [← hW]
    exact (e3.alloc e3.size _).alloc (by simp; omega) _
  rw [hW]
  simp only [hsb]
  clear hW hsb hB1 hB2 hB3 hq1 hq2 hq3 hs1 hs3 hb1 hb3 s0 s1 s2 hz3 hfd
  have HW := Lib.hid (And.intro hWs hWB)
  have HC : Hid (∀ W', Below (sb + 1) W W' → W'.cell? ⟨sb, 0, none⟩ = some (.int .i64 (at0 sizes k)) ∧ W'.cell? ⟨sb, 1, none⟩ = some (.int .i64 p) ∧ W'.cell? ⟨sb, 2, none⟩ = some (.slice none 0 0)) := fun W' h =>
    ⟨(h.cell (p := ⟨sb, 0, none⟩) (Nat.lt_succ_self sb)).trans hW0, (h.cell (p := ⟨sb, 1, none⟩) (Nat.lt_succ_self sb)).trans hW1, (h.cell (p := ⟨sb, 2, none⟩) (Nat.lt_succ_self sb)).trans hW2⟩
  clear hWs hWB hW0 hW1 hW2
  go_loopw [33] (fun i wr => ∃ a : Nat, a ≤ qn ∧ i = .int .i64 a ∧ ∃ vs vm, Making W wr (sb + 1) qn p a (fun a b => addS p 1 a b) (mulP p) vs vm)
    (fun i _ => qn - (intOf i).toNat)
  case atStart => exact ⟨0, Nat.zero_le _, rfl, _, _, Below.refl _ _, hWf, OwnTab.nil _ _ _ _, OwnTab.nil _ _ _ _, fun _ h => by simp [Value.ownBlock] at h⟩
  case round =>
    obtain ⟨a, ha, rfl, vs, vm, hM⟩ := hrel
    have HM := Lib.hid hM
    clear hM
    obtain ⟨wo, rfl⟩ : ∃ wo : World, wo = wr := ⟨_, rfl⟩
    have cq : wo.cell? ⟨w.heap.size, 0, none⟩ = some (.int .i64 qn) := (HM.out.below.cell (p := ⟨w.heap.size, 0, none⟩) (by show w.heap.size < sb + 1; omega)).trans hWq
    by_cases hlt : a < qn
    · go_upto_block 1 with fail
      go_cut [] (fun wx => ∃ vs' vm', Making W wx (sb + 1) qn p (a + 1) (fun a b => addS p 1 a b) (mulP p) vs' vm')
      case first =>
        go_wp2_with fail
        go_loopw [9, 10, 37] (fun v9 v10 j wr => ∃ b : Nat, b ≤ qn ∧ j = .int .i64 b ∧ wr.ownsRow wo.heap.size 3 1 v9 b (rowVals (fun b => addS p 1 a b) b) ∧ wr.ownsRow wo.heap.size 3 1 v10 b (rowVals (mulP p a) b) ∧ apartV v9 v10 ∧ Below wo.heap.size wo wr)
          (fun _ _ i _ => qn - (intOf i).toNat)
        case atStart => exact ⟨0, Nat.zero_le _, rfl, World.ownsRow_nil _ _ _ _, World.ownsRow_nil _ _ _ _, fun _ h => by simp [Value.ownBlock] at h, Below.refl _ _⟩
        case round =>
          obtain ⟨j, hj, rfl, h9, h10, hap, hB⟩ := hrel
          have hsb : sb + 1 < wo.heap.size := lt_of_block HM.out.at_
          have hbw : Below (sb + 1) W wr := HM.out.below.trans (hB.mono (by omega))
          by_cases hjt : j < qn
          · obtain ⟨c0, c1, c2⟩ := HC.out wr hbw
            have hzr : wo.heap.size ≤ wr.heap.size := hB.size
            have HA1 := Lib.hid (add_any (at0 sizes k) p none 0 0 1 (.inl ⟨rfl, rfl, rfl, rfl⟩) a j wr hp hp' (by omega) (by omega) (by omega) (by omega))
            have HAP := Lib.hid hap
            clear hap
            go_wp2_with (first
              | (go_at_call 73; refine HA1.out.mono ?_; rintro e w2 ⟨rfl, hb2⟩; have o9 := own_below h9 hb2 (Nat.le_refl _); have o10 := own_below h10 hb2 (Nat.le_refl _); have hz2 : wo.heap.size ≤ w2.heap.size := Nat.le_trans hzr hb2.size)
              | (at_builtin; refine wpList_app3 _ rfl (.tmp 40) (.tmp 45) rfl wo.heap.size _ j _ rfl (o9.alloc _) ⟨w2.heap.size, 0, none⟩ _ _ rfl (by simp [go_sem]; rfl) rfl (by omega) (by simp; omega) ?_; intro v9' w3 o9' g9 k9; have o10' := own_grown (o10.alloc _) g9 (fun k e1 e2 => HAP.out k e2 e1); have hbw3 : Below (sb + 1) W w3 := (hbw.trans ((hb2.mono (by omega)))).trans (((Below.refl _ w2).alloc (by omega) _).grown g9 (by simp; omega) (fun k e => by have := (o9.lt k e).1; omega)); obtain ⟨d0, d1, d2⟩ := HC.out w3 hbw3)
              | (go_at_call 72; refine (mulP_any p hp a j sb _ (by assumption)).mono ?_; rintro e w4 ⟨rfl, rfl⟩)
              | (at_builtin; refine wpList_app3 _ rfl (.tmp 47) (.tmp 52) rfl wo.heap.size _ j _ rfl (o10'.alloc _) ⟨w3.heap.size, 0, none⟩ _ _ rfl (by simp [go_sem]; rfl) rfl (by omega) (by simp; have := g9.size; simp at this; omega) ?_; intro v10' w5 o10'' g10 k10))
            obtain ⟨r1, r2, r3⟩ := pair_step h9 h10 HAP.out hB hzr hb2 o9' g9 k9 g10 k10
            go_roundw
            case rel => exact ⟨j + 1, by omega, by go_num, by rw [rowVals_succ]; exact r1, by rw [rowVals_succ]; exact o10'', r2, r3⟩
            case measure => simp [intOf]; omega
          · obtain rfl : j = qn := by omega
            obtain ⟨g9, cap9, rfl⟩ := own_form h9 (by omega)
            obtain ⟨g10, cap10, rfl⟩ := own_form h10 (by omega)
            go_wp2_with fail
            have hM := HM.out.moved hB
            obtain ⟨srows, hso, hsr⟩ := hM.sums
            have HSR := Lib.hid hsr
            have r9 := own_weaken h9 (show sb + 1 + 1 ≤ wo.heap.size by omega)
            have r10 := own_weaken h10 (show sb + 1 + 1 ≤ wo.heap.size by omega)
            have HMM := Lib.hid hM
            have hzz : sb + 1 < wr.heap.size := lt_of_block hM.at_
            have hzz2 : sb < wr.heap.size := by omega
            have hzz3 : ¬ sb = wr.heap.size := by omega
            obtain ⟨e0, e1, e2, e3, e4, e5⟩ := cells4 hM.at_
            clear hsr hM h9 h10 e0 e1
            go_region_law (first
              | (refine step_app38 rfl (.tmp 60) (.tmp 62) rfl (sb + 1 + 1) vs a srows ?_ ?_ ⟨wr.heap.size, 0, none⟩ 1 (.slice (some ⟨g9, 0, none⟩) j cap9) ?_ ?_ rfl (by omega) ?_ ?_; (focus (simp [Act.eval]; done)); (focus (exact (hso.alloc _).alloc _)); (focus (simp [Act.eval]; done)); (focus (simp [go_sem]; done)); (focus (first | (simp; done) | (simp; omega))); intro v1 w1 o1 g1 k1; have H1 := half_of HMM.out hso HSR.out r9 r10 (((Below.refl _ wr).alloc (Nat.le_refl _) _).alloc (by simp) _).drew o1 g1 k1; obtain ⟨p1, q1, rfl⟩ := own_form o1 (by omega); obtain ⟨prows, hpo, hpr⟩ := H1.prods; have HPR := Lib.hid hpr; clear hpr; obtain ⟨i0, i1, i2, i3, i4, i5⟩ := cells4 H1.at_; have hz1 := lt_of_block H1.at_; have cb := g1.cell (a := ⟨wr.heap.size + 1, 0, none⟩) (v := .slice (some ⟨g10, 0, none⟩) j cap10) (by simp [go_sem]; done) (own_ne hso (by show wr.heap.size ≤ _; simp)))
              | (refine step_app38 rfl (.tmp 60) (.tmp 62) rfl (sb + 1 + 1) vs a srows ?_ ?_ ⟨wr.heap.size + 1, 0, none⟩ 1 (.slice (some ⟨g9, 0, none⟩) j cap9) ?_ ?_ rfl (by omega) ?_ ?_; (focus (simp [Act.eval]; done)); (focus (exact (hso.alloc _).alloc _)); (focus (simp [Act.eval]; done)); (focus (simp [go_sem]; done)); (focus (first | (simp; done) | (simp; omega))); intro v1 w1 o1 g1 k1; have H1 := half_of HMM.out hso HSR.out r9 r10 (((Below.refl _ wr).alloc (Nat.le_refl _) _).alloc (by simp) _).drew o1 g1 k1; obtain ⟨p1, q1, rfl⟩ := own_form o1 (by omega); obtain ⟨prows, hpo, hpr⟩ := H1.prods; have HPR := Lib.hid hpr; clear hpr; obtain ⟨i0, i1, i2, i3, i4, i5⟩ := cells4 H1.at_; have hz1 := lt_of_block H1.at_; have cb := g1.cell (a := ⟨wr.heap.size, 0, none⟩) (v := .slice (some ⟨g10, 0, none⟩) j cap10) (by simp [go_sem]; done) (own_ne hso (by show wr.heap.size ≤ _; simp)))
              | (refine step_app38 rfl (.tmp 60) (.tmp 62) rfl (sb + 1 + 1) vs a srows ?_ ?_ ⟨wr.heap.size, 0, none⟩ 1 (.slice (some ⟨g9, 0, none⟩) j cap9) ?_ ?_ rfl (by omega) ?_ ?_; (focus (simp [Act.eval]; done)); (focus (exact hso.alloc _)); (focus (simp [Act.eval]; done)); (focus (simp [go_sem]; done)); (focus (first | (simp; done) | (simp; omega))); intro v1 w1 o1 g1 k1; have H1 := half_of HMM.out hso HSR.out r9 r10 ((Below.refl _ wr).alloc (Nat.le_refl _) _).drew o1 g1 k1; obtain ⟨p1, q1, rfl⟩ := own_form o1 (by omega); obtain ⟨prows, hpo, hpr⟩ := H1.prods; have HPR := Lib.hid hpr; clear hpr; obtain ⟨i0, i1, i2, i3, i4, i5⟩ := cells4 H1.at_; have hz1 := lt_of_block H1.at_)
              | (refine step_app38 rfl (.tmp 67) (.tmp 69) rfl (sb + 1 + 1) vm a prows ?_ ?_ ⟨wr.heap.size + 1, 0, none⟩ 1 (.slice (some ⟨g10, 0, none⟩) j cap10) ?_ ?_ rfl (by omega) ?_ ?_; (focus (simp [Act.eval]; done)); (focus (exact hpo)); (focus (simp [Act.eval]; done)); (focus (exact cb)); (focus (first | omega | (simp; done) | (simp; omega))); intro v2 w2 o2 g2 k2; have H2 := full_of H1 hpo HPR.out (Below.refl _ _) o2 g2 k2; obtain ⟨p2, q2, rfl⟩ := own_form o2 (by omega); obtain ⟨j0, j1, j2, j3, j4, j5⟩ := cells4 H2.at_)
              | (refine step_app38 rfl (.tmp 67) (.tmp 69) rfl (sb + 1 + 1) vm a prows ?_ ?_ ⟨wr.heap.size, 0, none⟩ 1 (.slice (some ⟨g10, 0, none⟩) j cap10) ?_ ?_ rfl (by omega) ?_ ?_; (focus (simp [Act.eval]; done)); (focus (exact hpo)); (focus (simp [Act.eval]; done)); (focus (exact cb)); (focus (first | omega | (simp; done) | (simp; omega))); intro v2 w2 o2 g2 k2; have H2 := full_of H1 hpo HPR.out (Below.refl _ _) o2 g2 k2; obtain ⟨p2, q2, rfl⟩ := own_form o2 (by omega); obtain ⟨j0, j1, j2, j3, j4, j5⟩ := cells4 H2.at_)
              | (refine step_app38 rfl (.tmp 67) (.tmp 69) rfl (sb + 1 + 1) vm a prows ?_ ?_ ⟨w1.heap.size, 0, none⟩ 1 (.slice (some ⟨g10, 0, none⟩) j cap10) ?_ ?_ rfl (by omega) ?_ ?_; (focus (simp [Act.eval]; done)); (focus (exact hpo.alloc _)); (focus (simp [Act.eval]; done)); (focus (simp [go_sem]; done)); (focus (first | omega | (simp; done) | (simp; omega))); intro v2 w2 o2 g2 k2; have H2 := full_of H1 hpo HPR.out ((Below.refl _ _).alloc (Nat.le_refl _) _) o2 g2 k2; obtain ⟨p2, q2, rfl⟩ := own_form o2 (by omega); obtain ⟨j0, j1, j2, j3, j4, j5⟩ := cells4 H2.at_)
              | fail)
            all_goals (go_wp2_with fail; go_meet)
            all_goals exact ⟨_, _, made_of H2⟩
      case rest =>
        obtain ⟨vs', vm', hM'⟩ := hcut
        go_wp2_with fail
        go_roundw
        case rel => exact ⟨a + 1, by omega, by go_num, _, _, hM'⟩
        case measure => simp [intOf]; omega
    · obtain rfl : a = qn := by omega
      go_wp2_with fail
      go_ret2
      obtain ⟨e0, e1, e2, e3, _, _⟩ := cells4 HM.out.at_
      exact ⟨sb + 1, rfl, ⟨e0, e1, vs, vm, e2, e3, HM.out.sums.read (by omega), HM.out.prods.read (by omega)⟩, HW.out.2.trans (HM.out.below.mono (by omega))⟩

end Go.Proofs.Ytnmkkflnehnioaa
