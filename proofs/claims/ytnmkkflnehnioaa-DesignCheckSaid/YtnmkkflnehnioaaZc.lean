/-
  The reference's Check (59). No condition.
-/
import Derived.Test.YtnmkkflnehnioaaDb
namespace Go.Proofs.Ytnmkkflnehnioaa
open Go.RowKit
set_option maxRecDepth 100000

/-- What the reference's Check answers. -/
def RCheckK (D : Int) (n : Nat) (L : Nat → List Int) (w : World) (e : Ending) (w' : World) : Prop := Below w.heap.size w w' ∧
  ((GoodD D n L ∧ e = .returned (.tuple #[.int .i64 (shr L n 0 0 : Nat), .int .i64 (shr L n 0 1 : Nat), .bool true])) ∨ (¬ GoodD D n L ∧ ∃ x y : Int, e = .returned (.tuple #[.int .i64 x, .int .i64 y, .bool false])))
theorem RCheckK.no {D : Int} {n : Nat} {L : Nat → List Int} {w w' : World} {x y : Int} (h : ¬ GoodD D n L) (hb : Below w.heap.size w w') : RCheckK D n L w (.returned (.tuple #[.int .i64 x, .int .i64 y, .bool false])) w' := ⟨hb, .inr ⟨h, x, y, rfl⟩⟩

set_option maxHeartbeats 12800000 in
theorem rcheck_any (D : Int) (n : Nat) (L : Nat → List Int) (w : World) (v : Value) (hv : ZRows w v n L) : Calls Try.prog 59 #[.agg #[.int .i64 D, v]] w (RCheckK D n L w) := by
  obtain ⟨r, c, rfl, hn, hr⟩ := hv
  have HR := Lib.hid hr
  clear hr
  have hB1 : Below w.heap.size w (w.alloc (.cells #[.int .i64 D, .slice r n c] 48)) := (Below.refl _ w).alloc (Nat.le_refl _) _
  by_cases h1 : D < 2
  · have t1 : decide (D < 2) = true := decide_eq_true h1
    go_enter Try.func59, Try.ntmps59
    go_wp2_with fail
    go_ret3
    exact .no (fun h => absurd h.1.1 (by omega)) hB1
  have t1 : decide (D < 2) = false := decide_eq_false h1
  by_cases h2 : 60 < D
  · have t2 : decide (60 < D) = true := decide_eq_true h2
    go_enter Try.func59, Try.ntmps59
    go_wp2_with fail
    go_ret3
    exact .no (fun h => absurd h.1.2.1 (by omega)) hB1
  have t2 : decide (60 < D) = false := decide_eq_false h2
  by_cases h3 : n < 1
  · have t3 : decide ((n : Int) < 1) = true := decide_eq_true (by omega)
    go_enter Try.func59, Try.ntmps59
    go_wp2_with fail
    go_ret3
    exact .no (fun h => absurd h.1.2.2.1 (by omega)) hB1
  have t3 : decide ((n : Int) < 1) = false := decide_eq_false (by omega)
  by_cases h4 : 4096 < n
  · have t4 : decide (4096 < (n : Int)) = true := decide_eq_true (by omega)
    go_enter Try.func59, Try.ntmps59
    go_wp2_with fail
    go_ret3
    exact .no (fun h => absurd h.1.2.2.2.1 (by omega)) hB1
  have t4 : decide (4096 < (n : Int)) = false := decide_eq_false (by omega)
  obtain ⟨b, o, x0, rfl, hx0, r0, k0, rfl, hl0, -⟩ := HR.out 0 (by omega)
  obtain ⟨m, em⟩ : ∃ m, (L 0).length = m := ⟨_, rfl⟩
  have HEM := Lib.hid em
  rw [em] at hx0 hl0
  have hbl : b < w.heap.size := World.block_lt_of_cell? _ _ hx0
  clear em
  have h3' : 0 < n := by omega
  obtain ⟨Z, hZ⟩ : ∃ Z, Array.replicate 3600 (Value.int .i64 0) = Z := ⟨_, rfl⟩
  have hz := (zero_of_info info103).1
  rw [hZ] at hz
  have HZ := Lib.hid hZ
  clear hZ
  go_enter Try.func59, Try.ntmps59
  go_wp2_with fail
  have hZ := HZ.out
  obtain ⟨w1, hw1⟩ : ∃ w1, w.alloc (.cells #[.int .i64 D, .slice (some ⟨b, o, none⟩) n c] 48) = w1 := ⟨_, rfl⟩
  have hs1 : w1.heap.size = w.heap.size + 1 := by rw [← hw1]; simp
  have d0 : w1.cell? ⟨w.heap.size, 0, none⟩ = some (.int .i64 D) := by rw [← hw1]; simp [go_sem]
  have d1 : w1.cell? ⟨w.heap.size, 1, none⟩ = some (.slice (some ⟨b, o, none⟩) n c) := by rw [← hw1]; simp [go_sem]
  have e1 : (w1.alloc (.cells Z 103)).cell? ⟨w.heap.size, 1, none⟩ = some (.slice (some ⟨b, o, none⟩) n c) := (World.cell?_of_block (Below.heap_alloc _ _ _ (by show w.heap.size < _; omega))).trans d1
  have e0 : (w1.alloc (.cells Z 103)).cell? ⟨w.heap.size, 0, none⟩ = some (.int .i64 D) := (World.cell?_of_block (Below.heap_alloc _ _ _ (by show w.heap.size < _; omega))).trans d0
  have s0 : SqAt (w1.alloc (.cells Z 103)) w1.heap.size (shr L 0) := fun i j hi hj => by
    have hb := heap_alloc_new w1 (.cells Z 103)
    rw [← hZ] at hb ⊢
    have : i * 60 + j < 3600 := by omega
    refine ⟨?_, ?_⟩
    · simp only [World.cell?, hb]
      simp [this, shr]
    · simp only [World.frozen?, hb]
      simp
  have Bw : Below w.heap.size w w1 := hw1 ▸ hB1
  have b0 : Below w1.heap.size w1 (w1.alloc (.cells Z 103)) := (Below.refl _ w1).alloc (Nat.le_refl _) _
  obtain ⟨A, hA⟩ : ∃ A, w1.alloc (.cells Z 103) = A := ⟨_, rfl⟩
  have hx1 := (Bw.cell (p := ⟨b, o, none⟩) hbl).trans hx0
  rw [hw1]
  have HS : Hid (SqAt A w1.heap.size (shr L 0) ∧ Below w1.heap.size w1 A) := Lib.hid (And.intro (hA ▸ s0) (hA ▸ b0))
  rw [hA]
  clear s0 b0 hZ hB1 hw1 hx0 hA
  have hbA : ∀ q, b < w.heap.size → Below w1.heap.size w1 q → q.cell? ⟨b, o, none⟩ = some (.slice r0 m k0) := fun q _ hq => (hq.cell (p := ⟨b, o, none⟩) (by show b < _; omega)).trans hx1
  have HBA := Lib.hid hbA
  have HCELL := Lib.hid fun (p : Addr) (q : World) (x : Value) (hp : p.block < w.heap.size) (hq : Below w1.heap.size w1 q) (hx : w.cell? p = some x) => (hq.cell (by omega)).trans ((Bw.cell hp).trans hx)
  have HD := Lib.hid fun (q : World) (hq : Below w1.heap.size w1 q) => And.intro ((hq.cell (p := ⟨w.heap.size, 0, none⟩) (by show w.heap.size < _; omega)).trans d0) ((hq.cell (p := ⟨w.heap.size, 1, none⟩) (by show w.heap.size < _; omega)).trans d1)
  clear hbA hx1 hz e0 e1 d0 d1
  go_loopw [6] (fun v wr => ∃ g : Nat, g ≤ n ∧ v = .int .i64 g ∧ Below w1.heap.size w1 wr ∧ SqAt wr w1.heap.size (shr L g) ∧ (0 < g → 2 ≤ m) ∧ ∀ g', g' < g → (L g').length = m ∧ OkTo D (L g') (L g').length) (fun v _ => n - (intOf v).toNat)
  case atStart => exact ⟨0, by omega, rfl, HS.out.2, HS.out.1, fun h => absurd h (Nat.lt_irrefl _), fun g' h => absurd h (Nat.not_lt_zero _)⟩
  case round =>
    obtain ⟨g, hg, rfl, hB, hS, hm2, hok⟩ := hrel
    have HOK := Lib.hid hok
    have HM2 := Lib.hid hm2
    clear hok hm2
    obtain ⟨e0, e1⟩ := HD.out wr hB
    by_cases hgl : g < n
    · obtain ⟨b', o', x, e, hx, r1, k1, rfl, hl1, hr1⟩ := HR.out g hgl
      obtain ⟨rfl, rfl⟩ : b = b' ∧ o = o' := by cases e; exact ⟨rfl, rfl⟩
      have HR1 := Lib.hid hr1
      clear hr1 e
      have hx' := HCELL.out ⟨b, o + g, none⟩ wr _ hbl hB hx
      have hx0' := HBA.out wr hbl hB
      clear hx
      obtain ⟨m1, em1⟩ : ∃ m1, (L g).length = m1 := ⟨_, rfl⟩
      have HEM1 := Lib.hid em1
      rw [em1] at hx' hl1
      clear em1
      have HB := Lib.hid hB
      by_cases hm2 : m1 < 2
      · have u0 : decide ((m1 : Int) < 2) = true := decide_eq_true (by omega)
        have HM := Lib.hid hm2
        clear hm2 hB hS
        go_wp2_with fail
        go_ret3
        exact .no (fun h => by have h1 := h.1.2.2.2.2.1; have h2 := (h.1.2.2.2.2.2 g hgl).1; have := HM.out; rw [HEM1.out] at h2; omega) (Bw.trans (HB.out.mono (by omega)))
      have u0 : decide ((m1 : Int) < 2) = false := decide_eq_false (by omega)
      by_cases hm : m1 = m
      · have t6 : ((m1 : Int) != (m : Int)) = false := by rw [hm]; simp
        have HM := Lib.hid (And.intro hm hm2)
        have HSQ := Lib.hid hS
        clear hm hm2 hS hB
        go_wp2_with fail
        go_loopw [8] (fun v wx => ∃ j : Nat, j ≤ m1 ∧ v = .int .i64 j ∧ Below w1.heap.size w1 wx ∧ SqAt wx w1.heap.size (shr L g) ∧ OkTo D (L g) j) (fun v _ => m1 - (intOf v).toNat)
        case atStart => exact ⟨0, by omega, rfl, HB.out, HSQ.out, fun g x hg => absurd hg (Nat.not_lt_zero _)⟩
        case round =>
          clear hx' hx0' e0 e1
          obtain ⟨j, hj, rfl, hB, hS, hto⟩ := hrel
          have HTO := Lib.hid hto
          have HSX := Lib.hid hS
          have HBX := Lib.hid hB
          obtain ⟨e0, e1⟩ := HD.out _ hB
          clear hto hS
          by_cases hjl : j < m1
          · obtain ⟨x, hxj⟩ : ∃ x, (L g)[j]? = some x := ⟨(L g)[j]'(by rw [HEM1.out]; exact hjl), List.getElem?_eq_getElem _⟩
            obtain ⟨b1, o1, e, hc⟩ := HR1.out j x hxj
            subst e
            have hcx := HCELL.out ⟨b1, o1 + j, none⟩ _ _ (World.block_lt_of_cell? _ _ hc) hB hc
            have HX := Lib.hid hxj
            clear hc hxj hB
            by_cases g1 : x < 0
            · have u1 : decide (x < 0) = true := decide_eq_true g1
              go_wp2_with fail
              go_region
              go_wp2_with fail
              go_ret3
              exact .no (fun h => absurd ((h.1.2.2.2.2.2 g hgl).2 j x (by rw [HEM1.out]; exact hjl) HX.out).1 (by omega)) (Bw.trans (HBX.out.drew.mono (by omega)))
            have u1 : decide (x < 0) = false := decide_eq_false g1
            by_cases g2 : D ≤ x
            · have u2 : decide (D ≤ x) = true := decide_eq_true g2
              go_wp2_with fail
              go_region
              go_wp2_with fail
              go_ret3
              exact .no (fun h => absurd ((h.1.2.2.2.2.2 g hgl).2 j x (by rw [HEM1.out]; exact hjl) HX.out).2.1 (by omega)) (Bw.trans (HBX.out.drew.mono (by omega)))
            have u2 : decide (D ≤ x) = false := decide_eq_false g2
            by_cases g3 : 0 < j
            · have u3 : decide ((0 : Int) < (j : Int)) = true := decide_eq_true (by omega)
              obtain ⟨j', rfl⟩ : ∃ j', j = j' + 1 := ⟨j - 1, by omega⟩
              obtain ⟨y, hyj⟩ : ∃ y, (L g)[j']? = some y := ⟨(L g)[j']'(by rw [HEM1.out]; omega), List.getElem?_eq_getElem _⟩
              obtain ⟨b2, o2, e, hc⟩ := HR1.out j' y hyj
              obtain ⟨rfl, rfl⟩ : b1 = b2 ∧ o1 = o2 := by cases e; exact ⟨rfl, rfl⟩
              have hcy := HCELL.out ⟨b1, o1 + j', none⟩ _ _ (World.block_lt_of_cell? _ _ hc) HBX.out hc
              have HY := Lib.hid hyj
              clear hc hyj e g3
              have hjj : ((j' + 1 : Nat) : Int) - 1 = (j' : Int) := by omega
              by_cases g4 : x ≤ y
              · have u4 : decide (x ≤ y) = true := decide_eq_true g4
                go_wp2_with fail
                go_region
                go_wp2_with fail
                go_ret3
                exact .no (fun h => absurd (((h.1.2.2.2.2.2 g hgl).2 (j' + 1) x (by rw [HEM1.out]; exact hjl) HX.out).2.2 y (by omega) HY.out) (by omega)) (Bw.trans (HBX.out.drew.mono (by omega)))
              · have u4 : decide (x ≤ y) = false := decide_eq_false g4
                go_wp2_with fail
                go_region
                go_wp2_with fail
                go_roundw
                case rel => exact ⟨j' + 1 + 1, by omega, by go_num, HBX.out.drew, HSX.out, HTO.out.step HX.out (by omega) (by omega) (fun z _ hz => by rw [show j' + 1 - 1 = j' from rfl, HY.out] at hz; cases hz; omega)⟩
                case measure => simp [intOf]; omega
            · obtain rfl : j = 0 := by omega
              have hcx' : wr.cell? ⟨b1, o1, none⟩ = some (.int .i64 x) := hcx
              clear hcx
              go_wp2_with fail
              go_region
              go_wp2_with fail
              go_roundw
              case rel => exact ⟨1, by omega, by go_num, HBX.out.drew, HSX.out, HTO.out.step HX.out (by omega) (by omega) (fun z hz _ => absurd hz (by omega))⟩
              case measure => simp [intOf]; omega
          · obtain rfl : j = m1 := by omega
            have hokg : OkTo D (L g) (L g).length := by rw [HEM1.out]; exact HTO.out
            have HKG := Lib.hid hokg
            clear hokg hB e0 e1
            go_wp2_with fail
            go_loopw [9] (fun v wz => ∃ i : Nat, i ≤ j ∧ v = .int .i64 i ∧ Below w1.heap.size w1 wz ∧ SqAt wz w1.heap.size (fun a b => shr L g a b + ((L g).take i).count (a : Int) * (L g).count (b : Int))) (fun v _ => j - (intOf v).toNat)
            case atStart => exact ⟨0, by omega, rfl, HBX.out, by simpa using HSX.out⟩
            case round =>
              obtain ⟨i, hi, rfl, hB, hS⟩ := hrel
              by_cases hil : i < j
              · obtain ⟨x, hx⟩ : ∃ x, (L g)[i]? = some x := ⟨(L g)[i]'(by rw [HEM1.out]; exact hil), List.getElem?_eq_getElem _⟩
                obtain ⟨b1, o1, e, hc⟩ := HR1.out i x hx
                subst e
                obtain ⟨hx0, hxD, -⟩ := HKG.out i x (by rw [HEM1.out]; exact hil) hx
                obtain ⟨xn, rfl⟩ : ∃ xn : Nat, x = xn := ⟨x.toNat, by omega⟩
                have hx60 : xn < 60 := by omega
                have HX := Lib.hid (And.intro hx hc)
                have HB2 := Lib.hid hB
                clear hx hc hx0 hxD hB
                go_wp2_with fail
                go_loopw [10] (fun v wz => ∃ k : Nat, k ≤ j ∧ v = .int .i64 k ∧ Below w1.heap.size w1 wz ∧ SqAt wz w1.heap.size (fun a b => shr L g a b + ((L g).take i).count (a : Int) * (L g).count (b : Int) + if a = xn then ((L g).take k).count (b : Int) else 0)) (fun v _ => j - (intOf v).toNat)
                case atStart => exact ⟨0, by omega, rfl, HB2.out, by simpa using hS⟩
                case round =>
                  clear hS
                  obtain ⟨k, hk, rfl, hB, hS⟩ := hrel
                  by_cases hkl : k < j
                  · obtain ⟨y, hy⟩ : ∃ y, (L g)[k]? = some y := ⟨(L g)[k]'(by rw [HEM1.out]; exact hkl), List.getElem?_eq_getElem _⟩
                    obtain ⟨b2, o2, e, hc⟩ := HR1.out k y hy
                    obtain ⟨rfl, rfl⟩ : b1 = b2 ∧ o1 = o2 := by cases e; exact ⟨rfl, rfl⟩
                    have hcy := HCELL.out ⟨b1, o1 + k, none⟩ _ _ (World.block_lt_of_cell? _ _ hc) hB hc
                    have hcx := HCELL.out ⟨b1, o1 + i, none⟩ _ _ (World.block_lt_of_cell? _ _ HX.out.2) hB HX.out.2
                    obtain ⟨hy0, hyD, -⟩ := HKG.out k y (by rw [HEM1.out]; exact hkl) hy
                    obtain ⟨yn, rfl⟩ : ∃ yn : Nat, y = yn := ⟨y.toNat, by omega⟩
                    have hy60 : yn < 60 := by omega
                    obtain ⟨T, hT⟩ : ∃ T : Nat → Nat → Nat, (fun a b => shr L g a b + ((L g).take i).count (a : Int) * (L g).count (b : Int) + if a = xn then ((L g).take k).count (b : Int) else 0) = T := ⟨_, rfl⟩
                    have ht : T xn yn < 1000000000 := by
                      have h1 := shr_le (fun g' hg' => (HOK.out g' hg').2) xn yn g (by omega)
                      have h2 := okTo_count HKG.out (xn : Int)
                      have h3 := okTo_count HKG.out (yn : Int)
                      have h4 := take_count_le (L g) i (xn : Int)
                      have h5 := take_count_le (L g) k (yn : Int)
                      have h6 := Nat.mul_le_mul (Nat.le_trans h4 h2) h3
                      rw [← hT]
                      show _ + _ + (if xn = xn then _ else 0) < _
                      rw [if_pos rfl]
                      omega
                    rw [hT] at hS
                    obtain ⟨hcell, hfr⟩ := hS xn yn hx60 hy60
                    have HT := Lib.hid hT
                    obtain ⟨t, et⟩ : ∃ t, T xn yn = t := ⟨_, rfl⟩
                    rw [et] at hcell ht
                    rw [hs1] at hcell hfr
                    have HET := Lib.hid et
                    have hxi : (xn : Int) < 60 := by omega
                    have hyi : (yn : Int) < 60 := by omega
                    have HY := Lib.hid hy
                    have HSQ2 := Lib.hid hS
                    have HB3 := Lib.hid hB
                    clear hy hc e hy0 hyD hS et hB hT
                    go_wp2_with fail
                    go_region
                    go_wp2_with fail
                    go_roundw
                    case rel =>
                      refine ⟨k + 1, by omega, by go_num, (HB3.out.drew).setCell (by show w1.heap.size ≤ w.heap.size + 1; omega) _, ?_⟩
                      have hsq : SqAt wr.drew w1.heap.size T := HSQ2.out
                      have h2 := hsq.set hx60 hy60 (t + 1)
                      rw [hs1] at h2 ⊢
                      refine SqAt.congr (by exact_mod_cast h2) fun a b _ _ => ?_
                      have e2 := take_count_succ HY.out (b : Int)
                      rw [e2]
                      have eT : T a b = _ := (congrFun (congrFun HT.out a) b).symm
                      by_cases ha : a = xn
                      · subst ha
                        by_cases hbb : b = yn
                        · subst hbb
                          rw [← HET.out, eT]
                          simp <;> omega
                        · have : ¬ (yn : Int) = (b : Int) := by omega
                          simp only [eT]
                          simp [hbb, this]
                      · simp only [eT]
                        simp [ha]
                    case measure => simp [intOf]; omega
                  · obtain rfl : k = j := by omega
                    have HSQ2 := Lib.hid hS
                    have HB3 := Lib.hid hB
                    clear hS hB
                    go_wp2_with fail
                    go_roundw
                    case rel =>
                      refine ⟨i + 1, by omega, by go_num, HB3.out, HSQ2.out.congr fun a b _ _ => ?_⟩
                      have e2 := take_count_succ HX.out.1 (a : Int)
                      have e3 : (L g).take k = L g := by rw [← HEM1.out]; exact List.take_length
                      rw [e2, e3]
                      by_cases ha : a = xn
                      · subst ha
                        simp [Nat.add_mul] <;> omega
                      · have : ¬ (xn : Int) = (a : Int) := by omega
                        simp [ha, this]
                    case measure => simp [intOf]; omega
              · obtain rfl : i = j := by omega
                have HSQ2 := Lib.hid hS
                have HB3 := Lib.hid hB
                clear hS hB
                go_wp2_with fail
                go_roundw
                case rel =>
                  refine ⟨g + 1, by omega, by go_num, HB3.out, HSQ2.out.congr fun a b _ _ => ?_, fun _ => by have := HM.out; omega, fun g' hg' => ?_⟩
                  · have e3 : (L g).take i = L g := by rw [← HEM1.out]; exact List.take_length
                    rw [e3]
                    rfl
                  · by_cases e : g' < g
                    · exact HOK.out g' e
                    · obtain rfl : g' = g := by omega
                      exact ⟨by rw [HEM1.out]; exact HM.out.1, HKG.out⟩
                case measure => simp [intOf]; omega
      · have t6 : ((m1 : Int) != (m : Int)) = true := by simp; omega
        have HM := Lib.hid hm
        clear hm hB hS
        go_wp2_with fail
        go_ret3
        exact .no (fun h => HM.out (by rw [← HEM1.out, ← HEM.out]; exact (h.1.2.2.2.2.2 g hgl).1)) (Bw.trans (HB.out.mono (by omega)))
    · obtain rfl : g = n := by omega
      have hf : Formed D g L := ⟨by omega, by omega, by omega, by omega, by have := HM2.out (by omega); rw [HEM.out]; omega, fun g' hg' => by rw [HEM.out]; exact HOK.out g' hg'⟩
      have hle : ∀ a b, shr L g a b ≤ 4096 := fun a b => Nat.le_trans (shr_le (fun k hk => (HOK.out k hk).2) a b g (Nat.le_refl _)) (by omega)
      obtain ⟨Dn, hDn⟩ : ∃ Dn : Nat, D = Dn := ⟨D.toNat, by omega⟩
      have hD60 : Dn ≤ 60 := by omega
      have hD2 : 2 ≤ Dn := by omega
      obtain ⟨T, hT⟩ : ∃ T, shr L g = T := ⟨_, rfl⟩
      rw [hT] at hS hle
      obtain ⟨R, hR⟩ : ∃ R, T 0 0 = R := ⟨_, rfl⟩
      obtain ⟨M, hM⟩ : ∃ M, T 0 1 = M := ⟨_, rfl⟩
      have hRM : R ≤ 4096 ∧ M ≤ 4096 := ⟨hR ▸ hle 0 0, hM ▸ hle 0 1⟩
      have HGD : Hid (GoodD D g L ↔ ((∀ a b : Nat, a < Dn → b < Dn → T a b = if a = b then R else M) ∧ 1 ≤ M)) := Lib.hid (by
        rw [← hR, ← hM, ← hT, hDn]
        constructor
        · rintro ⟨_, h1, h2⟩
          exact ⟨fun a b ha hb => h1 a b (by omega) (by omega), h2⟩
        · rintro ⟨h1, h2⟩
          exact ⟨hDn ▸ hf, fun a b ha hb => h1 a b (by omega) (by omega), h2⟩)
      have HRES : Hid (shr L g 0 0 = R ∧ shr L g 0 1 = M) := Lib.hid ⟨by rw [hT, hR], by rw [hT, hM]⟩
      have HC0 : Hid (∀ q, SqAt q w1.heap.size T → q.cell? ⟨w1.heap.size, 0, none⟩ = some (.int .i64 R) ∧ q.cell? ⟨w1.heap.size, 1, none⟩ = some (.int .i64 M)) := Lib.hid fun q hq => by
        have k00 := (hq 0 0 (by omega) (by omega)).1
        have k01 := (hq 0 1 (by omega) (by omega)).1
        rw [hR] at k00
        rw [hM] at k01
        exact ⟨k00, k01⟩
      have HLE := Lib.hid hle
      have HRV := Lib.hid (And.intro hR hM)
      have HB := Lib.hid hB
      have HSQ := Lib.hid hS
      have HDn := Lib.hid hDn
      have HD2 : Hid (∀ q, Below w1.heap.size w1 q → q.cell? ⟨w.heap.size, 0, none⟩ = some (.int .i64 Dn)) := Lib.hid fun q hq => by rw [← hDn]; exact (HD.out q hq).1
      clear hf hle hT hR hM hS hB hDn e0 t1 t2 h1 h2 hgl
      have e0 := HD2.out wr HB.out
      go_wp2_with fail
      go_loopw [11] (fun v wz => ∃ a : Nat, a ≤ Dn ∧ v = .int .i64 a ∧ Below w1.heap.size w1 wz ∧ SqAt wz w1.heap.size T ∧ ∀ a' b', a' < a → b' < Dn → T a' b' = if a' = b' then R else M) (fun v _ => Dn - (intOf v).toNat)
      case atStart => exact ⟨0, by omega, rfl, HB.out, HSQ.out, fun a' b' h => absurd h (Nat.not_lt_zero _)⟩
      case round =>
        clear e0
        obtain ⟨a, ha, rfl, hB, hS, hall⟩ := hrel
        have HALL := Lib.hid hall
        have HB1 := Lib.hid hB
        have HS1 := Lib.hid hS
        have e0 := HD2.out wr hB
        clear hall hB hS
        by_cases hal : a < Dn
        · go_wp2_with fail
          go_loopw [12] (fun v wz => ∃ b : Nat, b ≤ Dn ∧ v = .int .i64 b ∧ Below w1.heap.size w1 wz ∧ SqAt wz w1.heap.size T ∧ ∀ b', b' < b → T a b' = if a = b' then R else M) (fun v _ => Dn - (intOf v).toNat)
          case atStart => exact ⟨0, by omega, rfl, HB1.out, HS1.out, fun b' h => absurd h (Nat.not_lt_zero _)⟩
          case round =>
            clear e0
            obtain ⟨b, hb, rfl, hB, hS, hrow⟩ := hrel
            have HROW := Lib.hid hrow
            have HB4 := Lib.hid hB
            have HS4 := Lib.hid hS
            have e0 := HD2.out wr hB
            obtain ⟨q0, q1⟩ := HC0.out wr hS
            rw [hs1] at q0 q1
            clear hrow hB hS
            by_cases hbl : b < Dn
            · have hcell := (HS4.out a b (by omega) (by omega)).1
              obtain ⟨t, et⟩ : ∃ t, T a b = t := ⟨_, rfl⟩
              have ht : t ≤ 4096 := et ▸ HLE.out a b
              rw [et] at hcell
              rw [hs1] at hcell
              have HET := Lib.hid et
              have hai : (a : Int) < 60 := by omega
              have hbi : (b : Int) < 60 := by omega
              clear et
              by_cases hab : a = b
              · subst hab
                have tb : ((a : Int) == (a : Int)) = true := by simp
                have tb2 : ((a : Int) != (a : Int)) = false := by simp
                by_cases htw : t = R
                · have tn : ((t : Int) != (R : Int)) = false := by rw [htw]; simp
                  have HTW := Lib.hid htw
                  clear htw
                  go_wp2_with fail
                  go_region
                  go_wp2_with fail
                  go_roundw
                  case rel =>
                    refine ⟨a + 1, by omega, by go_num, HB4.out.drew, HS4.out, fun b' hb' => ?_⟩
                    by_cases e : b' < a
                    · exact HROW.out b' e
                    · obtain rfl : b' = a := by omega
                      rw [if_pos rfl, HET.out, HTW.out]
                  case measure => simp [intOf]; omega
                · have tn : ((t : Int) != (R : Int)) = true := by simp; omega
                  have HTW := Lib.hid htw
                  clear htw
                  go_wp2_with fail
                  go_region
                  go_wp2_with fail
                  go_ret3
                  exact .no (fun h => HTW.out (by rw [← HET.out, (HGD.out.1 h).1 a a hal hal, if_pos rfl])) (Bw.trans (HB4.out.drew.mono (by omega)))
              · have te : ((a : Int) == (b : Int)) = false := by simp; omega
                have te2 : ((a : Int) != (b : Int)) = true := by simp; omega
                have HAB := Lib.hid hab
                clear hab
                by_cases htw : t = M
                · have tn : ((t : Int) != (M : Int)) = false := by rw [htw]; simp
                  have HTW := Lib.hid htw
                  clear htw
                  go_wp2_with fail
                  go_region
                  go_wp2_with fail
                  go_roundw
                  case rel =>
                    refine ⟨b + 1, by omega, by go_num, HB4.out.drew, HS4.out, fun b' hb' => ?_⟩
                    by_cases e : b' < b
                    · exact HROW.out b' e
                    · obtain rfl : b' = b := by omega
                      rw [if_neg HAB.out, HET.out, HTW.out]
                  case measure => simp [intOf]; omega
                · have tn : ((t : Int) != (M : Int)) = true := by simp; omega
                  have HTW := Lib.hid htw
                  clear htw
                  go_wp2_with fail
                  go_region
                  go_wp2_with fail
                  go_ret3
                  exact .no (fun h => HTW.out (by rw [← HET.out, (HGD.out.1 h).1 a b hal hbl, if_neg HAB.out])) (Bw.trans (HB4.out.drew.mono (by omega)))
            · obtain rfl : b = Dn := by omega
              go_wp2_with fail
              go_roundw
              case rel =>
                refine ⟨a + 1, by omega, by go_num, HB4.out, HS4.out, fun a' b' ha' hb' => ?_⟩
                by_cases e : a' < a
                · exact HALL.out a' b' e hb'
                · obtain rfl : a' = a := by omega
                  exact HROW.out b' hb'
              case measure => simp [intOf]; omega
        · obtain rfl : a = Dn := by omega
          obtain ⟨q0, q1⟩ := HC0.out wr HS1.out
          rw [hs1] at q0 q1
          by_cases hm : 1 ≤ M
          · have tm : decide (0 < M) = true := decide_eq_true (by omega)
            go_wp2_with fail
            go_region
            go_wp2_with fail
            go_ret3
            exact ⟨Bw.trans (HB1.out.drew.mono (by omega)), .inl ⟨HGD.out.2 ⟨fun x y hx hy => HALL.out x y hx hy, hm⟩, by rw [HRES.out.1, HRES.out.2]; rfl⟩⟩
          · have tm : decide (0 < M) = false := decide_eq_false (by omega)
            go_wp2_with fail
            go_region
            go_wp2_with fail
            go_ret3
            exact .no (fun h => hm (HGD.out.1 h).2) (Bw.trans (HB1.out.drew.mono (by omega)))
end Go.Proofs.Ytnmkkflnehnioaa
