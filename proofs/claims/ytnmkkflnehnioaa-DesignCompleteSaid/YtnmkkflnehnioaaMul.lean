/-
  smallfield's shape.mul at polynomials of degree 2 and 3. Conditions: the shape's prime and the two elements lie between 0 and 9, the polynomial's digits are 0 or 1.
-/
import Derived.Test.YtnmkkflnehnioaaOps
import Derived.BigQuiet
import Derived.Deep.QuietTactic
namespace Go.Proofs.Ytnmkkflnehnioaa
open Go.RowKit

def rowTo (X Y : List Int) (i : Nat) : Nat → List Int → List Int
  | 0, P => P
  | k + 1, P => (rowTo X Y i k P).set (i + k) (wrap64 (at0 (rowTo X Y i k P) (i + k) + wrap64 (at0 X i * at0 Y k)))
def convTo (X Y : List Int) (n : Nat) : Nat → List Int → List Int
  | 0, P => P
  | i + 1, P => rowTo X Y i n (convTo X Y n i P)
def redTo (Z : List Int) (p : Int) (n top : Nat) : Nat → List Int → List Int
  | 0, P => P
  | i + 1, P => (redTo Z p n top i P).set (top - n + i) (wrap64 (at0 (redTo Z p n top i P) (top - n + i) + wrap64 (-at0 Z i % p * at0 (redTo Z p n top i P) top)))
def redAll (Z : List Int) (p : Int) (n : Nat) : Nat → List Int → List Int
  | 0, P => P
  | t + 1, P => redTo Z p n (2 * n - 2 - t) n (redAll Z p n t P)
def modTo (p : Int) : Nat → List Int → List Int
  | 0, P => P
  | i + 1, P => (modTo p i P).set i (Int.tmod (at0 (modTo p i P) i) p)
theorem rowTo_length (X Y : List Int) (i : Nat) : ∀ (k : Nat) (P : List Int), (rowTo X Y i k P).length = P.length
  | 0, P => rfl
  | k + 1, P => by simp [rowTo, rowTo_length X Y i k P]
theorem convTo_length (X Y : List Int) (n : Nat) : ∀ (k : Nat) (P : List Int), (convTo X Y n k P).length = P.length
  | 0, P => rfl
  | k + 1, P => by simp [convTo, rowTo_length, convTo_length X Y n k P]
theorem redTo_length (Z : List Int) (p : Int) (n top : Nat) : ∀ (k : Nat) (P : List Int), (redTo Z p n top k P).length = P.length
  | 0, P => rfl
  | k + 1, P => by simp [redTo, redTo_length Z p n top k P]
theorem redAll_length (Z : List Int) (p : Int) (n : Nat) : ∀ (k : Nat) (P : List Int), (redAll Z p n k P).length = P.length
  | 0, P => rfl
  | k + 1, P => by simp [redAll, redTo_length, redAll_length Z p n k P]
theorem modTo_length (p : Int) : ∀ (k : Nat) (P : List Int), (modTo p k P).length = P.length
  | 0, P => rfl
  | k + 1, P => by simp [modTo, modTo_length p k P]

/-- The list before the last reduction mod p. -/
def mulRow (p : Int) (Z : List Int) (n : Nat) (a b : Int) : List Int := modTo p (2 * n - 1) (redAll Z p n (n - 1) (convTo (digs p n a) (digs p n b) n n (List.replicate (2 * n - 1) 0)))
def mulS (p : Int) (Z : List Int) (n : Nat) (a b : Int) : Int := elemFold p (upto (backAt ((mulRow p Z n a b).take n)) n)

set_option maxRecDepth 100000 in
set_option maxHeartbeats 3200000 in
theorem mul_2 (sz p : Int) (bz : Nat) (Z : List Int) (hZ0 : ∀ j, j < 2 → 0 ≤ at0 Z j ∧ at0 Z j ≤ 1) (a b : Int) (w : World) (hbz : bz < w.heap.size) (hcz : ∀ j, j < 2 → w.cell? ⟨bz, j, none⟩ = some (.int .i64 (at0 Z j)))
    (hp : 2 ≤ p) (hp' : p ≤ 9) (ha : 0 ≤ a) (ha' : a ≤ 9) (hb : 0 ≤ b) (hb' : b ≤ 9) :
    Calls Try.prog 71 #[.agg #[.int .i64 sz, .int .i64 p, .slice (some ⟨bz, 0, none⟩) 2 2], .int .i64 a, .int .i64 b] w fun e w' => e = .returned (.int .i64 (mulS p Z 2 a b)) ∧ Below w.heap.size w w' := by
  have hp0 : ¬ p = 0 := by omega
  have hn : polyLen (some ⟨bz, 0, none⟩) 2 2 2 := by unfold polyLen; omega
  have HN := Lib.hid hn
  clear hn
  have HZ := Lib.hid hZ0
  clear hZ0
  have HC := Lib.hid hcz
  clear hcz
  have hmk : ∀ w, (Instr.makeSlice 38 (.int .i64 3) (.int .i64 3)).run Try.prog w = .ok (.slice (some ⟨w.heap.size, 0, none⟩) 3 3) (w.alloc (.cells (intCells (List.replicate 3 0)) 3)) := fun _ => by kernel_rfl
  go_enter Try.func71, Try.ntmps71
  go_upto_region 1 with fail
  go_cut [7, 8] (fun s7 s8 wx => ∃ bx bY : Nat, s7 = .slice (some ⟨bx, 0, none⟩) 2 2 ∧ s8 = .slice (some ⟨bY, 0, none⟩) 2 2 ∧ w.heap.size < bx ∧ bx < bY ∧ RowAt wx bx (digs p 2 a) ∧ RowAt wx bY (digs p 2 b) ∧ Below (w.heap.size + 1) (w.alloc (.cells #[.int .i64 sz, .int .i64 p, .slice (some ⟨bz, 0, none⟩) 2 2] 84)) wx)
  case first =>
    go_region_with (go_at_call 83; refine (digits_any _ _ _ _ _ _ HN.out _ _ hp hp' (by assumption) (by assumption)).mono ?_; rintro e w' ⟨bx, rfl, hbx, hrow, hbel⟩; obtain ⟨hcc, hff⟩ := bcell hbel)
    all_goals (go_wp2_with fail; go_meet)
    all_goals
      rename_i w1 b1 h1 r1 be1 cc1 ff1
      have h1' : w.heap.size + 1 ≤ b1 := by simpa using h1
      have hz : w.heap.size + 1 ≤ w1.heap.size := by have := be1.size; simpa using this
      exact ⟨b1, bx, rfl, rfl, by omega, by have := r1.lt; omega, r1.below hbel r1.lt, hrow, ((Below.refl _ _).drew.trans (Below.mono be1 (by simp))).trans (hbel.mono hz)⟩
  case rest =>
    obtain ⟨bx, bY, rfl, rfl, hbx, hby, hX, hY, hB⟩ := hcut
    have hcp : ∀ W : World, Below (w.heap.size + 1) (w.alloc (.cells #[.int .i64 sz, .int .i64 p, .slice (some ⟨bz, 0, none⟩) 2 2] 84)) W → W.cell? ⟨w.heap.size, 0, none⟩ = some (.int .i64 sz) ∧ W.cell? ⟨w.heap.size, 1, none⟩ = some (.int .i64 p) ∧ W.cell? ⟨w.heap.size, 2, none⟩ = some (.slice (some ⟨bz, 0, none⟩) 2 2) := fun W h => by
      refine ⟨?_, ?_, ?_⟩ <;> rw [h.cell (p := ⟨w.heap.size, _, none⟩) (by simp)] <;> simp [go_sem]
    have HP := Lib.hid hcp
    clear hcp
    obtain ⟨c0, c1, c2⟩ := HP.out wc hB
    have hyl := hY.lt
    have hP := RowAt.new wc (List.replicate 3 0)
    have hX2 := hX.alloc (.cells (intCells (List.replicate 3 0)) 3)
    have hY2 := hY.alloc (.cells (intCells (List.replicate 3 0)) 3)
    have hB2 : Below (w.heap.size + 1) (w.alloc (.cells #[.int .i64 sz, .int .i64 p, .slice (some ⟨bz, 0, none⟩) 2 2] 84)) (wc.alloc (.cells (intCells (List.replicate 3 0)) 3)) := hB.alloc (by have := hB.size; simpa using this) _
    obtain ⟨bp, hbp⟩ : ∃ bp, wc.heap.size = bp := ⟨_, rfl⟩
    have HBP := Lib.hid hbp
    go_wp2_with fail
    rw [hbp] at hP hyl
    clear hbp hX hY hB c0 c1 c2 hmk
    go_loopw [32] (fun i wr => ∃ k : Nat, k ≤ 2 ∧ i = .int .i64 k ∧ RowAt wr bx (digs p 2 a) ∧ RowAt wr bY (digs p 2 b) ∧ RowAt wr bp (convTo (digs p 2 a) (digs p 2 b) 2 k (List.replicate 3 0)) ∧ Below (w.heap.size + 1) (w.alloc (.cells #[.int .i64 sz, .int .i64 p, .slice (some ⟨bz, 0, none⟩) 2 2] 84)) wr)
      (fun i _ => 2 - (intOf i).toNat)
    case atStart => exact ⟨0, by omega, rfl, hX2, hY2, hP, hB2⟩
    case round =>
      clear hX2 hY2 hP hB2
      obtain ⟨i, hi, rfl, hX, hY, hP, hB⟩ := hrel
      obtain ⟨wo, rfl⟩ : ∃ wo : World, wo = wr := ⟨_, rfl⟩
      by_cases hlt : i < 2
      · have cx : ∀ W : World, RowAt W bx (digs p 2 a) → W.cell? ⟨bx, i, none⟩ = some (.int .i64 (at0 (digs p 2 a) i)) := fun W h => h.cell (by rw [digs_length]; exact hlt)
        have CX := Lib.hid cx
        clear cx
        go_wp2_with fail
        go_loopw [37] (fun j wr => ∃ k : Nat, k ≤ 2 ∧ j = .int .i64 k ∧ RowAt wr bx (digs p 2 a) ∧ RowAt wr bY (digs p 2 b) ∧ RowAt wr bp (rowTo (digs p 2 a) (digs p 2 b) i k (convTo (digs p 2 a) (digs p 2 b) 2 i (List.replicate 3 0))) ∧ Below (w.heap.size + 1) (w.alloc (.cells #[.int .i64 sz, .int .i64 p, .slice (some ⟨bz, 0, none⟩) 2 2] 84)) wr)
          (fun i _ => 2 - (intOf i).toNat)
        case atStart => exact ⟨0, by omega, rfl, hX, hY, hP, hB⟩
        case round =>
          clear hX hY hP hB
          obtain ⟨k, hk, rfl, hX, hY, hP, hB⟩ := hrel
          by_cases hkt : k < 2
          · have cx := CX.out wr hX
            have cy := hY.cell (j := k) (by rw [digs_length]; exact hkt)
            have cP := hP.cell (j := i + k) (by rw [rowTo_length, convTo_length, List.length_replicate]; omega)
            have fP := hP.frozen (i + k)
            go_wp2_with fail
            go_region
            all_goals go_wp2_with fail
            go_roundw
            case rel => exact ⟨k + 1, by omega, by go_num, by first | exact (hX.other (by show bx ≠ bp; omega) _).drew | exact hX.other (by show bx ≠ bp; omega) _, by first | exact (hY.other (by show bY ≠ bp; omega) _).drew | exact hY.other (by show bY ≠ bp; omega) _, by first | exact (hP.set _ _).drew | exact hP.set _ _, by first | exact (hB.setCell (by show w.heap.size + 1 ≤ bp; omega) _).drew | exact hB.drew.setCell (by show w.heap.size + 1 ≤ bp; omega) _⟩
            case measure => simp [intOf]; omega
          · obtain rfl : k = 2 := by omega
            go_wp2_with fail
            go_roundw
            case rel => exact ⟨i + 1, by omega, by go_num, hX, hY, hP, hB⟩
            case measure => simp [intOf]; omega
      · obtain rfl : i = 2 := by omega
        go_wp2_with fail
        obtain ⟨P0, hP0⟩ : ∃ P0, convTo (digs p 2 a) (digs p 2 b) 2 2 (List.replicate 3 0) = P0 := ⟨_, rfl⟩
        have HP0 := Lib.hid hP0
        have hl0 : P0.length = 3 := by rw [← hP0, convTo_length, List.length_replicate]
        have HL0 := Lib.hid hl0
        rw [hP0] at hP
        clear hP0 hl0 hX hY
        go_loopw [13] (fun v wr => ∃ t x : Nat, t + x = 2 - 1 ∧ v = .int .i64 ((x : Int) + (2 - 1)) ∧ RowAt wr bp (redAll Z p 2 t P0) ∧ Below (w.heap.size + 1) (w.alloc (.cells #[.int .i64 sz, .int .i64 p, .slice (some ⟨bz, 0, none⟩) 2 2] 84)) wr)
          (fun i _ => (intOf i).toNat)
        case atStart => exact ⟨0, 2 - 1, by omega, rfl, hP, hB⟩
        case round =>
          clear hP hB
          obtain ⟨t, x, htx, rfl, hP, hB⟩ := hrel
          have HT := Lib.hid htx
          have hxl : x ≤ 2 - 1 := by omega
          have htl : t ≤ 2 - 1 := by omega
          clear htx
          obtain ⟨wo, rfl⟩ : ∃ wo : World, wo = wr := ⟨_, rfl⟩
          obtain ⟨c0, c1, c2⟩ := HP.out wo hB
          cases x with
          | succ x =>
            rw [show (((x + 1 : Nat) : Int) + (2 - 1)) = (x : Int) + 2 from by omega]
            have hx2 : x + 1 ≤ 2 - 1 := hxl
            go_wp2_with fail
            clear c0 c1 c2
            go_loopw [70] (fun j wr => ∃ k : Nat, k ≤ 2 ∧ j = .int .i64 k ∧ RowAt wr bp (redTo Z p 2 (x + 2) k (redAll Z p 2 t P0)) ∧ Below (w.heap.size + 1) (w.alloc (.cells #[.int .i64 sz, .int .i64 p, .slice (some ⟨bz, 0, none⟩) 2 2] 84)) wr)
              (fun i _ => 2 - (intOf i).toNat)
            case atStart => exact ⟨0, by omega, rfl, hP, hB⟩
            case round =>
              clear hP hB
              obtain ⟨k, hk, rfl, hP, hB⟩ := hrel
              obtain ⟨c0, c1, c2⟩ := HP.out wr hB
              by_cases hkt : k < 2
              · have cz : wr.cell? ⟨bz, k, none⟩ = some (.int .i64 (at0 Z k)) := by rw [hB.cell (p := ⟨bz, k, none⟩) (by show bz < w.heap.size + 1; omega), World.cell?_alloc_old _ _ _ (by show bz ≠ w.heap.size; omega)]; exact HC.out k hkt
                obtain ⟨z0, z1⟩ := HZ.out k hkt
                obtain ⟨L, hL⟩ : ∃ L, redTo Z p 2 (x + 2) k (redAll Z p 2 t P0) = L := ⟨_, rfl⟩
                have hLl : L.length = 3 := by rw [← hL, redTo_length, redAll_length]; exact HL0.out
                have HL := Lib.hid hL
                rw [hL] at hP
                clear hL
                have cT := hP.cell (j := x + 2) (by omega)
                have cP := hP.cell (j := x + k) (by omega)
                have fP := hP.frozen (x + k)
                have HLl := Lib.hid hLl
                clear hLl
                go_wp2_with fail
                go_region
                all_goals go_wp2_with fail
                go_roundw
                case rel => exact ⟨k + 1, by omega, by go_num, by rw [redTo, HL.out, show x + 2 - 2 + k = x + k from by omega]; first | exact (hP.set _ _).drew | exact hP.set _ _, by first | exact (hB.setCell (by show w.heap.size + 1 ≤ bp; omega) _).drew | exact hB.drew.setCell (by show w.heap.size + 1 ≤ bp; omega) _⟩
                case measure => simp [intOf]; omega
              · obtain rfl : k = 2 := by omega
                go_wp2_with fail
                go_roundw
                case rel => exact ⟨t + 1, x, by have := HT.out; omega, by go_num, by rw [redAll]; have := HT.out; rw [show 2 * 2 - 2 - t = x + 2 from by omega]; exact hP, hB⟩
                case measure => simp [intOf]; omega
          | zero =>
            obtain rfl : t = 2 - 1 := by have := HT.out; omega
            rw [show (((0 : Nat) : Int) + (2 - 1)) = (2 - 1 : Int) from by omega]
            clear c0 c1 c2
            obtain ⟨P1, hP1⟩ : ∃ P1, redAll Z p 2 (2 - 1) P0 = P1 := ⟨_, rfl⟩
            have HP1 := Lib.hid hP1
            have hl1 : P1.length = 3 := by rw [← hP1, redAll_length]; exact HL0.out
            have HL1 := Lib.hid hl1
            rw [hP1] at hP
            clear hP1 hl1
            go_wp2_with fail
            go_loopw [100] (fun v wr => ∃ k : Nat, k ≤ 3 ∧ v = .int .i64 k ∧ RowAt wr bp (modTo p k P1) ∧ Below (w.heap.size + 1) (w.alloc (.cells #[.int .i64 sz, .int .i64 p, .slice (some ⟨bz, 0, none⟩) 2 2] 84)) wr)
              (fun i _ => 3 - (intOf i).toNat)
            case atStart => exact ⟨0, by omega, rfl, hP, hB⟩
            case round =>
              clear hP hB
              obtain ⟨k, hk, rfl, hP, hB⟩ := hrel
              obtain ⟨c0, c1, c2⟩ := HP.out wr hB
              by_cases hkt : k < 3
              · have cP := hP.cell (j := k) (by rw [modTo_length, HL1.out]; omega)
                have fP := hP.frozen k
                go_wp2_with fail
                go_region
                all_goals go_wp2_with fail
                go_roundw
                case rel => exact ⟨k + 1, by omega, by go_num, by first | exact (hP.set _ _).drew | exact hP.set _ _, by first | exact (hB.setCell (by show w.heap.size + 1 ≤ bp; omega) _).drew | exact hB.drew.setCell (by show w.heap.size + 1 ≤ bp; omega) _⟩
                case measure => simp [intOf]; omega
              · obtain rfl : k = 3 := by omega
                have hrow : mulRow p Z 2 a b = modTo p 3 P1 := by unfold mulRow; rw [HP0.out]; exact congrArg _ HP1.out
                have hl2 : ((mulRow p Z 2 a b).take 2).length = 2 := by rw [hrow, List.length_take, modTo_length, HL1.out]; rfl
                have hI : IntsB wr.heap.size wr bp 0 ((mulRow p Z 2 a b).take 2) := ⟨hP.lt, fun j hj => by
                  rw [hl2] at hj
                  have hj2 : j < (modTo p 3 P1).length := by rw [modTo_length, HL1.out]; omega
                  have := hP.cell hj2
                  rw [Nat.zero_add, this, hrow, List.getElem?_take, if_pos (by omega)]
                  rfl⟩
                have hI' : IntsB wr.drew.heap.size wr.drew bp 0 ((mulRow p Z 2 a b).take 2) := hI
                have hel := element_any sz p (some ⟨bz, 0, none⟩) 2 2 bp 0 3 ((mulRow p Z 2 a b).take 2) (by omega) (by omega) wr.drew hI'
                rw [hl2] at hel
                have HE := Lib.hid hel
                clear hel hl2 hI hI' hrow
                go_wp2_with fail
                go_region_with (go_at_call 84; refine HE.out.mono ?_; rintro e w' ⟨rfl, hb2⟩)
                all_goals go_wp2_with fail
                all_goals go_ret
                all_goals
                  refine ⟨rfl, ?_⟩
                  have h1 : Below w.heap.size w wr.drew := (((Below.refl _ w).alloc (Nat.le_refl _) _).trans (hB.mono (by omega))).drew
                  exact h1.trans (hb2.mono h1.size)

set_option maxRecDepth 100000 in
set_option maxHeartbeats 3200000 in
theorem mul_3 (sz p : Int) (bz : Nat) (Z : List Int) (hZ0 : ∀ j, j < 3 → 0 ≤ at0 Z j ∧ at0 Z j ≤ 1) (a b : Int) (w : World) (hbz : bz < w.heap.size) (hcz : ∀ j, j < 3 → w.cell? ⟨bz, j, none⟩ = some (.int .i64 (at0 Z j)))
    (hp : 2 ≤ p) (hp' : p ≤ 9) (ha : 0 ≤ a) (ha' : a ≤ 9) (hb : 0 ≤ b) (hb' : b ≤ 9) :
    Calls Try.prog 71 #[.agg #[.int .i64 sz, .int .i64 p, .slice (some ⟨bz, 0, none⟩) 3 3], .int .i64 a, .int .i64 b] w fun e w' => e = .returned (.int .i64 (mulS p Z 3 a b)) ∧ Below w.heap.size w w' := by
  have hp0 : ¬ p = 0 := by omega
  have hn : polyLen (some ⟨bz, 0, none⟩) 3 3 3 := by unfold polyLen; omega
  have HN := Lib.hid hn
  clear hn
  have HZ := Lib.hid hZ0
  clear hZ0
  have HC := Lib.hid hcz
  clear hcz
  have hmk : ∀ w, (Instr.makeSlice 38 (.int .i64 5) (.int .i64 5)).run Try.prog w = .ok (.slice (some ⟨w.heap.size, 0, none⟩) 5 5) (w.alloc (.cells (intCells (List.replicate 5 0)) 3)) := fun _ => by kernel_rfl
  go_enter Try.func71, Try.ntmps71
  go_upto_region 1 with fail
  go_cut [7, 8] (fun s7 s8 wx => ∃ bx bY : Nat, s7 = .slice (some ⟨bx, 0, none⟩) 3 3 ∧ s8 = .slice (some ⟨bY, 0, none⟩) 3 3 ∧ w.heap.size < bx ∧ bx < bY ∧ RowAt wx bx (digs p 3 a) ∧ RowAt wx bY (digs p 3 b) ∧ Below (w.heap.size + 1) (w.alloc (.cells #[.int .i64 sz, .int .i64 p, .slice (some ⟨bz, 0, none⟩) 3 3] 84)) wx)
  case first =>
    go_region_with (go_at_call 83; refine (digits_any _ _ _ _ _ _ HN.out _ _ hp hp' (by assumption) (by assumption)).mono ?_; rintro e w' ⟨bx, rfl, hbx, hrow, hbel⟩; obtain ⟨hcc, hff⟩ := bcell hbel)
    all_goals (go_wp2_with fail; go_meet)
    all_goals
      rename_i w1 b1 h1 r1 be1 cc1 ff1
      have h1' : w.heap.size + 1 ≤ b1 := by simpa using h1
      have hz : w.heap.size + 1 ≤ w1.heap.size := by have := be1.size; simpa using this
      exact ⟨b1, bx, rfl, rfl, by omega, by have := r1.lt; omega, r1.below hbel r1.lt, hrow, ((Below.refl _ _).drew.trans (Below.mono be1 (by simp))).trans (hbel.mono hz)⟩
  case rest =>
    obtain ⟨bx, bY, rfl, rfl, hbx, hby, hX, hY, hB⟩ := hcut
    have hcp : ∀ W : World, Below (w.heap.size + 1) (w.alloc (.cells #[.int .i64 sz, .int .i64 p, .slice (some ⟨bz, 0, none⟩) 3 3] 84)) W → W.cell? ⟨w.heap.size, 0, none⟩ = some (.int .i64 sz) ∧ W.cell? ⟨w.heap.size, 1, none⟩ = some (.int .i64 p) ∧ W.cell? ⟨w.heap.size, 2, none⟩ = some (.slice (some ⟨bz, 0, none⟩) 3 3) := fun W h => by
      refine ⟨?_, ?_, ?_⟩ <;> rw [h.cell (p := ⟨w.heap.size, _, none⟩) (by simp)] <;> simp [go_sem]
    have HP := Lib.hid hcp
    clear hcp
    obtain ⟨c0, c1, c2⟩ := HP.out wc hB
    have hyl := hY.lt
    have hP := RowAt.new wc (List.replicate 5 0)
    have hX2 := hX.alloc (.cells (intCells (List.replicate 5 0)) 3)
    have hY2 := hY.alloc (.cells (intCells (List.replicate 5 0)) 3)
    have hB2 : Below (w.heap.size + 1) (w.alloc (.cells #[.int .i64 sz, .int .i64 p, .slice (some ⟨bz, 0, none⟩) 3 3] 84)) (wc.alloc (.cells (intCells (List.replicate 5 0)) 3)) := hB.alloc (by have := hB.size; simpa using this) _
    obtain ⟨bp, hbp⟩ : ∃ bp, wc.heap.size = bp := ⟨_, rfl⟩
    have HBP := Lib.hid hbp
    go_wp2_with fail
    rw [hbp] at hP hyl
    clear hbp hX hY hB c0 c1 c2 hmk
    go_loopw [32] (fun i wr => ∃ k : Nat, k ≤ 3 ∧ i = .int .i64 k ∧ RowAt wr bx (digs p 3 a) ∧ RowAt wr bY (digs p 3 b) ∧ RowAt wr bp (convTo (digs p 3 a) (digs p 3 b) 3 k (List.replicate 5 0)) ∧ Below (w.heap.size + 1) (w.alloc (.cells #[.int .i64 sz, .int .i64 p, .slice (some ⟨bz, 0, none⟩) 3 3] 84)) wr)
      (fun i _ => 3 - (intOf i).toNat)
    case atStart => exact ⟨0, by omega, rfl, hX2, hY2, hP, hB2⟩
    case round =>
      clear hX2 hY2 hP hB2
      obtain ⟨i, hi, rfl, hX, hY, hP, hB⟩ := hrel
      obtain ⟨wo, rfl⟩ : ∃ wo : World, wo = wr := ⟨_, rfl⟩
      by_cases hlt : i < 3
      · have cx : ∀ W : World, RowAt W bx (digs p 3 a) → W.cell? ⟨bx, i, none⟩ = some (.int .i64 (at0 (digs p 3 a) i)) := fun W h => h.cell (by rw [digs_length]; exact hlt)
        have CX := Lib.hid cx
        clear cx
        go_wp2_with fail
        go_loopw [37] (fun j wr => ∃ k : Nat, k ≤ 3 ∧ j = .int .i64 k ∧ RowAt wr bx (digs p 3 a) ∧ RowAt wr bY (digs p 3 b) ∧ RowAt wr bp (rowTo (digs p 3 a) (digs p 3 b) i k (convTo (digs p 3 a) (digs p 3 b) 3 i (List.replicate 5 0))) ∧ Below (w.heap.size + 1) (w.alloc (.cells #[.int .i64 sz, .int .i64 p, .slice (some ⟨bz, 0, none⟩) 3 3] 84)) wr)
          (fun i _ => 3 - (intOf i).toNat)
        case atStart => exact ⟨0, by omega, rfl, hX, hY, hP, hB⟩
        case round =>
          clear hX hY hP hB
          obtain ⟨k, hk, rfl, hX, hY, hP, hB⟩ := hrel
          by_cases hkt : k < 3
          · have cx := CX.out wr hX
            have cy := hY.cell (j := k) (by rw [digs_length]; exact hkt)
            have cP := hP.cell (j := i + k) (by rw [rowTo_length, convTo_length, List.length_replicate]; omega)
            have fP := hP.frozen (i + k)
            go_wp2_with fail
            go_region
            all_goals go_wp2_with fail
            go_roundw
            case rel => exact ⟨k + 1, by omega, by go_num, by first | exact (hX.other (by show bx ≠ bp; omega) _).drew | exact hX.other (by show bx ≠ bp; omega) _, by first | exact (hY.other (by show bY ≠ bp; omega) _).drew | exact hY.other (by show bY ≠ bp; omega) _, by first | exact (hP.set _ _).drew | exact hP.set _ _, by first | exact (hB.setCell (by show w.heap.size + 1 ≤ bp; omega) _).drew | exact hB.drew.setCell (by show w.heap.size + 1 ≤ bp; omega) _⟩
            case measure => simp [intOf]; omega
          · obtain rfl : k = 3 := by omega
            go_wp2_with fail
            go_roundw
            case rel => exact ⟨i + 1, by omega, by go_num, hX, hY, hP, hB⟩
            case measure => simp [intOf]; omega
      · obtain rfl : i = 3 := by omega
        go_wp2_with fail
        obtain ⟨P0, hP0⟩ : ∃ P0, convTo (digs p 3 a) (digs p 3 b) 3 3 (List.replicate 5 0) = P0 := ⟨_, rfl⟩
        have HP0 := Lib.hid hP0
        have hl0 : P0.length = 5 := by rw [← hP0, convTo_length, List.length_replicate]
        have HL0 := Lib.hid hl0
        rw [hP0] at hP
        clear hP0 hl0 hX hY
        go_loopw [13] (fun v wr => ∃ t x : Nat, t + x = 3 - 1 ∧ v = .int .i64 ((x : Int) + (3 - 1)) ∧ RowAt wr bp (redAll Z p 3 t P0) ∧ Below (w.heap.size + 1) (w.alloc (.cells #[.int .i64 sz, .int .i64 p, .slice (some ⟨bz, 0, none⟩) 3 3] 84)) wr)
          (fun i _ => (intOf i).toNat)
        case atStart => exact ⟨0, 3 - 1, by omega, rfl, hP, hB⟩
        case round =>
          clear hP hB
          obtain ⟨t, x, htx, rfl, hP, hB⟩ := hrel
          have HT := Lib.hid htx
          have hxl : x ≤ 3 - 1 := by omega
          have htl : t ≤ 3 - 1 := by omega
          clear htx
          obtain ⟨wo, rfl⟩ : ∃ wo : World, wo = wr := ⟨_, rfl⟩
          obtain ⟨c0, c1, c2⟩ := HP.out wo hB
          cases x with
          | succ x =>
            rw [show (((x + 1 : Nat) : Int) + (3 - 1)) = (x : Int) + 3 from by omega]
            have hx2 : x + 1 ≤ 3 - 1 := hxl
            go_wp2_with fail
            clear c0 c1 c2
            go_loopw [70] (fun j wr => ∃ k : Nat, k ≤ 3 ∧ j = .int .i64 k ∧ RowAt wr bp (redTo Z p 3 (x + 3) k (redAll Z p 3 t P0)) ∧ Below (w.heap.size + 1) (w.alloc (.cells #[.int .i64 sz, .int .i64 p, .slice (some ⟨bz, 0, none⟩) 3 3] 84)) wr)
              (fun i _ => 3 - (intOf i).toNat)
            case atStart => exact ⟨0, by omega, rfl, hP, hB⟩
            case round =>
              clear hP hB
              obtain ⟨k, hk, rfl, hP, hB⟩ := hrel
              obtain ⟨c0, c1, c2⟩ := HP.out wr hB
              by_cases hkt : k < 3
              · have cz : wr.cell? ⟨bz, k, none⟩ = some (.int .i64 (at0 Z k)) := by rw [hB.cell (p := ⟨bz, k, none⟩) (by show bz < w.heap.size + 1; omega), World.cell?_alloc_old _ _ _ (by show bz ≠ w.heap.size; omega)]; exact HC.out k hkt
                obtain ⟨z0, z1⟩ := HZ.out k hkt
                obtain ⟨L, hL⟩ : ∃ L, redTo Z p 3 (x + 3) k (redAll Z p 3 t P0) = L := ⟨_, rfl⟩
                have hLl : L.length = 5 := by rw [← hL, redTo_length, redAll_length]; exact HL0.out
                have HL := Lib.hid hL
                rw [hL] at hP
                clear hL
                have cT := hP.cell (j := x + 3) (by omega)
                have cP := hP.cell (j := x + k) (by omega)
                have fP := hP.frozen (x + k)
                have HLl := Lib.hid hLl
                clear hLl
                go_wp2_with fail
                go_region
                all_goals go_wp2_with fail
                go_roundw
                case rel => exact ⟨k + 1, by omega, by go_num, by rw [redTo, HL.out, show x + 3 - 3 + k = x + k from by omega]; first | exact (hP.set _ _).drew | exact hP.set _ _, by first | exact (hB.setCell (by show w.heap.size + 1 ≤ bp; omega) _).drew | exact hB.drew.setCell (by show w.heap.size + 1 ≤ bp; omega) _⟩
                case measure => simp [intOf]; omega
              · obtain rfl : k = 3 := by omega
                go_wp2_with fail
                go_roundw
                case rel => exact ⟨t + 1, x, by have := HT.out; omega, by go_num, by rw [redAll]; have := HT.out; rw [show 2 * 3 - 2 - t = x + 3 from by omega]; exact hP, hB⟩
                case measure => simp [intOf]; omega
          | zero =>
            obtain rfl : t = 3 - 1 := by have := HT.out; omega
            rw [show (((0 : Nat) : Int) + (3 - 1)) = (3 - 1 : Int) from by omega]
            clear c0 c1 c2
            obtain ⟨P1, hP1⟩ : ∃ P1, redAll Z p 3 (3 - 1) P0 = P1 := ⟨_, rfl⟩
            have HP1 := Lib.hid hP1
            have hl1 : P1.length = 5 := by rw [← hP1, redAll_length]; exact HL0.out
            have HL1 := Lib.hid hl1
            rw [hP1] at hP
            clear hP1 hl1
            go_wp2_with fail
            go_loopw [100] (fun v wr => ∃ k : Nat, k ≤ 5 ∧ v = .int .i64 k ∧ RowAt wr bp (modTo p k P1) ∧ Below (w.heap.size + 1) (w.alloc (.cells #[.int .i64 sz, .int .i64 p, .slice (some ⟨bz, 0, none⟩) 3 3] 84)) wr)
              (fun i _ => 5 - (intOf i).toNat)
            case atStart => exact ⟨0, by omega, rfl, hP, hB⟩
            case round =>
              clear hP hB
              obtain ⟨k, hk, rfl, hP, hB⟩ := hrel
              obtain ⟨c0, c1, c2⟩ := HP.out wr hB
              by_cases hkt : k < 5
              · have cP := hP.cell (j := k) (by rw [modTo_length, HL1.out]; omega)
                have fP := hP.frozen k
                go_wp2_with fail
                go_region
                all_goals go_wp2_with fail
                go_roundw
                case rel => exact ⟨k + 1, by omega, by go_num, by first | exact (hP.set _ _).drew | exact hP.set _ _, by first | exact (hB.setCell (by show w.heap.size + 1 ≤ bp; omega) _).drew | exact hB.drew.setCell (by show w.heap.size + 1 ≤ bp; omega) _⟩
                case measure => simp [intOf]; omega
              · obtain rfl : k = 5 := by omega
                have hrow : mulRow p Z 3 a b = modTo p 5 P1 := by unfold mulRow; rw [HP0.out]; exact congrArg _ HP1.out
                have hl2 : ((mulRow p Z 3 a b).take 3).length = 3 := by rw [hrow, List.length_take, modTo_length, HL1.out]; rfl
                have hI : IntsB wr.heap.size wr bp 0 ((mulRow p Z 3 a b).take 3) := ⟨hP.lt, fun j hj => by
                  rw [hl2] at hj
                  have hj2 : j < (modTo p 5 P1).length := by rw [modTo_length, HL1.out]; omega
                  have := hP.cell hj2
                  rw [Nat.zero_add, this, hrow, List.getElem?_take, if_pos (by omega)]
                  rfl⟩
                have hI' : IntsB wr.drew.heap.size wr.drew bp 0 ((mulRow p Z 3 a b).take 3) := hI
                have hel := element_any sz p (some ⟨bz, 0, none⟩) 3 3 bp 0 5 ((mulRow p Z 3 a b).take 3) (by omega) (by omega) wr.drew hI'
                rw [hl2] at hel
                have HE := Lib.hid hel
                clear hel hl2 hI hI' hrow
                go_wp2_with fail
                go_region_with (go_at_call 84; refine HE.out.mono ?_; rintro e w' ⟨rfl, hb2⟩)
                all_goals go_wp2_with fail
                all_goals go_ret
                all_goals
                  refine ⟨rfl, ?_⟩
                  have h1 : Below w.heap.size w wr.drew := (((Below.refl _ w).alloc (Nat.le_refl _) _).trans (hB.mono (by omega))).drew
                  exact h1.trans (hb2.mono h1.size)

end Go.Proofs.Ytnmkkflnehnioaa
