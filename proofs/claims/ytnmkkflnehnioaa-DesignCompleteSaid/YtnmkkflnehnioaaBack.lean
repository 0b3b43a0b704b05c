/-
  slices.Backward over a row of ints, and shape.element, which ranges over it. No condition but that the list is not empty.
-/
import Derived.RangeFuncNested
import Derived.RangeFuncBound
import Derived.RangeFuncCalls
import Derived.RangeFuncLeaves
import Derived.RangeFuncBox
import Derived.Shelf.Abstract
import Derived.Shelf.RegionOpen
import Derived.WalkKit
import Derived.OwnWalkIn
import Derived.TacticsInMore
import Derived.LoopNIn
import Derived.LoopIn
import Derived.Lib.Hide
import Derived.Test.YtnmkkflnehnioaaBase
namespace Go.Proofs.Ytnmkkflnehnioaa
open Go.RowKit Go.Shelf

attribute [local go_sem] Oper.semAt_some

def upto {α : Type} (f : Nat → α) (k : Nat) : List α := (List.range k).map f
theorem upto_succ {α : Type} (f : Nat → α) (k : Nat) : upto f (k + 1) = upto f k ++ [f k] := by simp [upto, List.range_succ]
theorem upto_length {α : Type} (f : Nat → α) (k : Nat) : (upto f k).length = k := by simp [upto]

/-- THE SLICE VALUE sv HOLDS THE ints zs, in a block below n₀. -/
def IntsB (n₀ : Nat) (W : World) (b off : Nat) (zs : List Int) : Prop :=
  b < n₀ ∧ ∀ j, j < zs.length → W.cell? ⟨b, off + j, none⟩ = some (.int .i64 (zs[j]?.getD 0))
theorem IntsB.below {n₀ : Nat} {A B : World} (h : Below n₀ A B) {b off : Nat} {zs : List Int} (hI : IntsB n₀ A b off zs) : IntsB n₀ B b off zs :=
  ⟨hI.1, fun j hj => (h.cell (p := ⟨b, off + j, none⟩) hI.1).trans (hI.2 j hj)⟩

/-- WHAT A ROUND KEEPS: all below n₀, and block Bs. -/
structure KeepB (n₀ Bs : Nat) (W W' : World) : Prop where
  below : Below n₀ W W'
  at_ : W'.heap[Bs]? = W.heap[Bs]?
theorem KeepB.refl (n₀ Bs : Nat) (W : World) : KeepB n₀ Bs W W := ⟨Below.refl _ _, rfl⟩
theorem KeepB.trans {n₀ Bs : Nat} {A B C : World} (h : KeepB n₀ Bs A B) (k : KeepB n₀ Bs B C) : KeepB n₀ Bs A C := ⟨h.below.trans k.below, k.at_.trans h.at_⟩
theorem KeepB.put {n₀ Bs : Nat} {w : World} (hn : n₀ ≤ w.heap.size) (hB : Bs < w.heap.size) (W : World) (l : Nat) (o o' : Obj) (hl : w.heap.size ≤ l) (h : W.heap[l]? = some o) (h1 : o.isCells = false) (h2 : o.isWalk = false) : KeepB n₀ Bs W (W.putObj l o') :=
  ⟨belowK_b hn W l o o' hl h h1 h2, World.putObj_heap_other (by omega)⟩

def backAt (zs : List Int) (j : Nat) : Int × Int := (((zs.length - 1 - j : Nat) : Int), zs[zs.length - 1 - j]?.getD 0)

theorem backAt_step {zs : List Int} {len m : Nat} (hl : zs.length = len) (hm : m < len) : backAt zs (len - (m + 1)) = ((m : Int), zs[m]?.getD 0) := by
  unfold backAt
  rw [hl, show len - 1 - (len - (m + 1)) = m from by omega]

set_option maxRecDepth 100000 in
set_option maxHeartbeats 2000000 in
theorem back1_in (F : Fence) (n : Nat) (h8 : F.fn 93) (hro : F.round = none) (hn : 1 ≤ n) (l Bs n₀ b off cap : Nat) (zs : List Int) (hpos : 0 < zs.length) (hreach : zs.length * 8 ≤ 140737488351232) (J Jx : List (Int × Int) → World → Prop)
    (hY : ∀ pre x W, J pre W → pre.length < zs.length → YieldAt F (n - 1) Try.prog l #[.int .i64 x.1, .int .i64 x.2] W fun e W' =>
      (e = .returned (.bool true) ∧ J (pre ++ [x]) W' ∧ KeepB n₀ Bs W W') ∨ (e = .returned (.bool false) ∧ Jx (pre ++ [x]) W'))
    (W : World) (hBs : W.cell? ⟨Bs, 0, none⟩ = some (.slice (some ⟨b, off, none⟩) zs.length cap)) (hc : IntsB n₀ W b off zs) (h0 : J [] W) :
    CallsIn F n Try.prog 93 #[.func (.yield l) #[] #[], .pointer (some ⟨Bs, 0, none⟩)] W fun e W' => (∃ v, e = .returned v) ∧
      ((∃ ys, ys = upto (backAt zs) zs.length ∧ J ys W') ∨ (∃ pre, (∃ k, k ≤ zs.length ∧ pre = upto (backAt zs) k) ∧ Jx pre W')) := by
  obtain ⟨len, hlen⟩ : ∃ len, zs.length = len := ⟨_, rfl⟩
  rw [hlen] at hpos hreach hY hBs
  have HL := Lib.hid hlen
  obtain ⟨hb, hcs⟩ := hc
  rw [hlen] at hcs ⊢
  clear hlen
  refine callsIn_of_wp Try.func93 rfl h8 ?_ hro
  simp only [Try.ntmps93, List.size_toArray, List.length_cons, List.length_nil, Nat.reduceAdd, Nat.reduceSub, Array.replicate_succ, Array.replicate_zero, List.push_toArray, List.append_toArray, List.nil_append, List.cons_append]
  gi_wp2
  gi_loopw [3] (fun i wr => ∃ m : Nat, m ≤ len ∧ i = .int .i64 ((m : Int) - 1) ∧ J (upto (backAt zs) (len - m)) wr ∧ KeepB n₀ Bs W wr)
    (fun i _ => (intOf i + 1).toNat)
  case atStart => exact ⟨len, Nat.le_refl _, rfl, by rw [Nat.sub_self]; exact h0, KeepB.refl _ _ _⟩
  case round =>
    obtain ⟨m, hm, rfl, hJs, hnx⟩ := hrel
    cases m with
    | zero =>
      rw [show (((0 : Nat) : Int) - 1) = -1 from rfl]
      gi_wp2
      go_end0
      exact ⟨⟨_, rfl⟩, .inl ⟨_, rfl, hJs⟩⟩
    | succ m =>
      rw [show (((m + 1 : Nat) : Int) - 1) = (m : Int) from by omega]
      have hlt : m < len := by omega
      have hbx : wr.cell? ⟨Bs, 0, none⟩ = some (.slice (some ⟨b, off, none⟩) len cap) := (World.cell?_of_block (w := W) (a := ⟨Bs, 0, none⟩) hnx.at_).trans hBs
      have hcx : wr.cell? ⟨b, off + m, none⟩ = some (.int .i64 (zs[m]?.getD 0)) := (hnx.below.cell (p := ⟨b, off + m, none⟩) hb).trans (hcs m hlt)
      obtain ⟨fn, tmps, assign, body, hy, hR⟩ := hY _ ((m : Int), zs[m]?.getD 0) wr hJs (by rw [upto_length]; omega)
      dsimp only at hy
      gi_wp2
      refine hR.mono ?_
      rintro e W3 (⟨rfl, hJ3, hk3⟩ | ⟨rfl, hJx3⟩)
      · gi_wp2
        go_roundw
        case rel => exact ⟨m, by omega, rfl, by have := upto_succ (backAt zs) (len - (m + 1)); rw [show len - (m + 1) + 1 = len - m from by omega] at this; rw [this]; exact backAt_step HL.out hlt ▸ hJ3, hnx.trans hk3⟩
        case measure => simp [intOf]
      · gi_wp2
        refine bodyPost_ret (results_none rfl _ _ _) rfl ?_
        refine ⟨⟨_, rfl⟩, .inr ⟨_, ⟨len - m, by omega, ?_⟩, hJx3⟩⟩
        have := upto_succ (backAt zs) (len - (m + 1)); rw [show len - (m + 1) + 1 = len - m from by omega] at this; rw [this]; exact backAt_step HL.out hlt ▸ rfl

set_option maxHeartbeats 1000000 in
theorem back_in (F : Fence) (n : Nat) (h6 : F.fn 89) (hro : F.round = none) (a : Option Addr) (len cap : Nat) (w : World) :
    CallsIn F n Try.prog 89 #[.slice a len cap] w fun e w' => e = .returned (.func (.func 93) #[] #[.pointer (some ⟨w.heap.size, 0, none⟩)]) ∧ w' = w.alloc (.cells #[.slice a len cap] 38) := by
  refine callsIn_of_wp Try.func89 rfl h6 ?_ hro
  simp only [Try.ntmps89, List.size_toArray, List.length_cons, List.length_nil, Nat.reduceAdd, Nat.reduceSub, Array.replicate_succ, Array.replicate_zero, List.push_toArray, List.append_toArray, List.nil_append, List.cons_append]
  gi_wp2
  go_ret
  exact ⟨rfl, rfl⟩

theorem back_stops (F : Fence) (n : Nat) (h8 : F.fn 93) (hro : F.round = none) (hn : 1 ≤ n) (Bs n₀ b off cap : Nat) (zs : List Int) (hpos : 0 < zs.length) (hreach : zs.length * 8 ≤ 140737488351232) (w : World) (hBs : Bs < w.heap.size) (hn₀ : n₀ ≤ w.heap.size)
    (hc : w.cell? ⟨Bs, 0, none⟩ = some (.slice (some ⟨b, off, none⟩) zs.length cap)) (hI : IntsB n₀ w b off zs) :
    SeqStopsK F n Try.prog 93 #[.pointer (some ⟨Bs, 0, none⟩)] (fun x : Int × Int => #[Value.int .i64 x.1, Value.int .i64 x.2]) (KeepB n₀ Bs) (fun ys => ys = upto (backAt zs) zs.length)
      (fun pre => ∃ k, k ≤ zs.length ∧ pre = upto (backAt zs) k) zs.length w := fun l J Jx W hW _ _ hY h0 => by
  have hc' := (hW.cell (p := ⟨Bs, 0, none⟩) (by exact hBs)).trans hc
  exact back1_in F n h8 hro hn l Bs n₀ b off cap zs hpos hreach J Jx hY W hc' (hI.below (hW.mono hn₀)) h0


def elemFold (p : Int) (l : List (Int × Int)) : Int := l.foldl (fun a x => wrap64 (wrap64 (a * p) + x.2)) 0
theorem elemFold_snoc (p : Int) (l : List (Int × Int)) (x : Int × Int) : elemFold p (l ++ [x]) = wrap64 (wrap64 (elemFold p l * p) + x.2) := by simp [elemFold]

set_option maxRecDepth 100000 in
set_option maxHeartbeats 2000000 in
theorem element_in (F : Fence) (n : Nat) (h3 : F.fn 84) (h5 : F.fn 89) (h7 : F.fn 93) (hro : F.round = none) (hn : 3 ≤ n) (sz p : Int) (A : Option Addr) (k c : Nat) (b off cap : Nat) (zs : List Int) (hpos : 0 < zs.length) (hreach : zs.length * 8 ≤ 140737488351232) (w : World) (hI : IntsB w.heap.size w b off zs) :
    CallsIn F n Try.prog 84 #[.agg #[.int .i64 sz, .int .i64 p, .slice A k c], .slice (some ⟨b, off, none⟩) zs.length cap] w fun e W' => e = .returned (.int .i64 (elemFold p (upto (backAt zs) zs.length))) ∧ Below w.heap.size w W' := by
  have h1 : 1 ≤ n := by omega
  refine callsIn_of_wp_marks Try.func84 rfl h3 ?_ hro
  simp only [Try.ntmps84, List.size_toArray, List.length_cons, List.length_nil, Nat.reduceAdd, Nat.reduceSub, Array.replicate_succ, Array.replicate_zero, List.push_toArray, List.append_toArray, List.nil_append, List.cons_append]
  gi_wp2_with (gi_at_call 89; refine (back_in F (n - 1) h5 hro _ _ _ _).mono ?_; rintro e w' ⟨rfl, rfl⟩)
  have c0 : (((w.alloc (.cells #[.int .i64 sz, .int .i64 p, .slice A k c] 84)).alloc (.cells #[.int .i64 0] 3)).alloc (.cells #[.slice (some ⟨b, off, none⟩) zs.length cap] 38)).cell? ⟨w.heap.size, 1, none⟩ = some (.int .i64 p) := by simp [go_sem]
  have c1 : (((w.alloc (.cells #[.int .i64 sz, .int .i64 p, .slice A k c] 84)).alloc (.cells #[.int .i64 0] 3)).alloc (.cells #[.slice (some ⟨b, off, none⟩) zs.length cap] 38)).cell? ⟨w.heap.size + 1, 0, none⟩ = some (.int .i64 0) := by simp [go_sem]
  have f1 : (((w.alloc (.cells #[.int .i64 sz, .int .i64 p, .slice A k c] 84)).alloc (.cells #[.int .i64 0] 3)).alloc (.cells #[.slice (some ⟨b, off, none⟩) zs.length cap] 38)).frozen? ⟨w.heap.size + 1, 0, none⟩ = false := by simp [go_sem]
  have c2 : (((w.alloc (.cells #[.int .i64 sz, .int .i64 p, .slice A k c] 84)).alloc (.cells #[.int .i64 0] 3)).alloc (.cells #[.slice (some ⟨b, off, none⟩) zs.length cap] 38)).cell? ⟨w.heap.size + 2, 0, none⟩ = some (.slice (some ⟨b, off, none⟩) zs.length cap) := by simp [go_sem]
  have hB0 : Below w.heap.size w (((w.alloc (.cells #[.int .i64 sz, .int .i64 p, .slice A k c] 84)).alloc (.cells #[.int .i64 0] 3)).alloc (.cells #[.slice (some ⟨b, off, none⟩) zs.length cap] 38)) := (((Below.refl _ w).alloc (Nat.le_refl _) _).alloc (by simp) _).alloc (by simp; omega) _
  have hsz : (((w.alloc (.cells #[.int .i64 sz, .int .i64 p, .slice A k c] 84)).alloc (.cells #[.int .i64 0] 3)).alloc (.cells #[.slice (some ⟨b, off, none⟩) zs.length cap] 38)).heap.size = w.heap.size + 3 := by simp
  refine wpIn_rangeFunc_ownG hro h1 (gf := 93) (lb := #[.pointer (some ⟨w.heap.size + 2, 0, none⟩)]) rfl h7 (enters_of Try.func93 (by kernel_rfl) rfl)
    (back_stops F (n - 1) h7 hro (by omega) (w.heap.size + 2) w.heap.size b off cap zs hpos hreach _ (by rw [hsz]; omega) (by rw [hsz]; omega) c2 (hI.below hB0)) KeepB.trans (KeepB.put (by rw [hsz]; omega) (by rw [hsz]; omega)) (Below.refl _ _) (fun _ => rfl)
    (fun pre W => (W.cell? ⟨w.heap.size + 1, 0, none⟩ = some (.int .i64 (elemFold p pre)) ∧ W.frozen? ⟨w.heap.size + 1, 0, none⟩ = false ∧ W.cell? ⟨w.heap.size, 1, none⟩ = some (.int .i64 p)) ∧ Below w.heap.size w W)
    (fun _ _ _ => False)
    (OwnFrom.and (Own.from (fun s A B row hs hg hr => ⟨cell_kept hs.1 hg hr, (frozen_kept hs.1 hg hr).trans hs.2.1, cell_kept hs.2.2 hg hr⟩) _) (ownFrom_below (Nat.le_refl _) (by simp; omega)))
    (fun _ _ _ _ _ hs _ _ => hs)
    ⟨⟨c1, f1, c0⟩, hB0⟩
    (fun x => { tmps := #[.agg #[.int .i64 sz, .int .i64 p, .slice A k c], .slice (some ⟨b, off, none⟩) zs.length cap, .pointer (some ⟨w.heap.size, 0, none⟩), undef, .int .i64 0, .pointer (some ⟨w.heap.size + 1, 0, none⟩), undef, .int .i64 x.2, .slice (some ⟨b, off, none⟩) zs.length cap, .func (.func 93) #[] #[.pointer (some ⟨w.heap.size + 2, 0, none⟩)], .int .i64 x.1, .int .i64 x.2, undef, undef, undef, undef, undef, undef, undef], defers := [] }) ?assign ?body ?done ?stop
  case assign =>
    intro l x W K hK
    gi_wp2
    exact hK
  case body =>
    rintro l pre x W ⟨⟨hc, hf, hp⟩, hB⟩ _
    gi_wp2
    refine ⟨(KeepsOthers.setCell _ _ _).from _, ⟨(Below.refl w.heap.size W).setCell (p := ⟨w.heap.size + 1, 0, none⟩) (by show w.heap.size ≤ w.heap.size + 1; omega) _, Below.heap_setCell _ _ _ _ (by show w.heap.size + 2 ≠ w.heap.size + 1; omega)⟩, ⟨by rw [elemFold_snoc]; exact World.cell?_setCell_same' _ _ _ (by rw [hc]; rfl), by rw [World.frozen?_setCell]; exact hf, ?_⟩, hB.setCell (p := ⟨w.heap.size + 1, 0, none⟩) (by show w.heap.size ≤ w.heap.size + 1; omega) _⟩
    rw [World.cell?_setCell_other _ _ _ _ (fun e => by have := congrArg Addr.block e; simp at this)]
    exact hp
  case done =>
    rintro D ys W hD rfl ⟨⟨hc, _⟩, hB⟩ hK
    gi_wp2
    refine ⟨by simp, .inl ⟨_, _, rfl, run_takeDeferred hK, ?_⟩⟩
    exact ⟨_, results_tmp rfl _ _ _, rfl, hB.trans (belowK_b (w := w) (Nat.le_refl _) W D _ _ (by simp at hD; omega) hK rfl rfl)⟩
  case stop =>
    rintro D c pre W _ _ h _
    exact h.elim

theorem element_any (sz p : Int) (A : Option Addr) (k c : Nat) (b off cap : Nat) (zs : List Int) (hpos : 0 < zs.length) (hreach : zs.length * 8 ≤ 140737488351232) (w : World) (hI : IntsB w.heap.size w b off zs) :
    Calls Try.prog 84 #[.agg #[.int .i64 sz, .int .i64 p, .slice A k c], .slice (some ⟨b, off, none⟩) zs.length cap] w fun e W' => e = .returned (.int .i64 (elemFold p (upto (backAt zs) zs.length))) ∧ Below w.heap.size w W' :=
  callsIn_wide.1 (element_in Fence.wide 3 trivial trivial trivial rfl (Nat.le_refl _) sz p A k c b off cap zs hpos hreach w hI)
end Go.Proofs.Ytnmkkflnehnioaa
