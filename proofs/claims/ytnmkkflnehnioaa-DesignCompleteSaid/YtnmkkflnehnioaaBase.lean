/-
  Rows of ints in memory whose block is known whole; small facts used by all walks of this seat. No condition.
-/
import Derived.Test.YtnmkkflnehnioaaProg
import Derived.WalkKit
import Derived.Lib.Hide
namespace Go.Proofs.Ytnmkkflnehnioaa
open Go.RowKit

def at0 (zs : List Int) (j : Nat) : Int := zs[j]?.getD 0
def intCells (zs : List Int) : Array Value := (zs.map (Value.int .i64)).toArray

/-- Block b is just the row zs of ints, no cell of it frozen. -/
def RowAt (w : World) (b : Nat) (zs : List Int) : Prop := w.heap[b]? = some (.cells (intCells zs) 3 (0, 0))

theorem RowAt.lt {w : World} {b : Nat} {zs : List Int} (h : RowAt w b zs) : b < w.heap.size := lt_of_block h
theorem RowAt.cell {w : World} {b : Nat} {zs : List Int} (h : RowAt w b zs) {j : Nat} (hj : j < zs.length) : w.cell? ⟨b, j, none⟩ = some (.int .i64 (at0 zs j)) := by
  have h' : w.heap[b]? = _ := h
  simp [World.cell?, h', intCells, at0, hj]
theorem RowAt.frozen {w : World} {b : Nat} {zs : List Int} (h : RowAt w b zs) (j : Nat) : w.frozen? ⟨b, j, none⟩ = false := by
  have h' : w.heap[b]? = _ := h
  simp [World.frozen?, h']
theorem RowAt.set {w : World} {b : Nat} {zs : List Int} (h : RowAt w b zs) (j : Nat) (v : Int) : RowAt (w.setCell ⟨b, j, none⟩ (.int .i64 v)) b (zs.set j v) := by
  have h' : w.heap[b]? = _ := h
  have hb := lt_of_block h'
  unfold RowAt World.setCell
  simp only [Array.getElem?_modify, h']
  simp [intCells, List.map_set]
theorem RowAt.other {w : World} {b : Nat} {zs : List Int} (h : RowAt w b zs) {a : Addr} (ha : b ≠ a.block) (u : Value) : RowAt (w.setCell a u) b zs :=
  (Below.heap_setCell w a u b ha).trans h
theorem RowAt.alloc {w : World} {b : Nat} {zs : List Int} (h : RowAt w b zs) (o : Obj) : RowAt (w.alloc o) b zs :=
  (Below.heap_alloc w o b h.lt).trans h
theorem RowAt.drew {w : World} {b : Nat} {zs : List Int} (h : RowAt w b zs) : RowAt w.drew b zs := h
theorem RowAt.below {w w' : World} {b B : Nat} {zs : List Int} (h : RowAt w b zs) (hb : Below B w w') (hlt : b < B) : RowAt w' b zs := (hb.block b hlt).trans h
theorem RowAt.new (w : World) (zs : List Int) : RowAt (w.alloc (.cells (intCells zs) 3)) w.heap.size zs := heap_alloc_new w _

theorem set_at0 (zs : List Int) (i j : Nat) (v : Int) (hi : i < zs.length) : at0 (zs.set i v) j = if j = i then v else at0 zs j := by
  unfold at0
  rw [List.getElem?_set]
  by_cases h : j = i
  · subst h; simp [hi]
  · rw [if_neg (fun e => h e.symm), if_neg h]

theorem info3 : (Try.prog.info? 3).map (fun i => (i.zero, i.size, i.bytes)) = some (some (.int .i64 0), 1, 8) := by kernel_rfl

end Go.Proofs.Ytnmkkflnehnioaa
