/-
  What every row of this seat asks behind the call, from a walk that returns true and leaves all old memory as it was; arguments that are arrays of bytes, opened. No condition.
-/
import Derived.Test.YtnmkkflnehnioaaPost
import Derived.Test.YtnmkkflnehnioaaHead
namespace Go.Proofs.Ytnmkkflnehnioaa
open Go.ChangeShapes Go.WideShapes Go.ChangeAt Go.RowKit

set_option maxRecDepth 100000

theorem laid : laidOutB Try.prog = true := by kernel_rfl

theorem trods_move {H : Type} {enc : TypeId × Value → H} {W W' : World} (hb : Below W.heap.size W W') {sp : Nat → Bool} : ∀ (ts : List TypeId) (vs : List Value) (ds : List (DataW H)) (ps : List MemPlace),
    (∀ t ∈ ts, Try.prog.readableRec t = true ∧ t < Try.prog.types.size) → (∀ x ∈ ps, x.block < W.heap.size) → (∀ x ∈ ps, sp x.block = true) → DataW.TrodAll enc Try.prog W 0 (fun _ => true) true ts vs ds ps →
    DataW.TrodAll enc Try.prog W' 0 sp true ts vs ds ps
  | [], [], [], _, _, _, _, h => h
  | t :: ts, v :: vs, d :: ds, ps, ht, hlt, hsp, h => by
    obtain ⟨p, q, h1, h2, rfl⟩ := h
    have a := ht t (by simp)
    refine ⟨p, q, ?_, ?_, rfl⟩
    · exact Go.WideElems.Trod_stays laid a.1 a.2 h1 (fun x hx => hb.same (hlt x (by simp [hx]))) (fun x hx => hsp x (by simp [hx]))
    · exact trods_move hb ts vs ds q (fun t h => ht t (by simp [h])) (fun x hx => hlt x (by simp [hx])) (fun x hx => hsp x (by simp [hx])) h2
  | [], _ :: _, _, _, _, _, _, h => h.elim
  | [], [], _ :: _, _, _, _, _, h => h.elim
  | _ :: _, [], _, _, _, _, _, h => h.elim
  | _ :: _, _ :: _, [], _, _, _, _, h => h.elim

theorem law_post {H : Type} {enc : TypeId × Value → H} {f : Func} {s : ChangeSpec} {apart fresh handsOn : Bool} {W W' : World} {args : Array Value} {ds gs : List (DataW H)} {before : List MemPlace}
    (hts : ∀ t ∈ f.params.toList, Try.prog.readableRec t = true ∧ t < Try.prog.types.size) (hrt : f.resultTypes = #[4]) (hs : s.vars = [])
    (hW : DataW.Whole enc Try.prog f.params.toList s.vars apart W args.toList ds gs before)
    (hr : (s.fn H (ds ++ gs)).results = [.lit (.bool true)]) (ha : (s.fn H (ds ++ gs)).args = ds) (hv : (s.fn H (ds ++ gs)).vars = [])
    (hb : Below W.heap.size W W') :
    s.post enc Try.prog f apart fresh handsOn false W args (.bool true) W' := by
  have hW' := hW
  obtain ⟨p, q, hA, hV, hpq, -, -⟩ := hW
  rw [hs] at hV
  obtain ⟨rfl, rfl⟩ := trodVars_none hV
  have hlt : ∀ x ∈ before, x.block < W.heap.size := fun x hx => by simpa using hW'.lt x hx
  refine post_below (pa := before) (pv := []) hW' ?_ ?_ ?_ (by simp) (hb.frame _)
  · intro b sp hd
    rw [hr, hrt]
    exact trodAll_cons_mk (shut_bool Try.underlying4 _) trodAll_mk0
  · intro sp hsp
    rw [ha]
    rw [List.append_nil] at hpq
    subst hpq
    exact trods_move hb _ _ _ _ hts hlt hsp hA
  · intro sp _
    rw [hv, hs]
    rfl

theorem cells5 : Try.prog.cellsOf 5 = 1 := by kernel_rfl
theorem cells22 : Try.prog.cellsOf 22 = 3 := by kernel_rfl
theorem cells33 : Try.prog.cellsOf 33 = 2 := by kernel_rfl

theorem list3 {α : Type} (l : List α) (h : (⟨l⟩ : Array α).size = 3) : ∃ a b c, l = [a, b, c] := by
  match l, h with
  | [a, b, c], _ => exact ⟨a, b, c, rfl⟩
theorem list2 {α : Type} (l : List α) (h : (⟨l⟩ : Array α).size = 2) : ∃ a b, l = [a, b] := by
  match l, h with
  | [a, b], _ => exact ⟨a, b, rfl⟩

theorem u8_wf {n : Int} (h : (Lit.int .u8 n).wf = true) : ∃ m : Nat, n = m ∧ m ≤ 255 := by
  simp [Lit.wf, IntKind.min, IntKind.max, IntKind.signed, IntKind.bits] at h
  exact ⟨n.toNat, by omega, by omega⟩

/-- A byte. -/
theorem open_byte {H : Type} {enc : TypeId × Value → H} {W : World} {v : Value} {d : DataW H} {ps : List MemPlace} {base : Nat} (ho : Value.okWide Try.prog W .any base 5 v) (hd : DataW.Trod enc Try.prog W 0 (fun _ => true) true 5 v d ps) :
    ∃ n : Nat, v = .int .u8 n ∧ n ≤ 255 := by
  obtain ⟨a, rfl, -, -, h⟩ := open_int Try.underlying5 ho hd
  obtain ⟨m, rfl, b⟩ := u8_wf h
  exact ⟨m, rfl, b⟩

/-- An int. -/
theorem open_num {H : Type} {enc : TypeId × Value → H} {W : World} {v : Value} {d : DataW H} {ps : List MemPlace} {base : Nat} (ho : Value.okWide Try.prog W .any base 3 v) (hd : DataW.Trod enc Try.prog W 0 (fun _ => true) true 3 v d ps) :
    ∃ n : Int, v = .int .i64 n ∧ (-9223372036854775808 ≤ n ∧ n ≤ 9223372036854775807) := by
  obtain ⟨a, rfl, -, -, h⟩ := open_int Try.underlying3 ho hd
  simp [Lit.wf, IntKind.min, IntKind.max, IntKind.signed, IntKind.bits] at h
  exact ⟨a, rfl, by omega⟩

/-- Three bytes. -/
theorem open_three {H : Type} {enc : TypeId × Value → H} {W : World} {v : Value} {d : DataW H} {ps : List MemPlace} {base : Nat} (ho : Value.okWide Try.prog W .any base 22 v) (hd : DataW.Trod enc Try.prog W 0 (fun _ => true) true 22 v d ps) :
    ∃ x0 x1 x2 : Nat, v = .agg #[.int .u8 x0, .int .u8 x1, .int .u8 x2] ∧ x0 ≤ 255 ∧ x1 ≤ 255 ∧ x2 ≤ 255 := by
  obtain ⟨cs, rfl, hsz, _⟩ : ∃ cs, v = .agg cs ∧ cs.size = Try.prog.cellsOf 22 ∧ Row.okWide Try.prog W .any base 22 cs := by
    simpa [Value.okWide, Try.underlying22] using ho
  rw [cells22] at hsz
  obtain ⟨l⟩ := cs
  obtain ⟨c0, c1, c2, rfl⟩ := list3 l hsz
  obtain ⟨fuel, hf⟩ := hd
  obtain ⟨y0, y1, y2, m, -, h0, h1, h2⟩ := trod_array3 Try.underlying22 cells5 hf
  obtain ⟨x0, e0, -, w0⟩ := DataW.trod_int Try.underlying5 h0
  obtain ⟨x1, e1, -, w1⟩ := DataW.trod_int Try.underlying5 h1
  obtain ⟨x2, e2, -, w2⟩ := DataW.trod_int Try.underlying5 h2
  simp at e0 e1 e2
  subst e0 e1 e2
  obtain ⟨m0, rfl, b0⟩ := u8_wf w0
  obtain ⟨m1, rfl, b1⟩ := u8_wf w1
  obtain ⟨m2, rfl, b2⟩ := u8_wf w2
  exact ⟨m0, m1, m2, rfl, b0, b1, b2⟩

/-- Two bytes. -/
theorem open_pair {H : Type} {enc : TypeId × Value → H} {W : World} {v : Value} {d : DataW H} {ps : List MemPlace} {base : Nat} (ho : Value.okWide Try.prog W .any base 33 v) (hd : DataW.Trod enc Try.prog W 0 (fun _ => true) true 33 v d ps) :
    ∃ x0 x1 : Nat, v = .agg #[.int .u8 x0, .int .u8 x1] ∧ x0 ≤ 255 ∧ x1 ≤ 255 := by
  obtain ⟨cs, rfl, hsz, _⟩ : ∃ cs, v = .agg cs ∧ cs.size = Try.prog.cellsOf 33 ∧ Row.okWide Try.prog W .any base 33 cs := by
    simpa [Value.okWide, Try.underlying33] using ho
  rw [cells33] at hsz
  obtain ⟨l⟩ := cs
  obtain ⟨c0, c1, rfl⟩ := list2 l hsz
  obtain ⟨fuel, hf⟩ := hd
  obtain ⟨xs, m, rfl, -, -, hl, hi⟩ := DataW.trod_array Try.underlying33 hf
  have i0 := hi 0 (by decide)
  have i1 := hi 1 (by decide)
  rw [cells5] at i0 i1
  have l0 : 0 < xs.length := by omega
  have l1 : 1 < xs.length := by omega
  rw [List.getElem?_eq_getElem l0] at i0
  rw [List.getElem?_eq_getElem l1] at i1
  obtain ⟨x0, e0, -, w0⟩ := DataW.trod_int Try.underlying5 i0
  obtain ⟨x1, e1, -, w1⟩ := DataW.trod_int Try.underlying5 i1
  simp [Value.cells] at e0 e1
  subst e0 e1
  obtain ⟨m0, rfl, b0⟩ := u8_wf w0
  obtain ⟨m1, rfl, b1⟩ := u8_wf w1
  exact ⟨m0, m1, rfl, b0, b1⟩

end Go.Proofs.Ytnmkkflnehnioaa
