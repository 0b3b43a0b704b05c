/-
  From a walk that leaves all old memory as it was to what a law's row asks behind the call. No condition.
  The program's head, read as a list of characters, and the facts of a row that ask for it. By itself the kernel needs 10.6 GB for each of these facts; word by word next to nothing. No condition.
  What every row of this seat asks behind the call, from a walk that returns true and leaves all old memory as it was; arguments that are arrays of bytes, opened. No condition.
-/
import Derived.Test.YtnmkkflnehnioaaRows
import Derived.WalkKit
import Derived.ProofKit
import Derived.OpenShut
import Derived.Carry
import Derived.JoinedOf
/-! From a walk that leaves all old memory as it was to what a law's row asks behind the call. No condition. -/
namespace Go.Proofs.Ytnmkkflnehnioaa
open Go.ChangeShapes Go.WideShapes Go.ChangeAt Go.RowKit

theorem own : ownKnob Try.prog.godebug = none := by kernel_rfl

theorem post_below {H : Type} {enc : TypeId × Value → H} {P : Program} {f : Func} {s : ChangeSpec} {apart fresh handsOn : Bool} {W W' : World} {args : Array Value} {v : Value} {ds gs : List (DataW H)} {before pa pv : List MemPlace}
    (hW : DataW.Whole enc P f.params.toList s.vars apart W args.toList ds gs before)
    (hres : ∀ (b : Nat) (sp : Nat → Bool) (hd : Bool), DataW.TrodAll enc P W' b sp hd f.resultTypes.toList (v.resultList f.resultTypes.size) (s.fn H (ds ++ gs)).results [])
    (hargs : ∀ sp : Nat → Bool, (∀ p ∈ before, sp p.block = true) → DataW.TrodAll enc P W' 0 sp true f.params.toList args.toList (s.fn H (ds ++ gs)).args pa)
    (hvars : ∀ sp : Nat → Bool, (∀ p ∈ before, sp p.block = true) → DataW.TrodVars enc P W' sp s.vars (s.fn H (ds ++ gs)).vars pv)
    (hps : before = pa ++ pv) (hk : W.keptBut W' (· ∈ before)) :
    s.post enc P f apart fresh handsOn false W args v W' := by
  have hold : ∀ p ∈ before, (fun b => decide (b < W.heap.size)) p.block = true := fun p hp => by simpa using hW.lt p hp
  refine ⟨ds, gs, before, [], pa, pv, hW, hres _ _ _, hargs _ hold, hvars _ hold, World.keptBut_mono (fun p hp => ⟨hp, ?_⟩) hk, fun h => by cases h⟩
  rw [hps, List.mem_append] at hp
  exact Or.inr hp

end Go.Proofs.Ytnmkkflnehnioaa

/-! The program's head, read as a list of characters, and the facts of a row that ask for it. By itself the kernel needs 10.6 GB for each of these facts; word by word next to nothing. No condition. -/
namespace Go.Proofs.Ytnmkkflnehnioaa
set_option maxRecDepth 100000

def headText : String := "harness 484e0fcd0ef0156c68c067c5a06cd8c400d7f0ff88cc3c332a87b5ca850777e5 cut at tegula/tegulalaw05.SmallfieldAxioms tegula/tegulalaw05.SmallfieldCyclic tegula/tegulalaw05.SmallfieldTables tegula/tegulalaw05.SmallfieldInverses tegula/tegulalaw05.SmallfieldPrime tegula/tegulalaw05.SmallfieldNil tegula/tegulalaw05.SmallfieldSizes tegula/tegulalaw06.PlaneProjective tegula/tegulalaw06.PlaneAffine tegula/tegulalaw06.PlaneMeet tegula/tegulalaw06.PlaneParallel tegula/tegulalaw06.PlaneShrinks tegula/tegulalaw06.PlaneErrors tegula/tegulalaw06.PlaneJoin tegula/tegulalaw06.PlaneDual tegula/tegulalaw07.DesignComplete tegula/tegulalaw07.DesignCheck tegula/tegulalaw07.DesignChoose tegula/tegulalaw07.DesignBalanced tegula/tegulalaw07.DesignShared tegula/tegulalaw07.DesignPairs tegula/tegulalaw07.DesignTwice"
def gap : Char := Char.ofNat 32
def word0 : List Char := [104, 97, 114, 110, 101, 115, 115].map Char.ofNat
def word1 : List Char := [52, 56, 52, 101, 48, 102, 99, 100, 48, 101, 102, 48, 49, 53, 54, 99, 54, 56, 99, 48, 54, 55, 99, 53, 97, 48, 54, 99, 100, 56, 99, 52, 48, 48, 100, 55, 102, 48, 102, 102, 56, 56, 99, 99, 51, 99, 51, 51, 50, 97, 56, 55, 98, 53, 99, 97, 56, 53, 48, 55, 55, 55, 101, 53].map Char.ofNat
def word2 : List Char := [99, 117, 116].map Char.ofNat
def headRest : List Char := [97, 116, 32, 116, 101, 103, 117, 108, 97, 47, 116, 101, 103, 117, 108, 97, 108, 97, 119, 48, 53, 46, 83, 109, 97, 108, 108, 102, 105, 101, 108, 100, 65, 120, 105, 111, 109, 115, 32, 116, 101, 103, 117, 108, 97, 47, 116, 101, 103, 117, 108, 97, 108, 97, 119, 48, 53, 46, 83, 109, 97, 108, 108, 102, 105, 101, 108, 100, 67, 121, 99, 108, 105, 99, 32, 116, 101, 103, 117, 108, 97, 47, 116, 101, 103, 117, 108, 97, 108, 97, 119, 48, 53, 46, 83, 109, 97, 108, 108, 102, 105, 101, 108, 100, 84, 97, 98, 108, 101, 115, 32, 116, 101, 103, 117, 108, 97, 47, 116, 101, 103, 117, 108, 97, 108, 97, 119, 48, 53, 46, 83, 109, 97, 108, 108, 102, 105, 101, 108, 100, 73, 110, 118, 101, 114, 115, 101, 115, 32, 116, 101, 103, 117, 108, 97, 47, 116, 101, 103, 117, 108, 97, 108, 97, 119, 48, 53, 46, 83, 109, 97, 108, 108, 102, 105, 101, 108, 100, 80, 114, 105, 109, 101, 32, 116, 101, 103, 117, 108, 97, 47, 116, 101, 103, 117, 108, 97, 108, 97, 119, 48, 53, 46, 83, 109, 97, 108, 108, 102, 105, 101, 108, 100, 78, 105, 108, 32, 116, 101, 103, 117, 108, 97, 47, 116, 101, 103, 117, 108, 97, 108, 97, 119, 48, 53, 46, 83, 109, 97, 108, 108, 102, 105, 101, 108, 100, 83, 105, 122, 101, 115, 32, 116, 101, 103, 117, 108, 97, 47, 116, 101, 103, 117, 108, 97, 108, 97, 119, 48, 54, 46, 80, 108, 97, 110, 101, 80, 114, 111, 106, 101, 99, 116, 105, 118, 101, 32, 116, 101, 103, 117, 108, 97, 47, 116, 101, 103, 117, 108, 97, 108, 97, 119, 48, 54, 46, 80, 108, 97, 110, 101, 65, 102, 102, 105, 110, 101, 32, 116, 101, 103, 117, 108, 97, 47, 116, 101, 103, 117, 108, 97, 108, 97, 119, 48, 54, 46, 80, 108, 97, 110, 101, 77, 101, 101, 116, 32, 116, 101, 103, 117, 108, 97, 47, 116, 101, 103, 117, 108, 97, 108, 97, 119, 48, 54, 46, 80, 108, 97, 110, 101, 80, 97, 114, 97, 108, 108, 101, 108, 32, 116, 101, 103, 117, 108, 97, 47, 116, 101, 103, 117, 108, 97, 108, 97, 119, 48, 54, 46, 80, 108, 97, 110, 101, 83, 104, 114, 105, 110, 107, 115, 32, 116, 101, 103, 117, 108, 97, 47, 116, 101, 103, 117, 108, 97, 108, 97, 119, 48, 54, 46, 80, 108, 97, 110, 101, 69, 114, 114, 111, 114, 115, 32, 116, 101, 103, 117, 108, 97, 47, 116, 101, 103, 117, 108, 97, 108, 97, 119, 48, 54, 46, 80, 108, 97, 110, 101, 74, 111, 105, 110, 32, 116, 101, 103, 117, 108, 97, 47, 116, 101, 103, 117, 108, 97, 108, 97, 119, 48, 54, 46, 80, 108, 97, 110, 101, 68, 117, 97, 108, 32, 116, 101, 103, 117, 108, 97, 47, 116, 101, 103, 117, 108, 97, 108, 97, 119, 48, 55, 46, 68, 101, 115, 105, 103, 110, 67, 111, 109, 112, 108, 101, 116, 101, 32, 116, 101, 103, 117, 108, 97, 47, 116, 101, 103, 117, 108, 97, 108, 97, 119, 48, 55, 46, 68, 101, 115, 105, 103, 110, 67, 104, 101, 99, 107, 32, 116, 101, 103, 117, 108, 97, 47, 116, 101, 103, 117, 108, 97, 108, 97, 119, 48, 55, 46, 68, 101, 115, 105, 103, 110, 67, 104, 111, 111, 115, 101, 32, 116, 101, 103, 117, 108, 97, 47, 116, 101, 103, 117, 108, 97, 108, 97, 119, 48, 55, 46, 68, 101, 115, 105, 103, 110, 66, 97, 108, 97, 110, 99, 101, 100, 32, 116, 101, 103, 117, 108, 97, 47, 116, 101, 103, 117, 108, 97, 108, 97, 119, 48, 55, 46, 68, 101, 115, 105, 103, 110, 83, 104, 97, 114, 101, 100, 32, 116, 101, 103, 117, 108, 97, 47, 116, 101, 103, 117, 108, 97, 108, 97, 119, 48, 55, 46, 68, 101, 115, 105, 103, 110, 80, 97, 105, 114, 115, 32, 116, 101, 103, 117, 108, 97, 47, 116, 101, 103, 117, 108, 97, 108, 97, 119, 48, 55, 46, 68, 101, 115, 105, 103, 110, 84, 119, 105, 99, 101].map Char.ofNat
def headSigns : List Char := word0 ++ gap :: (word1 ++ gap :: (word2 ++ gap :: headRest))

theorem head_is : Try.prog.initOrder = headText := by kernel_rfl
theorem head_text : headText = String.ofList headSigns := by kernel_rfl
theorem head_list : Try.prog.initOrder.toList = headSigns := by rw [head_is, head_text, String.toList_ofList]

theorem words_ne (l : List Char) : wordsSigns l ≠ [] := by
  cases l with
  | nil => simp [wordsSigns]
  | cons c r =>
    unfold wordsSigns
    split
    · simp
    · simp
    · split <;> simp

theorem words_step : ∀ (w r : List Char), w.all (fun c => c != gap) = true → wordsSigns (w ++ gap :: r) = w :: wordsSigns r
  | [], r, _ => by
    show wordsSigns (Char.ofNat 32 :: r) = [] :: wordsSigns r
    rw [wordsSigns]
    done
  | c :: w, r, h => by
    simp only [List.all_cons, Bool.and_eq_true] at h
    have ih := words_step w r h.2
    have hc : c ≠ gap := by simpa using h.1
    show wordsSigns (c :: (w ++ gap :: r)) = _
    rw [wordsSigns, ih]
    intro e
    exact hc e

theorem behind_if {a b : List Char} {r : List (List Char)} (h : ((a == "harness".toList || a == "ownmain".toList) && isSumSigns b) = true) : behindMainWord (a :: b :: r) = r := by
  unfold behindMainWord
  simp only [h]
  rfl

theorem behind_is : behindMainWord (wordsSigns headSigns) = word2 :: wordsSigns headRest := by
  unfold headSigns
  rw [words_step word0 _ (by kernel_rfl), words_step word1 _ (by kernel_rfl), words_step word2 _ (by kernel_rfl)]
  generalize wordsSigns headRest = R
  have h1 : ((word0 == "harness".toList || word0 == "ownmain".toList) && isSumSigns word1) = true := by kernel_rfl
  exact behind_if h1

theorem no_gc : (word2 == "gc".toList) = false := by kernel_rfl
theorem no_spec : (word2 == "spec".toList) = false := by kernel_rfl
theorem no_carried : (word2 == "carried".toList) = false := by kernel_rfl
theorem is_cut : (word2 == "cut".toList) = true := by kernel_rfl
theorem strip_is (R : List (List Char)) : stripLifts liftWords (word2 :: R) = ([], word2 :: R) := by kernel_rfl
theorem head_cut : (some word2 == some "cut".toList) = true := by kernel_rfl
theorem no_later : Try.prog.laysLater = false := by kernel_rfl
theorem no_reflect : Try.prog.bearsReflect = false := by kernel_rfl
theorem door_fits : Try.prog.doorFits [] = true := by kernel_rfl

theorem enter_of {P : Program} {c : List Char} {R : List (List Char)} (h : behindMainWord (wordsSigns P.initOrder.toList) = c :: R) (h1 : (c == "gc".toList) = false) (h2 : (c == "spec".toList) = false) (h3 : (c == "carried".toList) = false)
    (h4 : stripLifts liftWords (c :: R) = ([], c :: R)) (h5 : (some c == some "cut".toList) = true) (h6 : P.laysLater = false) (h7 : P.bearsReflect = false) (h8 : P.doorFits [] = true) : P.mayEnter = true := by
  unfold Program.mayEnter
  rw [h]
  simp only [h1, h2, h3, h4, List.head?_cons, h5, h6, h7, h8]
  rfl
theorem may_enter : Try.prog.mayEnter = true :=
  enter_of (by rw [head_list]; exact behind_is) no_gc no_spec no_carried (strip_is _) head_cut no_later no_reflect door_fits
theorem lifts_of {P : Program} {c : List Char} {R : List (List Char)} (h : behindMainWord (wordsSigns P.initOrder.toList) = c :: R) (h3 : (c == "carried".toList) = false)
    (h4 : stripLifts liftWords (c :: R) = ([], c :: R)) (h5 : (some c == some "cut".toList) = true) : P.liftsFinal = false := by
  unfold Program.liftsFinal Program.headLifts
  rw [h]
  have h3' : (some c == some "carried".toList) = false := by simpa using h3
  simp only [h3', h4, List.head?_cons, h5]
  rfl
theorem lifts_final : Try.prog.liftsFinal = false :=
  lifts_of (by rw [head_list]; exact behind_is) no_carried (strip_is _) head_cut
theorem make_of {P : Program} {c : List Char} {R : List (List Char)} (h : behindMainWord (wordsSigns P.initOrder.toList) = c :: R) (h1 : (c == "gc".toList) = false) (h2 : (c == "spec".toList) = false) (h3 : (c == "cut".toList) = true) :
    P.make = some .cut := by
  unfold Program.make
  rw [h]
  simp only [h1, h2, h3]
  rfl
theorem make_cut : Try.prog.make = some .cut :=
  make_of (by rw [head_list]; exact behind_is) no_gc no_spec is_cut
end Go.Proofs.Ytnmkkflnehnioaa

/-! What every row of this seat asks behind the call, from a walk that returns true and leaves all old memory as it was; arguments that are arrays of bytes, opened. No condition. -/
namespace Go.Proofs.Ytnmkkflnehnioaa
open Go.ChangeShapes Go.WideShapes Go.ChangeAt Go.RowKit

set_option maxRecDepth 100000

theorem laid : laidOutB Try.prog = true := by kernel_rfl

theorem trods_move {H : Type} {enc : TypeId × Value → H} {W W' : World} (hb : Below W.heap.size W W') {sp : Nat → Bool} : ∀ (ts : List TypeId) (vs : List Value) (ds : List (DataW H)) (ps : List MemPlace),
    (∀ t ∈ ts, Try.prog.readableRec t = true ∧ t < Try.prog.types.size) → (∀ x ∈ ps, x.block < W.heap.size) → (∀ x ∈ ps, sp x.block = true) → DataW.TrodAll enc Try.prog W 0 (fun _ => true) true ts vs ds ps →
    DataW.TrodAll enc Try.prog W' 0 sp true ts vs ds ps
  | [], [], [], _, _, _, _, h => h
  | t :: ts, v :: vs, d :: ds, ps, ht, hlt, hsp, h => by
    obtain ⟨p, q, h1, h2, rfl⟩ := h
    have a := ht t (by simp)
    refine ⟨p, q, ?_, ?_, rfl⟩
    · exact Go.WideElems.Trod_stays laid a.1 a.2 h1 (fun x hx => hb.same (hlt x (by simp [hx]))) (fun x hx => hsp x (by simp [hx]))
    · exact trods_move hb ts vs ds q (fun t h => ht t (by simp [h])) (fun x hx => hlt x (by simp [hx])) (fun x hx => hsp x (by simp [hx])) h2
  | [], _ :: _, _, _, _, _, _, h => h.elim
  | [], [], _ :: _, _, _, _, _, h => h.elim
  | _ :: _, [], _, _, _, _, _, h => h.elim
  | _ :: _, _ :: _, [], _, _, _, _, h => h.elim

theorem law_post {H : Type} {enc : TypeId × Value → H} {f : Func} {s : ChangeSpec} {apart fresh handsOn : Bool} {W W' : World} {args : Array Value} {ds gs : List (DataW H)} {before : List MemPlace}
    (hts : ∀ t ∈ f.params.toList, Try.prog.readableRec t = true ∧ t < Try.prog.types.size) (hrt : f.resultTypes = #[4]) (hs : s.vars = [])
    (hW : DataW.Whole enc Try.prog f.params.toList s.vars apart W args.toList ds gs before)
    (hr : (s.fn H (ds ++ gs)).results = [.lit (.bool true)]) (ha : (s.fn H (ds ++ gs)).args = ds) (hv : (s.fn H (ds ++ gs)).vars = [])
    (hb : Below W.heap.size W W') :
    s.post enc Try.prog f apart fresh handsOn false W args (.bool true) W' := by
  have hW' := hW
  obtain ⟨p, q, hA, hV, hpq, -, -⟩ := hW
  rw [hs] at hV
  obtain ⟨rfl, rfl⟩ := trodVars_none hV
  have hlt : ∀ x ∈ before, x.block < W.heap.size := fun x hx => by simpa using hW'.lt x hx
  refine post_below (pa := before) (pv := []) hW' ?_ ?_ ?_ (by simp) (hb.frame _)
  · intro b sp hd
    rw [hr, hrt]
    exact trodAll_cons_mk (shut_bool Try.underlying4 _) trodAll_mk0
  · intro sp hsp
    rw [ha]
    rw [List.append_nil] at hpq
    subst hpq
    exact trods_move hb _ _ _ _ hts hlt hsp hA
  · intro sp _
    rw [hv, hs]
    rfl

theorem cells5 : Try.prog.cellsOf 5 = 1 := by kernel_rfl
theorem cells22 : Try.prog.cellsOf 22 = 3 := by kernel_rfl
theorem cells33 : Try.prog.cellsOf 33 = 2 := by kernel_rfl

theorem list3 {α : Type} (l : List α) (h : (⟨l⟩ : Array α).size = 3) : ∃ a b c, l = [a, b, c] := by
  match l, h with
  | [a, b, c], _ => exact ⟨a, b, c, rfl⟩
theorem list2 {α : Type} (l : List α) (h : (⟨l⟩ : Array α).size = 2) : ∃ a b, l = [a, b] := by
  match l, h with
  | [a, b], _ => exact ⟨a, b, rfl⟩

theorem u8_wf {n : Int} (h : (Lit.int .u8 n).wf = true) : ∃ m : Nat, n = m ∧ m ≤ 255 := by
  simp [Lit.wf, IntKind.min, IntKind.max, IntKind.signed, IntKind.bits] at h
  exact ⟨n.toNat, by omega, by omega⟩

/-- A byte. -/
theorem open_byte {H : Type} {enc : TypeId × Value → H} {W : World} {v : Value} {d : DataW H} {ps : List MemPlace} {base : Nat} (ho : Value.okWide Try.prog W .any base 5 v) (hd : DataW.Trod enc Try.prog W 0 (fun _ => true) true 5 v d ps) :
    ∃ n : Nat, v = .int .u8 n ∧ n ≤ 255 := by
  obtain ⟨a, rfl, -, -, h⟩ := open_int Try.underlying5 ho hd
  obtain ⟨m, rfl, b⟩ := u8_wf h
  exact ⟨m, rfl, b⟩

/-- An int. -/
theorem open_num {H : Type} {enc : TypeId × Value → H} {W : World} {v : Value} {d : DataW H} {ps : List MemPlace} {base : Nat} (ho : Value.okWide Try.prog W .any base 3 v) (hd : DataW.Trod enc Try.prog W 0 (fun _ => true) true 3 v d ps) :
    ∃ n : Int, v = .int .i64 n ∧ (-9223372036854775808 ≤ n ∧ n ≤ 9223372036854775807) := by
  obtain ⟨a, rfl, -, -, h⟩ := open_int Try.underlying3 ho hd
  simp [Lit.wf, IntKind.min, IntKind.max, IntKind.signed, IntKind.bits] at h
  exact ⟨a, rfl, by omega⟩

/-- Three bytes. -/
theorem open_three {H : Type} {enc : TypeId × Value → H} {W : World} {v : Value} {d : DataW H} {ps : List MemPlace} {base : Nat} (ho : Value.okWide Try.prog W .any base 22 v) (hd : DataW.Trod enc Try.prog W 0 (fun _ => true) true 22 v d ps) :
    ∃ x0 x1 x2 : Nat, v = .agg #[.int .u8 x0, .int .u8 x1, .int .u8 x2] ∧ x0 ≤ 255 ∧ x1 ≤ 255 ∧ x2 ≤ 255 := by
  obtain ⟨cs, rfl, hsz, _⟩ : ∃ cs, v = .agg cs ∧ cs.size = Try.prog.cellsOf 22 ∧ Row.okWide Try.prog W .any base 22 cs := by
    simpa [Value.okWide, Try.underlying22] using ho
  rw [cells22] at hsz
  obtain ⟨l⟩ := cs
  obtain ⟨c0, c1, c2, rfl⟩ := list3 l hsz
  obtain ⟨fuel, hf⟩ := hd
  obtain ⟨y0, y1, y2, m, -, h0, h1, h2⟩ := trod_array3 Try.underlying22 cells5 hf
  obtain ⟨x0, e0, -, w0⟩ := DataW.trod_int Try.underlying5 h0
  obtain ⟨x1, e1, -, w1⟩ := DataW.trod_int Try.underlying5 h1
  obtain ⟨x2, e2, -, w2⟩ := DataW.trod_int Try.underlying5 h2
  simp at e0 e1 e2
  subst e0 e1 e2
  obtain ⟨m0, rfl, b0⟩ := u8_wf w0
  obtain ⟨m1, rfl, b1⟩ := u8_wf w1
  obtain ⟨m2, rfl, b2⟩ := u8_wf w2
  exact ⟨m0, m1, m2, rfl, b0, b1, b2⟩

/-- Two bytes. -/
theorem open_pair {H : Type} {enc : TypeId × Value → H} {W : World} {v : Value} {d : DataW H} {ps : List MemPlace} {base : Nat} (ho : Value.okWide Try.prog W .any base 33 v) (hd : DataW.Trod enc Try.prog W 0 (fun _ => true) true 33 v d ps) :
    ∃ x0 x1 : Nat, v = .agg #[.int .u8 x0, .int .u8 x1] ∧ x0 ≤ 255 ∧ x1 ≤ 255 := by
  obtain ⟨cs, rfl, hsz, _⟩ : ∃ cs, v = .agg cs ∧ cs.size = Try.prog.cellsOf 33 ∧ Row.okWide Try.prog W .any base 33 cs := by
    simpa [Value.okWide, Try.underlying33] using ho
  rw [cells33] at hsz
  obtain ⟨l⟩ := cs
  obtain ⟨c0, c1, rfl⟩ := list2 l hsz
  obtain ⟨fuel, hf⟩ := hd
  obtain ⟨xs, m, rfl, -, -, hl, hi⟩ := DataW.trod_array Try.underlying33 hf
  have i0 := hi 0 (by decide)
  have i1 := hi 1 (by decide)
  rw [cells5] at i0 i1
  have l0 : 0 < xs.length := by omega
  have l1 : 1 < xs.length := by omega
  rw [List.getElem?_eq_getElem l0] at i0
  rw [List.getElem?_eq_getElem l1] at i1
  obtain ⟨x0, e0, -, w0⟩ := DataW.trod_int Try.underlying5 i0
  obtain ⟨x1, e1, -, w1⟩ := DataW.trod_int Try.underlying5 i1
  simp [Value.cells] at e0 e1
  subst e0 e1
  obtain ⟨m0, rfl, b0⟩ := u8_wf w0
  obtain ⟨m1, rfl, b1⟩ := u8_wf w1
  exact ⟨m0, m1, rfl, b0, b1⟩

end Go.Proofs.Ytnmkkflnehnioaa
