/-
  The program's head, read as a list of characters, and the facts of a row that ask for it. By itself the kernel needs 10.6 GB for each of these facts; word by word next to nothing. No condition.
-/
import Derived.Test.YtnmkkflnehnioaaRows
import Derived.JoinedOf
namespace Go.Proofs.Ytnmkkflnehnioaa
set_option maxRecDepth 100000

def headText : String := "harness 484e0fcd0ef0156c68c067c5a06cd8c400d7f0ff88cc3c332a87b5ca850777e5 cut at tegula/tegulalaw05.SmallfieldAxioms tegula/tegulalaw05.SmallfieldCyclic tegula/tegulalaw05.SmallfieldTables tegula/tegulalaw05.SmallfieldInverses tegula/tegulalaw05.SmallfieldPrime tegula/tegulalaw05.SmallfieldNil tegula/tegulalaw05.SmallfieldSizes tegula/tegulalaw06.PlaneProjective tegula/tegulalaw06.PlaneAffine tegula/tegulalaw06.PlaneMeet tegula/tegulalaw06.PlaneParallel tegula/tegulalaw06.PlaneShrinks tegula/tegulalaw06.PlaneErrors tegula/tegulalaw06.PlaneJoin tegula/tegulalaw06.PlaneDual tegula/tegulalaw07.DesignComplete tegula/tegulalaw07.DesignCheck tegula/tegulalaw07.DesignChoose tegula/tegulalaw07.DesignBalanced tegula/tegulalaw07.DesignShared tegula/tegulalaw07.DesignPairs tegula/tegulalaw07.DesignTwice"
def gap : Char := Char.ofNat 32
def word0 : List Char := [104, 97, 114, 110, 101, 115, 115].map Char.ofNat
def word1 : List Char := [52, 56, 52, 101, 48, 102, 99, 100, 48, 101, 102, 48, 49, 53, 54, 99, 54, 56, 99, 48, 54, 55, 99, 53, 97, 48, 54, 99, 100, 56, 99, 52, 48, 48, 100, 55, 102, 48, 102, 102, 56, 56, 99, 99, 51, 99, 51, 51, 50, 97, 56, 55, 98, 53, 99, 97, 56, 53, 48, 55, 55, 55, 101, 53].map Char.ofNat
def word2 : List Char := [99, 117, 116].map Char.ofNat
def headRest : List Char := [97, 116, 32, 116, 101, 103, 117, 108, 97, 47, 116, 101, 103, 117, 108, 97, 108, 97, 119, 48, 53, 46, 83, 109, 97, 108, 108, 102, 105, 101, 108, 100, 65, 120, 105, 111, 109, 115, 32, 116, 101, 103, 117, 108, 97, 47, 116, 101, 103, 117, 108, 97, 108, 97, 119, 48, 53, 46, 83, 109, 97, 108, 108, 102, 105, 101, 108, 100, 67, 121, 99, 108, 105, 99, 32, 116, 101, 103, 117, 108, 97, 47, 116, 101, 103, 117, 108, 97, 108, 97, 119, 48, 53, 46, 83, 109, 97, 108, 108, 102, 105, 101, 108, 100, 84, 97, 98, 108, 101, 115, 32, 116, 101, 103, 117, 108, 97, 47, 116, 101, 103, 117, 108, 97, 108, 97, 119, 48, 53, 46, 83, 109, 97, 108, 108, 102, 105, 101, 108, 100, 73, 110, 118, 101, 114, 115, 101, 115, 32, 116, 101, 103, 117, 108, 97, 47, 116, 101, 103, 117, 108, 97, 108, 97, 119, 48, 53, 46, 83, 109, 97, 108, 108, 102, 105, 101, 108, 100, 80, 114, 105, 109, 101, 32, 116, 101, 103, 117, 108, 97, 47, 116, 101, 103, 117, 108, 97, 108, 97, 119, 48, 53, 46, 83, 109, 97, 108, 108, 102, 105, 101, 108, 100, 78, 105, 108, 32, 116, 101, 103, 117, 108, 97, 47, 116, 101, 103, 117, 108, 97, 108, 97, 119, 48, 53, 46, 83, 109, 97, 108, 108, 102, 105, 101, 108, 100, 83, 105, 122, 101, 115, 32, 116, 101, 103, 117, 108, 97, 47, 116, 101, 103, 117, 108, 97, 108, 97, 119, 48, 54, 46, 80, 108, 97, 110, 101, 80, 114, 111, 106, 101, 99, 116, 105, 118, 101, 32, 116, 101, 103, 117, 108, 97, 47, 116, 101, 103, 117, 108, 97, 108, 97, 119, 48, 54, 46, 80, 108, 97, 110, 101, 65, 102, 102, 105, 110, 101, 32, 116, 101, 103, 117, 108, 97, 47, 116, 101, 103, 117, 108, 97, 108, 97, 119, 48, 54, 46, 80, 108, 97, 110, 101, 77, 101, 101, 116, 32, 116, 101, 103, 117, 108, 97, 47, 116, 101, 103, 117, 108, 97, 108, 97, 119, 48, 54, 46, 80, 108, 97, 110, 101, 80, 97, 114, 97, 108, 108, 101, 108, 32, 116, 101, 103, 117, 108, 97, 47, 116, 101, 103, 117, 108, 97, 108, 97, 119, 48, 54, 46, 80, 108, 97, 110, 101, 83, 104, 114, 105, 110, 107, 115, 32, 116, 101, 103, 117, 108, 97, 47, 116, 101, 103, 117, 108, 97, 108, 97, 119, 48, 54, 46, 80, 108, 97, 110, 101, 69, 114, 114, 111, 114, 115, 32, 116, 101, 103, 117, 108, 97, 47, 116, 101, 103, 117, 108, 97, 108, 97, 119, 48, 54, 46, 80, 108, 97, 110, 101, 74, 111, 105, 110, 32, 116, 101, 103, 117, 108, 97, 47, 116, 101, 103, 117, 108, 97, 108, 97, 119, 48, 54, 46, 80, 108, 97, 110, 101, 68, 117, 97, 108, 32, 116, 101, 103, 117, 108, 97, 47, 116, 101, 103, 117, 108, 97, 108, 97, 119, 48, 55, 46, 68, 101, 115, 105, 103, 110, 67, 111, 109, 112, 108, 101, 116, 101, 32, 116, 101, 103, 117, 108, 97, 47, 116, 101, 103, 117, 108, 97, 108, 97, 119, 48, 55, 46, 68, 101, 115, 105, 103, 110, 67, 104, 101, 99, 107, 32, 116, 101, 103, 117, 108, 97, 47, 116, 101, 103, 117, 108, 97, 108, 97, 119, 48, 55, 46, 68, 101, 115, 105, 103, 110, 67, 104, 111, 111, 115, 101, 32, 116, 101, 103, 117, 108, 97, 47, 116, 101, 103, 117, 108, 97, 108, 97, 119, 48, 55, 46, 68, 101, 115, 105, 103, 110, 66, 97, 108, 97, 110, 99, 101, 100, 32, 116, 101, 103, 117, 108, 97, 47, 116, 101, 103, 117, 108, 97, 108, 97, 119, 48, 55, 46, 68, 101, 115, 105, 103, 110, 83, 104, 97, 114, 101, 100, 32, 116, 101, 103, 117, 108, 97, 47, 116, 101, 103, 117, 108, 97, 108, 97, 119, 48, 55, 46, 68, 101, 115, 105, 103, 110, 80, 97, 105, 114, 115, 32, 116, 101, 103, 117, 108, 97, 47, 116, 101, 103, 117, 108, 97, 108, 97, 119, 48, 55, 46, 68, 101, 115, 105, 103, 110, 84, 119, 105, 99, 101].map Char.ofNat
def headSigns : List Char := word0 ++ gap :: (word1 ++ gap :: (word2 ++ gap :: headRest))

theorem head_is : Try.prog.initOrder = headText := by kernel_rfl
theorem head_text : headText = String.ofList headSigns := by kernel_rfl
theorem head_list : Try.prog.initOrder.toList = headSigns := by rw [head_is, head_text, String.toList_ofList]

theorem words_ne (l : List Char) : wordsSigns l ≠ [] := by
  cases l with
  | nil => simp [wordsSigns]
  | cons c r =>
    unfold wordsSigns
    split
    · simp
    · simp
    · split <;> simp

theorem words_step : ∀ (w r : List Char), w.all (fun c => c != gap) = true → wordsSigns (w ++ gap :: r) = w :: wordsSigns r
  | [], r, _ => by
    show wordsSigns (Char.ofNat 32 :: r) = [] :: wordsSigns r
    rw [wordsSigns]
    done
  | c :: w, r, h => by
    simp only [List.all_cons, Bool.and_eq_true] at h
    have ih := words_step w r h.2
    have hc : c ≠ gap := by simpa using h.1
    show wordsSigns (c :: (w ++ gap :: r)) = _
    rw [wordsSigns, ih]
    intro e
    exact hc e

theorem behind_if {a b : List Char} {r : List (List Char)} (h : ((a == "harness".toList || a == "ownmain".toList) && isSumSigns b) = true) : behindMainWord (a :: b :: r) = r := by
  unfold behindMainWord
  simp only [h]
  rfl

theorem behind_is : behindMainWord (wordsSigns headSigns) = word2 :: wordsSigns headRest := by
  unfold headSigns
  rw [words_step word0 _ (by kernel_rfl), words_step word1 _ (by kernel_rfl), words_step word2 _ (by kernel_rfl)]
  generalize wordsSigns headRest = R
  have h1 : ((word0 == "harness".toList || word0 == "ownmain".toList) && isSumSigns word1) = true := by kernel_rfl
  exact behind_if h1

theorem no_gc : (word2 == "gc".toList) = false := by kernel_rfl
theorem no_spec : (word2 == "spec".toList) = false := by kernel_rfl
theorem no_carried : (word2 == "carried".toList) = false := by kernel_rfl
theorem is_cut : (word2 == "cut".toList) = true := by kernel_rfl
theorem strip_is (R : List (List Char)) : stripLifts liftWords (word2 :: R) = ([], word2 :: R) := by kernel_rfl
theorem head_cut : (some word2 == some "cut".toList) = true := by kernel_rfl
theorem no_later : Try.prog.laysLater = false := by kernel_rfl
theorem no_reflect : Try.prog.bearsReflect = false := by kernel_rfl
theorem door_fits : Try.prog.doorFits [] = true := by kernel_rfl

theorem enter_of {P : Program} {c : List Char} {R : List (List Char)} (h : behindMainWord (wordsSigns P.initOrder.toList) = c :: R) (h1 : (c == "gc".toList) = false) (h2 : (c == "spec".toList) = false) (h3 : (c == "carried".toList) = false)
    (h4 : stripLifts liftWords (c :: R) = ([], c :: R)) (h5 : (some c == some "cut".toList) = true) (h6 : P.laysLater = false) (h7 : P.bearsReflect = false) (h8 : P.doorFits [] = true) : P.mayEnter = true := by
  unfold Program.mayEnter
  rw [h]
  simp only [h1, h2, h3, h4, List.head?_cons, h5, h6, h7, h8]
  rfl
theorem may_enter : Try.prog.mayEnter = true :=
  enter_of (by rw [head_list]; exact behind_is) no_gc no_spec no_carried (strip_is _) head_cut no_later no_reflect door_fits
theorem lifts_of {P : Program} {c : List Char} {R : List (List Char)} (h : behindMainWord (wordsSigns P.initOrder.toList) = c :: R) (h3 : (c == "carried".toList) = false)
    (h4 : stripLifts liftWords (c :: R) = ([], c :: R)) (h5 : (some c == some "cut".toList) = true) : P.liftsFinal = false := by
  unfold Program.liftsFinal Program.headLifts
  rw [h]
  have h3' : (some c == some "carried".toList) = false := by simpa using h3
  simp only [h3', h4, List.head?_cons, h5]
  rfl
theorem lifts_final : Try.prog.liftsFinal = false :=
  lifts_of (by rw [head_list]; exact behind_is) no_carried (strip_is _) head_cut
theorem make_of {P : Program} {c : List Char} {R : List (List Char)} (h : behindMainWord (wordsSigns P.initOrder.toList) = c :: R) (h1 : (c == "gc".toList) = false) (h2 : (c == "spec".toList) = false) (h3 : (c == "cut".toList) = true) :
    P.make = some .cut := by
  unfold Program.make
  rw [h]
  simp only [h1, h2, h3]
  rfl
theorem make_cut : Try.prog.make = some .cut :=
  make_of (by rw [head_list]; exact behind_is) no_gc no_spec is_cut
end Go.Proofs.Ytnmkkflnehnioaa
