/-
  The tables of the seven fields as plain numbers, and that smallfield.New makes just these. Condition: the field is one of the seven.
-/
import Derived.Test.YtnmkkflnehnioaaSf
namespace Go.Proofs.Ytnmkkflnehnioaa
open Go.RowKit

def packS : List Nat := [68719476752, 1218370552582636207866384, 94434899134181108932491746274718224, 4572990810454575848007626284217218242870866358800, 9297542639348527552236800780813204282305034793674391590767343505021088272, 138145339583879096428209328452192441095485204611018773672575787500798694099453751824, 8986690708024339884259668388453865091868182506470258411551265922896781674643265104972283578167824]
def packM : List Nat := [1099511627776, 1360041547102741705261056, 2757109631905114177050704042595975168, 1662743562050394122922425072219743642211886039040, 2010278533274547585798409916595081907546577359384113947133585970195070976, 6359748845871107534148503226590670280548494996483042196734067610529206322563693674496, 12992295474418726299168584010125499800446975643965808714274855111902658395364003326119775607717888]
def sumN (k a b : Nat) : Nat := packS.getD k 0 / 16 ^ (9 * a + b) % 16
def prodN (k a b : Nat) : Nat := packM.getD k 0 / 16 ^ (9 * a + b) % 16

theorem tab_eq : ∀ k : Fin 7, ∀ a b : Fin 9, a < szN k → b < szN k → sumT k a b = sumN k a b ∧ prodT k a b = prodN k a b ∧ sumN k a b < szN k ∧ prodN k a b < szN k := by decide +kernel

theorem tab_at {k : Nat} (hk : k < 7) {a b : Nat} (ha : a < szN k) (hb : b < szN k) : sumT k a b = sumN k a b ∧ prodT k a b = prodN k a b ∧ sumN k a b < szN k ∧ prodN k a b < szN k :=
  have h9 := (sz_facts k hk).2.1.2
  tab_eq ⟨k, hk⟩ ⟨a, by omega⟩ ⟨b, by omega⟩ ha hb

theorem TabAt.congr {w : World} {v : Value} {q : Nat} {T T' : Nat → Nat → Int} (h : TabAt w v q T) (he : ∀ a b, a < q → b < q → T a b = T' a b) : TabAt w v q T' := by
  obtain ⟨b, c, rfl, hr⟩ := h
  refine ⟨b, c, rfl, fun i hi => ?_⟩
  obtain ⟨r, d, h1, h2, h3⟩ := hr i hi
  exact ⟨r, d, h1, h2, fun j hj => by rw [← he i j hi hj]; exact h3 j hj⟩
/-- Block f is the field number k. -/
def NF (w : World) (f k : Nat) : Prop := FieldAt w f (szN k) (prI k) (fun a b => (sumN k a b : Int)) (fun a b => (prodN k a b : Int))
theorem NF.below {w w' : World} {f k : Nat} (h : NF w f k) (hb : Below w.heap.size w w') : NF w' f k := FieldAt.below h hb
theorem nf_of {w : World} {f k : Nat} (hk : k < 7) (h : FieldAt w f (szN k) (prI k) (sumT k) (prodT k)) : NF w f k := by
  obtain ⟨vs, vm, h2, h3, t2, t3⟩ := h.tabs
  exact ⟨h.c0, h.c1, vs, vm, h2, h3, t2.congr (fun a b ha hb => (tab_at hk ha hb).1), t3.congr (fun a b ha hb => (tab_at hk ha hb).2.1)⟩

def FieldK (w : World) (k : Nat) (e : Ending) (w' : World) : Prop :=
  ∃ f, e = .returned (.tuple #[.pointer (some ⟨f, 0, none⟩), .int .i64 (szN k), .bool true]) ∧ NF w' f k ∧ Below w.heap.size w w'
theorem field_k (n : Nat) (hn : n ≤ 255) (w : World) : Calls Try.prog 26 #[.int .u8 n] w (FieldK w (n % 7)) :=
  (field_any n hn w).mono fun _ _ ⟨f, he, hF, hB⟩ => ⟨f, he, nf_of (Nat.mod_lt _ (by decide)) hF, hB⟩
def NewK (w : World) (k : Nat) (e : Ending) (w' : World) : Prop :=
  ∃ f, e = .returned (.tuple #[.pointer (some ⟨f, 0, none⟩), .int .i64 0]) ∧ NF w' f k ∧ Below w.heap.size w w'
theorem new_k (k : Nat) (hk : k < 7) (w : World) : Calls Try.prog 39 #[.int .i64 (szN k)] w (NewK w k) :=
  (new_q k hk w).mono fun _ _ ⟨f, he, hF, hB⟩ => ⟨f, he, nf_of hk hF, hB⟩

theorem addK {w : World} {f k : Nat} (h : NF w f k) (a b : Nat) (ha : a < szN k) (hb : b < szN k) :
    Calls Try.prog 27 #[.pointer (some ⟨f, 0, none⟩), .int .i64 a, .int .i64 b] w fun e w' => e = .returned (.int .i64 (sumN k a b)) ∧ w = w' := fadd_any f _ _ _ _ w h a b ha hb
theorem mulK {w : World} {f k : Nat} (h : NF w f k) (a b : Nat) (ha : a < szN k) (hb : b < szN k) :
    Calls Try.prog 28 #[.pointer (some ⟨f, 0, none⟩), .int .i64 a, .int .i64 b] w fun e w' => e = .returned (.int .i64 (prodN k a b)) ∧ w = w' := fmul_any f _ _ _ _ w h a b ha hb

end Go.Proofs.Ytnmkkflnehnioaa
