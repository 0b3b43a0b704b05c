/-
  The lists of numbers below a bound that extend a list, in order: how many there are, which follows which. No condition.
  A range over an iterator whose rounds may rely on something (V) about the value that they are handed, and whose body is never left. Condition: the wide fence.
  slices.Clone of a row of ints (88). Condition: fewer than 1000 ints.
  design.sets (79) and what its iterator and its consumers keep. No condition.
  The iterator of design.sets (87): it yields the lists that extend its prefix, in order. Condition: fewer than 61 disks.
  The iterator of design.sets (87): it yields the lists that extend its prefix, in order. Condition: fewer than 61 disks.
  design.count (78) and the reference's count (80): the number of sets, or a number beyond 2^40. Condition: at most 60 disks.
  design.Complete (54): the lists of exts, as a design. Condition: the count is within the limit.
  design.Complete (54): its errors. No condition.
  design.Choose (60): a plane where there is one, else the complete design. Condition: as stated.
-/
import Derived.Test.YtnmkkflnehnioaaBack
import Derived.Test.YtnmkkflnehnioaaGb
import Derived.Deep.RegionHeld3
/-! The lists of numbers below a bound that extend a list, in order: how many there are, which follows which. No condition. -/
namespace Go.Proofs.Ytnmkkflnehnioaa

def startOf (p : List Nat) : Nat := match p.getLast? with | none => 0 | some x => x + 1
/-- The lists that extend p by r more disks. -/
def exts (disks : Nat) : Nat → List Nat → List (List Nat)
  | 0, p => [p]
  | r + 1, p => (List.range (disks - r - startOf p)).flatMap fun i => exts disks r (p ++ [startOf p + i])
def extsTo (disks r : Nat) (p : List Nat) (n : Nat) : List (List Nat) := (List.range n).flatMap fun i => exts disks r (p ++ [startOf p + i])
theorem extsTo_succ (disks r : Nat) (p : List Nat) (n : Nat) : extsTo disks r p (n + 1) = extsTo disks r p n ++ exts disks r (p ++ [startOf p + n]) := by simp [extsTo, List.range_succ]
theorem exts_eq (disks r : Nat) (p : List Nat) : exts disks (r + 1) p = extsTo disks r p (disks - r - startOf p) := rfl
theorem start_snoc (p : List Nat) (x : Nat) : startOf (p ++ [x]) = x + 1 := by simp [startOf]
theorem extsTo_mono (disks r : Nat) (p : List Nat) {a b : Nat} (h : a ≤ b) : (extsTo disks r p a).length ≤ (extsTo disks r p b).length := by
  induction b with
  | zero => obtain rfl : a = 0 := by omega
            exact Nat.le_refl _
  | succ b ih =>
    rcases Nat.lt_or_ge b a with h1 | h1
    · obtain rfl : a = b + 1 := by omega
      exact Nat.le_refl _
    · have := ih h1
      rw [extsTo_succ, List.length_append]
      omega

/-- The numbers of Pascal's triangle. -/
def bin : Nat → Nat → Nat
  | _, 0 => 1
  | 0, _ + 1 => 0
  | n + 1, k + 1 => bin n k + bin n (k + 1)
theorem bin_zero (n : Nat) : bin n 0 = 1 := by cases n <;> rfl
theorem bin_succ (n k : Nat) : bin (n + 1) (k + 1) = bin n k + bin n (k + 1) := rfl
theorem bin_gt : ∀ (n k : Nat), n < k → bin n k = 0
  | 0, k + 1, _ => rfl
  | n + 1, k + 1, h => by rw [bin_succ, bin_gt n k (by omega), bin_gt n (k + 1) (by omega)]
theorem bin_self : ∀ n : Nat, bin n n = 1
  | 0 => rfl
  | n + 1 => by rw [bin_succ, bin_self n, bin_gt n (n + 1) (by omega)]
theorem bin_pos : ∀ (n k : Nat), k ≤ n → 0 < bin n k
  | _, 0, _ => by rw [bin_zero]; omega
  | n + 1, k + 1, h => by
    rw [bin_succ]
    have := bin_pos n k (by omega)
    omega
theorem bin_mul : ∀ (n k : Nat), k ≤ n → bin n k * (n - k) = bin n (k + 1) * (k + 1)
  | 0, k, h => by obtain rfl : k = 0 := by omega
                  rfl
  | n + 1, 0, _ => by
    have h := bin_mul n 0 (by omega)
    rw [bin_zero] at h ⊢
    rw [bin_succ, bin_zero]
    simp only [Nat.sub_zero, Nat.zero_add, Nat.mul_one, Nat.one_mul] at h ⊢
    omega
  | n + 1, k + 1, hk => by
    have h1 := bin_mul n k (by omega)
    rw [bin_succ, bin_succ]
    rcases Nat.lt_or_ge k n with h | h
    · have h2 := bin_mul n (k + 1) (by omega)
      obtain ⟨d, rfl⟩ : ∃ d, n = k + 1 + d := ⟨n - (k + 1), by omega⟩
      rw [show k + 1 + d - k = d + 1 by omega] at h1
      rw [show k + 1 + d - (k + 1) = d by omega] at h2
      rw [show k + 1 + d + 1 - (k + 1) = d + 1 by omega]
      generalize bin (k + 1 + d) k = a at *
      generalize bin (k + 1 + d) (k + 1) = b at *
      generalize bin (k + 1 + d) (k + 1 + 1) = c at *
      simp only [Nat.mul_add, Nat.add_mul, Nat.mul_one] at *
      omega
    · obtain rfl : k = n := by omega
      rw [bin_self, bin_gt k (k + 1) (by omega), bin_gt k (k + 1 + 1) (by omega)]
      omega
theorem bin_symm : ∀ (n k : Nat), k ≤ n → bin n k = bin n (n - k)
  | n, 0, _ => by rw [bin_zero, Nat.sub_zero, bin_self]
  | 0, k + 1, h => by omega
  | n + 1, k + 1, h => by
    rcases Nat.lt_or_ge k n with h1 | h1
    · rw [bin_succ, bin_symm n k (by omega), bin_symm n (k + 1) (by omega)]
      obtain ⟨d, rfl⟩ : ∃ d, n = k + 1 + d := ⟨n - (k + 1), by omega⟩
      rw [show k + 1 + d - k = d + 1 by omega, show k + 1 + d - (k + 1) = d by omega, show k + 1 + d + 1 - (k + 1) = d + 1 by omega, bin_succ]
      omega
    · obtain rfl : k = n := by omega
      rw [Nat.sub_self, bin_zero, bin_self]
/-- What count returns from the i-th round on, f rounds being left. -/
def cntGo (disks n i : Nat) : Nat → Nat
  | 0 => n
  | f + 1 => if 1099511627776 < n * (disks - i) / (i + 1) then n * (disks - i) / (i + 1) else cntGo disks (n * (disks - i) / (i + 1)) (i + 1) f
theorem bin_step (disks i : Nat) (h : i ≤ disks) : bin disks i * (disks - i) / (i + 1) = bin disks (i + 1) := by
  rw [bin_mul disks i h]
  exact Nat.mul_div_cancel _ (by omega)
theorem cntGo_bin (disks : Nat) : ∀ (f i : Nat), i + f ≤ disks → cntGo disks (bin disks i) i f ≤ 1099511627776 → cntGo disks (bin disks i) i f = bin disks (i + f)
  | 0, i, _, _ => rfl
  | f + 1, i, h, hle => by
    rw [cntGo, bin_step disks i (by omega)] at hle ⊢
    by_cases hb : 1099511627776 < bin disks (i + 1)
    · rw [if_pos hb] at hle
      omega
    · rw [if_neg hb] at hle ⊢
      rw [cntGo_bin disks f (i + 1) (by omega) hle, show i + 1 + f = i + (f + 1) by omega]
theorem count_bin {disks width : Nat} (hw : width ≤ disks) (h : cntGo disks 1 0 (min width (disks - width)) ≤ 1099511627776) : cntGo disks 1 0 (min width (disks - width)) = bin disks width := by
  have e := cntGo_bin disks (min width (disks - width)) 0 (by omega) (by rw [bin_zero]; exact h)
  rw [bin_zero, Nat.zero_add] at e
  rw [e]
  rcases Nat.le_total width (disks - width) with h1 | h1
  · rw [Nat.min_eq_left h1]
  · rw [Nat.min_eq_right h1]
    exact (bin_symm disks width hw).symm
theorem extsTo_len {disks r : Nat} {p : List Nat} (ih : ∀ q, startOf q ≤ disks → (exts disks r q).length = bin (disks - startOf q) r) (hs : startOf p ≤ disks) :
    ∀ m, m ≤ disks - startOf p → (extsTo disks r p m).length + bin (disks - startOf p - m) (r + 1) = bin (disks - startOf p) (r + 1)
  | 0, _ => by simp [extsTo]
  | m + 1, hm => by
    have h1 := extsTo_len ih hs m (by omega)
    rw [extsTo_succ, List.length_append, ih _ (by rw [start_snoc]; omega), start_snoc]
    obtain ⟨d, hd⟩ : ∃ d, disks - startOf p - m = d + 1 := ⟨disks - startOf p - m - 1, by omega⟩
    rw [hd, bin_succ] at h1
    rw [show disks - (startOf p + m + 1) = d by omega, show disks - startOf p - (m + 1) = d by omega]
    omega
theorem exts_len (disks : Nat) : ∀ (r : Nat) (p : List Nat), startOf p ≤ disks → (exts disks r p).length = bin (disks - startOf p) r
  | 0, p, _ => by simp [exts, bin_zero]
  | r + 1, p, h => by
    have h1 := extsTo_len (fun q hq => exts_len disks r q hq) h (disks - r - startOf p) (by omega)
    rw [exts_eq]
    rw [bin_gt (disks - startOf p - (disks - r - startOf p)) (r + 1) (by omega)] at h1
    omega
theorem exts_count {disks width : Nat} (hw : width ≤ disks) (h : cntGo disks 1 0 (min width (disks - width)) ≤ 1099511627776) : (exts disks width []).length = cntGo disks 1 0 (min width (disks - width)) := by
  rw [count_bin hw h, exts_len disks width [] (Nat.zero_le _)]
  rfl
theorem exts_item (disks : Nat) : ∀ (r : Nat) (p l : List Nat), l ∈ exts disks r p → l.length = p.length + r
  | 0, p, l, h => by simp [exts] at h; subst h; rfl
  | r + 1, p, l, h => by
    rw [exts] at h
    obtain ⟨i, -, hi⟩ := List.mem_flatMap.1 h
    have := exts_item disks r _ l hi
    simp at this
    omega
/-- All items after the first follow their predecessor. -/
def Ch {α : Type} (R : α → α → Prop) : List α → Prop
  | [] => True
  | [_] => True
  | a :: b :: t => R a b ∧ Ch R (b :: t)
theorem Ch.append {α : Type} {R : α → α → Prop} : ∀ {l m : List α}, Ch R l → Ch R m → (∀ a b, l.getLast? = some a → m.head? = some b → R a b) → Ch R (l ++ m)
  | [], m, _, h2, _ => h2
  | [a], [], _, _, _ => trivial
  | [a], b :: t, _, h2, h => ⟨h a b rfl rfl, h2⟩
  | a :: b :: t, m, h1, h2, h => ⟨h1.1, Ch.append (l := b :: t) h1.2 h2 (fun x y hx hy => h x y (by simpa [List.getLast?_cons_cons] using hx) hy)⟩
theorem Ch.at {α : Type} {R : α → α → Prop} : ∀ {l : List α}, Ch R l → ∀ (i : Nat) (a b : α), l[i]? = some a → l[i + 1]? = some b → R a b
  | [], _, i, a, b, h, _ => by simp at h
  | [x], _, i, a, b, _, h => by simp at h
  | x :: y :: t, hc, 0, a, b, h1, h2 => by simp at h1 h2; subst h1; subst h2; exact hc.1
  | x :: y :: t, hc, i + 1, a, b, h1, h2 => Ch.at (l := y :: t) hc.2 i a b (by simpa using h1) (by simpa using h2)

/-- l' follows l: one place rises by one, all behind it run on. -/
def Nx (disks width : Nat) (l l' : List Nat) : Prop := ∃ i x, i < width ∧ l[i]? = some x ∧ x < disks - width + i ∧ (∀ k, i < k → k < width → l[k]? = some (disks - width + k)) ∧ (∀ k, k < i → l'[k]? = l[k]?) ∧ ∀ k, i ≤ k → k < width → l'[k]? = some (x + 1 + (k - i))
theorem exts_chain {disks width : Nat} (hw : width ≤ disks) : ∀ (r : Nat) (p : List Nat), p.length + r = width → startOf p + r ≤ disks →
    Ch (Nx disks width) (exts disks r p) ∧ (exts disks r p).head? = some (p ++ List.range' (startOf p) r) ∧ (exts disks r p).getLast? = some (p ++ List.range' (disks - r) r)
  | 0, p, hp, hs => by simp [exts, Ch]
  | r + 1, p, hp, hs => by
    have key : ∀ m, m + 1 ≤ disks - r - startOf p → Ch (Nx disks width) (extsTo disks r p (m + 1)) ∧ (extsTo disks r p (m + 1)).head? = some (p ++ List.range' (startOf p) (r + 1)) ∧ (extsTo disks r p (m + 1)).getLast? = some (p ++ (startOf p + m) :: List.range' (disks - r) r) := by
      intro m
      induction m with
      | zero =>
        intro hm
        obtain ⟨h1, h2, h3⟩ := exts_chain hw r (p ++ [startOf p]) (by simp; omega) (by rw [start_snoc]; omega)
        have e : extsTo disks r p 1 = exts disks r (p ++ [startOf p]) := by simp [extsTo]
        rw [Nat.zero_add, e]
        refine ⟨h1, ?_, ?_⟩
        · rw [h2, start_snoc]; simp [List.range'_succ]
        · rw [h3]; simp
      | succ m ih =>
        intro hm
        obtain ⟨g1, g2, g3⟩ := ih (by omega)
        obtain ⟨h1, h2, h3⟩ := exts_chain hw r (p ++ [startOf p + (m + 1)]) (by simp; omega) (by rw [start_snoc]; omega)
        rw [extsTo_succ]
        refine ⟨Ch.append g1 h1 ?_, ?_, ?_⟩
        · intro a b ha hb
          rw [g3] at ha
          rw [h2, start_snoc] at hb
          cases ha
          cases hb
          refine ⟨p.length, startOf p + m, by omega, by simp, by omega, ?_, ?_, ?_⟩
          · intro k hk hkw
            obtain ⟨d, rfl⟩ : ∃ d, k = p.length + 1 + d := ⟨k - (p.length + 1), by omega⟩
            rw [List.getElem?_append_right (by omega), show p.length + 1 + d - p.length = d + 1 by omega, List.getElem?_cons_succ, List.getElem?_range' (by omega)]
            congr 1
            omega
          · intro k hk
            rw [List.getElem?_append_left (by simp; omega), List.getElem?_append_left (by omega), List.getElem?_append_left (by omega)]
          · intro k hk hkw
            rcases Nat.lt_or_ge p.length k with h | h
            · obtain ⟨d, rfl⟩ : ∃ d, k = p.length + 1 + d := ⟨k - (p.length + 1), by omega⟩
              rw [List.getElem?_append_right (by simp)]
              simp only [List.length_append, List.length_cons, List.length_nil]
              rw [show p.length + 1 + d - (p.length + (0 + 1)) = d by omega, List.getElem?_range' (by omega)]
              congr 1
              omega
            · obtain rfl : k = p.length := by omega
              rw [List.getElem?_append_left (by simp)]
              simp
              omega
        · rw [List.head?_append, g2]; rfl
        · rw [List.getLast?_append, h3]; simp
    obtain ⟨m, hm⟩ : ∃ m, disks - r - startOf p = m + 1 := ⟨disks - r - startOf p - 1, by omega⟩
    rw [exts_eq, hm]
    obtain ⟨h1, h2, h3⟩ := key m (by omega)
    refine ⟨h1, h2, ?_⟩
    rw [h3, List.range'_succ, show startOf p + m = disks - (r + 1) by omega, show disks - (r + 1) + 1 = disks - r by omega]
/-- The lists of all sets of disks: the first, the last, and each follows the one before. -/
theorem exts_all {disks width : Nat} (hw : width ≤ disks) : (exts disks width [])[0]? = some (List.range width) ∧ (∀ l, (exts disks width []).getLast? = some l → ∀ k, k < width → l[k]? = some (disks - width + k)) ∧ (∀ (i : Nat) (a b : List Nat), (exts disks width [])[i]? = some a → (exts disks width [])[i + 1]? = some b → Nx disks width a b) ∧ ∀ l, l ∈ exts disks width [] → l.length = width := by
  obtain ⟨h1, h2, h3⟩ := exts_chain hw width [] (by simp) (by simpa [startOf] using hw)
  refine ⟨?_, ?_, fun i a b => h1.at i a b, fun l hl => by have := exts_item disks width [] l hl; simpa using this⟩
  · rw [← List.head?_eq_getElem?, h2]
    simp [startOf, List.range_eq_range']
  · intro l hl k hk
    rw [h3] at hl
    cases hl
    rw [List.nil_append, List.getElem?_range' hk]
    congr 1
    omega
end Go.Proofs.Ytnmkkflnehnioaa

/-! A range over an iterator whose rounds may rely on something (V) about the value that they are handed, and whose body is never left. Condition: the wide fence. -/
namespace Go.Proofs.Ytnmkkflnehnioaa
open Go.RowKit Go.Shelf

theorem round_any {m m' : Nat} {P : Program} {l : Nat} {f : FuncId} {tmps : Array Value} {assign body : Code} {w : World} {R : Ending → World → Prop}
    (h : RoundIn Fence.wide m P l f tmps assign body w R) : RoundIn Fence.wide m' P l f tmps assign body w R := ⟨h.1, fun c cs _ => h.2 c cs (fun d hd => by cases hd)⟩
theorem yield_any {m : Nat} (m' : Nat) {P : Program} {l : Nat} {args : Array Value} {W : World} {R : Ending → World → Prop} (h : YieldAt Fence.wide m P l args W R) : YieldAt Fence.wide m' P l args W R := by
  obtain ⟨fn, tmps, assign, body, hy, hR⟩ := h
  exact ⟨fn, tmps, assign, body, hy, round_any hR⟩

/-- What an iterator promises where each round may rely on V of its value, and no round stops. -/
def SeqV {α : Type} (P : Program) (g : Nat) (lb : Array Value) (encs : α → Array Value) (Kp : World → World → Prop) (V : α → World → Prop) (S : List α → Prop) (N : Nat) (w : World) : Prop :=
  ∀ (l : Nat) (J : List α → World → Prop) (W : World), Below w.heap.size w W → W.heap.size = w.heap.size + 2 → OwnFrom W.heap.size J →
    (∀ pre x W1, J pre W1 → V x W1 → pre.length < N → YieldAt Fence.wide 9 P l (encs x) W1 fun e W' => e = .returned (.bool true) ∧ J (pre ++ [x]) W' ∧ Kp W1 W') →
    J [] W → CallsIn Fence.wide 9 P g (#[.func (.yield l) #[] #[]] ++ lb) W fun e W' => (∃ v, e = .returned v) ∧ ∃ xs, S xs ∧ J xs W'

/-- The loop's record. -/
def recOf (fn : FuncId) (tmps : Array Value) (ps : Array Tmp) (assign body : Code) (d : Nat) (s : LoopState) : Loop := { state := s, pending := none, fn, tmps, params := ps, assign, body, defers := d }

theorem wpIn_range_V {α : Type} {P : Program} {g : Operand} {ps : Array Tmp} {assign body : Code} {Q : Exit → Act → World → Prop} {a : Act} {w : World}
    {gf : Nat} {lb : Array Value} (hg : a.eval g = .func (.func gf) #[] lb) (eg : ∀ args w, (callFunc gf args).run P w = .ok (.enter gf args) w)
    {encs : α → Array Value} {Kp : World → World → Prop} {V : α → World → Prop} {S : List α → Prop} {N : Nat} (hseq : SeqV P gf lb encs Kp V S N w)
    (hKt : ∀ {A B C : World}, Kp A B → Kp B C → Kp A C) (hKb : ∀ (W : World) (o o' : Obj), W.heap[w.heap.size + 1]? = some o → o.isCells = false → Kp W (W.putObj (w.heap.size + 1) o'))
    (hps : ∀ x, (encs x).size = ps.size) (I : List α → World → Prop) (hI : OwnFrom w.heap.size I) (hV : OwnFrom w.heap.size V) (h0 : I [] w) (a₁ : α → Act)
    (hassign : ∀ (l : Nat) (x : α) (W : World) (K : Act → World → Prop), K (a₁ x) W → assign.wpIn (Fence.wide.inRound l) 9 P (Exit.then K (fun _ _ _ => False)) { tmps := (ps.zip (encs x)).foldl (fun t (p, v) => t.setIfInBounds p v) a.tmps, defers := [] } W)
    (hbody : ∀ (l : Nat) (pre : List α) (x : α) (W : World), I pre W → V x W → pre.length < N → body.wpIn (Fence.wide.inRound l) 9 P (fun e _ W' => e = .normal ∧ KeepsFrom w.heap.size W W' ∧ Kp W W' ∧ I (pre ++ [x]) W') (a₁ x) W)
    (hdone : ∀ (D : Nat) (xs : List α) (W : World), w.heap.size ≤ D → S xs → I xs W → W.heap[D]? = some (.deferred (some [])) → Q .normal { a with defers := { target := .collected D, args := #[] } :: a.defers } W) :
    (Code.rangeFunc g ps assign body).wpIn Fence.wide 10 P Q a w := by
  refine wpIn_rangeFunc fun fn hfn => ?_
  obtain ⟨d, hd⟩ : ∃ d, w.heap.size = d := ⟨_, rfl⟩
  obtain ⟨l, hl⟩ : ∃ l, d + 1 = l := ⟨_, rfl⟩
  have hKb' : ∀ (W : World) (o o' : Obj), W.heap[l]? = some o → o.isCells = false → Kp W (W.putObj l o') := by rw [← hl, ← hd]; exact hKb
  obtain ⟨rec, hrec⟩ : ∃ rec, recOf fn a.tmps ps assign body d = rec := ⟨_, rfl⟩
  obtain ⟨X, hX⟩ : ∃ X, (w.alloc (.deferred (some []))).alloc (.loop (rec .ready)) = X := ⟨_, rfl⟩
  have xl : X.heap[l]? = some (.loop (rec .ready)) := by
    have h := World.alloc_heap_new (w.alloc (.deferred (some []))) (.loop (rec .ready))
    rw [World.size_alloc, hX, hd, hl] at h
    exact h
  have xd : X.heap[d]? = some (.deferred (some [])) := by
    rw [← hX, Below.heap_alloc _ _ _ (by simp; omega), ← hd]
    exact World.alloc_heap_new w _
  have xi : I [] X := by rw [← hX]; exact hI.alloc _ (hI.alloc _ h0)
  have xb : Below w.heap.size w X := by rw [← hX]; exact ((Below.refl _ w).alloc (Nat.le_refl _) _).alloc (by simp) _
  have xs : X.heap.size = d + 2 := by rw [← hX]; simp; omega
  refine ⟨l, [{ target := .collected d, args := #[] }], X, { target := .fn (.func gf) lb, args := #[.func (.yield l) #[] #[]] }, X, gf, #[.func (.yield l) #[] #[]] ++ lb, X, ?_, ?_, fun _ _ => trivial, ?_, fun _ => by omega, ?_⟩
  · rw [← hX, ← hrec, ← hl, ← hd]; exact run_enterLoop_outer _ _ _ _ _
  · simp only [resolve, hg]
    simp [go_sem]
  · simp [invoke, go_sem, eg]
  · let J : List α → World → Prop := fun pre W => I pre W ∧ W.heap[l]? = some (.loop (rec .ready)) ∧ W.heap[d]? = some (.deferred (some []))
    have hJ : OwnFrom X.heap.size J := fun s A B row hs hg' hr => by
      have hne : ∀ k, k < X.heap.size → row ≠ some k := fun k hk e => by have := (hr k e).1; omega
      have keep : ∀ k o, k < X.heap.size → A.heap[k]? = some o → B.heap[k]? = some o := fun k o hk ho => (hg'.block k (Array.getElem?_eq_some_iff.1 ho).1 (hne k hk).symm).trans ho
      exact ⟨hI s A B row hs.1 hg' (fun r e => ⟨by have := (hr r e).1; omega, (hr r e).2⟩), keep l _ (by omega) hs.2.1, keep d _ (by omega) hs.2.2⟩
    refine (hseq l J X xb (by omega) hJ ?_ ⟨xi, xl, xd⟩).mono ?_
    · rintro pre x W ⟨hi, wl, wd⟩ hv hlen
      have hlW : l < W.heap.size := (Array.getElem?_eq_some_iff.1 wl).1
      have hy := run_yield (P := P) (args := encs x) wl (by rw [← hrec]; exact hps x)
      rw [← hrec] at hy
      refine ⟨fn, _, assign, body, hy, roundIn_of_wpIn hfn (hassign _ x W _ ?_)⟩
      refine ⟨_, run_beginRound wl (by rw [← hrec]; rfl), ?_⟩
      obtain ⟨Y, hY⟩ : ∃ Y, W.putObj l (.loop { rec .ready with state := .busy }) = Y := ⟨_, rfl⟩
      rw [hY]
      have yl : Y.heap[l]? = some (.loop { rec .ready with state := .busy }) := by rw [← hY]; exact World.putObj_heap_same hlW
      have yd : Y.heap[d]? = some (.deferred (some [])) := by rw [← hY]; exact (World.putObj_heap_other (by omega)).trans wd
      have yk : Kp W Y := by rw [← hY]; exact hKb' _ _ _ wl rfl
      refine wpIn_mono (hbody l pre x Y (by rw [← hY]; exact hI.putObj _ hi (by omega) wl rfl) (by rw [← hY]; exact hV.putObj _ hv (by omega) wl rfl) hlen) ?_
      rintro e a3 Z ⟨rfl, zk, zp, zi⟩
      have zl := zk.same _ _ (by omega) yl rfl
      have zd := zk.same _ _ (by omega) yd rfl
      have hend := run_endRound (P := P) none zl
      have hback : { ({ rec .ready with state := .busy } : Loop) with state := .ready, pending := none } = rec .ready := by rw [← hrec]; rfl
      refine ⟨_, _, hend, rfl, ⟨hI.putObj _ zi (by omega) zl rfl, ?_, (World.putObj_heap_other (by omega)).trans zd⟩, hKt (hKt yk zp) (hKb' _ _ _ zl rfl)⟩
      have := World.putObj_heap_same (w := Z) (r := l) (o := .loop (rec .ready)) (Array.getElem?_eq_some_iff.1 zl).1
      rw [← hback] at this ⊢
      exact this
    · rintro e W2 ⟨⟨v, rfl⟩, ys, hS, hi, wl, wd⟩
      refine ⟨none, _, by have := run_endLoop (P := P) wl (by rw [← hrec]; simp [recOf]); rw [← hrec] at this; exact this, ?_⟩
      exact hdone d ys _ (by omega) hS (hI.putObj _ hi (by omega) wl rfl) ((World.putObj_heap_other (by omega)).trans wd)
end Go.Proofs.Ytnmkkflnehnioaa

/-! slices.Clone of a row of ints (88). Condition: fewer than 1000 ints. -/
namespace Go.Proofs.Ytnmkkflnehnioaa
open Go.RowKit
set_option maxRecDepth 100000

/-- A list for reading: nil, or a row. -/
def PreV (w : World) (v : Value) (p : List Nat) : Prop := (p = [] ∧ v = .slice none 0 0) ∨ (0 < p.length ∧ RRow w v p)
theorem PreV.below {w w' : World} {v : Value} {p : List Nat} (h : PreV w v p) (hb : Below w.heap.size w w') : PreV w' v p := by
  rcases h with h | ⟨h1, h2⟩
  · exact .inl h
  · exact .inr ⟨h1, h2.below hb⟩

set_option maxHeartbeats 1600000 in
theorem clone_any (p : List Nat) (hp : p.length < 1000) (w : World) (v : Value) (hv : PreV w v p) : Calls Try.prog 88 #[v] w fun e w' => ∃ y, e = .returned y ∧ w'.ownsRow w.heap.size 3 1 y p.length (natVals p) ∧ Below w.heap.size w w' := by
  have HE := @eql38
  rcases hv with ⟨rfl, rfl⟩ | ⟨h0, r, c, rfl, hc, h⟩
  · go_enter Try.func88, Try.ntmps88
    go_wp2_with fail
    go_ret
    exact ⟨_, rfl, World.ownsRow_nil _ _ _ _, Below.refl _ _⟩
  · have hnews : ∀ (W : World), Below w.heap.size w W → ∀ j u, (natVals p)[j]? = some u → W.cell? ((⟨r, 0, none⟩ : Addr).add j) = some u := fun W hW j u hu => by
      by_cases hj : j < p.length
      · have e1 : (natVals p)[j]? = some (.int .i64 (p[j] : Nat)) := by simp [natVals, hj]
        rw [e1] at hu
        cases hu
        have h1 := h j p[j] (List.getElem?_eq_getElem hj)
        have := (hW.cell (p := ⟨r, j, none⟩) (World.block_lt_of_cell? _ _ h1)).trans h1
        by_cases hj0 : j = 0
        · subst hj0; simpa [Addr.add] using this
        · simpa [Addr.add, hj0] using this
      · rw [List.getElem?_eq_none (by simp [natVals]; omega)] at hu
        cases hu
    have HN := Lib.hid hnews
    obtain ⟨n, en⟩ : ∃ n, p.length = n := ⟨_, rfl⟩
    have hl : (natVals p).length = n * 1 := by simp [natVals, en]
    have h1c : ∀ u ∈ natVals p, u.oneCell' = true := by intro u hu; simp [natVals] at hu; obtain ⟨_, _, rfl⟩ := hu; rfl
    rw [en] at h0 hp hc ⊢
    clear h hnews en
    go_enter Try.func88, Try.ntmps88
    have hown0 : (w.alloc (.cells #[] 3)).ownsRow w.heap.size 3 1 (.slice (some ⟨w.heap.size, 0, none⟩) 0 0) 0 [] :=
      ⟨rfl, .inr ⟨w.heap.size, 0, #[], rfl, Nat.le_refl _, heap_alloc_new w _, Nat.le_refl _, Nat.zero_le _, rfl, rfl⟩⟩
    go_wp2_with (first
      | (at_builtin; obtain ⟨i, hi, hz0, hz1, hz2⟩ := info_parts info3; refine wpList_append_own_at _ rfl (.tmp 5) (.tmp 6) 38 rfl w.heap.size 3 i (.int .i64 0) 1 8 Try.underlying38 hi hz0 hz1 hz2 rfl (by decide) (.slice (some ⟨w.heap.size, 0, none⟩) 0 0) 0 [] rfl hown0 ⟨r, 0, none⟩ n c (natVals p) rfl hl (HN.out _ ((Below.refl _ w).alloc (Nat.le_refl _) _)) h1c (by unfold maxLen; omega) (by omega) (by simp) ?_; intro v' w6 o6 g6 _ k6)
      | fail)
    go_ret
    refine ⟨v', rfl, ?_, ((Below.refl _ w).alloc (Nat.le_refl _) _).grown g6 (by simp) (fun b e => by cases e; exact Nat.le_refl _)⟩
    rw [Nat.zero_add, List.nil_append] at o6
    exact o6
end Go.Proofs.Ytnmkkflnehnioaa

/-! design.sets (79) and what its iterator and its consumers keep. No condition. -/
namespace Go.Proofs.Ytnmkkflnehnioaa
open Go.RowKit Go.Shelf
set_option maxRecDepth 100000

/-- The block of the rows that the design in block d holds now. -/
def curB (d : Nat) (W : World) : Option Nat := (W.cell? ⟨d, 1, none⟩).bind Value.ownBlock
/-- What a round keeps: all cells but the design's and its rows', and what is no cells from X on. -/
structure KpD (d n₀ X : Nat) (W W' : World) : Prop where
  cells : ∀ k o, W.heap[k]? = some o → o.isCells = true → k ≠ d → some k ≠ curB d W → W'.heap[k]? = some o
  others : ∀ k o, X ≤ k → W.heap[k]? = some o → o.isCells = false → W'.heap[k]? = some o
  cur : curB d W' = curB d W ∨ ∃ c, curB d W' = some c ∧ W.heap.size ≤ c
  below : Below n₀ W W'
  ok : (∀ c, curB d W = some c → c < W.heap.size) → ∀ c, curB d W' = some c → c < W'.heap.size
theorem KpD.refl (d n₀ X : Nat) (W : World) : KpD d n₀ X W W := ⟨fun _ _ h _ _ _ => h, fun _ _ _ h _ => h, .inl rfl, Below.refl _ _, fun h => h⟩
theorem KpD.trans {d n₀ X : Nat} {A B C : World} (h : KpD d n₀ X A B) (k : KpD d n₀ X B C) : KpD d n₀ X A C := by
  refine ⟨fun i o hi ho h1 h2 => ?_, fun i o hX hi ho => k.others i o hX (h.others i o hX hi ho) ho, ?_, h.below.trans k.below, fun x => k.ok (h.ok x)⟩
  · refine k.cells i o (h.cells i o hi ho h1 h2) ho h1 fun e => ?_
    rcases h.cur with e2 | ⟨c, e2, hc⟩
    · exact h2 (e.trans e2)
    · rw [e2] at e
      have := Option.some.inj e
      have := (Array.getElem?_eq_some_iff.1 hi).1
      omega
  · have hs := h.below.size
    rcases k.cur with e | ⟨c, e, hc⟩
    · rcases h.cur with e2 | ⟨c, e2, hc⟩
      · exact .inl (e.trans e2)
      · exact .inr ⟨c, e.trans e2, hc⟩
    · exact .inr ⟨c, e, by omega⟩
theorem KpD.mono {d n₀ X X' : Nat} {A B : World} (h : KpD d n₀ X A B) (hX : X ≤ X') : KpD d n₀ X' A B := ⟨h.cells, fun k o hk => h.others k o (by omega), h.cur, h.below, h.ok⟩
/-- Steps that make blocks alone. -/
theorem KpD.of_below {d n₀ X : Nat} {W W' : World} (h : Below W.heap.size W W') (hd : d < W.heap.size) (hn : n₀ ≤ W.heap.size) : KpD d n₀ X W W' := by
  have keep : ∀ k o, W.heap[k]? = some o → W'.heap[k]? = some o := fun k o hk => (h.block k (Array.getElem?_eq_some_iff.1 hk).1).trans hk
  have ec : curB d W' = curB d W := by
    unfold curB
    rw [h.cell (p := ⟨d, 1, none⟩) hd]
  exact ⟨fun k o hk _ _ _ => keep k o hk, fun k o _ hk _ => keep k o hk, .inl ec, h.mono hn, fun x c hc => Nat.lt_of_lt_of_le (x c (ec ▸ hc)) h.size⟩
/-- A turn of a loop's record below X. -/
theorem KpD.of_put {d n₀ X : Nat} {W : World} {l : Nat} {o o' : Obj} (hl : W.heap[l]? = some o) (ho : o.isCells = false) (hX : l < X) (hn : n₀ ≤ l) (hd : d < l) : KpD d n₀ X W (W.putObj l o') := by
  have hlt := (Array.getElem?_eq_some_iff.1 hl).1
  have ec : curB d (W.putObj l o') = curB d W := by
    unfold curB
    rw [show (W.putObj l o').cell? ⟨d, 1, none⟩ = W.cell? ⟨d, 1, none⟩ from World.cell?_of_block (World.putObj_heap_other (by show d ≠ l; omega))]
  have g := grownBy_putObj' W l o'
  refine ⟨fun k q hk hq _ _ => ?_, fun k q hk hkq _ => ?_, .inl ec, ?_, fun x c hc => Nat.lt_of_lt_of_le (x c (ec ▸ hc)) g.size⟩
  · have : k ≠ l := fun e => by subst e; rw [hl] at hk; cases hk; rw [ho] at hq; cases hq
    exact (World.putObj_heap_other this).trans hk
  · exact (World.putObj_heap_other (by omega)).trans hkq
  · exact ⟨g.os, g.tape, g.output, g.size, fun k hk => g.block k (by omega) (fun e => by cases e; omega)⟩
/-- A block that no consumer writes. -/
structure Prot (d : Nat) (W : World) (k : Nat) : Prop where
  ne : k ≠ d
  cur : some k ≠ curB d W
theorem Prot.step {d n₀ X k : Nat} {W W' : World} (h : Prot d W k) (hk : k < W.heap.size) (hs : KpD d n₀ X W W') : Prot d W' k :=
  ⟨h.ne, fun e => by
    rcases hs.cur with e2 | ⟨c, e2, hc⟩
    · exact h.cur (e.trans e2)
    · rw [e2] at e
      have := Option.some.inj e
      omega⟩
/-- A block of cells that no consumer writes. -/
def Held (d : Nat) (W : World) (k : Nat) (c : Array Value) (t : TypeId) : Prop := W.heap[k]? = some (.cells c t (0, 0)) ∧ Prot d W k
theorem Held.step {d n₀ X k : Nat} {W W' : World} {c : Array Value} {t : TypeId} (h : Held d W k c t) (hs : KpD d n₀ X W W') : Held d W' k c t :=
  ⟨hs.cells k _ h.1 rfl h.2.ne h.2.cur, h.2.step (Array.getElem?_eq_some_iff.1 h.1).1 hs⟩
theorem Prot.new {d k : Nat} {W W' : World} (h : Below W.heap.size W W') (hd : d < W.heap.size) (hok : ∀ c, curB d W = some c → c < W.heap.size) (hk : W.heap.size ≤ k) : Prot d W' k := by
  have ec : curB d W' = curB d W := by
    unfold curB
    rw [h.cell (p := ⟨d, 1, none⟩) hd]
  exact ⟨by omega, fun e => by have := hok k (ec ▸ e.symm); omega⟩
/-- Steps that turn what is no cells and new. -/
theorem KpD.grown {d n₀ X : Nat} {W A B : World} {row : Option Nat} (h : KpD d n₀ X W A) (g : A.grownBy B row) (hr : ∀ r, row = some r → W.heap.size ≤ r) (hd : d < W.heap.size) (hn : n₀ ≤ W.heap.size) : KpD d n₀ X W B := by
  have hAs := h.below.size
  have hne : ∀ k, k < W.heap.size → some k ≠ row := fun k hk e => by have := hr k e.symm; omega
  have keep : ∀ k q, W.heap[k]? = some q → A.heap[k]? = some q → B.heap[k]? = some q := fun k q hk hq => (g.block k (Array.getElem?_eq_some_iff.1 hq).1 (hne k (Array.getElem?_eq_some_iff.1 hk).1)).trans hq
  have ec : curB d B = curB d A := by
    unfold curB
    rw [show B.cell? ⟨d, 1, none⟩ = A.cell? ⟨d, 1, none⟩ from World.cell?_of_block (g.block d (by omega) (hne d hd))]
  exact ⟨fun k q hk hq h1 h2 => keep k q hk (h.cells k q hk hq h1 h2), fun k q hX hk hq => keep k q hk (h.others k q hX hk hq), ec ▸ h.cur, h.below.trans ⟨g.os, g.tape, g.output, g.size, fun k hk => g.block k (by omega) (hne k (by omega))⟩, fun x c hc => Nat.lt_of_lt_of_le (h.ok x c (ec ▸ hc)) g.size⟩
theorem Held.grown {d k : Nat} {A B : World} {row : Option Nat} {c : Array Value} {t : TypeId} (h : Held d A k c t) (g : A.grownBy B row) (hd : d < A.heap.size) (hne : row ≠ some k) (hned : row ≠ some d) : Held d B k c t := by
  have ec : curB d B = curB d A := by
    unfold curB
    rw [show B.cell? ⟨d, 1, none⟩ = A.cell? ⟨d, 1, none⟩ from World.cell?_of_block (g.block d hd hned.symm)]
  exact ⟨(g.block k (Array.getElem?_eq_some_iff.1 h.1).1 hne.symm).trans h.1, h.2.ne, ec ▸ h.2.cur⟩
theorem Held.box {d k : Nat} {W : World} {v : Value} {t : TypeId} (h : Held d W k #[v] t) : W.cell? ⟨k, 0, none⟩ = some v := by simp [World.cell?, h.1]

set_option maxHeartbeats 1600000 in
theorem sets_any (A : Option Addr) (m c : Nat) (disks width : Nat) (w : World) : Calls Try.prog 79 #[.slice A m c, .int .i64 disks, .int .i64 width] w fun e w' => e = .returned (.func (.func 87) #[] #[.pointer (some ⟨w.heap.size, 0, none⟩), .pointer (some ⟨w.heap.size + 2, 0, none⟩), .pointer (some ⟨w.heap.size + 1, 0, none⟩)]) ∧
    w' = ((w.alloc (.cells #[.slice A m c] 38)).alloc (.cells #[.int .i64 disks] 3)).alloc (.cells #[.int .i64 width] 3) := by
  go_enter Try.func79, Try.ntmps79
  go_wp2_with fail
  go_ret
  exact ⟨rfl, rfl⟩
end Go.Proofs.Ytnmkkflnehnioaa

/-! The iterator of design.sets (87): it yields the lists that extend its prefix, in order. Condition: fewer than 61 disks. -/
namespace Go.Proofs.Ytnmkkflnehnioaa
open Go.RowKit Go.Shelf
set_option maxRecDepth 100000
attribute [local go_sem] Oper.semAt_some

theorem round_in {m m' l' : Nat} {P : Program} {l : Nat} {f : FuncId} {tmps : Array Value} {assign body : Code} {w : World} {R : Ending → World → Prop}
    (h : RoundIn Fence.wide m P l f tmps assign body w R) : RoundIn (Fence.wide.inRound l') m' P l f tmps assign body w R := ⟨h.1, fun c cs _ => h.2 c cs (fun d hd => by cases hd)⟩
/-- The three boxes of the closure, and the prefix. -/
structure Ctx (d : Nat) (W : World) (b1 b2 b3 : Nat) (A : Option Addr) (m c : Nat) (p : List Nat) (width disks : Nat) : Prop where
  h1 : Held d W b1 #[.slice A m c] 38
  h2 : Held d W b2 #[.int .i64 width] 3
  h3 : Held d W b3 #[.int .i64 disks] 3
  row : (p = [] ∧ A = none ∧ m = 0 ∧ c = 0) ∨ (0 < p.length ∧ m = p.length ∧ m ≤ c ∧ ∃ r cells, A = some ⟨r, 0, none⟩ ∧ Held d W r cells 3 ∧ ∀ (j x : Nat), p[j]? = some x → cells[j]? = some (.int .i64 (x : Nat)))
theorem Ctx.step {d n₀ X : Nat} {W W' : World} {b1 b2 b3 : Nat} {A : Option Addr} {m c : Nat} {p : List Nat} {width disks : Nat} (h : Ctx d W b1 b2 b3 A m c p width disks) (hs : KpD d n₀ X W W') : Ctx d W' b1 b2 b3 A m c p width disks := by
  refine ⟨h.h1.step hs, h.h2.step hs, h.h3.step hs, ?_⟩
  rcases h.row with h | ⟨e1, e2, e3, r, cells, e4, e5, e6⟩
  · exact .inl h
  · exact .inr ⟨e1, e2, e3, r, cells, e4, e5.step hs, e6⟩
theorem Ctx.pre {d : Nat} {W : World} {b1 b2 b3 : Nat} {A : Option Addr} {m c : Nat} {p : List Nat} {width disks : Nat} (h : Ctx d W b1 b2 b3 A m c p width disks) : m = p.length ∧ PreV W (.slice A m c) p := by
  rcases h.row with ⟨rfl, rfl, rfl, rfl⟩ | ⟨e1, rfl, e3, r, cells, rfl, e5, e6⟩
  · exact ⟨rfl, .inl ⟨rfl, rfl⟩⟩
  · exact ⟨rfl, .inr ⟨e1, r, c, rfl, e3, fun j x hx => by simp [World.cell?, e5.1, e6 j x hx]⟩⟩

/-- The marks of the loops that have ended: their blocks are shut, new since B. -/
def Marks (B : Nat) (ds : List Deferred) (W : World) : Prop := ∃ Ds : List Nat, ds = Ds.map (fun D => { target := .collected D, args := #[] }) ∧ Ds.Nodup ∧ ∀ D ∈ Ds, B ≤ D ∧ W.heap[D]? = some (.deferred (some []))
theorem Marks.nil (B : Nat) (W : World) : Marks B [] W := ⟨[], rfl, List.nodup_nil, fun _ h => absurd h (List.not_mem_nil)⟩
theorem KpD.put_new {d n₀ X D : Nat} {W W' : World} {o' : Obj} (h : KpD d n₀ X W W') (hD : W.heap.size ≤ D) (hd : d < W.heap.size) (hn : n₀ ≤ W.heap.size) : KpD d n₀ X W (W'.putObj D o') :=
  h.grown (grownBy_putObj' W' D o') (fun r e => by cases e; exact hD) hd hn
theorem Marks.grown {B : Nat} {ds : List Deferred} {A C : World} {row : Option Nat} (h : Marks B ds A) (g : A.grownBy C row) (hr : ∀ r, row = some r → A.heap.size ≤ r ∨ ∀ o, A.heap[r]? ≠ some (.deferred o)) : Marks B ds C := by
  obtain ⟨Ds, e, hn, hD⟩ := h
  refine ⟨Ds, e, hn, fun D hm => ?_⟩
  obtain ⟨h1, h2⟩ := hD D hm
  have hlt := (Array.getElem?_eq_some_iff.1 h2).1
  exact ⟨h1, (g.block D hlt (fun e => by
    rcases hr D e.symm with h | h
    · omega
    · exact h _ h2)).trans h2⟩
theorem Marks.same {B : Nat} {ds : List Deferred} {A C : World} (h : Marks B ds A) (hk : ∀ D, B ≤ D → A.heap[D]? = some (.deferred (some [])) → C.heap[D]? = some (.deferred (some []))) : Marks B ds C := by
  obtain ⟨Ds, e, hn, hD⟩ := h
  exact ⟨Ds, e, hn, fun D hm => ⟨(hD D hm).1, hk D (hD D hm).1 (hD D hm).2⟩⟩
theorem Marks.cons {B D : Nat} {ds : List Deferred} {W : World} (h : Marks B ds W) (hB : B ≤ D) (hD : W.heap[D]? = some (.deferred (some []))) (hnew : ∀ E, { target := .collected E, args := #[] } ∈ ds → E ≠ D) : Marks B ({ target := .collected D, args := #[] } :: ds) W := by
  obtain ⟨Ds, rfl, hn, hDs⟩ := h
  refine ⟨D :: Ds, rfl, List.nodup_cons.2 ⟨fun hm => hnew D (List.mem_map.2 ⟨D, hm, rfl⟩) rfl, hn⟩, fun E hE => ?_⟩
  rcases List.mem_cons.1 hE with rfl | hE
  · exact ⟨hB, hD⟩
  · exact hDs E hE
theorem Marks.lt {B : Nat} {ds : List Deferred} {W : World} (h : Marks B ds W) (E : Nat) (hE : { target := .collected E, args := #[] } ∈ ds) : E < W.heap.size := by
  obtain ⟨Ds, rfl, hn, hDs⟩ := h
  obtain ⟨D, hD, e⟩ := List.mem_map.1 hE
  cases e
  exact (Array.getElem?_eq_some_iff.1 (hDs _ hD).2).1
theorem Marks.turn {B : Nat} {ds : List Deferred} {A C w8 : World} {row : Option Nat} (h : Marks B ds A) (h8 : Marks B ds w8) (g : A.grownBy C row) (hr : ∀ r, row = some r → w8.heap.size ≤ r) : Marks B ds C := by
  obtain ⟨Ds, e, hn, hD⟩ := h
  refine ⟨Ds, e, hn, fun D hm => ?_⟩
  obtain ⟨q1, q2⟩ := hD D hm
  have hlt := h8.lt D (by rw [e]; exact List.mem_map.2 ⟨D, hm, rfl⟩)
  exact ⟨q1, (g.block D (Array.getElem?_eq_some_iff.1 q2).1 (fun e' => by have := hr D e'.symm; omega)).trans q2⟩
theorem row_cells {w : World} {base n : Nat} {A : Option Addr} {c : Nat} {l : List Nat} (h : w.ownsRow base 3 1 (.slice A n c) n (natVals l)) (hn : 0 < n) : l.length = n ∧ n ≤ c ∧ ∃ r cells, A = some ⟨r, 0, none⟩ ∧ base ≤ r ∧ w.heap[r]? = some (.cells cells 3 (0, 0)) ∧ ∀ (j x : Nat), l[j]? = some x → cells[j]? = some (.int .i64 (x : Nat)) := by
  have hl : l.length = n := by have := h.1; simp [natVals] at this; exact this
  rcases h.2 with ⟨_, h0⟩ | ⟨g, cap, cur, hv, hg, hh, hc, _, hs, ht⟩
  · omega
  · cases hv
    refine ⟨hl, hc, g, cur, rfl, hg, hh, fun j x hx => ?_⟩
    have hj : j < n := by rw [← hl]; exact (List.getElem?_eq_some_iff.1 hx).1
    have h1 : (natVals l)[j]? = some (.int .i64 (x : Nat)) := by simp [natVals, hx]
    rw [← ht, List.getElem?_take_of_lt (by omega)] at h1
    simpa using h1
/-- A function that returns nothing leaves over its marks. -/
theorem leaves_marks {n : Nat} {fn : Func} {tmps : Array Value} {R : Ending → World → Prop} {B : Nat} (hfn : fn.results = #[]) (I : World → Prop) (hI : ∀ W D o', I W → B ≤ D → W.heap[D]? = some (.deferred (some [])) → I (W.putObj D o')) (hR : ∀ W v, I W → R (.returned v) W) :
    ∀ (ds : List Deferred) (W : World), Marks B ds W → I W → LeavesInM Fence.wide n Try.prog fn tmps R ds .returning W := by
  intro ds W hM hW
  obtain ⟨Ds, rfl, hnd, hD⟩ := hM
  induction Ds generalizing W with
  | nil => exact ⟨_, results_none hfn _ _ _, hR W _ hW⟩
  | cons D Ds ih =>
    obtain ⟨h1, h2⟩ := hD D (List.mem_cons_self)
    refine ⟨by simp, .inl ⟨_, _, rfl, run_takeDeferred h2, ?_⟩⟩
    obtain ⟨hn1, hn2⟩ := List.nodup_cons.1 hnd
    refine ih _ (hI _ _ _ hW h1 h2) hn2 fun E hE => ?_
    obtain ⟨e1, e2⟩ := hD E (List.mem_cons_of_mem _ hE)
    exact ⟨e1, (World.putObj_heap_other (fun e => by subst e; exact hn1 hE)).trans e2⟩

/-- append of one int as one step of a region that draws its order. -/
theorem step_app3 {ops : Array Oper} {o : Oper} {a : Act} {w : World} {K : Act → World → Prop} {Q : Exit → Act → World → Prop} {E : Prop}
    (hg : o.guard = none) (s x : Operand) (hop : o.op = Op.call { callee := Callee.builtin Builtin.append, args := #[s, x], argTypes := #[38, 38] })
    (base : Nat) (v : Value) (n : Nat) (xs : List Value) (hs : a.eval s = v) (hown : w.ownsRow base 3 1 v n xs)
    (ad : Addr) (c : Nat) (y : Value) (hx : a.eval x = .slice (some ad) 1 c) (hy : w.cell? ad = some y) (h1 : y.oneCell' = true) (hn : n < 4294967296) (hbase : base ≤ w.heap.size)
    (hK : ∀ v' w', w'.ownsRow base 3 1 v' (n + 1) (xs ++ [y]) → w.grownBy w' v.ownBlock → K (a.put o.dst v') w') :
    if Region.wanted o (yielded ops a.tmps) = true then Oper.wp Try.prog o a w K Q else E := by
  have hw : Region.wanted o (yielded ops a.tmps) = true := by simp [Region.wanted, hg]
  rw [if_pos hw]
  obtain ⟨i, hi, hz0, hz1, hz2⟩ := info_parts info3
  obtain ⟨v', w', hrun, r1, r2, _, r4⟩ := run_append_own_at (P := Try.prog) w base 38 o.type 3 i (.int .i64 0) 1 8 Try.underlying38 hi hz0 hz1 hz2 rfl (by decide) v n xs hown ad 1 c [y] rfl (one_news hy) (by intro u hu; simp at hu; subst hu; exact h1) (by unfold maxLen; omega) (by omega) hbase
  unfold Oper.wp
  simp [execOp, hop, resolve, invoke, builtin, hs, hx, hrun, Result.andThen]
  exact hK v' w' r1 r2

abbrev Yl : Type := Value × List Nat
def Vy (n₀ : Nat) (x : Yl) (W : World) : Prop := W.ownsRow n₀ 3 1 x.1 x.2.length (natVals x.2)

set_option maxHeartbeats 16000000 in
/-- The statement that makes the next list and its iterator: in whatever order. -/
theorem sets_region (p : List Nat) (hpl : p.length < 61) (fr i disks width b1 b2 b3 c : Nat) (A : Option Addr) (wr : World) (s0 s4 s5 u7 u8 u9 u10 u11 u12 u13 u14 u15 u16 u17 u18 u19 u20 u21 u22 u23 u24 u25 u26 u27 u28 u29 u30 u31 u32 u33 u34 u35 u36 u37 u38 u39 u40 u41 u42 u43 u44 u45 u46 u47 u48 u49 : Value) (ds : List Deferred) (hpv : PreV wr (.slice A p.length c) p)
    (l1 : b1 < wr.heap.size) (l2 : b2 < wr.heap.size) (l3 : b3 < wr.heap.size) (c1 : wr.cell? ⟨b1, 0, none⟩ = some (.slice A p.length c)) (c2 : wr.cell? ⟨b2, 0, none⟩ = some (.int .i64 width)) (c3 : wr.cell? ⟨b3, 0, none⟩ = some (.int .i64 disks)) :
    Code.wpIn Fence.wide 9 Try.prog
    (Code.region 9
      #[{ dst := some 37, op := Op.load 38 (Operand.tmp 1), type := 38, pos := "design.go:36", after := #[],
          guard := none },
        { dst := some 38,
          op := Op.call { callee := Callee.value (Operand.func 88), args := #[Operand.tmp 37], argTypes := #[38] },
          type := 38, pos := "design.go:36", after := #[{ on := 0, ground := Ground.data }], guard := none },
        { dst := some 39, op := Op.move (Operand.tmp 6), type := 3, pos := "design.go:36", after := #[],
          guard := none },
        { dst := some 40, op := Op.buildSlice 38 1 #[(0, Operand.tmp 39)], type := 38, pos := "design.go:36",
          after := #[{ on := 2, ground := Ground.data }], guard := none },
        { dst := some 41,
          op :=
            Op.call
              { callee := Callee.builtin Builtin.append, args := #[Operand.tmp 38, Operand.tmp 40],
                argTypes := #[38, 38] },
          type := 38, pos := "design.go:36",
          after :=
            #[{ on := 1, ground := Ground.data }, { on := 3, ground := Ground.data },
              { on := 1, ground := Ground.chain }],
          guard := none },
        { dst := some 42, op := Op.load 3 (Operand.tmp 3), type := 3, pos := "design.go:36", after := #[],
          guard := none },
        { dst := some 43, op := Op.load 3 (Operand.tmp 2), type := 3, pos := "design.go:36", after := #[],
          guard := none },
        { dst := some 44,
          op :=
            Op.call
              { callee := Callee.value (Operand.func 79), args := #[Operand.tmp 41, Operand.tmp 42, Operand.tmp 43],
                argTypes := #[38, 3, 3] },
          type := 100, pos := "design.go:36",
          after :=
            #[{ on := 4, ground := Ground.data }, { on := 5, ground := Ground.data },
              { on := 6, ground := Ground.data }, { on := 4, ground := Ground.chain }],
          guard := none }]
      true)
    (fun e a' W' => e = .normal ∧ ∃ (v27 v28 v29 v30 v31 v32 v33 v34 v37 v38 v39 v40 v41 v42 v43 : Value) (A6 : Option Addr) (c6 : Nat) (w6 : World), a' = { tmps := #[s0, .pointer (some ⟨b1, 0, none⟩), .pointer (some ⟨b2, 0, none⟩), .pointer (some ⟨b3, 0, none⟩), s4, s5, .int .i64 ((fr : Int) + (i : Int)), u7, u8, u9, u10, u11, u12, u13, u14, u15, u16, u17, u18, u19, u20, u21, u22, u23, u24, u25, u26, v27, v28, v29, v30, v31, v32, v33, v34, u35, u36, v37, v38, v39, v40, v41, v42, v43, .func (.func 87) #[] #[.pointer (some ⟨w6.heap.size, 0, none⟩), .pointer (some ⟨w6.heap.size + 2, 0, none⟩), .pointer (some ⟨w6.heap.size + 1, 0, none⟩)], u45, u46, u47, u48, u49], defers := ds } ∧ W' = ((w6.alloc (.cells #[.slice A6 (p.length + 1) c6] 38)).alloc (.cells #[.int .i64 disks] 3)).alloc (.cells #[.int .i64 width] 3) ∧ Below wr.heap.size wr w6 ∧ w6.ownsRow wr.heap.size 3 1 (.slice A6 (p.length + 1) c6) (p.length + 1) (natVals p ++ [.int .i64 ((fr : Int) + (i : Int))]))
    { tmps := #[s0, .pointer (some ⟨b1, 0, none⟩), .pointer (some ⟨b2, 0, none⟩), .pointer (some ⟨b3, 0, none⟩), s4, s5, .int .i64 ((fr : Int) + (i : Int)), u7, u8, u9, u10, u11, u12, u13, u14, u15, u16, u17, u18, u19, u20, u21, u22, u23, u24, u25, u26, u27, u28, u29, u30, u31, u32, u33, u34, u35, u36, u37, u38, u39, u40, u41, u42, u43, u44, u45, u46, u47, u48, u49], defers := ds } wr := by
  have hfm : Try.prog.follows .mixedOrders = true := by kernel_rfl
  have HCL := Lib.hid (fun Y (hYb : Below wr.heap.size wr Y) => clone_any p (by omega) Y _ (hpv.below hYb))
  have HBX := Lib.hid (fun Y (hYb : Below wr.heap.size wr Y) => And.intro ((hYb.cell (p := ⟨b1, 0, none⟩) l1).trans c1) (And.intro ((hYb.cell (p := ⟨b2, 0, none⟩) l2).trans c2) ((hYb.cell (p := ⟨b3, 0, none⟩) l3).trans c3)))
  have n1 : ¬ b1 = wr.heap.size := by omega
  have n2 : ¬ b2 = wr.heap.size := by omega
  have n3 : ¬ b3 = wr.heap.size := by omega
  clear hpv
  refine wpIn_wide.2 ?_
  go_region_held3 (fun w' => w'.cell? ⟨b1, 0, none⟩ = some (.slice A p.length c) ∧ w'.cell? ⟨b2, 0, none⟩ = some (.int .i64 width) ∧ w'.cell? ⟨b3, 0, none⟩ = some (.int .i64 disks))
    (first
      | exact HBX.out _ (Below.refl _ wr).drew
      | exact HBX.out _ ((Below.refl _ wr).drew.alloc (Nat.le_refl _) _)
      | exact HBX.out _ hB5
      | exact HBX.out _ (hB5.alloc hB5.size _)
      | exact HBX.out _ hB6
      | exact HBX.out _ (((hB6.alloc hB6.size _).alloc (by simp; have := hB6.size; omega) _).alloc (by simp; have := hB6.size; omega) _)
      | go_keep)
    (first
    | (refine step_app3 rfl (.tmp 38) (.tmp 40) rfl wr.heap.size y p.length (natVals p) ?_ ?_ ⟨w5.heap.size, 0, none⟩ 1 (.int .i64 ((fr : Int) + (i : Int))) ?_ ?_ rfl (by omega) ?_ ?_; (focus (simp [Act.eval]; done)); (focus (exact ho.alloc _)); (focus (simp [Act.eval]; done)); (focus (simp [go_sem]; done)); (focus (simp; omega)); intro v' w6 o6 g6; have hB6 : Below wr.heap.size wr w6 := (hB5.alloc hB5.size _).grown g6 (by simp; omega) (fun b e => (ho.lt b e).1); obtain ⟨A6, c6, e6⟩ := own_slice o6; subst e6)
    | (refine step_app3 rfl (.tmp 38) (.tmp 40) rfl wr.heap.size y p.length (natVals p) ?_ ?_ ⟨wr.heap.size, 0, none⟩ 1 (.int .i64 ((fr : Int) + (i : Int))) ?_ ?_ rfl (by omega) ?_ ?_; (focus (simp [Act.eval]; done)); (focus (exact ho)); (focus (simp [Act.eval]; done)); (focus (exact q5)); (focus (omega)); intro v' w6 o6 g6; have hB6 : Below wr.heap.size wr w6 := hB5.grown g6 hB5.size (fun b e => (ho.lt b e).1); obtain ⟨A6, c6, e6⟩ := own_slice o6; subst e6)
    | (go_simp; go_at_call 88; refine (HCL.out _ (Below.refl _ _).drew).mono ?_; rintro e w5 ⟨y, rfl, ho, b5⟩; have hB5 : Below wr.heap.size wr w5 := (Below.refl _ wr).drew.trans b5; replace ho : w5.ownsRow wr.heap.size 3 1 y p.length (natVals p) := ho; have z5 : wr.heap.size ≤ w5.heap.size := hB5.size)
    | (go_simp; go_at_call 88; refine (HCL.out _ ((Below.refl _ _).drew.alloc (Nat.le_refl _) _)).mono ?_; rintro e w5 ⟨y, rfl, ho, b5⟩; have q5 : w5.cell? ⟨wr.heap.size, 0, none⟩ = some (.int .i64 ((fr : Int) + (i : Int))) := (b5.cell (p := ⟨wr.heap.size, 0, none⟩) (by simp)).trans (by simp [go_sem]); have hB5 : Below wr.heap.size wr w5 := ((Below.refl _ wr).drew.alloc (Nat.le_refl _) _).trans (b5.mono (by simp)); replace ho : w5.ownsRow wr.heap.size 3 1 y p.length (natVals p) := own_weaken ho (by simp); have z5 : wr.heap.size ≤ w5.heap.size := hB5.size)
    | (go_simp; go_at_call 79; refine (sets_any _ _ _ _ _ _).mono ?_; rintro e w7 ⟨rfl, rfl⟩))
  all_goals exact ⟨rfl, _, _, _, _, _, _, _, _, _, _, _, _, _, _, _, _, _, _, rfl, rfl, hB6, o6⟩
end Go.Proofs.Ytnmkkflnehnioaa

/-! The iterator of design.sets (87): it yields the lists that extend its prefix, in order. Condition: fewer than 61 disks. -/
namespace Go.Proofs.Ytnmkkflnehnioaa
open Go.RowKit Go.Shelf
set_option maxRecDepth 100000
attribute [local go_sem] Oper.semAt_some

set_option maxHeartbeats 16000000 in
theorem sets1_in (d n₀ disks width : Nat) (hw : width < 61) (hdk : disks < 61) : ∀ (r : Nat) (p : List Nat), p.length + r = width → startOf p ≤ disks → ∀ (l X b1 b2 b3 m c : Nat) (A : Option Addr) (J : List Yl → World → Prop) (pre0 : List Yl) (W : World) (N : Nat),
    Ctx d W b1 b2 b3 A m c p width disks → X ≤ W.heap.size → d < W.heap.size → n₀ ≤ W.heap.size → (∀ c, curB d W = some c → c < W.heap.size) → OwnFrom W.heap.size J →
    (∀ pre x W1, J pre W1 → Vy n₀ x W1 → pre.length < N → YieldAt Fence.wide 9 Try.prog l #[x.1] W1 fun e W' => e = .returned (.bool true) ∧ J (pre ++ [x]) W' ∧ KpD d n₀ X W1 W') →
    pre0.length + (exts disks r p).length ≤ N → J pre0 W →
    CallsIn Fence.wide 9 Try.prog 87 #[.func (.yield l) #[] #[], .pointer (some ⟨b1, 0, none⟩), .pointer (some ⟨b2, 0, none⟩), .pointer (some ⟨b3, 0, none⟩)] W fun e W' => (∃ v, e = .returned v) ∧ ∃ xs : List Yl, xs.map (·.2) = exts disks r p ∧ J (pre0 ++ xs) W' ∧ KpD d n₀ X W W'
  | 0, p, hp, hst, l, X, b1, b2, b3, m, c, A, J, pre0, W, N, hC, hX, hdW, hnW, hok, hJ, hY, hN, h0 => by
    obtain ⟨hm, hpv⟩ := hC.pre
    have c1 := hC.h1.box
    have c2 := hC.h2.box
    subst hm
    obtain rfl : width = p.length := by omega
    have l1 : b1 < W.heap.size := (Array.getElem?_eq_some_iff.1 hC.h1.1).1
    have l2 : b2 < W.heap.size := (Array.getElem?_eq_some_iff.1 hC.h2.1).1
    refine callsIn_of_wp Try.func87 rfl trivial ?_ rfl
    simp only [Try.ntmps87, List.size_toArray, List.length_cons, List.length_nil, Nat.reduceAdd, Nat.reduceSub, Array.replicate_succ, Array.replicate_zero, List.push_toArray, List.append_toArray, List.nil_append, List.cons_append]
    gi_wp2
    obtain ⟨W1, hW1⟩ : ∃ W1, W.alloc (.cells #[.func (.yield l) #[] #[]] 111) = W1 := ⟨_, rfl⟩
    have hB1 : Below W.heap.size W W1 := by rw [← hW1]; exact (Below.refl _ W).alloc (Nat.le_refl _) _
    have yb : W1.cell? ⟨W.heap.size, 0, none⟩ = some (.func (.yield l) #[] #[]) := by rw [← hW1]; simp [go_sem]
    have hk1 := KpD.of_below (X := X) hB1 hdW hnW
    have hC1 := hC.step hk1
    have d1 := hC1.h1.box
    have hpv1 := hC1.pre.2
    rw [hW1]
    clear hW1
    have HCL := Lib.hid (fun Y (hYb : Below W1.heap.size W1 Y) => callsIn_wide (n := 8) |>.2 (clone_any p (by omega) Y _ (hpv1.below hYb)))
    have HN : Hid (pre0.length < N) := Lib.hid (by simp [exts] at hN; omega)
    have HJ := Lib.hid hJ
    have HY := Lib.hid hY
    have H0 := Lib.hid h0
    clear hJ hY hN h0 hpv hpv1
    have hfm : Try.prog.follows .mixedOrders = true := by kernel_rfl
    gi_region_with_o (first
      | (refine ⟨trivial, ?_⟩; gi_at_call 88; refine (HCL.out _ (Below.refl _ _).drew).mono ?_; rintro e w5 ⟨y, rfl, ho, b5⟩; have hB5 : Below W1.heap.size W1 w5 := (Below.refl _ W1).drew.trans b5; have yb5 := (hB5.cell (p := ⟨W.heap.size, 0, none⟩) (World.block_lt_of_cell? _ _ yb)).trans yb; have hB5' := hB1.trans (hB5.mono hB1.size); have hJ5 : J pre0 w5 := HJ.out _ _ _ none H0.out ⟨hB5'.os, hB5'.tape, hB5'.output, hB5'.size, fun k hk _ => hB5'.block k hk⟩ (fun r e => by cases e); have hV5 : Vy n₀ (y, p) w5 := own_weaken ho (Nat.le_trans hnW hB1.size); obtain ⟨fn, tmps, assign, body, hy, hR⟩ := HY.out pre0 (y, p) w5 hJ5 hV5 HN.out)
      | (refine (round_any hR).mono ?_; rintro e W3 ⟨rfl, hJ3, hk3⟩))
    all_goals (
      gi_wp2
      refine bodyPost_ret (results_none rfl _ _ _) rfl ?_
      exact ⟨⟨_, rfl⟩, [(y, p)], rfl, hJ3, (hk1.trans (KpD.of_below hB5 (Nat.lt_of_lt_of_le hdW hB1.size) (Nat.le_trans hnW hB1.size))).trans hk3⟩)
  | r + 1, p, hp, hst, l, X, b1, b2, b3, m, c, A, J, pre0, W, N, hC, hX, hdW, hnW, hok, hJ, hY, hN, h0 => by
    obtain ⟨hm, hpv⟩ := hC.pre
    subst hm
    have c1 := hC.h1.box
    have c2 := hC.h2.box
    have c3 := hC.h3.box
    have hne : ((p.length : Int) == (width : Int)) = false := by simp; omega
    have l1 : b1 < W.heap.size := (Array.getElem?_eq_some_iff.1 hC.h1.1).1
    have l2 : b2 < W.heap.size := (Array.getElem?_eq_some_iff.1 hC.h2.1).1
    have l3 : b3 < W.heap.size := (Array.getElem?_eq_some_iff.1 hC.h3.1).1
    obtain ⟨fr, efr⟩ : ∃ fr, startOf p = fr := ⟨_, rfl⟩
    have HFR := Lib.hid efr
    rw [efr] at hst
    have hs1 : (width : Int) - (p.length : Int) = (r : Int) + 1 := by omega
    have hr60 : r < 61 := by omega
    have HP := Lib.hid hp
    have hlen : (p.length : Int) - 1 = ((p.length - 1 : Nat) : Int) ∨ p.length = 0 := by omega
    have hrow : (p.length = 0 ∧ fr = 0) ∨ (0 < p.length ∧ ∃ rr x, A = some ⟨rr, 0, none⟩ ∧ p.length ≤ c ∧ rr < W.heap.size ∧ W.cell? ⟨rr, p.length - 1, none⟩ = some (.int .i64 (x : Nat)) ∧ fr = x + 1) := by
      rcases hC.row with ⟨rfl, -, -, -⟩ | ⟨e1, -, e3, rr, cells, e4, e5, e6⟩
      · exact .inl ⟨rfl, by rw [← efr]; rfl⟩
      · refine .inr ⟨e1, rr, p[p.length - 1], e4, e3, (Array.getElem?_eq_some_iff.1 e5.1).1, ?_, ?_⟩
        · have := e6 (p.length - 1) p[p.length - 1] (List.getElem?_eq_getElem (by omega))
          simp [World.cell?, e5.1, this]
        · rw [← efr, startOf, List.getLast?_eq_getElem?, List.getElem?_eq_getElem (show p.length - 1 < p.length by omega)]
    refine callsIn_of_wp_marks Try.func87 rfl trivial ?_ rfl
    simp only [Try.ntmps87, List.size_toArray, List.length_cons, List.length_nil, Nat.reduceAdd, Nat.reduceSub, Array.replicate_succ, Array.replicate_zero, List.push_toArray, List.append_toArray, List.nil_append, List.cons_append]
    have HC := Lib.hid hC
    have HJ := Lib.hid hJ
    have HY := Lib.hid hY
    have HNN := Lib.hid hN
    have H0 := Lib.hid h0
    clear hC hJ hY hN h0 hpv hp efr
    have hB1 : Below W.heap.size W (W.alloc (.cells #[.func (.yield l) #[] #[]] 111)) := (Below.refl _ W).alloc (Nat.le_refl _) _
    have HKW : KpD d n₀ X W (W.alloc (.cells #[.func (.yield l) #[] #[]] 111)) := KpD.of_below hB1 hdW hnW
    have HJW : J (pre0 ++ []) (W.alloc (.cells #[.func (.yield l) #[] #[]] 111)) := by rw [List.append_nil]; exact HJ.out.alloc _ H0.out
    have HHW : Held d (W.alloc (.cells #[.func (.yield l) #[] #[]] 111)) W.heap.size #[.func (.yield l) #[] #[]] 111 := ⟨heap_alloc_new W _, Prot.new hB1 hdW hok (Nat.le_refl _)⟩
    rcases hrow with ⟨h0, hf0⟩ | ⟨h0, rr, x, hA, hpc, hrr, hcx, hf0⟩
    · have hg0 : decide (0 < (p.length : Int)) = false := decide_eq_false (by omega)
      gi_wp2
      refine wpIn_loop (fun a' W' => ∃ (i : Nat) (dn : List Yl) (ds : List Deferred) (u7 u8 u9 u10 u11 u12 u13 u14 u15 u16 u17 u18 u19 u20 u21 u22 u23 u24 u25 u26 u27 u28 u29 u30 u31 u32 u33 u34 u35 u36 u37 u38 u39 u40 u41 u42 u43 u44 u45 u46 u47 u48 u49 : Value), i ≤ disks - r - fr ∧ a' = { tmps := #[.func (.yield l) #[] #[], .pointer (some ⟨b1, 0, none⟩), .pointer (some ⟨b2, 0, none⟩), .pointer (some ⟨b3, 0, none⟩), .pointer (some ⟨W.heap.size, 0, none⟩), .int .i64 fr, .int .i64 ((fr + i : Nat) : Int), u7, u8, u9, u10, u11, u12, u13, u14, u15, u16, u17, u18, u19, u20, u21, u22, u23, u24, u25, u26, u27, u28, u29, u30, u31, u32, u33, u34, u35, u36, u37, u38, u39, u40, u41, u42, u43, u44, u45, u46, u47, u48, u49], defers := ds } ∧ dn.map (·.2) = extsTo disks r p i ∧ J (pre0 ++ dn) W' ∧ KpD d n₀ X W W' ∧ Held d W' W.heap.size #[.func (.yield l) #[] #[]] 111 ∧ Marks W.heap.size ds W') (fun a' _ => disks - r - (intOf (a'.tmps.getD 6 undef)).toNat) ?_ ?_
      · refine ⟨0, [], [], _, _, _, _, _, _, _, _, _, _, _, _, _, _, _, _, _, _, _, _, _, _, _, _, _, _, _, _, _, _, _, _, _, _, _, _, _, _, _, _, _, _, _, Nat.zero_le _, by first | rfl | (subst hf0; rfl), rfl, HJW, HKW, HHW, Marks.nil _ _⟩
      clear HKW HJW HHW hB1 hf0 hg0 h0 c1 c2 c3
      rintro a0 wr ⟨i, dn, ds, u7, u8, u9, u10, u11, u12, u13, u14, u15, u16, u17, u18, u19, u20, u21, u22, u23, u24, u25, u26, u27, u28, u29, u30, u31, u32, u33, u34, u35, u36, u37, u38, u39, u40, u41, u42, u43, u44, u45, u46, u47, u48, u49, hi, rfl, hdn, hJd, hKd, hHd, hMk⟩
      have hCr := HC.out.step hKd
      have c1 := hCr.h1.box
      have c2 := hCr.h2.box
      have c3 := hCr.h3.box
      have cy := hHd.box
      by_cases hil : i < disks - r - fr
      · have hd34 : decide ((fr : Int) + (i : Int) ≤ (disks : Int) - ((r : Int) + 1)) = true := decide_eq_true (by omega)
        gi_wp2
        have hfm : Try.prog.follows .mixedOrders = true := by kernel_rfl
        have hpv := hCr.pre.2
        have l1 := (Array.getElem?_eq_some_iff.1 hCr.h1.1).1
        have l2 := (Array.getElem?_eq_some_iff.1 hCr.h2.1).1
        have l3 := (Array.getElem?_eq_some_iff.1 hCr.h3.1).1
        refine wpIn_mono (Q := (fun e a' W' => e = .normal ∧ ∃ (v27 v28 v29 v30 v31 v32 v33 v34 v37 v38 v39 v40 v41 v42 v43 : Value) (A6 : Option Addr) (c6 : Nat) (w6 : World), a' = { tmps := #[.func (.yield l) #[] #[], .pointer (some ⟨b1, 0, none⟩), .pointer (some ⟨b2, 0, none⟩), .pointer (some ⟨b3, 0, none⟩), .pointer (some ⟨W.heap.size, 0, none⟩), .int .i64 fr, .int .i64 ((fr : Int) + (i : Int)), u7, u8, u9, u10, u11, u12, u13, u14, u15, u16, u17, u18, u19, u20, u21, u22, u23, u24, u25, u26, v27, v28, v29, v30, v31, v32, v33, v34, u35, u36, v37, v38, v39, v40, v41, v42, v43, .func (.func 87) #[] #[.pointer (some ⟨w6.heap.size, 0, none⟩), .pointer (some ⟨w6.heap.size + 2, 0, none⟩), .pointer (some ⟨w6.heap.size + 1, 0, none⟩)], u45, u46, u47, u48, u49], defers := ds } ∧ W' = ((w6.alloc (.cells #[.slice A6 (p.length + 1) c6] 38)).alloc (.cells #[.int .i64 disks] 3)).alloc (.cells #[.int .i64 width] 3) ∧ Below wr.heap.size wr w6 ∧ w6.ownsRow wr.heap.size 3 1 (.slice A6 (p.length + 1) c6) (p.length + 1) (natVals p ++ [.int .i64 ((fr : Int) + (i : Int))]))) ?region ?rest
        case region =>
          exact sets_region p (by omega) fr i disks width b1 b2 b3 c A wr _ _ _ _ _ _ _ _ _ _ _ _ _ _ _ _ _ _ _ _ _ _ _ _ _ _ _ _ _ _ _ _ _ _ _ _ _ _ _ _ _ _ _ _ _ _ ds hpv l1 l2 l3 c1 c2 c3
        case rest =>
          rintro e a7 W7 ⟨rfl, v27, v28, v29, v30, v31, v32, v33, v34, v37, v38, v39, v40, v41, v42, v43, A6, c6, w6, rfl, rfl, hB6, o6⟩
          gi_wp2
          obtain ⟨w8, hw8⟩ : ∃ w8, ((w6.alloc (.cells #[.slice A6 (p.length + 1) c6] 38)).alloc (.cells #[.int .i64 disks] 3)).alloc (.cells #[.int .i64 width] 3) = w8 := ⟨_, rfl⟩
          have hs8 : w8.heap.size = w6.heap.size + 3 := by rw [← hw8]; simp
          have hB68 : Below w6.heap.size w6 w8 := by rw [← hw8]; exact (((Below.refl _ w6).alloc (Nat.le_refl _) _).alloc (by simp) _).alloc (by simp; omega) _
          have hB8 : Below wr.heap.size wr w8 := hB6.trans (hB68.mono hB6.size)
          have e1 : w8.heap[w6.heap.size]? = some (.cells #[.slice A6 (p.length + 1) c6] 38 (0, 0)) := by
            rw [← hw8, Below.heap_alloc _ _ _ (by simp; omega), Below.heap_alloc _ _ _ (by simp)]
            exact heap_alloc_new w6 _
          have e2 : w8.heap[w6.heap.size + 1]? = some (.cells #[.int .i64 disks] 3 (0, 0)) := by
            rw [← hw8, Below.heap_alloc _ _ _ (by simp)]
            have := heap_alloc_new (w6.alloc (.cells #[.slice A6 (p.length + 1) c6] 38)) (.cells #[.int .i64 disks] 3)
            simpa using this
          have e3 : w8.heap[w6.heap.size + 2]? = some (.cells #[.int .i64 width] 3 (0, 0)) := by
            rw [← hw8]
            have := heap_alloc_new ((w6.alloc (.cells #[.slice A6 (p.length + 1) c6] 38)).alloc (.cells #[.int .i64 disks] 3)) (.cells #[.int .i64 width] 3)
            simpa using this
          have hszr := hKd.below.size
          have hWr : W.heap.size ≤ wr.heap.size := hKd.below.size
          have hokr := hKd.ok hok
          have hz6 := hB6.size
          have hdr : d < wr.heap.size := by omega
          have hnat : natVals p ++ [Value.int .i64 ((fr : Int) + (i : Int))] = natVals (p ++ [fr + i]) := by simp [natVals]
          rw [hnat] at o6
          obtain ⟨hpl, hcl, rr, cells, hA6, hgr, hhr, hcel⟩ := row_cells o6 (by omega)
          have hP := fun k (hk : wr.heap.size ≤ k) => Prot.new hB8 hdr hokr hk
          have hC8 : Ctx d w8 w6.heap.size (w6.heap.size + 2) (w6.heap.size + 1) A6 (p.length + 1) c6 (p ++ [fr + i]) width disks :=
            ⟨⟨e1, hP _ (by omega)⟩, ⟨e3, hP _ (by omega)⟩, ⟨e2, hP _ (by omega)⟩, .inr ⟨by omega, hpl.symm, hcl, rr, cells, hA6, ⟨(hB68.block rr (Array.getElem?_eq_some_iff.1 hhr).1).trans hhr, hP _ hgr⟩, hcel⟩⟩
          have hK8 : KpD d n₀ X W w8 := hKd.trans (KpD.of_below hB8 hdr (by omega))
          have hH8 : Held d w8 W.heap.size #[.func (.yield l) #[] #[]] 111 := hHd.step (KpD.of_below (X := X) (n₀ := n₀) hB8 hdr (by omega))
          have hM8 : Marks W.heap.size ds w8 := hMk.same fun D _ h => (hB8.block D (Array.getElem?_eq_some_iff.1 h).1).trans h
          have hJ8 : J (pre0 ++ (dn ++ [])) w8 := by
            rw [List.append_nil]
            exact HJ.out _ _ _ none hJd ⟨hB8.os, hB8.tape, hB8.output, hB8.size, fun k hk _ => hB8.block k hk⟩ (fun r e => by cases e)
          have hok8 := hK8.ok hok
          have hst8 : startOf (p ++ [fr + i]) ≤ disks := by simp [startOf]; omega
          have HCt := Lib.hid (And.intro hC8 (And.intro hok8 hst8))
          have HB8 := Lib.hid hB8
          have HDN := Lib.hid hdn
          have HM0 := Lib.hid hM8
          rw [hw8]
          clear hw8 hC8 e1 e2 e3 hP hcel hhr o6 hB6 hB68 hHd hMk hJd hokr hok8 hdn
          refine wpIn_wide.2 ((wpIn_wide (n := 10)).1 ?_)
          refine wpIn_range_V (α := Yl) (gf := 87) (lb := #[.pointer (some ⟨w6.heap.size, 0, none⟩), .pointer (some ⟨w6.heap.size + 2, 0, none⟩), .pointer (some ⟨w6.heap.size + 1, 0, none⟩)]) rfl (enters_of Try.func87 (by kernel_rfl) rfl)
            (encs := fun x => #[x.1]) (Kp := KpD d n₀ (w8.heap.size + 2)) (V := Vy n₀) (S := fun xs => xs.map (·.2) = exts disks r (p ++ [fr + i])) (N := (exts disks r (p ++ [fr + i])).length) ?seq KpD.trans ?kb (fun _ => rfl)
            (fun pre' W' => J (pre0 ++ (dn ++ pre')) W' ∧ KpD d n₀ X W W' ∧ Held d W' W.heap.size #[.func (.yield l) #[] #[]] 111 ∧ Marks W.heap.size ds W') ?own ?ownV ⟨hJ8, hK8, hH8, hM8⟩
            (fun x => { tmps := #[.func (.yield l) #[] #[], .pointer (some ⟨b1, 0, none⟩), .pointer (some ⟨b2, 0, none⟩), .pointer (some ⟨b3, 0, none⟩), .pointer (some ⟨W.heap.size, 0, none⟩), .int .i64 fr, .int .i64 ((fr : Int) + (i : Int)), x.1, u8, u9, u10, u11, u12, u13, u14, u15, u16, u17, u18, u19, u20, u21, u22, u23, u24, u25, u26, v27, v28, v29, v30, v31, v32, v33, v34, u35, u36, v37, v38, v39, v40, v41, v42, v43, .func (.func 87) #[] #[.pointer (some ⟨w6.heap.size, 0, none⟩), .pointer (some ⟨w6.heap.size + 2, 0, none⟩), .pointer (some ⟨w6.heap.size + 1, 0, none⟩)], x.1, u46, u47, u48, u49], defers := [] }) ?assign ?body ?done
          case seq =>
            intro l' J' W' hbel hsz hJ' hY' h0'
            obtain ⟨hCx, hokx, hstx⟩ := HCt.out
            have hz8 := HB8.out.size
            have hk' : KpD d n₀ (w8.heap.size + 2) w8 W' := KpD.of_below hbel (by omega) (by omega)
            exact (sets1_in d n₀ disks width hw hdk r (p ++ [fr + i]) (by have := HP.out; simp; omega) hstx l' (w8.heap.size + 2) _ _ _ _ _ _ J' [] W' (exts disks r (p ++ [fr + i])).length (hCx.step hk') (by omega) (by omega) (by omega) (hk'.ok hokx) hJ' hY' (by simp) h0').mono (fun e W2 ⟨hv, xs, h1, h2, _⟩ => ⟨hv, xs, h1, by simpa using h2⟩)
          case kb =>
            intro Wk o o' hl ho
            have hz8 := HB8.out.size
            exact KpD.of_put hl ho (by omega) (by omega) (by omega)
          case own =>
            rintro s A' B' row ⟨q1, q2, q3, q4⟩ g hr
            have hz8 := HB8.out.size
            have hzA := q2.below.size
            refine ⟨HJ.out _ _ _ row q1 g (fun q e => ⟨by have := (hr q e).1; omega, (hr q e).2⟩), q2.grown g (fun q e => by have := (hr q e).1; omega) hdW hnW, q3.grown g (by omega) (fun e => by have := (hr _ e).1; omega) (fun e => by have := (hr _ e).1; omega), q4.turn HM0.out g (fun q e => (hr q e).1)⟩
          case ownV =>
            intro s A' B' row hV g hr
            exact own_grown hV g (fun k hk e => by
              obtain ⟨o, ho, hc⟩ := (hr k e).2
              obtain ⟨cc, hcc⟩ := own_typed hV k hk
              rw [hcc] at ho
              cases ho
              cases hc)
          case assign =>
            intro l' x Wk K hK
            gi_wp2
            exact hK
          case body =>
            rintro l' pre' x Wb ⟨q1, q2, q3, q4⟩ hV hlt
            have hlen : (pre0 ++ (dn ++ pre')).length < N := by
              have h1 := HNN.out
              have h2 : (exts disks (r + 1) p).length = (extsTo disks r p (disks - r - fr)).length := by rw [← HFR.out]; rfl
              have h3 := extsTo_mono disks r p (a := i + 1) (b := disks - r - fr) (by omega)
              have h4 := congrArg List.length HDN.out
              rw [extsTo_succ, List.length_append, HFR.out] at h3
              simp at h4
              simp
              omega
            obtain ⟨fn, tmps, assign, body, hy, hR⟩ := HY.out _ x Wb q1 hV hlen
            have cy := q3.box
            gi_wp2
            refine (round_in hR).mono ?_
            rintro e W3 ⟨rfl, hJ3, hK3⟩
            gi_wp2
            have hz8 := HB8.out.size
            have hzb := q2.below.size
            refine ⟨⟨hK3.below.size, fun k o hk hq ho => hK3.others k o (by omega) hq ho⟩, hK3.mono (by omega), ?_, q2.trans hK3, q3.step hK3, q4.same fun D hD hq => hK3.others D _ (by omega) hq rfl⟩
            have e : pre0 ++ (dn ++ (pre' ++ [x])) = pre0 ++ (dn ++ pre') ++ [x] := by simp
            rw [e]
            exact hJ3
          case done =>
            rintro D ys W9 hD hS ⟨q1, q2, q3, q4⟩ hMD
            have hz8 := HB8.out.size
            gi_wp2
            rw [show (fr : Int) + (i : Int) + 1 = ((fr + (i + 1) : Nat) : Int) by omega]
            refine ⟨⟨i + 1, dn ++ ys, _, _, _, _, _, _, _, _, _, _, _, _, _, _, _, _, _, _, _, _, _, _, _, _, _, _, _, _, _, _, _, _, _, _, _, _, _, _, _, _, _, _, _, _, by omega, rfl, by rw [List.map_append, HDN.out, hS, extsTo_succ, HFR.out], q1, q2, q3, Marks.cons q4 (by omega) hMD (fun E hE => by have := HM0.out.lt E hE; omega)⟩, ?_⟩
            simp [intOf]
            omega
      · obtain rfl : i = disks - r - fr := by omega
        have hd34 : decide ((fr : Int) + ((disks - r - fr : Nat) : Int) ≤ (disks : Int) - ((r : Int) + 1)) = false := decide_eq_false (by omega)
        gi_wp2
        refine leaves_marks rfl (fun W' => J (pre0 ++ dn) W' ∧ KpD d n₀ X W W') (fun W' D o' hI hB hD => ⟨HJ.out.putObj _ hI.1 hB hD rfl, hI.2.put_new hB hdW hnW⟩) (fun W' v hI => ⟨⟨v, rfl⟩, dn, ?_, hI.1, hI.2⟩) ds wr hMk ⟨hJd, hKd⟩
        rw [hdn, ← HFR.out]
        rfl
    · have hg0 : decide (0 < (p.length : Int)) = true := decide_eq_true (by omega)
      subst hA
      have hlen : (p.length : Int) - 1 = ((p.length - 1 : Nat) : Int) := by omega
      have hnr : ¬ rr = W.heap.size := by omega
      gi_wp2
      refine wpIn_loop (fun a' W' => ∃ (i : Nat) (dn : List Yl) (ds : List Deferred) (u7 u8 u9 u10 u11 u12 u13 u14 u15 u16 u17 u18 u19 u20 u21 u22 u23 u24 u25 u26 u27 u28 u29 u30 u31 u32 u33 u34 u35 u36 u37 u38 u39 u40 u41 u42 u43 u44 u45 u46 u47 u48 u49 : Value), i ≤ disks - r - fr ∧ a' = { tmps := #[.func (.yield l) #[] #[], .pointer (some ⟨b1, 0, none⟩), .pointer (some ⟨b2, 0, none⟩), .pointer (some ⟨b3, 0, none⟩), .pointer (some ⟨W.heap.size, 0, none⟩), .int .i64 fr, .int .i64 ((fr + i : Nat) : Int), u7, u8, u9, u10, u11, u12, u13, u14, u15, u16, u17, u18, u19, u20, u21, u22, u23, u24, u25, u26, u27, u28, u29, u30, u31, u32, u33, u34, u35, u36, u37, u38, u39, u40, u41, u42, u43, u44, u45, u46, u47, u48, u49], defers := ds } ∧ dn.map (·.2) = extsTo disks r p i ∧ J (pre0 ++ dn) W' ∧ KpD d n₀ X W W' ∧ Held d W' W.heap.size #[.func (.yield l) #[] #[]] 111 ∧ Marks W.heap.size ds W') (fun a' _ => disks - r - (intOf (a'.tmps.getD 6 undef)).toNat) ?_ ?_
      · refine ⟨0, [], [], _, _, _, _, _, _, _, _, _, _, _, _, _, _, _, _, _, _, _, _, _, _, _, _, _, _, _, _, _, _, _, _, _, _, _, _, _, _, _, _, _, _, _, Nat.zero_le _, by first | rfl | (subst hf0; rfl), rfl, HJW, HKW, HHW, Marks.nil _ _⟩
      clear HKW HJW HHW hB1 hf0 hg0 h0 c1 c2 c3 hlen hnr hcx hrr hpc
      rintro a0 wr ⟨i, dn, ds, u7, u8, u9, u10, u11, u12, u13, u14, u15, u16, u17, u18, u19, u20, u21, u22, u23, u24, u25, u26, u27, u28, u29, u30, u31, u32, u33, u34, u35, u36, u37, u38, u39, u40, u41, u42, u43, u44, u45, u46, u47, u48, u49, hi, rfl, hdn, hJd, hKd, hHd, hMk⟩
      have hCr := HC.out.step hKd
      have c1 := hCr.h1.box
      have c2 := hCr.h2.box
      have c3 := hCr.h3.box
      have cy := hHd.box
      by_cases hil : i < disks - r - fr
      · have hd34 : decide ((fr : Int) + (i : Int) ≤ (disks : Int) - ((r : Int) + 1)) = true := decide_eq_true (by omega)
        gi_wp2
        have hfm : Try.prog.follows .mixedOrders = true := by kernel_rfl
        have hpv := hCr.pre.2
        have l1 := (Array.getElem?_eq_some_iff.1 hCr.h1.1).1
        have l2 := (Array.getElem?_eq_some_iff.1 hCr.h2.1).1
        have l3 := (Array.getElem?_eq_some_iff.1 hCr.h3.1).1
        refine wpIn_mono (Q := (fun e a' W' => e = .normal ∧ ∃ (v27 v28 v29 v30 v31 v32 v33 v34 v37 v38 v39 v40 v41 v42 v43 : Value) (A6 : Option Addr) (c6 : Nat) (w6 : World), a' = { tmps := #[.func (.yield l) #[] #[], .pointer (some ⟨b1, 0, none⟩), .pointer (some ⟨b2, 0, none⟩), .pointer (some ⟨b3, 0, none⟩), .pointer (some ⟨W.heap.size, 0, none⟩), .int .i64 fr, .int .i64 ((fr : Int) + (i : Int)), u7, u8, u9, u10, u11, u12, u13, u14, u15, u16, u17, u18, u19, u20, u21, u22, u23, u24, u25, u26, v27, v28, v29, v30, v31, v32, v33, v34, u35, u36, v37, v38, v39, v40, v41, v42, v43, .func (.func 87) #[] #[.pointer (some ⟨w6.heap.size, 0, none⟩), .pointer (some ⟨w6.heap.size + 2, 0, none⟩), .pointer (some ⟨w6.heap.size + 1, 0, none⟩)], u45, u46, u47, u48, u49], defers := ds } ∧ W' = ((w6.alloc (.cells #[.slice A6 (p.length + 1) c6] 38)).alloc (.cells #[.int .i64 disks] 3)).alloc (.cells #[.int .i64 width] 3) ∧ Below wr.heap.size wr w6 ∧ w6.ownsRow wr.heap.size 3 1 (.slice A6 (p.length + 1) c6) (p.length + 1) (natVals p ++ [.int .i64 ((fr : Int) + (i : Int))]))) ?region ?rest
        case region =>
          exact sets_region p (by omega) fr i disks width b1 b2 b3 c _ wr _ _ _ _ _ _ _ _ _ _ _ _ _ _ _ _ _ _ _ _ _ _ _ _ _ _ _ _ _ _ _ _ _ _ _ _ _ _ _ _ _ _ _ _ _ _ ds hpv l1 l2 l3 c1 c2 c3
        case rest =>
          rintro e a7 W7 ⟨rfl, v27, v28, v29, v30, v31, v32, v33, v34, v37, v38, v39, v40, v41, v42, v43, A6, c6, w6, rfl, rfl, hB6, o6⟩
          gi_wp2
          obtain ⟨w8, hw8⟩ : ∃ w8, ((w6.alloc (.cells #[.slice A6 (p.length + 1) c6] 38)).alloc (.cells #[.int .i64 disks] 3)).alloc (.cells #[.int .i64 width] 3) = w8 := ⟨_, rfl⟩
          have hs8 : w8.heap.size = w6.heap.size + 3 := by rw [← hw8]; simp
          have hB68 : Below w6.heap.size w6 w8 := by rw [← hw8]; exact (((Below.refl _ w6).alloc (Nat.le_refl _) _).alloc (by simp) _).alloc (by simp; omega) _
          have hB8 : Below wr.heap.size wr w8 := hB6.trans (hB68.mono hB6.size)
          have e1 : w8.heap[w6.heap.size]? = some (.cells #[.slice A6 (p.length + 1) c6] 38 (0, 0)) := by
            rw [← hw8, Below.heap_alloc _ _ _ (by simp; omega), Below.heap_alloc _ _ _ (by simp)]
            exact heap_alloc_new w6 _
          have e2 : w8.heap[w6.heap.size + 1]? = some (.cells #[.int .i64 disks] 3 (0, 0)) := by
            rw [← hw8, Below.heap_alloc _ _ _ (by simp)]
            have := heap_alloc_new (w6.alloc (.cells #[.slice A6 (p.length + 1) c6] 38)) (.cells #[.int .i64 disks] 3)
            simpa using this
          have e3 : w8.heap[w6.heap.size + 2]? = some (.cells #[.int .i64 width] 3 (0, 0)) := by
            rw [← hw8]
            have := heap_alloc_new ((w6.alloc (.cells #[.slice A6 (p.length + 1) c6] 38)).alloc (.cells #[.int .i64 disks] 3)) (.cells #[.int .i64 width] 3)
            simpa using this
          have hszr := hKd.below.size
          have hWr : W.heap.size ≤ wr.heap.size := hKd.below.size
          have hokr := hKd.ok hok
          have hz6 := hB6.size
          have hdr : d < wr.heap.size := by omega
          have hnat : natVals p ++ [Value.int .i64 ((fr : Int) + (i : Int))] = natVals (p ++ [fr + i]) := by simp [natVals]
          rw [hnat] at o6
          obtain ⟨hpl, hcl, rr, cells, hA6, hgr, hhr, hcel⟩ := row_cells o6 (by omega)
          have hP := fun k (hk : wr.heap.size ≤ k) => Prot.new hB8 hdr hokr hk
          have hC8 : Ctx d w8 w6.heap.size (w6.heap.size + 2) (w6.heap.size + 1) A6 (p.length + 1) c6 (p ++ [fr + i]) width disks :=
            ⟨⟨e1, hP _ (by omega)⟩, ⟨e3, hP _ (by omega)⟩, ⟨e2, hP _ (by omega)⟩, .inr ⟨by omega, hpl.symm, hcl, rr, cells, hA6, ⟨(hB68.block rr (Array.getElem?_eq_some_iff.1 hhr).1).trans hhr, hP _ hgr⟩, hcel⟩⟩
          have hK8 : KpD d n₀ X W w8 := hKd.trans (KpD.of_below hB8 hdr (by omega))
          have hH8 : Held d w8 W.heap.size #[.func (.yield l) #[] #[]] 111 := hHd.step (KpD.of_below (X := X) (n₀ := n₀) hB8 hdr (by omega))
          have hM8 : Marks W.heap.size ds w8 := hMk.same fun D _ h => (hB8.block D (Array.getElem?_eq_some_iff.1 h).1).trans h
          have hJ8 : J (pre0 ++ (dn ++ [])) w8 := by
            rw [List.append_nil]
            exact HJ.out _ _ _ none hJd ⟨hB8.os, hB8.tape, hB8.output, hB8.size, fun k hk _ => hB8.block k hk⟩ (fun r e => by cases e)
          have hok8 := hK8.ok hok
          have hst8 : startOf (p ++ [fr + i]) ≤ disks := by simp [startOf]; omega
          have HCt := Lib.hid (And.intro hC8 (And.intro hok8 hst8))
          have HB8 := Lib.hid hB8
          have HDN := Lib.hid hdn
          have HM0 := Lib.hid hM8
          rw [hw8]
          clear hw8 hC8 e1 e2 e3 hP hcel hhr o6 hB6 hB68 hHd hMk hJd hokr hok8 hdn
          refine wpIn_wide.2 ((wpIn_wide (n := 10)).1 ?_)
          refine wpIn_range_V (α := Yl) (gf := 87) (lb := #[.pointer (some ⟨w6.heap.size, 0, none⟩), .pointer (some ⟨w6.heap.size + 2, 0, none⟩), .pointer (some ⟨w6.heap.size + 1, 0, none⟩)]) rfl (enters_of Try.func87 (by kernel_rfl) rfl)
            (encs := fun x => #[x.1]) (Kp := KpD d n₀ (w8.heap.size + 2)) (V := Vy n₀) (S := fun xs => xs.map (·.2) = exts disks r (p ++ [fr + i])) (N := (exts disks r (p ++ [fr + i])).length) ?seq KpD.trans ?kb (fun _ => rfl)
            (fun pre' W' => J (pre0 ++ (dn ++ pre')) W' ∧ KpD d n₀ X W W' ∧ Held d W' W.heap.size #[.func (.yield l) #[] #[]] 111 ∧ Marks W.heap.size ds W') ?own ?ownV ⟨hJ8, hK8, hH8, hM8⟩
            (fun x => { tmps := #[.func (.yield l) #[] #[], .pointer (some ⟨b1, 0, none⟩), .pointer (some ⟨b2, 0, none⟩), .pointer (some ⟨b3, 0, none⟩), .pointer (some ⟨W.heap.size, 0, none⟩), .int .i64 fr, .int .i64 ((fr : Int) + (i : Int)), x.1, u8, u9, u10, u11, u12, u13, u14, u15, u16, u17, u18, u19, u20, u21, u22, u23, u24, u25, u26, v27, v28, v29, v30, v31, v32, v33, v34, u35, u36, v37, v38, v39, v40, v41, v42, v43, .func (.func 87) #[] #[.pointer (some ⟨w6.heap.size, 0, none⟩), .pointer (some ⟨w6.heap.size + 2, 0, none⟩), .pointer (some ⟨w6.heap.size + 1, 0, none⟩)], x.1, u46, u47, u48, u49], defers := [] }) ?assign ?body ?done
          case seq =>
            intro l' J' W' hbel hsz hJ' hY' h0'
            obtain ⟨hCx, hokx, hstx⟩ := HCt.out
            have hz8 := HB8.out.size
            have hk' : KpD d n₀ (w8.heap.size + 2) w8 W' := KpD.of_below hbel (by omega) (by omega)
            exact (sets1_in d n₀ disks width hw hdk r (p ++ [fr + i]) (by have := HP.out; simp; omega) hstx l' (w8.heap.size + 2) _ _ _ _ _ _ J' [] W' (exts disks r (p ++ [fr + i])).length (hCx.step hk') (by omega) (by omega) (by omega) (hk'.ok hokx) hJ' hY' (by simp) h0').mono (fun e W2 ⟨hv, xs, h1, h2, _⟩ => ⟨hv, xs, h1, by simpa using h2⟩)
          case kb =>
            intro Wk o o' hl ho
            have hz8 := HB8.out.size
            exact KpD.of_put hl ho (by omega) (by omega) (by omega)
          case own =>
            rintro s A' B' row ⟨q1, q2, q3, q4⟩ g hr
            have hz8 := HB8.out.size
            have hzA := q2.below.size
            refine ⟨HJ.out _ _ _ row q1 g (fun q e => ⟨by have := (hr q e).1; omega, (hr q e).2⟩), q2.grown g (fun q e => by have := (hr q e).1; omega) hdW hnW, q3.grown g (by omega) (fun e => by have := (hr _ e).1; omega) (fun e => by have := (hr _ e).1; omega), q4.turn HM0.out g (fun q e => (hr q e).1)⟩
          case ownV =>
            intro s A' B' row hV g hr
            exact own_grown hV g (fun k hk e => by
              obtain ⟨o, ho, hc⟩ := (hr k e).2
              obtain ⟨cc, hcc⟩ := own_typed hV k hk
              rw [hcc] at ho
              cases ho
              cases hc)
          case assign =>
            intro l' x Wk K hK
            gi_wp2
            exact hK
          case body =>
            rintro l' pre' x Wb ⟨q1, q2, q3, q4⟩ hV hlt
            have hlen : (pre0 ++ (dn ++ pre')).length < N := by
              have h1 := HNN.out
              have h2 : (exts disks (r + 1) p).length = (extsTo disks r p (disks - r - fr)).length := by rw [← HFR.out]; rfl
              have h3 := extsTo_mono disks r p (a := i + 1) (b := disks - r - fr) (by omega)
              have h4 := congrArg List.length HDN.out
              rw [extsTo_succ, List.length_append, HFR.out] at h3
              simp at h4
              simp
              omega
            obtain ⟨fn, tmps, assign, body, hy, hR⟩ := HY.out _ x Wb q1 hV hlen
            have cy := q3.box
            gi_wp2
            refine (round_in hR).mono ?_
            rintro e W3 ⟨rfl, hJ3, hK3⟩
            gi_wp2
            have hz8 := HB8.out.size
            have hzb := q2.below.size
            refine ⟨⟨hK3.below.size, fun k o hk hq ho => hK3.others k o (by omega) hq ho⟩, hK3.mono (by omega), ?_, q2.trans hK3, q3.step hK3, q4.same fun D hD hq => hK3.others D _ (by omega) hq rfl⟩
            have e : pre0 ++ (dn ++ (pre' ++ [x])) = pre0 ++ (dn ++ pre') ++ [x] := by simp
            rw [e]
            exact hJ3
          case done =>
            rintro D ys W9 hD hS ⟨q1, q2, q3, q4⟩ hMD
            have hz8 := HB8.out.size
            gi_wp2
            rw [show (fr : Int) + (i : Int) + 1 = ((fr + (i + 1) : Nat) : Int) by omega]
            refine ⟨⟨i + 1, dn ++ ys, _, _, _, _, _, _, _, _, _, _, _, _, _, _, _, _, _, _, _, _, _, _, _, _, _, _, _, _, _, _, _, _, _, _, _, _, _, _, _, _, _, _, _, _, by omega, rfl, by rw [List.map_append, HDN.out, hS, extsTo_succ, HFR.out], q1, q2, q3, Marks.cons q4 (by omega) hMD (fun E hE => by have := HM0.out.lt E hE; omega)⟩, ?_⟩
            simp [intOf]
            omega
      · obtain rfl : i = disks - r - fr := by omega
        have hd34 : decide ((fr : Int) + ((disks - r - fr : Nat) : Int) ≤ (disks : Int) - ((r : Int) + 1)) = false := decide_eq_false (by omega)
        gi_wp2
        refine leaves_marks rfl (fun W' => J (pre0 ++ dn) W' ∧ KpD d n₀ X W W') (fun W' D o' hI hB hD => ⟨HJ.out.putObj _ hI.1 hB hD rfl, hI.2.put_new hB hdW hnW⟩) (fun W' v hI => ⟨⟨v, rfl⟩, dn, ?_, hI.1, hI.2⟩) ds wr hMk ⟨hJd, hKd⟩
        rw [hdn, ← HFR.out]
        rfl
end Go.Proofs.Ytnmkkflnehnioaa

/-! design.count (78) and the reference's count (80): the number of sets, or a number beyond 2^40. Condition: at most 60 disks. -/
namespace Go.Proofs.Ytnmkkflnehnioaa
open Go.RowKit
set_option maxRecDepth 100000

set_option maxHeartbeats 1600000 in
theorem count_any (disks k : Nat) (hd : disks ≤ 60) (hk : k ≤ disks) (w : World) : Calls Try.prog 78 #[.int .i64 disks, .int .i64 k] w fun e w' => e = .returned (.int .i64 (cntGo disks 1 0 k)) ∧ w = w' := by
  obtain ⟨tot, et⟩ : ∃ tot, cntGo disks 1 0 k = tot := ⟨_, rfl⟩
  have HT := Lib.hid et
  rw [et]
  clear et
  go_enter Try.func78, Try.ntmps78
  go_wp2_with fail
  go_loopw [5, 8] (fun nv iv wr => ∃ n i : Nat, i ≤ k ∧ iv = .int .i64 i ∧ nv = .int .i64 n ∧ n ≤ 1099511627776 ∧ cntGo disks n i (k - i) = tot ∧ wr = w) (fun _ x _ => k - (intOf x).toNat)
  case atStart => exact ⟨1, 0, by omega, rfl, rfl, by omega, HT.out, rfl⟩
  case round =>
    obtain ⟨n, i, hi, rfl, rfl, hn, hgo, rfl⟩ := hrel
    by_cases hil : i < k
    · obtain ⟨f, ef⟩ : ∃ f, k - i = f + 1 := ⟨k - i - 1, by omega⟩
      rw [ef, cntGo] at hgo
      obtain ⟨m, em⟩ : ∃ m, disks - i = m := ⟨_, rfl⟩
      have hdi : (disks : Int) - (i : Int) = (m : Int) := by omega
      rw [em] at hgo
      obtain ⟨P, eP⟩ : ∃ P, n * m = P := ⟨_, rfl⟩
      have hmul : (n : Int) * (m : Int) = (P : Int) := by rw [← eP]; push_cast; rfl
      have hP : P ≤ 1099511627776 * 60 := by rw [← eP]; exact Nat.mul_le_mul hn (by omega)
      rw [eP] at hgo
      obtain ⟨q, eq⟩ : ∃ q, P / (i + 1) = q := ⟨_, rfl⟩
      have hq : Int.tdiv (P : Int) ((i : Int) + 1) = (q : Int) := by rw [← eq]; rfl
      have hqP : q ≤ P := by rw [← eq]; exact Nat.div_le_self _ _
      have hi0 : ¬ (i : Int) + 1 = 0 := by omega
      rw [eq] at hgo
      have HG := Lib.hid hgo
      have HF := Lib.hid ef
      clear hgo ef em eP eq
      by_cases hb : 1099511627776 < q
      · have hbi : decide ((1099511627776 : Int) < (q : Int)) = true := decide_eq_true (by omega)
        have e := HG.out
        rw [if_pos hb] at e
        have HE := Lib.hid e
        clear hb e
        go_wp2_with fail
        go_ret
        exact ⟨by rw [← HE.out]; rfl, rfl⟩
      · have hbi : decide ((1099511627776 : Int) < (q : Int)) = false := decide_eq_false (by omega)
        have e := HG.out
        rw [if_neg hb] at e
        have HE := Lib.hid e
        clear e
        go_wp2_with fail
        go_roundw
        case rel => exact ⟨q, i + 1, by omega, by go_num, rfl, by omega, by have := HE.out; rw [show k - (i + 1) = f from by have := HF.out; omega]; exact this, by trivial⟩
        case measure => simp [intOf]; omega
    · obtain rfl : i = k := by omega
      have HG := Lib.hid hgo
      clear hgo
      go_wp2_with fail
      go_ret
      have e := HG.out
      rw [Nat.sub_self] at e
      exact ⟨by rw [← e]; rfl, rfl⟩
end Go.Proofs.Ytnmkkflnehnioaa

/-! design.Complete (54): the lists of exts, as a design. Condition: the count is within the limit. -/
namespace Go.Proofs.Ytnmkkflnehnioaa
open Go.RowKit Go.Shelf
set_option maxRecDepth 100000
attribute [local go_sem] Oper.semAt_some

/-- append of one row to a [][]int (type 46) that the call owns, in a round. -/
theorem wpListIn_app38 {F : Fence} {m : Nat} (w : World) {ops : Array Oper} {rest : List Oper} {o : Oper} {a : Act} {Q : Exit → Act → World → Prop} (hgd : o.guard = none) (s x : Operand)
    (ho : o.op = .call { callee := .builtin .append, args := #[s, x], argTypes := #[46, 46] })
    (base : Nat) (v : Value) (n : Nat) (xs : List Value) (hs : a.eval s = v) (hown : w.ownsRow base 38 1 v n xs)
    (ad : Addr) (c : Nat) (y : Value) (hx : a.eval x = .slice (some ad) 1 c) (hy : w.cell? ad = some y) (h1 : y.oneCell' = true) (hn : n < 4294967296) (hbase : base ≤ w.heap.size)
    (h : ∀ v' w', w'.ownsRow base 38 1 v' (n + 1) (xs ++ [y]) → w.grownBy w' v.ownBlock → (v'.ownBlock = v.ownBlock ∨ v'.ownBlock = some w.heap.size) → wpListIn F m Try.prog ops Q rest (a.put o.dst v') w') :
    wpListIn F m Try.prog ops Q (o :: rest) a w := by
  refine wpListIn_plain hgd fun K hK' => ?_
  obtain ⟨i, hi, hz0, hz1, hz2⟩ := info_parts info38
  obtain ⟨v', w', hrun, r1, r2, _, r4⟩ := run_append_own_at (P := Try.prog) w base 46 o.type 38 i (.slice none 0 0) 1 24 Try.underlying46 hi hz0 hz1 hz2 rfl (by decide) v n xs hown ad 1 c [y] rfl (one_news hy) (by intro u hu; simp at hu; subst hu; exact h1) (by unfold maxLen; omega) (by omega) hbase
  unfold Oper.wpIn
  refine ⟨?_, ?_⟩
  · simp [Oper.about, ho, resolve, Target.leads, Sem.run_pure]
  · rw [Oper.semAt_plain F _ _ (by rw [ho]; intro c hc'; cases hc')]
    simp [execOp, ho, resolve, invoke, builtin, hs, hx, hrun, Result.andThen]
    exact hK' _ _ (h v' w' r1 r2 r4)

/-- The design behind the rows pre: block d. -/
structure CM (w W : World) (d disks : Nat) (pre : List Yl) : Prop where
  below : Below w.heap.size w W
  out : W.heap[w.heap.size]? = some (.cells #[.int .i64 0, .slice none 0 0] 48 (0, 0))
  rows : ∃ v, W.heap[d]? = some (.cells #[.int .i64 disks, v] 48 (0, 0)) ∧ W.ownsRow (d + 1) 38 1 v pre.length (pre.map (·.1))
  vals : ∀ x ∈ pre, Vy w.heap.size x W

theorem cm_step {w Wb w6 : World} {disks n B X : Nat} {pre : List Yl} {A A1 : Option Addr} {cd cc1 : Nat} {xv : Value} {xl : List Nat} {o : Obj}
    (q1 : Below w.heap.size w Wb) (q2 : Wb.heap[w.heap.size]? = some (.cells #[.int .i64 0, .slice none 0 0] 48 (0, 0))) (q3 : Wb.heap[w.heap.size + 1]? = some (.cells #[.int .i64 disks, .slice A n cd] 48 (0, 0)))
    (q4 : Wb.ownsRow (w.heap.size + 1 + 1) 38 1 (.slice A n cd) n (pre.map (·.1))) (q5 : ∀ x ∈ pre, Vy w.heap.size x Wb) (hV : Vy w.heap.size (xv, xl) Wb) (hn : pre.length = n)
    (o6 : w6.ownsRow (w.heap.size + 1 + 1) 38 1 (.slice A1 (n + 1) cc1) (n + 1) (pre.map (·.1) ++ [xv])) (g6 : (Wb.alloc o).grownBy w6 (Value.slice A n cd).ownBlock)
    (k6 : (Value.slice A1 (n + 1) cc1).ownBlock = (Value.slice A n cd).ownBlock ∨ (Value.slice A1 (n + 1) cc1).ownBlock = some (Wb.alloc o).heap.size) :
    KeepsFrom B Wb (w6.setCell ⟨w.heap.size + 1, 1, none⟩ (.slice A1 (n + 1) cc1)) ∧ KpD (w.heap.size + 1) w.heap.size X Wb (w6.setCell ⟨w.heap.size + 1, 1, none⟩ (.slice A1 (n + 1) cc1)) ∧
    CM w (w6.setCell ⟨w.heap.size + 1, 1, none⟩ (.slice A1 (n + 1) cc1)) (w.heap.size + 1) disks (pre ++ [(xv, xl)]) := by
  obtain ⟨v, hv⟩ : ∃ v, Value.slice A n cd = v := ⟨_, rfl⟩
  obtain ⟨v', hv'⟩ : ∃ v, Value.slice A1 (n + 1) cc1 = v := ⟨_, rfl⟩
  rw [hv] at q3 q4 g6 k6
  rw [hv'] at o6 k6 ⊢
  have hd := lt_of_block q3
  have hz6 := g6.size
  simp only [World.size_alloc] at hz6
  have hlt := fun b e => (q4.lt b e).1
  obtain ⟨h6, -, -⟩ := after_app48 q3 g6 (fun b e => by have := hlt b e; omega)
  obtain ⟨Z, hZ⟩ : ∃ Z, w6.setCell ⟨w.heap.size + 1, 1, none⟩ v' = Z := ⟨_, rfl⟩
  have zblk : ∀ k, k ≠ w.heap.size + 1 → Z.heap[k]? = w6.heap[k]? := fun k hk => by rw [← hZ]; exact Below.heap_setCell _ _ _ _ hk
  have keep : ∀ k, k < Wb.heap.size → k ≠ w.heap.size + 1 → some k ≠ v.ownBlock → Z.heap[k]? = Wb.heap[k]? := fun k hk h1 h2 => by
    rw [zblk k h1, g6.block k (by simp; omega) h2, Below.heap_alloc _ _ _ hk]
  have zsz : Z.heap.size = w6.heap.size := by rw [← hZ]; simp
  have zd : Z.heap[w.heap.size + 1]? = some (.cells #[.int .i64 disks, v'] 48 (0, 0)) := by rw [← hZ]; exact put2 h6
  have hcW : curB (w.heap.size + 1) Wb = v.ownBlock := by simp [curB, World.cell?, q3]
  have hcZ : curB (w.heap.size + 1) Z = v'.ownBlock := by simp [curB, World.cell?, zd]
  have hBel : Below w.heap.size Wb Z := by
    rw [← hZ]
    exact (((Below.refl _ Wb).alloc (by omega) o).grown g6 (by simp; omega) (fun b e => by have := hlt b e; omega)).setCell (by show w.heap.size ≤ w.heap.size + 1; omega) _
  have vkeep : ∀ x, Vy w.heap.size x Wb → Vy w.heap.size x Z := fun x hx => own_move hx fun k hk => by
    obtain ⟨cc, hcc⟩ := own_typed hx k hk
    refine keep k (Array.getElem?_eq_some_iff.1 hcc).1 (fun e => by subst e; rw [q3] at hcc; cases hcc) (fun e => ?_)
    obtain ⟨c2, h2⟩ := own_typed q4 k e.symm
    rw [h2] at hcc
    cases hcc
  have hnc : ∀ (k : Nat) (q : Obj), Wb.heap[k]? = some q → q.isCells = false → Z.heap[k]? = some q := fun k q hk hq => by
    refine (keep k (Array.getElem?_eq_some_iff.1 hk).1 (fun e => by subst e; rw [q3] at hk; cases hk; cases hq) (fun e => ?_)).trans hk
    obtain ⟨c2, h2⟩ := own_typed q4 k e.symm
    rw [h2] at hk
    cases hk
    cases hq
  rw [hZ]
  refine ⟨⟨by omega, fun k q _ hk hq => hnc k q hk hq⟩, ⟨fun k q hk hq h1 h2 => (keep k (Array.getElem?_eq_some_iff.1 hk).1 h1 (hcW ▸ h2)).trans hk, fun k q _ hk hq => hnc k q hk hq, ?_, hBel, ?_⟩, ⟨q1.trans hBel, ?_, ⟨v', zd, ?_⟩, fun x hx => ?_⟩⟩
  · rw [hcW, hcZ]
    rcases k6 with e | e
    · exact .inl e
    · exact .inr ⟨_, e, by simp⟩
  · intro _ c hc
    rw [hcZ] at hc
    have := (o6.lt c hc).2
    omega
  · exact (keep _ (by omega) (by omega) (fun e => by have := hlt _ e.symm; omega)).trans q2
  · rw [List.length_append, List.map_append, hn, ← hZ]
    exact own_setCell o6 (by show w.heap.size + 1 < w.heap.size + 1 + 1; omega) v'
  · rcases List.mem_append.1 hx with hx | hx
    · exact vkeep x (q5 x hx)
    · rw [List.mem_singleton.1 hx]
      exact vkeep _ hV

theorem cm_end {w W9 : World} {D : Nat} {ys : List Yl} {E : List (List Nat)} {v x : Value} {o' : Obj} (q1 : Below w.heap.size w W9) (q2 : W9.heap[w.heap.size]? = some (.cells #[.int .i64 0, .slice none 0 0] 48 (0, 0)))
    (q4 : W9.ownsRow (w.heap.size + 1 + 1) 38 1 v ys.length (ys.map (·.1))) (q5 : ∀ x ∈ ys, Vy w.heap.size x W9) (hS : ys.map (·.2) = E) (hD : w.heap.size < D) (hMD : W9.heap[D]? = some (.deferred (some []))) :
    ((((W9.setCell ⟨w.heap.size, 0, none⟩ x).setCell ⟨w.heap.size, 1, none⟩ v).putObj D o').cell? ⟨w.heap.size, 0, none⟩ = some x) ∧ ((((W9.setCell ⟨w.heap.size, 0, none⟩ x).setCell ⟨w.heap.size, 1, none⟩ v).putObj D o').cell? ⟨w.heap.size, 1, none⟩ = some v) ∧
    RowsOf (((W9.setCell ⟨w.heap.size, 0, none⟩ x).setCell ⟨w.heap.size, 1, none⟩ v).putObj D o') w.heap.size v E.length (fun i => E.getD i []) ∧ Below w.heap.size w (((W9.setCell ⟨w.heap.size, 0, none⟩ x).setCell ⟨w.heap.size, 1, none⟩ v).putObj D o') := by
  obtain ⟨c0, c1, -, -⟩ := cells2 q2
  have Dd := des_out x v c0 c1 q1
  obtain ⟨Z, hZ⟩ : ∃ Z, (W9.setCell ⟨w.heap.size, 0, none⟩ x).setCell ⟨w.heap.size, 1, none⟩ v = Z := ⟨_, rfl⟩
  have zblk : ∀ k, k ≠ w.heap.size → Z.heap[k]? = W9.heap[k]? := fun k hk => by
    rw [← hZ, Below.heap_setCell _ _ _ _ hk, Below.heap_setCell _ _ _ _ hk]
  have d0 := Dd.c0
  have d1 := Dd.c1
  have db := Dd.below
  rw [hZ] at d0 d1 db ⊢
  have hne : w.heap.size ≠ D := by omega
  have hcell : ∀ j, (Z.putObj D o').cell? ⟨w.heap.size, j, none⟩ = Z.cell? ⟨w.heap.size, j, none⟩ := fun j => World.cell?_of_block (World.putObj_heap_other hne)
  have g := grownBy_putObj' Z D o'
  have keep : ∀ k c t, W9.heap[k]? = some (.cells c t (0, 0)) → k ≠ w.heap.size → (Z.putObj D o').heap[k]? = W9.heap[k]? := fun k c t hk h1 => by
    rw [World.putObj_heap_other (fun e => by subst e; rw [hMD] at hk; cases hk), zblk k h1]
  refine ⟨(hcell 0).trans d0, (hcell 1).trans d1, ⟨ys.map (·.1), ?_, fun i hi => ?_⟩, db.trans ⟨g.os, g.tape, g.output, g.size, fun k hk => g.block k (by have := db.size; omega) (fun e => by cases e; omega)⟩⟩
  · have hl : E.length = ys.length := by rw [← hS]; simp
    rw [hl]
    refine own_weaken (own_move q4 fun k hk => ?_) (by omega)
    obtain ⟨cc, hcc⟩ := own_typed q4 k hk
    exact keep k _ _ hcc (by have := (q4.lt k hk).1; omega)
  · have hil : i < ys.length := by rw [← hS] at hi; simpa using hi
    refine ⟨ys[i].1, by simp [hil], ?_⟩
    have e : E.getD i [] = ys[i].2 := by
      rw [← hS]
      simp [hil]
    show (Z.putObj D o').ownsRow w.heap.size 3 1 ys[i].1 (E.getD i []).length (natVals (E.getD i []))
    rw [e]
    have hx := q5 ys[i] (List.getElem_mem hil)
    refine own_move hx fun k hk => ?_
    obtain ⟨cc, hcc⟩ := own_typed hx k hk
    refine keep k _ _ hcc (fun e => ?_)
    subst e
    rw [q2] at hcc
    cases hcc

set_option maxHeartbeats 6400000 in
theorem complete_yes (disks width : Nat) (hd2 : 2 ≤ disks) (hd60 : disks ≤ 60) (hw2 : 2 ≤ width) (hwd : width ≤ disks) (hc : cntGo disks 1 0 (min width (disks - width)) ≤ 4096) (hlen : (exts disks width []).length < 4000000000) (w : World) :
    Calls Try.prog 54 #[.int .i64 disks, .int .i64 width] w fun e w' => ∃ v, e = .returned (.tuple #[.agg #[.int .i64 disks, v], .int .i64 0]) ∧ RowsOf w' w.heap.size v (exts disks width []).length (fun i => (exts disks width []).getD i []) ∧ Below w.heap.size w w' := by
  refine callsIn_wide (n := 12) |>.1 ?_
  refine callsIn_of_wp_marks Try.func54 rfl trivial ?_ rfl
  simp only [Try.ntmps54, List.size_toArray, List.length_cons, List.length_nil, Nat.reduceAdd, Nat.reduceSub, Array.replicate_succ, Array.replicate_zero, List.push_toArray, List.append_toArray, List.nil_append, List.cons_append]
  have hsub : (disks : Int) - (width : Int) = ((disks - width : Nat) : Int) := by omega
  obtain ⟨k, hkd, hck, hkm⟩ : ∃ k, k ≤ disks ∧ cntGo disks 1 0 k ≤ 4096 ∧ ((disks - width < width ∧ disks - width = k) ∨ (¬ disks - width < width ∧ width = k)) := by
    by_cases hm : disks - width < width
    · refine ⟨disks - width, by omega, ?_, .inl ⟨hm, rfl⟩⟩
      rw [Nat.min_eq_right (by omega)] at hc
      exact hc
    · refine ⟨width, hwd, ?_, .inr ⟨hm, rfl⟩⟩
      rw [Nat.min_eq_left (by omega)] at hc
      exact hc
  obtain ⟨cn, ecn⟩ : ∃ cn, cntGo disks 1 0 k = cn := ⟨_, rfl⟩
  have hcc := fun W => count_any disks k (by omega) hkd W
  rw [ecn] at hck hcc
  have HCk := Lib.hid (fun W => callsIn_wide (n := 11) |>.2 (hcc W))
  clear hc hcc ecn
  have t1 : decide ((disks : Int) < 2) = false := decide_eq_false (by omega)
  have t2 : decide (60 < (disks : Int)) = false := decide_eq_false (by omega)
  have t3 : decide ((width : Int) < 2) = false := decide_eq_false (by omega)
  have t4 : decide (disks < width) = false := decide_eq_false (by omega)
  have t5 : decide (4096 < (cn : Int)) = false := decide_eq_false (by omega)
  rcases hkm with ⟨hm, hkk⟩ | ⟨hm, hkk⟩
  · rw [← hkk] at HCk
    clear hkk hkd
    gi_wp2
    refine ⟨trivial, ?_⟩
    refine (HCk.out _).mono ?_
    rintro e w1 ⟨rfl, rfl⟩
    gi_wp2
    refine ⟨trivial, ?_⟩
    refine (callsIn_wide.2 (sets_any none 0 0 disks _ _)).mono ?_
    rintro e w2 ⟨rfl, rfl⟩
    gi_wp2
    obtain ⟨W8, hW8⟩ : ∃ W8, ((((w.alloc (.cells #[.int .i64 0, .slice none 0 0] 48)).alloc (.cells #[.int .i64 disks, .slice none 0 0] 48)).alloc (.cells #[.slice none 0 0] 38)).alloc (.cells #[.int .i64 disks] 3)).alloc (.cells #[.int .i64 width] 3) = W8 := ⟨_, rfl⟩
    have s8 : W8.heap.size = w.heap.size + 5 := by rw [← hW8]; simp
    have g0 : W8.heap[w.heap.size]? = some (.cells #[.int .i64 0, .slice none 0 0] 48 (0, 0)) := by
      rw [← hW8, Below.heap_alloc _ _ _ (by simp <;> omega), Below.heap_alloc _ _ _ (by simp <;> omega), Below.heap_alloc _ _ _ (by simp <;> omega), Below.heap_alloc _ _ _ (by simp)]
      exact heap_alloc_new w _
    have g1 : W8.heap[w.heap.size + 1]? = some (.cells #[.int .i64 disks, .slice none 0 0] 48 (0, 0)) := by
      rw [← hW8, Below.heap_alloc _ _ _ (by simp <;> omega), Below.heap_alloc _ _ _ (by simp <;> omega), Below.heap_alloc _ _ _ (by simp)]
      have := heap_alloc_new (w.alloc (.cells #[.int .i64 0, .slice none 0 0] 48)) (.cells #[.int .i64 disks, .slice none 0 0] 48)
      simpa using this
    have g2 : W8.heap[w.heap.size + 1 + 1]? = some (.cells #[.slice none 0 0] 38 (0, 0)) := by
      rw [← hW8, Below.heap_alloc _ _ _ (by simp <;> omega), Below.heap_alloc _ _ _ (by simp)]
      have := heap_alloc_new ((w.alloc (.cells #[.int .i64 0, .slice none 0 0] 48)).alloc (.cells #[.int .i64 disks, .slice none 0 0] 48)) (.cells #[.slice none 0 0] 38)
      simpa using this
    have g3 : W8.heap[w.heap.size + 1 + 1 + 1]? = some (.cells #[.int .i64 disks] 3 (0, 0)) := by
      rw [← hW8, Below.heap_alloc _ _ _ (by simp)]
      have := heap_alloc_new (((w.alloc (.cells #[.int .i64 0, .slice none 0 0] 48)).alloc (.cells #[.int .i64 disks, .slice none 0 0] 48)).alloc (.cells #[.slice none 0 0] 38)) (.cells #[.int .i64 disks] 3)
      simpa using this
    have g4 : W8.heap[w.heap.size + 1 + 1 + 2]? = some (.cells #[.int .i64 width] 3 (0, 0)) := by
      rw [← hW8]
      have := heap_alloc_new ((((w.alloc (.cells #[.int .i64 0, .slice none 0 0] 48)).alloc (.cells #[.int .i64 disks, .slice none 0 0] 48)).alloc (.cells #[.slice none 0 0] 38)).alloc (.cells #[.int .i64 disks] 3)) (.cells #[.int .i64 width] 3)
      simpa using this
    have hB8 : Below w.heap.size w W8 := by rw [← hW8]; exact (((((Below.refl _ w).alloc (Nat.le_refl _) _).alloc (by simp) _).alloc (by simp <;> omega) _).alloc (by simp <;> omega) _).alloc (by simp <;> omega) _
    have hcur : curB (w.heap.size + 1) W8 = none := by simp [curB, World.cell?, g1, Value.ownBlock]
    have hok8 : ∀ c, curB (w.heap.size + 1) W8 = some c → c < W8.heap.size := fun c h => by rw [hcur] at h; cases h
    have hC8 : Ctx (w.heap.size + 1) W8 (w.heap.size + 1 + 1) (w.heap.size + 1 + 1 + 2) (w.heap.size + 1 + 1 + 1) none 0 0 [] width disks :=
      ⟨⟨g2, by omega, by rw [hcur]; simp⟩, ⟨g4, by omega, by rw [hcur]; simp⟩, ⟨g3, by omega, by rw [hcur]; simp⟩, .inl ⟨rfl, rfl, rfl, rfl⟩⟩
    have hCM : CM w W8 (w.heap.size + 1) disks [] := ⟨hB8, g0, ⟨_, g1, World.ownsRow_nil _ _ _ _⟩, fun x hx => absurd hx (List.not_mem_nil)⟩
    have HSEQ : Hid (SeqV Try.prog 87 #[.pointer (some ⟨w.heap.size + 1 + 1, 0, none⟩), .pointer (some ⟨w.heap.size + 1 + 1 + 2, 0, none⟩), .pointer (some ⟨w.heap.size + 1 + 1 + 1, 0, none⟩)] (fun x : Yl => #[x.1]) (KpD (w.heap.size + 1) w.heap.size (W8.heap.size + 2)) (Vy w.heap.size) (fun xs => xs.map (·.2) = exts disks width []) (exts disks width []).length W8) := Lib.hid fun l' J' W' hbel hsz hJ' hY' h0' => by
      have hk' : KpD (w.heap.size + 1) w.heap.size (W8.heap.size + 2) W8 W' := KpD.of_below hbel (by omega) (by omega)
      exact (sets1_in (w.heap.size + 1) w.heap.size disks width (by omega) (by omega) width [] (by simp) (by simp [startOf]) l' (W8.heap.size + 2) _ _ _ _ _ _ J' [] W' (exts disks width []).length (hC8.step hk') (by omega) (by omega) (by omega) (hk'.ok hok8) hJ' hY' (by simp) h0').mono (fun e W2 ⟨hv, xs, h1, h2, _⟩ => ⟨hv, xs, h1, by simpa using h2⟩)
    have HKB : Hid (∀ (W : World) (o o' : Obj), W.heap[W8.heap.size + 1]? = some o → o.isCells = false → KpD (w.heap.size + 1) w.heap.size (W8.heap.size + 2) W (W.putObj (W8.heap.size + 1) o')) := Lib.hid fun Wk o o' hl ho => KpD.of_put hl ho (by omega) (by omega) (by omega)
    have HOV : Hid (OwnFrom W8.heap.size (Vy w.heap.size)) := Lib.hid fun s A' B' row hV g hr => own_grown hV g (fun k hk e => by
      obtain ⟨o, ho, hcc⟩ := (hr k e).2
      obtain ⟨cc, h2⟩ := own_typed hV k hk
      rw [h2] at ho
      cases ho
      cases hcc)
    have HOWN : Hid (OwnFrom W8.heap.size (fun (pre : List Yl) W => CM w W (w.heap.size + 1) disks pre)) := Lib.hid fun s A' B' row h g hr => by
      obtain ⟨q1, q2, ⟨v, q3, q4⟩, q5⟩ := h
      have hne : ∀ (k : Nat) (c : Obj), A'.heap[k]? = some c → c.isCells = true → some k ≠ row := fun k (c : Obj) hk hcc e => by
        obtain ⟨o, ho, h2⟩ := (hr k e.symm).2
        rw [hk] at ho
        cases ho
        rw [hcc] at h2
        cases h2
      have keep : ∀ (k : Nat) (c : Obj), A'.heap[k]? = some c → c.isCells = true → B'.heap[k]? = some c := fun k c hk hcc => (g.block k (Array.getElem?_eq_some_iff.1 hk).1 (hne k c hk hcc)).trans hk
      refine ⟨q1.trans ⟨g.os, g.tape, g.output, g.size, fun k hk => g.block k (by have := q1.size; omega) (fun e => by have := (hr k e.symm).1; omega)⟩, keep _ _ q2 rfl, ⟨v, keep _ _ q3 rfl, own_grown q4 g fun k hk e => ?_⟩, fun x hx => HOV.out x A' B' row (q5 x hx) g hr⟩
      obtain ⟨cc, h2⟩ := own_typed q4 k hk
      exact hne k _ h2 rfl e.symm
    rw [hW8]
    clear hW8 g0 g1 g2 g3 g4 hC8 hok8 hcur
    refine wpIn_wide.2 ((wpIn_wide (n := 10)).1 ?_)
    refine wpIn_range_V (α := Yl) (gf := 87) (lb := #[.pointer (some ⟨w.heap.size + 1 + 1, 0, none⟩), .pointer (some ⟨w.heap.size + 1 + 1 + 2, 0, none⟩), .pointer (some ⟨w.heap.size + 1 + 1 + 1, 0, none⟩)]) rfl (enters_of Try.func87 (by kernel_rfl) rfl)
      (encs := fun x => #[x.1]) (Kp := KpD (w.heap.size + 1) w.heap.size (W8.heap.size + 2)) (V := Vy w.heap.size) (S := fun xs => xs.map (·.2) = exts disks width []) (N := (exts disks width []).length) ?seq KpD.trans ?kb (fun _ => rfl)
      (fun pre W => CM w W (w.heap.size + 1) disks pre) ?own ?ownV hCM (fun x => { tmps := #[.int .i64 disks, .int .i64 width, undef, undef, .pointer (some ⟨w.heap.size, 0, none⟩), .int .i64 0, .pointer (some ⟨w.heap.size + 1, 0, none⟩), x.1, .int .i64 disks, .bool false, .bool false, .int .i64 disks, .bool false, .bool false, .bool false, .int .i64 width, .bool false, .bool false, .bool false, .int .i64 width, .int .i64 disks, .bool false, .bool false, undef, .int .i64 disks, .int .i64 width, .int .i64 disks, .int .i64 width, .int .i64 ((disks - width : Nat) : Int), .int .i64 ((disks - width : Nat) : Int), .int .i64 cn, .bool false, undef, .int .i64 disks, .agg #[.int .i64 disks, .slice none 0 0], .int .i64 disks, .int .i64 width, .func (.func 87) #[] #[.pointer (some ⟨w.heap.size + 1 + 1, 0, none⟩), .pointer (some ⟨w.heap.size + 1 + 1 + 2, 0, none⟩), .pointer (some ⟨w.heap.size + 1 + 1 + 1, 0, none⟩)], x.1, undef, undef, undef, undef, undef, undef, undef], defers := [] }) ?assign ?body ?done
    case seq => exact HSEQ.out
    case kb => exact HKB.out
    case own => exact HOWN.out
    case ownV => exact HOV.out
    case assign =>
      intro l' x Wk K hK
      gi_wp2
      exact hK
    case body =>
      rintro l' pre ⟨xv, xl⟩ Wb ⟨q1, q2, ⟨v, q3, q4⟩, q5⟩ hV hlt
      obtain ⟨A9, c9, e9⟩ := own_slice (show Wb.ownsRow w.heap.size 3 1 xv xl.length (natVals xl) from hV)
      subst e9
      obtain ⟨n, hn⟩ : ∃ n, pre.length = n := ⟨_, rfl⟩
      rw [hn] at q4
      obtain ⟨A, cd, rfl⟩ := own_slice q4
      obtain ⟨d0, d1, d2, d3⟩ := cells2 q3
      have hz := q1.size
      have hdl := lt_of_block q3
      have hnl : n < 4294967296 := by omega
      have hlen2 : ¬ w.heap.size + 1 = Wb.heap.size := by omega
      gi_wp2_with (gi_at_builtin; refine wpListIn_app38 _ rfl (.tmp 40) (.tmp 42) rfl (w.heap.size + 1 + 1) _ n _ rfl (q4.alloc _) ⟨Wb.heap.size, 0, none⟩ 1 _ rfl (by simp [go_sem]; rfl) rfl hnl (by simp; omega) ?_; intro v' w6 o6 g6 k6; obtain ⟨A1, cc1, e1⟩ := own_slice o6; subst e1; obtain ⟨h6, d61, d62⟩ := after_app48 q3 g6 (fun b e => (q4.lt b e).1))
      exact cm_step q1 q2 q3 q4 q5 hV hn o6 g6 k6
    case done =>
      rintro D ys W9 hD hS ⟨q1, q2, ⟨v, q3, q4⟩, q5⟩ hMD
      obtain ⟨n, hn⟩ : ∃ n, ys.length = n := ⟨_, rfl⟩
      have q4' := q4
      rw [hn] at q4'
      obtain ⟨A, cd, rfl⟩ := own_slice q4'
      obtain ⟨d0, d1, d2, d3⟩ := cells2 q3
      obtain ⟨e0, e1, e2, e3⟩ := cells2 q2
      have hz := q1.size
      gi_wp2
      have hM2 : ((W9.setCell ⟨w.heap.size, 0, none⟩ (.int .i64 disks)).setCell ⟨w.heap.size, 1, none⟩ (.slice A n cd)).heap[D]? = some (.deferred (some [])) := by
        rw [Below.heap_setCell _ _ _ _ (by show D ≠ w.heap.size; omega), Below.heap_setCell _ _ _ _ (by show D ≠ w.heap.size; omega)]
        exact hMD
      refine ⟨by simp, .inl ⟨_, _, rfl, run_takeDeferred hM2, ?_⟩⟩
      obtain ⟨r0, r1, r2, r3⟩ := cm_end (x := .int .i64 disks) (o' := .deferred none) q1 q2 q4 q5 hS (by omega) hMD
      exact ⟨_, results_des rfl _ _ w.heap.size _ _ (.int .i64 0) rfl rfl r0 r1, _, rfl, r2, r3⟩
  · rw [← hkk] at HCk
    clear hkk hkd
    gi_wp2
    refine ⟨trivial, ?_⟩
    refine (HCk.out _).mono ?_
    rintro e w1 ⟨rfl, rfl⟩
    gi_wp2
    refine ⟨trivial, ?_⟩
    refine (callsIn_wide.2 (sets_any none 0 0 disks _ _)).mono ?_
    rintro e w2 ⟨rfl, rfl⟩
    gi_wp2
    obtain ⟨W8, hW8⟩ : ∃ W8, ((((w.alloc (.cells #[.int .i64 0, .slice none 0 0] 48)).alloc (.cells #[.int .i64 disks, .slice none 0 0] 48)).alloc (.cells #[.slice none 0 0] 38)).alloc (.cells #[.int .i64 disks] 3)).alloc (.cells #[.int .i64 width] 3) = W8 := ⟨_, rfl⟩
    have s8 : W8.heap.size = w.heap.size + 5 := by rw [← hW8]; simp
    have g0 : W8.heap[w.heap.size]? = some (.cells #[.int .i64 0, .slice none 0 0] 48 (0, 0)) := by
      rw [← hW8, Below.heap_alloc _ _ _ (by simp <;> omega), Below.heap_alloc _ _ _ (by simp <;> omega), Below.heap_alloc _ _ _ (by simp <;> omega), Below.heap_alloc _ _ _ (by simp)]
      exact heap_alloc_new w _
    have g1 : W8.heap[w.heap.size + 1]? = some (.cells #[.int .i64 disks, .slice none 0 0] 48 (0, 0)) := by
      rw [← hW8, Below.heap_alloc _ _ _ (by simp <;> omega), Below.heap_alloc _ _ _ (by simp <;> omega), Below.heap_alloc _ _ _ (by simp)]
      have := heap_alloc_new (w.alloc (.cells #[.int .i64 0, .slice none 0 0] 48)) (.cells #[.int .i64 disks, .slice none 0 0] 48)
      simpa using this
    have g2 : W8.heap[w.heap.size + 1 + 1]? = some (.cells #[.slice none 0 0] 38 (0, 0)) := by
      rw [← hW8, Below.heap_alloc _ _ _ (by simp <;> omega), Below.heap_alloc _ _ _ (by simp)]
      have := heap_alloc_new ((w.alloc (.cells #[.int .i64 0, .slice none 0 0] 48)).alloc (.cells #[.int .i64 disks, .slice none 0 0] 48)) (.cells #[.slice none 0 0] 38)
      simpa using this
    have g3 : W8.heap[w.heap.size + 1 + 1 + 1]? = some (.cells #[.int .i64 disks] 3 (0, 0)) := by
      rw [← hW8, Below.heap_alloc _ _ _ (by simp)]
      have := heap_alloc_new (((w.alloc (.cells #[.int .i64 0, .slice none 0 0] 48)).alloc (.cells #[.int .i64 disks, .slice none 0 0] 48)).alloc (.cells #[.slice none 0 0] 38)) (.cells #[.int .i64 disks] 3)
      simpa using this
    have g4 : W8.heap[w.heap.size + 1 + 1 + 2]? = some (.cells #[.int .i64 width] 3 (0, 0)) := by
      rw [← hW8]
      have := heap_alloc_new ((((w.alloc (.cells #[.int .i64 0, .slice none 0 0] 48)).alloc (.cells #[.int .i64 disks, .slice none 0 0] 48)).alloc (.cells #[.slice none 0 0] 38)).alloc (.cells #[.int .i64 disks] 3)) (.cells #[.int .i64 width] 3)
      simpa using this
    have hB8 : Below w.heap.size w W8 := by rw [← hW8]; exact (((((Below.refl _ w).alloc (Nat.le_refl _) _).alloc (by simp) _).alloc (by simp <;> omega) _).alloc (by simp <;> omega) _).alloc (by simp <;> omega) _
    have hcur : curB (w.heap.size + 1) W8 = none := by simp [curB, World.cell?, g1, Value.ownBlock]
    have hok8 : ∀ c, curB (w.heap.size + 1) W8 = some c → c < W8.heap.size := fun c h => by rw [hcur] at h; cases h
    have hC8 : Ctx (w.heap.size + 1) W8 (w.heap.size + 1 + 1) (w.heap.size + 1 + 1 + 2) (w.heap.size + 1 + 1 + 1) none 0 0 [] width disks :=
      ⟨⟨g2, by omega, by rw [hcur]; simp⟩, ⟨g4, by omega, by rw [hcur]; simp⟩, ⟨g3, by omega, by rw [hcur]; simp⟩, .inl ⟨rfl, rfl, rfl, rfl⟩⟩
    have hCM : CM w W8 (w.heap.size + 1) disks [] := ⟨hB8, g0, ⟨_, g1, World.ownsRow_nil _ _ _ _⟩, fun x hx => absurd hx (List.not_mem_nil)⟩
    have HSEQ : Hid (SeqV Try.prog 87 #[.pointer (some ⟨w.heap.size + 1 + 1, 0, none⟩), .pointer (some ⟨w.heap.size + 1 + 1 + 2, 0, none⟩), .pointer (some ⟨w.heap.size + 1 + 1 + 1, 0, none⟩)] (fun x : Yl => #[x.1]) (KpD (w.heap.size + 1) w.heap.size (W8.heap.size + 2)) (Vy w.heap.size) (fun xs => xs.map (·.2) = exts disks width []) (exts disks width []).length W8) := Lib.hid fun l' J' W' hbel hsz hJ' hY' h0' => by
      have hk' : KpD (w.heap.size + 1) w.heap.size (W8.heap.size + 2) W8 W' := KpD.of_below hbel (by omega) (by omega)
      exact (sets1_in (w.heap.size + 1) w.heap.size disks width (by omega) (by omega) width [] (by simp) (by simp [startOf]) l' (W8.heap.size + 2) _ _ _ _ _ _ J' [] W' (exts disks width []).length (hC8.step hk') (by omega) (by omega) (by omega) (hk'.ok hok8) hJ' hY' (by simp) h0').mono (fun e W2 ⟨hv, xs, h1, h2, _⟩ => ⟨hv, xs, h1, by simpa using h2⟩)
    have HKB : Hid (∀ (W : World) (o o' : Obj), W.heap[W8.heap.size + 1]? = some o → o.isCells = false → KpD (w.heap.size + 1) w.heap.size (W8.heap.size + 2) W (W.putObj (W8.heap.size + 1) o')) := Lib.hid fun Wk o o' hl ho => KpD.of_put hl ho (by omega) (by omega) (by omega)
    have HOV : Hid (OwnFrom W8.heap.size (Vy w.heap.size)) := Lib.hid fun s A' B' row hV g hr => own_grown hV g (fun k hk e => by
      obtain ⟨o, ho, hcc⟩ := (hr k e).2
      obtain ⟨cc, h2⟩ := own_typed hV k hk
      rw [h2] at ho
      cases ho
      cases hcc)
    have HOWN : Hid (OwnFrom W8.heap.size (fun (pre : List Yl) W => CM w W (w.heap.size + 1) disks pre)) := Lib.hid fun s A' B' row h g hr => by
      obtain ⟨q1, q2, ⟨v, q3, q4⟩, q5⟩ := h
      have hne : ∀ (k : Nat) (c : Obj), A'.heap[k]? = some c → c.isCells = true → some k ≠ row := fun k (c : Obj) hk hcc e => by
        obtain ⟨o, ho, h2⟩ := (hr k e.symm).2
        rw [hk] at ho
        cases ho
        rw [hcc] at h2
        cases h2
      have keep : ∀ (k : Nat) (c : Obj), A'.heap[k]? = some c → c.isCells = true → B'.heap[k]? = some c := fun k c hk hcc => (g.block k (Array.getElem?_eq_some_iff.1 hk).1 (hne k c hk hcc)).trans hk
      refine ⟨q1.trans ⟨g.os, g.tape, g.output, g.size, fun k hk => g.block k (by have := q1.size; omega) (fun e => by have := (hr k e.symm).1; omega)⟩, keep _ _ q2 rfl, ⟨v, keep _ _ q3 rfl, own_grown q4 g fun k hk e => ?_⟩, fun x hx => HOV.out x A' B' row (q5 x hx) g hr⟩
      obtain ⟨cc, h2⟩ := own_typed q4 k hk
      exact hne k _ h2 rfl e.symm
    rw [hW8]
    clear hW8 g0 g1 g2 g3 g4 hC8 hok8 hcur
    refine wpIn_wide.2 ((wpIn_wide (n := 10)).1 ?_)
    refine wpIn_range_V (α := Yl) (gf := 87) (lb := #[.pointer (some ⟨w.heap.size + 1 + 1, 0, none⟩), .pointer (some ⟨w.heap.size + 1 + 1 + 2, 0, none⟩), .pointer (some ⟨w.heap.size + 1 + 1 + 1, 0, none⟩)]) rfl (enters_of Try.func87 (by kernel_rfl) rfl)
      (encs := fun x => #[x.1]) (Kp := KpD (w.heap.size + 1) w.heap.size (W8.heap.size + 2)) (V := Vy w.heap.size) (S := fun xs => xs.map (·.2) = exts disks width []) (N := (exts disks width []).length) ?seq KpD.trans ?kb (fun _ => rfl)
      (fun pre W => CM w W (w.heap.size + 1) disks pre) ?own ?ownV hCM (fun x => { tmps := #[.int .i64 disks, .int .i64 width, undef, undef, .pointer (some ⟨w.heap.size, 0, none⟩), .int .i64 0, .pointer (some ⟨w.heap.size + 1, 0, none⟩), x.1, .int .i64 disks, .bool false, .bool false, .int .i64 disks, .bool false, .bool false, .bool false, .int .i64 width, .bool false, .bool false, .bool false, .int .i64 width, .int .i64 disks, .bool false, .bool false, undef, .int .i64 disks, .int .i64 width, .int .i64 disks, .int .i64 width, .int .i64 ((disks - width : Nat) : Int), .int .i64 (width : Int), .int .i64 cn, .bool false, undef, .int .i64 disks, .agg #[.int .i64 disks, .slice none 0 0], .int .i64 disks, .int .i64 width, .func (.func 87) #[] #[.pointer (some ⟨w.heap.size + 1 + 1, 0, none⟩), .pointer (some ⟨w.heap.size + 1 + 1 + 2, 0, none⟩), .pointer (some ⟨w.heap.size + 1 + 1 + 1, 0, none⟩)], x.1, undef, undef, undef, undef, undef, undef, undef], defers := [] }) ?assign ?body ?done
    case seq => exact HSEQ.out
    case kb => exact HKB.out
    case own => exact HOWN.out
    case ownV => exact HOV.out
    case assign =>
      intro l' x Wk K hK
      gi_wp2
      exact hK
    case body =>
      rintro l' pre ⟨xv, xl⟩ Wb ⟨q1, q2, ⟨v, q3, q4⟩, q5⟩ hV hlt
      obtain ⟨A9, c9, e9⟩ := own_slice (show Wb.ownsRow w.heap.size 3 1 xv xl.length (natVals xl) from hV)
      subst e9
      obtain ⟨n, hn⟩ : ∃ n, pre.length = n := ⟨_, rfl⟩
      rw [hn] at q4
      obtain ⟨A, cd, rfl⟩ := own_slice q4
      obtain ⟨d0, d1, d2, d3⟩ := cells2 q3
      have hz := q1.size
      have hdl := lt_of_block q3
      have hnl : n < 4294967296 := by omega
      have hlen2 : ¬ w.heap.size + 1 = Wb.heap.size := by omega
      gi_wp2_with (gi_at_builtin; refine wpListIn_app38 _ rfl (.tmp 40) (.tmp 42) rfl (w.heap.size + 1 + 1) _ n _ rfl (q4.alloc _) ⟨Wb.heap.size, 0, none⟩ 1 _ rfl (by simp [go_sem]; rfl) rfl hnl (by simp; omega) ?_; intro v' w6 o6 g6 k6; obtain ⟨A1, cc1, e1⟩ := own_slice o6; subst e1; obtain ⟨h6, d61, d62⟩ := after_app48 q3 g6 (fun b e => (q4.lt b e).1))
      exact cm_step q1 q2 q3 q4 q5 hV hn o6 g6 k6
    case done =>
      rintro D ys W9 hD hS ⟨q1, q2, ⟨v, q3, q4⟩, q5⟩ hMD
      obtain ⟨n, hn⟩ : ∃ n, ys.length = n := ⟨_, rfl⟩
      have q4' := q4
      rw [hn] at q4'
      obtain ⟨A, cd, rfl⟩ := own_slice q4'
      obtain ⟨d0, d1, d2, d3⟩ := cells2 q3
      obtain ⟨e0, e1, e2, e3⟩ := cells2 q2
      have hz := q1.size
      gi_wp2
      have hM2 : ((W9.setCell ⟨w.heap.size, 0, none⟩ (.int .i64 disks)).setCell ⟨w.heap.size, 1, none⟩ (.slice A n cd)).heap[D]? = some (.deferred (some [])) := by
        rw [Below.heap_setCell _ _ _ _ (by show D ≠ w.heap.size; omega), Below.heap_setCell _ _ _ _ (by show D ≠ w.heap.size; omega)]
        exact hMD
      refine ⟨by simp, .inl ⟨_, _, rfl, run_takeDeferred hM2, ?_⟩⟩
      obtain ⟨r0, r1, r2, r3⟩ := cm_end (x := .int .i64 disks) (o' := .deferred none) q1 q2 q4 q5 hS (by omega) hMD
      exact ⟨_, results_des rfl _ _ w.heap.size _ _ (.int .i64 0) rfl rfl r0 r1, _, rfl, r2, r3⟩
end Go.Proofs.Ytnmkkflnehnioaa

/-! design.Complete (54): its errors. No condition. -/
namespace Go.Proofs.Ytnmkkflnehnioaa
open Go.RowKit
set_option maxRecDepth 100000

def Err54 (w : World) (y : Int) (e : Ending) (w' : World) : Prop := e = .returned (.tuple #[.agg #[.int .i64 0, .slice none 0 0], .int .i64 y]) ∧ Below w.heap.size w w'

set_option maxHeartbeats 1600000 in
theorem complete_no1 (disks width : Int) (h : disks < 2 ∨ (2 ≤ disks ∧ 60 < disks) ∨ (2 ≤ disks ∧ disks ≤ 60 ∧ width < 2) ∨ (2 ≤ disks ∧ disks ≤ 60 ∧ 2 ≤ width ∧ disks < width)) (w : World) : Calls Try.prog 54 #[.int .i64 disks, .int .i64 width] w (Err54 w 1) := by
  have hB : Below w.heap.size w (w.alloc (.cells #[.int .i64 0, .slice none 0 0] 48)) := (Below.refl _ w).alloc (Nat.le_refl _) _
  have c0 : (w.alloc (.cells #[.int .i64 0, .slice none 0 0] 48)).cell? ⟨w.heap.size, 0, none⟩ = some (.int .i64 0) := by simp [go_sem]
  have c1 : (w.alloc (.cells #[.int .i64 0, .slice none 0 0] 48)).cell? ⟨w.heap.size, 1, none⟩ = some (.slice none 0 0) := by simp [go_sem]
  rcases h with h | ⟨h1, h2⟩ | ⟨h1, h2, h3⟩ | ⟨h1, h2, h3, h4⟩
  all_goals (
    go_enter Try.func54, Try.ntmps54
    go_wp2_with fail
    (try simp only [Exit.inBlock, Exit.then])
    refine bodyPost_ret_by (results_des rfl _ _ w.heap.size _ _ (.int .i64 1) rfl rfl c0 c1) rfl ?_
    exact ⟨rfl, hB⟩)

set_option maxHeartbeats 1600000 in
theorem complete_no2 (disks width : Nat) (hd2 : 2 ≤ disks) (hd60 : disks ≤ 60) (hw2 : 2 ≤ width) (hwd : width ≤ disks) (hc : 4096 < cntGo disks 1 0 (min width (disks - width))) (w : World) : Calls Try.prog 54 #[.int .i64 disks, .int .i64 width] w (Err54 w 7) := by
  have hB : Below w.heap.size w (w.alloc (.cells #[.int .i64 0, .slice none 0 0] 48)) := (Below.refl _ w).alloc (Nat.le_refl _) _
  have c0 : (w.alloc (.cells #[.int .i64 0, .slice none 0 0] 48)).cell? ⟨w.heap.size, 0, none⟩ = some (.int .i64 0) := by simp [go_sem]
  have c1 : (w.alloc (.cells #[.int .i64 0, .slice none 0 0] 48)).cell? ⟨w.heap.size, 1, none⟩ = some (.slice none 0 0) := by simp [go_sem]
  have hsub : (disks : Int) - (width : Int) = ((disks - width : Nat) : Int) := by omega
  obtain ⟨k, hkd, hck, hkm⟩ : ∃ k, k ≤ disks ∧ 4096 < cntGo disks 1 0 k ∧ ((disks - width < width ∧ disks - width = k) ∨ (¬ disks - width < width ∧ width = k)) := by
    by_cases hm : disks - width < width
    · refine ⟨disks - width, by omega, ?_, .inl ⟨hm, rfl⟩⟩
      rw [Nat.min_eq_right (by omega)] at hc
      exact hc
    · refine ⟨width, hwd, ?_, .inr ⟨hm, rfl⟩⟩
      rw [Nat.min_eq_left (by omega)] at hc
      exact hc
  obtain ⟨cn, ecn⟩ : ∃ cn, cntGo disks 1 0 k = cn := ⟨_, rfl⟩
  have hcc := fun W => count_any disks k (by omega) hkd W
  rw [ecn] at hck hcc
  have HCk := Lib.hid hcc
  clear hc hcc ecn
  have t1 : decide ((disks : Int) < 2) = false := decide_eq_false (by omega)
  have t2 : decide (60 < (disks : Int)) = false := decide_eq_false (by omega)
  have t3 : decide ((width : Int) < 2) = false := decide_eq_false (by omega)
  have t4 : decide (disks < width) = false := decide_eq_false (by omega)
  have t5 : decide (4096 < (cn : Int)) = true := decide_eq_true (by omega)
  rcases hkm with ⟨hm, hkk⟩ | ⟨hm, hkk⟩
  all_goals (
    rw [← hkk] at HCk
    clear hkk hkd
    go_enter Try.func54, Try.ntmps54
    go_wp2_with fail
    refine (HCk.out _).mono ?_
    rintro e w1 ⟨rfl, rfl⟩
    go_wp2_with fail
    (try simp only [Exit.inBlock, Exit.then])
    refine bodyPost_ret_by (results_des rfl _ _ w.heap.size _ _ (.int .i64 7) rfl rfl c0 c1) rfl ?_
    exact ⟨rfl, hB⟩)
end Go.Proofs.Ytnmkkflnehnioaa

/-! design.Choose (60): a plane where there is one, else the complete design. Condition: as stated. -/
namespace Go.Proofs.Ytnmkkflnehnioaa
open Go.RowKit
set_option maxRecDepth 100000

/-- The answer of a function that makes a design: D disks and n rows, or an error. -/
def Made (D : Int) (n : Nat) (f : Nat → List Nat) (er : Int) (w : World) (e : Ending) (w' : World) : Prop :=
  ∃ d v, e = .returned (.tuple #[.agg #[.int .i64 d, v], .int .i64 er]) ∧ (∃ a l c, v = .slice a l c) ∧ Below w.heap.size w w' ∧ (er = 0 → d = D ∧ RowsOf w' w.heap.size v n f) ∧ (er ≠ 0 → d = 0 ∧ v = .slice none 0 0)

theorem Made.of_err {D : Int} {n : Nat} {f : Nat → List Nat} {er : Int} (h0 : er ≠ 0) {w : World} {e : Ending} {w' : World} (h : Err54 w er e w') : Made D n f er w e w' :=
  ⟨0, .slice none 0 0, h.1, ⟨_, _, _, rfl⟩, h.2, fun h => absurd h h0, fun _ => ⟨rfl, rfl⟩⟩

theorem Made.of_yes {D : Int} {n : Nat} {f : Nat → List Nat} {w : World} {e : Ending} {w' : World} (h : ∃ v, e = .returned (.tuple #[.agg #[.int .i64 D, v], .int .i64 0]) ∧ RowsOf w' w.heap.size v n f ∧ Below w.heap.size w w') : Made D n f 0 w e w' := by
  obtain ⟨v, h1, h2, h3⟩ := h
  obtain ⟨l, hl⟩ := h2
  obtain ⟨A, c, rfl⟩ := own_slice hl.1
  exact ⟨D, _, h1, ⟨_, _, _, rfl⟩, h3, fun _ => ⟨rfl, l, hl⟩, fun h => absurd rfl h⟩

theorem Made.more {D : Int} {n : Nat} {f : Nat → List Nat} {er : Int} {w w1 w2 : World} {e : Ending} (h : Made D n f er w e w1) (hb : Below w1.heap.size w1 w2) : Made D n f er w e w2 := by
  obtain ⟨d, v, h1, h2, h3, h4, h5⟩ := h
  exact ⟨d, v, h1, h2, h3.trans (hb.mono h3.size), fun e => ⟨(h4 e).1, (h4 e).2.below hb (Nat.le_refl _)⟩, h5⟩

/-- What the result block holds in the end. -/
theorem made_out {D : Int} {n : Nat} {f : Nat → List Nat} {er d : Int} {w W1 w1 : World} {v a b : Value} (hb : Below w.heap.size w W1) (hl : w.heap.size < W1.heap.size) (h : (∃ a l c, v = .slice a l c) ∧ Below W1.heap.size W1 w1 ∧ (er = 0 → d = D ∧ RowsOf w1 W1.heap.size v n f) ∧ (er ≠ 0 → d = 0 ∧ v = .slice none 0 0))
    {w2 : World} (h2 : Below w1.heap.size w1 w2) (c0 : w2.cell? ⟨w.heap.size, 0, none⟩ = some a) (c1 : w2.cell? ⟨w.heap.size, 1, none⟩ = some b) :
    ((w2.setCell ⟨w.heap.size, 0, none⟩ (.int .i64 d)).setCell ⟨w.heap.size, 1, none⟩ v).cell? ⟨w.heap.size, 0, none⟩ = some (.int .i64 d) ∧ ((w2.setCell ⟨w.heap.size, 0, none⟩ (.int .i64 d)).setCell ⟨w.heap.size, 1, none⟩ v).cell? ⟨w.heap.size, 1, none⟩ = some v ∧
    Made D n f er w (.returned (.tuple #[.agg #[.int .i64 d, v], .int .i64 er])) ((w2.setCell ⟨w.heap.size, 0, none⟩ (.int .i64 d)).setCell ⟨w.heap.size, 1, none⟩ v) := by
  obtain ⟨h1, hB, hy, hn⟩ := h
  have hs1 := hB.size
  have hs2 := h2.size
  have Dd := des_out (.int .i64 d) v c0 c1 (hb.trans ((hB.mono (by omega)).trans (h2.mono (by omega))))
  exact ⟨Dd.c0, Dd.c1, d, v, rfl, h1, Dd.below, fun e => ⟨(hy e).1, (((hy e).2.below h2 (Nat.le_refl _)).setCell (p := ⟨w.heap.size, 0, none⟩) hl _ |>.setCell (p := ⟨w.heap.size, 1, none⟩) hl _).weaken (by omega)⟩, hn⟩

theorem run_store_fn {P : Program} {w : World} {a : Addr} {g : Fn} {x y : Array Value} {m : Mode} : (store a (.func g x y) m).run P w = stored P w a (.func g x y) m := run_store P w a _ m rfl
attribute [local go_sem] run_store_fn

def Fails (fn : Nat) (q : Int) : Prop := ∃ y : Int, y ≠ 0 ∧ ∀ W, Calls Try.prog fn #[.int .i64 q] W (Err54 W y)

set_option maxHeartbeats 6400000 in
theorem choose_gen (D Wd : Nat) (h1 : 4 ≤ Wd) (h2 : Wd ≤ 16) (h3 : Wd ≤ D) (h4 : D ≤ 60) (n : Nat) (f : Nat → List Nat) (er : Int) (A0 A1 : Prop)
    (H0 : (Wd * Wd - Wd + 1 = D ∧ A0 ∧ Fails 42 ((Wd : Int) - 1)) ∨ (Wd * Wd - Wd + 1 ≠ D ∧ A0) ∨ (Wd * Wd - Wd + 1 = D ∧ er = 0 ∧ ∀ W, Calls Try.prog 42 #[.int .i64 ((Wd : Int) - 1)] W (Made D n f 0 W)))
    (H1 : (Wd * Wd = D ∧ A1 ∧ Fails 46 (Wd : Int)) ∨ (Wd * Wd ≠ D ∧ A1) ∨ (Wd * Wd = D ∧ er = 0 ∧ ∀ W, Calls Try.prog 46 #[.int .i64 (Wd : Int)] W (Made D n f 0 W)))
    (H2 : A0 → A1 → ∀ W, Calls Try.prog 54 #[.int .i64 D, .int .i64 Wd] W (Made D n f er W)) (w : World) :
    Calls Try.prog 60 #[.int .i64 D, .int .i64 Wd] w (Made D n f er w) := by
  obtain ⟨V, hV⟩ : ∃ V : Nat, (Wd : Int) - 1 = V := ⟨Wd - 1, by omega⟩
  rw [hV] at H0
  have hww : Wd * Wd ≤ 256 := Nat.mul_le_mul h2 h2
  have hle : Wd ≤ Wd * Wd := Nat.le_mul_of_pos_left _ (by omega)
  have hmul : (Wd : Int) * (Wd : Int) = ((Wd * Wd : Nat) : Int) := by push_cast; rfl
  obtain ⟨Q, hQ⟩ : ∃ Q, Wd * Wd = Q := ⟨_, rfl⟩
  rw [hQ] at H0 H1 hww hle hmul
  clear hQ
  obtain ⟨P, hP⟩ : ∃ P, Q - Wd + 1 = P := ⟨_, rfl⟩
  rw [hP] at H0
  have hPi : (Q : Int) - (Wd : Int) + 1 = P := by omega
  have hP257 : P ≤ 257 := by omega
  clear hP hle
  have t1 : decide ((Wd : Int) < 4) = false := decide_eq_false (by omega)
  have t2 : decide (16 < (Wd : Int)) = false := decide_eq_false (by omega)
  have t3 : decide (D < Wd) = false := decide_eq_false (by omega)
  have t4 : decide (60 < (D : Int)) = false := decide_eq_false (by omega)
  have HH0 := Lib.hid H0
  have HH1 := Lib.hid H1
  have HH2 := Lib.hid H2
  clear H0 H1 H2
  go_enter Try.func60, Try.ntmps60
  go_wp2_with fail
  obtain ⟨W0, hW0⟩ : ∃ W0, (w.alloc (.cells #[.int .i64 0, .slice none 0 0] 48)).alloc (.cells #[.int .i64 P, .int .i64 V, .func (.func 42) #[] #[], .int .i64 Q, .int .i64 Wd, .func (.func 46) #[] #[]] 104) = W0 := ⟨_, rfl⟩
  have s0 : W0.heap.size = w.heap.size + 2 := by rw [← hW0]; simp
  have B0 : Below w.heap.size w W0 := by rw [← hW0]; exact ((Below.refl _ w).alloc (Nat.le_refl _) _).alloc (by simp) _
  have g0 : W0.heap[w.heap.size]? = some (.cells #[.int .i64 0, .slice none 0 0] 48 (0, 0)) := by
    rw [← hW0, Below.heap_alloc _ _ _ (by simp)]
    exact heap_alloc_new w _
  have g1 : W0.heap[w.heap.size + 1]? = some (.cells #[.int .i64 P, .int .i64 V, .func (.func 42) #[] #[], .int .i64 Q, .int .i64 Wd, .func (.func 46) #[] #[]] 104 (0, 0)) := by
    rw [← hW0]
    have := heap_alloc_new (w.alloc (.cells #[.int .i64 0, .slice none 0 0] 48)) (.cells #[.int .i64 P, .int .i64 V, .func (.func 42) #[] #[], .int .i64 Q, .int .i64 Wd, .func (.func 46) #[] #[]] 104)
    simpa using this
  rw [hW0]
  clear hW0
  have HG := Lib.hid (And.intro g0 (And.intro g1 (And.intro B0 s0)))
  clear g0 g1 B0 s0
  go_loopw [44] (fun v wr => ∃ i : Nat, i ≤ 2 ∧ v = .int .i64 i ∧ Below W0.heap.size W0 wr ∧ (1 ≤ i → A0) ∧ (2 ≤ i → A1)) (fun v _ => 2 - (intOf v).toNat)
  case atStart => exact ⟨0, by omega, rfl, Below.refl _ _, fun h => absurd h (by omega), fun h => absurd h (by omega)⟩
  case round =>
    obtain ⟨i, hi, rfl, hB, hA0, hA1⟩ := hrel
    obtain ⟨g0, g1, B0, s0⟩ := HG.out
    have hsz := hB.size
    have Bw : Below w.heap.size w wr := B0.trans (hB.mono (by omega))
    have g0 := (hB.block _ (by omega)).trans g0
    have g1 := (hB.block _ (by omega)).trans g1
    obtain ⟨c0, c1, f0, f1⟩ := cells2 g0
    have k0 : wr.cell? ⟨w.heap.size + 1, 0, none⟩ = some (.int .i64 P) := by simp [World.cell?, g1]
    have k1 : wr.cell? ⟨w.heap.size + 1, 1, none⟩ = some (.int .i64 V) := by simp [World.cell?, g1]
    have k2 : wr.cell? ⟨w.heap.size + 1, 2, none⟩ = some (.func (.func 42) #[] #[]) := by simp [World.cell?, g1]
    have k3 : wr.cell? ⟨w.heap.size + 1, 3, none⟩ = some (.int .i64 Q) := by simp [World.cell?, g1]
    have k4 : wr.cell? ⟨w.heap.size + 1, 4, none⟩ = some (.int .i64 Wd) := by simp [World.cell?, g1]
    have k5 : wr.cell? ⟨w.heap.size + 1, 5, none⟩ = some (.func (.func 46) #[] #[]) := by simp [World.cell?, g1]
    have HB := Lib.hid (And.intro hB (And.intro Bw (And.intro B0 (And.intro s0 (And.intro hA0 (And.intro hA1 g0))))))
    clear hB Bw B0 s0 hA0 hA1 g0 g1
    obtain rfl | rfl | rfl : i = 0 ∨ i = 1 ∨ i = 2 := by omega
    · rcases HH0.out with ⟨hPD, ha, y, hy0, hy⟩ | ⟨hPD, ha⟩ | ⟨hPD, he, hy⟩
      · have te : ((P : Int) != (D : Int)) = false := by rw [hPD]; simp
        clear hPD
        have HY := Lib.hid hy
        have HA := Lib.hid ha
        have t1 : (y == 0) = false := by simpa using hy0
        clear hy ha hy0
        go_wp2_with fail
        refine (HY.out _).mono ?_
        rintro e w1 ⟨rfl, B1⟩
        go_wp2_with fail
        obtain ⟨hB, Bw, B0, s0, hA0, hA1, g0⟩ := HB.out
        have hs1 := B1.size
        simp only [World.size_alloc] at hs1
        refine ⟨⟨1, by omega, by go_num, ((hB.alloc hB.size _).trans (B1.mono (by simp; omega))).alloc (by omega) _, fun _ => HA.out, fun h => absurd h (by omega)⟩, by simp [intOf]⟩
      · have te : ((P : Int) != (D : Int)) = true := by simp; omega
        clear hPD
        have HA := Lib.hid ha
        clear ha
        go_wp2_with fail
        obtain ⟨hB, Bw, B0, s0, hA0, hA1, g0⟩ := HB.out
        refine ⟨⟨1, by omega, by go_num, hB.alloc hB.size _, fun _ => HA.out, fun h => absurd h (by omega)⟩, by simp [intOf]⟩
      · have te : ((P : Int) != (D : Int)) = false := by rw [hPD]; simp
        clear hPD
        have HY := Lib.hid hy
        clear hy
        subst he
        go_wp2_with fail
        refine (HY.out _).mono ?_
        rintro e w1 ⟨d, v, rfl, hsl, hB1, hyes, hno⟩
        obtain ⟨rfl, hro⟩ := hyes rfl
        obtain ⟨va, vl, vc, rfl⟩ := hsl
        have HM := Lib.hid (And.intro hB1 hro)
        have hs1 := hB1.size
        simp only [World.size_alloc] at hs1
        have g0' : w1.heap[w.heap.size]? = some (.cells #[.int .i64 0, .slice none 0 0] 48 (0, 0)) := by
          obtain ⟨hB, Bw, B0, s0, hA0, hA1, g0⟩ := HB.out
          rw [hB1.block _ (by simp; omega), Below.heap_alloc _ _ _ (by omega)]
          exact g0
        clear hB1 hno hro hyes c0 c1 f0 f1
        obtain ⟨c0, c1, f0, f1⟩ := cells2 g0'
        have hlt : w.heap.size < w1.heap.size := lt_of_block g0'
        clear g0'
        go_wp2_with fail
        (try simp only [Exit.inBlock, Exit.then])
        obtain ⟨hB, Bw, B0, s0, hA0, hA1, g0⟩ := HB.out
        obtain ⟨r0, r1, r2⟩ := made_out (a := .int .i64 0) (b := .slice none 0 0) (Bw.alloc Bw.size _) (by simp; omega) ⟨⟨_, _, _, rfl⟩, HM.out.1, fun _ => ⟨rfl, HM.out.2⟩, fun h => absurd rfl h⟩ (Below.refl _ w1) c0 c1
        exact bodyPost_ret_by (results_des rfl _ _ w.heap.size _ _ (.int .i64 0) rfl rfl ((World.cell?_of_block (Below.heap_alloc _ _ _ (by simpa using hlt))).trans r0) ((World.cell?_of_block (Below.heap_alloc _ _ _ (by simpa using hlt))).trans r1)) rfl (r2.more ((Below.refl _ _).alloc (Nat.le_refl _) _))
    · rcases HH1.out with ⟨hPD, ha, y, hy0, hy⟩ | ⟨hPD, ha⟩ | ⟨hPD, he, hy⟩
      · have te : ((Q : Int) != (D : Int)) = false := by rw [hPD]; simp
        clear hPD
        have HY := Lib.hid hy
        have HA := Lib.hid ha
        have t1 : (y == 0) = false := by simpa using hy0
        clear hy ha hy0
        go_wp2_with fail
        refine (HY.out _).mono ?_
        rintro e w1 ⟨rfl, B1⟩
        go_wp2_with fail
        obtain ⟨hB, Bw, B0, s0, hA0, hA1, g0⟩ := HB.out
        have hs1 := B1.size
        simp only [World.size_alloc] at hs1
        refine ⟨⟨2, by omega, by go_num, ((hB.alloc hB.size _).trans (B1.mono (by simp; omega))).alloc (by omega) _, fun _ => hA0 (by omega), fun _ => HA.out⟩, by simp [intOf]⟩
      · have te : ((Q : Int) != (D : Int)) = true := by simp; omega
        clear hPD
        have HA := Lib.hid ha
        clear ha
        go_wp2_with fail
        obtain ⟨hB, Bw, B0, s0, hA0, hA1, g0⟩ := HB.out
        refine ⟨⟨2, by omega, by go_num, hB.alloc hB.size _, fun _ => hA0 (by omega), fun _ => HA.out⟩, by simp [intOf]⟩
      · have te : ((Q : Int) != (D : Int)) = false := by rw [hPD]; simp
        clear hPD
        have HY := Lib.hid hy
        clear hy
        subst he
        go_wp2_with fail
        refine (HY.out _).mono ?_
        rintro e w1 ⟨d, v, rfl, hsl, hB1, hyes, hno⟩
        obtain ⟨rfl, hro⟩ := hyes rfl
        obtain ⟨va, vl, vc, rfl⟩ := hsl
        have HM := Lib.hid (And.intro hB1 hro)
        have hs1 := hB1.size
        simp only [World.size_alloc] at hs1
        have g0' : w1.heap[w.heap.size]? = some (.cells #[.int .i64 0, .slice none 0 0] 48 (0, 0)) := by
          obtain ⟨hB, Bw, B0, s0, hA0, hA1, g0⟩ := HB.out
          rw [hB1.block _ (by simp; omega), Below.heap_alloc _ _ _ (by omega)]
          exact g0
        clear hB1 hno hro hyes c0 c1 f0 f1
        obtain ⟨c0, c1, f0, f1⟩ := cells2 g0'
        have hlt : w.heap.size < w1.heap.size := lt_of_block g0'
        clear g0'
        go_wp2_with fail
        (try simp only [Exit.inBlock, Exit.then])
        obtain ⟨hB, Bw, B0, s0, hA0, hA1, g0⟩ := HB.out
        obtain ⟨r0, r1, r2⟩ := made_out (a := .int .i64 0) (b := .slice none 0 0) (Bw.alloc Bw.size _) (by simp; omega) ⟨⟨_, _, _, rfl⟩, HM.out.1, fun _ => ⟨rfl, HM.out.2⟩, fun h => absurd rfl h⟩ (Below.refl _ w1) c0 c1
        exact bodyPost_ret_by (results_des rfl _ _ w.heap.size _ _ (.int .i64 0) rfl rfl ((World.cell?_of_block (Below.heap_alloc _ _ _ (by simpa using hlt))).trans r0) ((World.cell?_of_block (Below.heap_alloc _ _ _ (by simpa using hlt))).trans r1)) rfl (r2.more ((Below.refl _ _).alloc (Nat.le_refl _) _))
    · go_wp2_with fail
      refine (HH2.out (HB.out.2.2.2.2.1 (by omega)) (HB.out.2.2.2.2.2.1 (by omega)) _).mono ?_
      rintro e w1 ⟨d, v, rfl, hsl, hB1, hyes, hno⟩
      have HM := Lib.hid (And.intro hsl (And.intro hB1 (And.intro hyes hno)))
      obtain ⟨va, vl, vc, rfl⟩ := hsl
      have hs1 := hB1.size
      have g0' : w1.heap[w.heap.size]? = some (.cells #[.int .i64 0, .slice none 0 0] 48 (0, 0)) := by
        obtain ⟨hB, Bw, B0, s0, hA0, hA1, g0⟩ := HB.out
        rw [hB1.block _ (by omega)]
        exact g0
      clear hB1 hyes hno c0 c1 f0 f1
      obtain ⟨c0, c1, f0, f1⟩ := cells2 g0'
      have hlt : w.heap.size < w1.heap.size := lt_of_block g0'
      clear g0'
      go_wp2_with fail
      (try simp only [Exit.inBlock, Exit.then])
      obtain ⟨hB, Bw, B0, s0, hA0, hA1, g0⟩ := HB.out
      obtain ⟨r0, r1, r2⟩ := made_out (a := .int .i64 0) (b := .slice none 0 0) Bw (by omega) HM.out (Below.refl _ w1) c0 c1
      exact bodyPost_ret_by (results_des rfl _ _ w.heap.size _ _ (.int .i64 er) rfl rfl r0 r1) rfl r2

set_option maxHeartbeats 1600000 in
theorem choose_no1 (disks width : Int) (h : width < 4 ∨ (4 ≤ width ∧ 16 < width) ∨ (4 ≤ width ∧ width ≤ 16 ∧ disks < width) ∨ (4 ≤ width ∧ width ≤ 16 ∧ width ≤ disks ∧ 60 < disks)) (w : World) : Calls Try.prog 60 #[.int .i64 disks, .int .i64 width] w (Err54 w 1) := by
  have hB : Below w.heap.size w (w.alloc (.cells #[.int .i64 0, .slice none 0 0] 48)) := (Below.refl _ w).alloc (Nat.le_refl _) _
  have c0 : (w.alloc (.cells #[.int .i64 0, .slice none 0 0] 48)).cell? ⟨w.heap.size, 0, none⟩ = some (.int .i64 0) := by simp [go_sem]
  have c1 : (w.alloc (.cells #[.int .i64 0, .slice none 0 0] 48)).cell? ⟨w.heap.size, 1, none⟩ = some (.slice none 0 0) := by simp [go_sem]
  rcases h with h | ⟨h1, h2⟩ | ⟨h1, h2, h3⟩ | ⟨h1, h2, h3, h4⟩
  all_goals (
    go_enter Try.func60, Try.ntmps60
    go_wp2_with fail
    (try simp only [Exit.inBlock, Exit.then])
    refine bodyPost_ret_by (results_des rfl _ _ w.heap.size _ _ (.int .i64 1) rfl rfl c0 c1) rfl ?_
    exact ⟨rfl, hB⟩)
end Go.Proofs.Ytnmkkflnehnioaa
