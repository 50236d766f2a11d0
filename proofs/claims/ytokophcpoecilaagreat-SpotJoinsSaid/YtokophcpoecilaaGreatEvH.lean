/- Rearrangements of a segment of a row, and rows that rise. Laws of sorting, of rows as functions of places: insertion, heaps, partitions. Strings by their bytes. Rules for numbers and rows of cells, so that simp closes the side conditions by omega. The rules of the abstract machine, as one fact for simp. Nested data that come in: numbers, truths, strings, structs, arrays, and slices of these; each slice is an object that is read alone. Calls that answer one thing, as equations; rows of integers that a call changes in place. Shapes of data, of no program; slices of data that are read alone, and slices that a call has made. -/
import Derived.Test.YtokophcpoecilaaGreatEvG
set_option linter.unusedSimpArgs false
set_option linter.unusedVariables false
namespace Go.Ev
def PermOn {α : Type} (a b : Nat) (f g : Nat → α) : Prop := ∃ σ τ : Nat → Nat, (∀ i, τ (σ i) = i) ∧ (∀ i, σ (τ i) = i) ∧ (∀ i, ¬ (a ≤ i ∧ i < b) → σ i = i) ∧ ∀ i, g i = f (σ i)
def swp {α : Type} (f : Nat → α) (i j : Nat) : Nat → α := fun k => if k = i then f j else if k = j then f i else f k
section
variable {α : Type} {a b : Nat} {f g k : Nat → α}
theorem PermOn.refl : PermOn a b f f := ⟨id, id, fun _ => rfl, fun _ => rfl, fun _ _ => rfl, fun _ => rfl⟩
theorem PermOn.trans (x : PermOn a b f g) (y : PermOn a b g k) : PermOn a b f k := by
  obtain ⟨s1, t1, a1, a2, a3, a4⟩ := x
  obtain ⟨s2, t2, b1, b2, b3, b4⟩ := y
  exact ⟨fun i => s1 (s2 i), fun i => t2 (t1 i), fun i => by simp only [a1, b1], fun i => by simp only [a2, b2], fun i hi => by simp only [b3 i hi, a3 i hi], fun i => by rw [b4, a4]⟩
theorem PermOn.symm (x : PermOn a b f g) : PermOn a b g f := by
  obtain ⟨s1, t1, a1, a2, a3, a4⟩ := x
  exact ⟨t1, s1, a2, a1, fun i hi => by have := a1 i; rwa [a3 i hi] at this, fun i => by rw [a4, a2]⟩
theorem PermOn.wider {a' b' : Nat} (x : PermOn a b f g) (h1 : a' ≤ a) (h2 : b ≤ b') : PermOn a' b' f g := by
  obtain ⟨s1, t1, a1, a2, a3, a4⟩ := x
  exact ⟨s1, t1, a1, a2, fun i hi => a3 i (by omega), a4⟩
theorem PermOn.swap {i j : Nat} (hi : a ≤ i ∧ i < b) (hj : a ≤ j ∧ j < b) : PermOn a b f (swp f i j) := by
  refine ⟨swp id i j, swp id i j, ?_, ?_, ?_, ?_⟩
  · intro k; simp only [swp, id]; split <;> (try split) <;> (try split) <;> omega
  · intro k; simp only [swp, id]; split <;> (try split) <;> (try split) <;> omega
  · intro k hk; simp only [swp, id]; split <;> (try split) <;> omega
  · intro k; simp only [swp, id]; split <;> (try split) <;> rfl
theorem PermOn.out (x : PermOn a b f g) {i : Nat} (hi : ¬ (a ≤ i ∧ i < b)) : g i = f i := by
  obtain ⟨s1, t1, a1, a2, a3, a4⟩ := x
  rw [a4, a3 i hi]
theorem PermOn.inside (x : PermOn a b f g) {i : Nat} (h1 : a ≤ i) (h2 : i < b) : ∃ j, a ≤ j ∧ j < b ∧ g i = f j := by
  obtain ⟨s1, t1, a1, a2, a3, a4⟩ := x
  by_cases h : a ≤ s1 i ∧ s1 i < b
  · exact ⟨s1 i, h.1, h.2, a4 i⟩
  · have e := a3 _ h
    have e2 := congrArg t1 e
    rw [a1, a1] at e2
    rw [e2] at h
    exact absurd ⟨h1, h2⟩ h
theorem PermOn.all {Q : α → Prop} (x : PermOn a b f g) (h : ∀ i, a ≤ i → i < b → Q (f i)) : ∀ i, a ≤ i → i < b → Q (g i) := by
  intro i h1 h2
  obtain ⟨j, j1, j2, e⟩ := x.inside h1 h2
  rw [e]; exact h j j1 j2
theorem PermOn.of_eq (h : ∀ i, g i = f i) : PermOn a b f g := ⟨id, id, fun _ => rfl, fun _ => rfl, fun _ _ => rfl, h⟩
/-- an order: a strict one whose opposite is transitive -/
structure Ord (lt : α → α → Bool) : Prop where
  asym : ∀ x y, lt x y = true → lt y x = false
  trans : ∀ x y z, lt y x = false → lt z y = false → lt z x = false
variable {lt : α → α → Bool}
theorem Ord.irrefl (o : Ord lt) (x : α) : lt x x = false := by
  cases h : lt x x with
  | false => rfl
  | true => have := o.asym _ _ h; rw [h] at this; cases this
/-- rises -/
def Rises (lt : α → α → Bool) (a b : Nat) (f : Nat → α) : Prop := ∀ i j, a ≤ i → i ≤ j → j < b → lt (f j) (f i) = false
theorem rises_of_step (o : Ord lt) (h : ∀ i, a < i → i < b → lt (f i) (f (i - 1)) = false) : Rises lt a b f := by
  intro i j h1 h2 h3
  obtain ⟨d, rfl⟩ : ∃ d, j = i + d := ⟨j - i, by omega⟩
  clear h2
  induction d with
  | zero => exact o.irrefl _
  | succ d ih =>
    have := h (i + d + 1) (by omega) (by omega)
    exact o.trans _ _ _ (ih (by omega)) this
theorem rises_short (o : Ord lt) (h : b ≤ a + 1) : Rises lt a b f := by
  intro i j h1 h2 h3
  obtain rfl : i = j := by omega
  exact o.irrefl _
/-- two parts, with a middle -/
theorem rises_join {m : Nat} (o : Ord lt) (h1 : Rises lt a m f) (h2 : Rises lt m b f) (h3 : ∀ i, a ≤ i → i < m → m < b → lt (f m) (f i) = false) : Rises lt a b f := by
  intro i j hi hij hj
  by_cases h : j < m
  · exact h1 i j hi hij h
  · by_cases h' : m ≤ i
    · exact h2 i j h' hij hj
    · exact o.trans _ _ _ (h3 i hi (by omega) (by omega)) (h2 m j (by omega) (by omega) hj)
end
def ltZ (x y : Int) : Bool := decide (x < y)
theorem ordZ : Ord ltZ := ⟨fun x y h => by simp only [ltZ, decide_eq_true_eq, decide_eq_false_iff_not] at *; omega, fun x y z h1 h2 => by simp only [ltZ, decide_eq_false_iff_not] at *; omega⟩
end Go.Ev

namespace Go.Ev
section
variable {α : Type} {lt : α → α → Bool} {a b i j : Nat} {f g : Nat → α}
theorem swp_l : swp f i j i = f j := by simp [swp]
theorem swp_r : swp f i j j = f i := by simp only [swp]; split <;> simp_all
theorem swp_o {k : Nat} (h1 : k ≠ i) (h2 : k ≠ j) : swp f i j k = f k := by simp [swp, h1, h2]
/-- all pairs of a .. i rise, but those whose upper one is j -/
def InsInv (lt : α → α → Bool) (a i j : Nat) (f : Nat → α) : Prop := ∀ x y, a ≤ x → x < y → y ≤ i → y ≠ j → lt (f y) (f x) = false
theorem ins_start (h : Rises lt a i f) : InsInv lt a i i f := fun x y h1 h2 h3 h4 => h x y h1 (by omega) (by omega)
theorem ins_step (o : Ord lt) (hj : a < j) (hji : j ≤ i) (h : InsInv lt a i j f) (hl : lt (f j) (f (j - 1)) = true) : InsInv lt a i (j - 1) (swp f j (j - 1)) := by
  intro x y h1 h2 h3 h4
  by_cases hy : y = j
  · subst hy
    rw [swp_l]
    by_cases hx : x = y - 1
    · subst hx; rw [swp_r]; exact o.asym _ _ hl
    · rw [swp_o (by omega) hx]; exact h x (y - 1) h1 (by omega) (by omega) (by omega)
  · rw [swp_o hy h4]
    by_cases hx : x = j
    · subst hx; rw [swp_l]; exact h (x - 1) y (by omega) (by omega) h3 hy
    · by_cases hx2 : x = j - 1
      · subst hx2; rw [swp_r]; exact h j y (by omega) (by omega) h3 hy
      · rw [swp_o hx hx2]; exact h x y h1 h2 h3 hy
theorem ins_stop (o : Ord lt) (h : InsInv lt a i j f) (hj : j ≤ a ∨ lt (f j) (f (j - 1)) = false) : Rises lt a (i + 1) f := by
  intro x y h1 h2 h3
  by_cases hxy : x = y
  · subst hxy; exact o.irrefl _
  by_cases hy : y = j
  · subst hy
    rcases hj with hj | hj
    · omega
    · by_cases hx : x = y - 1
      · subst hx; exact hj
      · exact o.trans _ _ _ (h x (y - 1) h1 (by omega) (by omega) (by omega)) hj
  · exact h x y h1 (by omega) (by omega) hy
/-- a heap from l on: each parent is no less than its children -/
def Heap (lt : α → α → Bool) (l n : Nat) (f : Nat → α) : Prop := ∀ p c, l ≤ p → (c = 2 * p + 1 ∨ c = 2 * p + 2) → c < n → lt (f p) (f c) = false
/-- a heap from l on, but at r -/
def HeapBut (lt : α → α → Bool) (l n r : Nat) (f : Nat → α) : Prop :=
  (∀ p c, l ≤ p → p ≠ r → (c = 2 * p + 1 ∨ c = 2 * p + 2) → c < n → lt (f p) (f c) = false) ∧
  (∀ q c, l ≤ q → (r = 2 * q + 1 ∨ r = 2 * q + 2) → (c = 2 * r + 1 ∨ c = 2 * r + 2) → c < n → lt (f q) (f c) = false)
theorem heap_start {l n : Nat} (h : Heap lt (l + 1) n f) : HeapBut lt l n l f :=
  ⟨fun p c h1 h2 h3 h4 => h p c (by omega) h3 h4, fun q c h1 h2 h3 h4 => by omega⟩
theorem heap_leaf {l n r : Nat} (h : HeapBut lt l n r f) (hr : n ≤ 2 * r + 1) : Heap lt l n f := fun p c h1 h2 h3 => by
  by_cases hp : p = r
  · omega
  · exact h.1 p c h1 hp h2 h3
theorem heap_stop {l n r c : Nat} (o : Ord lt) (h : HeapBut lt l n r f) (hc : c = 2 * r + 1 ∨ c = 2 * r + 2)
    (hbig : ∀ d, d = 2 * r + 1 ∨ d = 2 * r + 2 → d < n → lt (f c) (f d) = false) (hs : lt (f r) (f c) = false) : Heap lt l n f := fun p d h1 h2 h3 => by
  by_cases hp : p = r
  · subst hp
    exact o.trans _ _ _ (hbig d h2 h3) hs
  · exact h.1 p d h1 hp h2 h3
theorem heap_step {l n r c : Nat} (o : Ord lt) (hl : l ≤ r) (h : HeapBut lt l n r f) (hc : c = 2 * r + 1 ∨ c = 2 * r + 2) (hcn : c < n)
    (hbig : ∀ d, d = 2 * r + 1 ∨ d = 2 * r + 2 → d < n → lt (f c) (f d) = false) (hs : lt (f r) (f c) = true) : HeapBut lt l n c (swp f r c) := by
  refine ⟨fun p d h1 h2 h3 h4 => ?_, fun q d h1 h2 h3 h4 => ?_⟩
  · by_cases hp : p = r
    · subst hp
      rw [swp_l]
      by_cases hd : d = c
      · subst hd; rw [swp_r]; exact o.asym _ _ hs
      · rw [swp_o (by omega) hd]; exact hbig d h3 h4
    · rw [swp_o hp h2]
      by_cases hd : d = r
      · subst hd
        rw [swp_l]
        exact h.2 p c h1 h3 hc hcn
      · rw [swp_o hd (by omega)]; exact h.1 p d h1 hp h3 h4
  · obtain rfl : q = r := by omega
    rw [swp_l, swp_o (by omega) (by omega)]
    exact h.1 c d (by omega) (by omega) h3 h4
theorem heap_top {n : Nat} (o : Ord lt) (h : Heap lt 0 n f) : ∀ k, k < n → lt (f 0) (f k) = false := by
  intro k
  induction k using Nat.strongRecOn with
  | ind k ih =>
    intro hk
    by_cases h0 : k = 0
    · subst h0; exact o.irrefl _
    · exact o.trans _ _ _ (h ((k - 1) / 2) k (by omega) (by omega) hk) (ih ((k - 1) / 2) (by omega) (by omega))
/-- a row's part, and the row moved -/
def shf (f : Nat → α) (o : Nat) : Nat → α := fun k => f (o + k)
theorem shf_swp {o : Nat} : shf (swp f (o + i) (o + j)) o = swp (shf f o) i j := by
  funext k
  simp only [shf, swp]
  by_cases h1 : k = i
  · subst h1; simp
  · by_cases h2 : k = j
    · subst h2; rw [if_neg (by omega), if_pos rfl, if_neg h1, if_pos rfl]
    · rw [if_neg (by omega), if_neg (by omega), if_neg h1, if_neg h2]
end
end Go.Ev

namespace Go.Ev
open Go
/-- a string's value -/
def sv (l : List UInt8) : AV := .str l.length (encB l)
theorem sv_inj {a b : List UInt8} (h : sv a = sv b) : a = b := by
  unfold sv at h
  injection h with h1 h2
  exact encB_inj h1 h2
section
variable {h : AH}
theorem sv_mv (a : List UInt8) : (sv a).mv = true := rfl
theorem move_sv {a : List UInt8} : oMove (.c (sv a)) .leaf [] h = .val (sv a) h := rfl
theorem cells_sv {a : List UInt8} : cellsOf (sv a) = some [sv a] := rfl
theorem len_sv {a : List UInt8} : oLen .str (.c (sv a)) .leaf [] h = .val (.int .i64 (a.length : Int)) h := len_str
theorem add_sv {a b : List UInt8} (hl : a.length + b.length ≤ 9223372036854775807) : oBin .add (.c (sv a)) (.c (sv b)) .leaf [] h = .val (sv (a ++ b)) h := by
  show bi (Nat.ble (a.length + b.length) 9223372036854775807) (fN (a.length + b.length) fun n => fN (Nat.add (encB a) (Nat.mul (encB b) (Nat.pow 256 a.length))) fun m => OR.val (AV.str n m) h) (F 27) = _
  rw [bi_eq, if_pos (Nat.ble_eq.mpr hl), fN_eq, fN_eq]
  unfold sv
  rw [encB_append, List.length_append]
  rfl
theorem sv_iff {a b : List UInt8} : (a.length = b.length ∧ encB a = encB b) ↔ a = b := ⟨fun h => encB_inj h.1 h.2, fun h => by subst h; exact ⟨rfl, rfl⟩⟩
theorem eq_sv {neg : Bool} {a b : List UInt8} : oEq neg .num (.c (sv a)) (.c (sv b)) .leaf [] h = .val (.bool (if neg then !decide (a = b) else decide (a = b))) h := by
  have e : decide (a.length = b.length ∧ encB a = encB b) = decide (a = b) := by rw [decide_eq_decide]; exact sv_iff
  unfold sv
  rw [eq_str, e]
theorem eqS_sv {a b : List UInt8} : eqS .str (sv a) (sv b) = some (decide (a = b)) := by
  have e : decide (a.length = b.length ∧ encB a = encB b) = decide (a = b) := by rw [decide_eq_decide]; exact sv_iff
  show some (bi (Nat.beq a.length b.length) (Nat.beq (encB a) (encB b)) false) = _
  rw [← e, bi_eq, beq_nat, beq_nat]
  by_cases h1 : a.length = b.length <;> by_cases h2 : encB a = encB b <;> simp [h1, h2]
theorem lit_sv {n m : Nat} (l : List UInt8) (h1 : l.length = n) (h2 : encB l = m) : AV.str n m = sv l := by subst h1; subst h2; rfl
theorem idx_sv {a : List UInt8} {i : Nat} {k : IntKind} {b : UInt8} (hb : a[i]? = some b) : oIdxS (.c (sv a)) (.c (.int k (i : Int))) .leaf [] h = .val (.int .u8 (b.toNat : Int)) h := by
  have hi : i < a.length := by
    rcases Nat.lt_or_ge i a.length with h | h
    · exact h
    · rw [List.getElem?_eq_none h] at hb; cases hb
  have e : encB a / 256 ^ i % 256 = b.toNat := by
    rw [encB_drop, encB_head, List.getElem?_drop, Nat.add_zero, hb]; rfl
  show bi (Nat.ble (Nat.succ i) a.length) _ _ = _
  rw [bi_eq, if_pos (Nat.ble_eq.mpr hi)]
  simp only [fN_eq]
  rw [← e]
  rfl
theorem op_sliceS2 {loc : T AV} {tmp : List AV} {x lo hi : Opd} : evOp (.sliceS x (some lo) (some hi)) loc tmp h = oSliceS (.c (ev loc tmp x)) (some (.c (ev loc tmp lo))) (some (.c (ev loc tmp hi))) .leaf [] h := rfl
theorem op_sliceSl {loc : T AV} {tmp : List AV} {x lo : Opd} : evOp (.sliceS x (some lo) none) loc tmp h = oSliceS (.c (ev loc tmp x)) (some (.c (ev loc tmp lo))) none .leaf [] h := rfl
theorem op_sliceSh {loc : T AV} {tmp : List AV} {x hi : Opd} : evOp (.sliceS x none (some hi)) loc tmp h = oSliceS (.c (ev loc tmp x)) none (some (.c (ev loc tmp hi))) .leaf [] h := rfl
theorem slice_core {a : List UInt8} {lo hi : Nat} (h1 : lo ≤ hi) (h2 : hi ≤ a.length) : AV.str (hi - lo) (encB a / 256 ^ lo % 256 ^ (hi - lo)) = sv ((a.drop lo).take (hi - lo)) := by
  unfold sv
  rw [encB_drop, encB_take _ _ (by rw [List.length_drop]; omega), List.length_take, List.length_drop, Nat.min_eq_left (by omega)]
theorem slice_sv {a : List UInt8} {lo hi : Nat} {k k' : IntKind} (h1 : lo ≤ hi) (h2 : hi ≤ a.length) : oSliceS (.c (sv a)) (some (.c (.int k (lo : Int)))) (some (.c (.int k' (hi : Int)))) .leaf [] h = .val (sv ((a.drop lo).take (hi - lo))) h := by
  show bi (Nat.ble hi a.length) (bi (Nat.ble lo hi) (fN (Nat.sub hi lo) fun n => fN (Nat.mod (Nat.div (encB a) (Nat.pow 256 lo)) (Nat.pow 256 n)) fun m => OR.val (AV.str n m) h) (F 33)) (F 33) = _
  rw [bi_eq, if_pos (Nat.ble_eq.mpr h2), bi_eq, if_pos (Nat.ble_eq.mpr h1), fN_eq, fN_eq, ← slice_core h1 h2]
  rfl
theorem slice_svl {a : List UInt8} {lo : Nat} {k : IntKind} (h1 : lo ≤ a.length) : oSliceS (.c (sv a)) (some (.c (.int k (lo : Int)))) none .leaf [] h = .val (sv (a.drop lo)) h := by
  show bi (Nat.ble a.length a.length) (bi (Nat.ble lo a.length) (fN (Nat.sub a.length lo) fun n => fN (Nat.mod (Nat.div (encB a) (Nat.pow 256 lo)) (Nat.pow 256 n)) fun m => OR.val (AV.str n m) h) (F 33)) (F 33) = _
  rw [bi_eq, if_pos (Nat.ble_eq.mpr (Nat.le_refl _)), bi_eq, if_pos (Nat.ble_eq.mpr h1), fN_eq, fN_eq]
  have := slice_core (a := a) h1 (Nat.le_refl _)
  rw [List.take_of_length_le (by rw [List.length_drop]; omega)] at this
  rw [← this]
  rfl
theorem slice_svh {a : List UInt8} {hi : Nat} {k : IntKind} (h2 : hi ≤ a.length) : oSliceS (.c (sv a)) none (some (.c (.int k (hi : Int)))) .leaf [] h = .val (sv (a.take hi)) h := by
  show bi (Nat.ble hi a.length) (bi (Nat.ble 0 hi) (fN (Nat.sub hi 0) fun n => fN (Nat.mod (Nat.div (encB a) (Nat.pow 256 0)) (Nat.pow 256 n)) fun m => OR.val (AV.str n m) h) (F 33)) (F 33) = _
  rw [bi_eq, if_pos (Nat.ble_eq.mpr h2), bi_eq, if_pos (Nat.ble_eq.mpr (Nat.zero_le _)), fN_eq, fN_eq]
  have := slice_core (a := a) (Nat.zero_le hi) h2
  rw [List.drop_zero, Nat.sub_zero] at this
  rw [← this]
  rfl
theorem op_idxS {loc : T AV} {tmp : List AV} {x i : Opd} : evOp (.idxS x i) loc tmp h = oIdxS (.c (ev loc tmp x)) (.c (ev loc tmp i)) .leaf [] h := rfl
end
end Go.Ev

namespace Go.Ev
open Go
section
variable {loc : T AV} {tmp : List AV} {h : AH} {tab : Nat → Option AFunc} {d : List AV} {a b : ACode} {Q : Res → Prop}
theorem wc_if {c : Opd} (p : Prop) [Decidable p] (hc : ev loc [] c = .bool (decide p)) (h1 : p → WC tab a loc d h Q) (h2 : ¬ p → WC tab b loc d h Q) : WC tab (.cond c a b) loc d h Q :=
  wc_cond hc (fun e => h1 (of_decide_eq_true e)) (fun e => h2 (of_decide_eq_false e))
theorem wc_yes {c : Opd} (hc : ev loc [] c = .bool true) (h1 : WC tab a loc d h Q) : WC tab (.cond c a b) loc d h Q := wc_cond hc (fun _ => h1) (fun e => by cases e)
theorem wc_no {c : Opd} (hc : ev loc [] c = .bool false) (h1 : WC tab b loc d h Q) : WC tab (.cond c a b) loc d h Q := wc_cond hc (fun e => by cases e) (fun _ => h1)
theorem wrap_add {m n : Nat} (hb : m + n < 9223372036854775808) : IntKind.i64.wrap ((m : Int) + (n : Int)) = ((m + n : Nat) : Int) := by
  rw [← Int.natCast_add]; exact wrap_nat hb
theorem wrap_sub {m n : Nat} (h1 : n ≤ m) (hb : m < 9223372036854775808) : IntKind.i64.wrap ((m : Int) - (n : Int)) = ((m - n : Nat) : Int) := by
  rw [show (m : Int) - (n : Int) = ((m - n : Nat) : Int) by omega]; exact wrap_nat (by omega)
theorem wrap_mul {m n : Nat} (hb : m * n < 9223372036854775808) : IntKind.i64.wrap ((m : Int) * (n : Int)) = ((m * n : Nat) : Int) := by
  rw [← Int.natCast_mul]; exact wrap_nat hb
theorem lt_nat {m n : Nat} : ((m : Int) < (n : Int)) = (m < n) := by rw [Int.ofNat_lt]
theorem le_nat {m n : Nat} : ((m : Int) ≤ (n : Int)) = (m ≤ n) := by rw [Int.ofNat_le]
theorem eq_nat {m n : Nat} : ((m : Int) = (n : Int)) = (m = n) := by rw [Int.ofNat_inj]
theorem quo_nat {m n : Nat} (hn : 0 < n) (hb : m < 9223372036854775808) : oBin .quo (.c (.int .i64 (m : Int))) (.c (.int .i64 (n : Int))) .leaf [] h = .val (.int .i64 ((m / n : Nat) : Int)) h := by
  rw [bin_quo (by omega), show Int.tdiv (m : Int) (n : Int) = ((m / n : Nat) : Int) from rfl, wrap_nat (Nat.lt_of_le_of_lt (Nat.div_le_self _ _) hb)]
theorem rem_nat {k : IntKind} {m n : Nat} (hn : 0 < n) : oBin .rem (.c (.int k (m : Int))) (.c (.int k (n : Int))) .leaf [] h = .val (.int k ((m % n : Nat) : Int)) h := by
  rw [bin_rem (by omega)]; rfl
theorem idx_z {es id o l : Nat} {c : ACap} {k : IntKind} {m : Int} (h0 : 0 ≤ m) (h1 : m < (l : Int)) : oIdxAddr es (.c (.sl id o l c)) (.c (.int k m)) .leaf [] h = .val (.ptr id (o + m.toNat * es)) h := by
  obtain ⟨n, rfl⟩ := Int.eq_ofNat_of_zero_le h0
  exact idx_sl (by omega)
theorem obind_ite {α β : Type} {q : Prop} [Decidable q] {a b : α} {dd x : β} : obind (if q then some a else some b) dd (fun _ => x) = x := by split <;> rfl
/-- a row of integers in cells -/
def IArr (c : T AV) (o n : Nat) (f : Nat → Int) : Prop := ∀ i, i < n → c.get (o + i) = some (.int .i64 (f i))
theorem IArr.swap {c : T AV} {o n i j : Nat} {f : Nat → Int} (x : IArr c o n f) (hi : i < n) (hj : j < n) : IArr (T.put (some (.int .i64 (f i))) (T.put (some (.int .i64 (f j))) c (o + i)) (o + j)) o n (swp f i j) := by
  intro k hk
  rw [T.get_put, T.get_put, swp]
  by_cases h1 : k = j
  · subst h1
    rw [if_pos rfl]
    by_cases h2 : k = i
    · subst h2; rw [if_pos rfl]
    · rw [if_neg h2, if_pos rfl]
  · rw [if_neg (by omega)]
    by_cases h2 : k = i
    · subst h2; rw [if_pos rfl, if_pos rfl]
    · rw [if_neg (by omega), if_neg h2, if_neg h1]; exact x k hk
theorem IArr.put {c : T AV} {o n j : Nat} {f : Nat → Int} {z : Int} (x : IArr c o n f) : IArr (T.put (some (.int .i64 z)) c (o + j)) o n (fun k => if k = j then z else f k) := by
  intro k hk
  rw [T.get_put]
  by_cases h1 : k = j
  · subst h1; simp
  · rw [if_neg (by omega)]; simp only [if_neg h1]; exact x k hk
/-- what was there is there, but for one object -/
structure MoreBut (id : Nat) (h h' : AH) : Prop where
  next : h.next ≤ h'.next
  keep : ∀ k, k < h.next → k ≠ id → h'.mem.get k = h.mem.get k
theorem MoreBut.refl (id : Nat) (h : AH) : MoreBut id h h := ⟨Nat.le_refl _, fun _ _ _ => rfl⟩
theorem MoreBut.trans {id : Nat} {a b c : AH} (x : MoreBut id a b) (y : MoreBut id b c) : MoreBut id a c := ⟨Nat.le_trans x.next y.next, fun k h1 h2 => by rw [y.keep k (Nat.lt_of_lt_of_le h1 x.next) h2, x.keep k h1 h2]⟩
theorem MoreBut.set {id : Nat} {h h' : AH} (x : MoreBut id h h') (o : AObj) : MoreBut id h (h'.set id o) := ⟨by rw [AH.set_next]; exact x.next, fun k h1 h2 => by rw [AH.set_mem, T.get_put_ne _ _ _ _ (Ne.symm h2), x.keep k h1 h2]⟩
theorem More.but {h h' : AH} (x : More h h') (id : Nat) : MoreBut id h h' := ⟨x.next, fun k h1 _ => x.keep k h1⟩
end
end Go.Ev

namespace Go.Ev
open Go
/-- the rules -/
theorem EVR : type_of% (And.intro @obind_ite (And.intro @PO_nil (And.intro @PO_cons (And.intro @guardO_false (And.intro @guardO_true (And.intro @stepO_val (And.intro @stepO_enter (And.intro @guardB_none (And.intro @gb_any (And.intro @gb_bool (And.intro @ev_t (And.intro @evl (And.intro @ev_c (And.intro @nth_zero (And.intro @nth_succ (And.intro @T.get_put (And.intro @putOut_none (And.intro @putOut_some (And.intro @evs_nil (And.intro @evs_cons (And.intro @reads_nil (And.intro @op_move (And.intro @op_pick (And.intro @op_load (And.intro @op_loadN (And.intro @op_store (And.intro @op_nil (And.intro @op_bin (And.intro @op_eq (And.intro @op_not (And.intro @op_neg (And.intro @op_convI (And.intro @op_len (And.intro @op_idxAddr (And.intro @op_fieldAddr (And.intro @op_field (And.intro @op_extract (And.intro @op_callF (And.intro @op_alloc (And.intro @op_build (And.intro @move_int (And.intro @move_bool (And.intro @move_str (And.intro @move_ptr (And.intro @move_nilp (And.intro @move_sl (And.intro @move_nils (And.intro @move_agg (And.intro @bin_lss (And.intro @bin_leq (And.intro @bin_gtr (And.intro @bin_geq (And.intro @bin_add (And.intro @bin_sub (And.intro @bin_mul (And.intro @eq_int (And.intro @eq_str (And.intro @eq_bool (And.intro @eq_agg (And.intro @eqLz (And.intro @eqLs (And.intro @eqS_int (And.intro @eqS_bool (And.intro @not_bool (And.intro @len_sl (And.intro @len_nils (And.intro @len_str (And.intro @pick_bool (And.intro @fieldAddr_ptr (And.intro @fill_nil (And.intro @onCells_some (And.intro @obind_some (And.intro @obind_none (And.intro @bi_true (And.intro @bi_false (And.intro @load_cells (And.intro @loadN_cells (And.intro @store_cells (And.intro @cells_agg (And.intro @cells_int (And.intro @loadL_zero (And.intro @loadL_more (And.intro @storeL_nil (And.intro @storeL_cons (And.intro @llen_nil (And.intro @llen_cons (And.intro @beq_nat (And.intro @onNorm_norm (And.intro @onNorm_ret (And.intro @onNorm_exit (And.intro @atBlock_norm (And.intro @atBlock_ret (And.intro @atBlock_exit (And.intro @get_ofList (And.intro @AH.add_mem (And.intro @AH.add_next (And.intro @AH.set_mem (And.intro @AH.set_next (And.intro @op_max (And.intro @op_min (And.intro @max_int (And.intro @min_int (And.intro @convI_int (And.intro @nil_ptr (And.intro @op_box (And.intro @box_agg (And.intro @op_bslice (And.intro @fill_cons (And.intro @op_append (And.intro @AH.kill_mem (And.intro @AH.kill_next (And.intro @ltake_eq (And.intro @ldrop_eq (And.intro @lapp_eq (And.intro @ble_nat (And.intro @add_nat (And.intro @cells_str (And.intro @cells_sl (And.intro @cells_bool (And.intro @lt_nat (And.intro @le_nat (@eq_nat)))))))))))))))))))))))))))))))))))))))))))))))))))))))))))))))))))))))))))))))))))))))))))))))))))))))))))))))))))))))))) := And.intro @obind_ite (And.intro @PO_nil (And.intro @PO_cons (And.intro @guardO_false (And.intro @guardO_true (And.intro @stepO_val (And.intro @stepO_enter (And.intro @guardB_none (And.intro @gb_any (And.intro @gb_bool (And.intro @ev_t (And.intro @evl (And.intro @ev_c (And.intro @nth_zero (And.intro @nth_succ (And.intro @T.get_put (And.intro @putOut_none (And.intro @putOut_some (And.intro @evs_nil (And.intro @evs_cons (And.intro @reads_nil (And.intro @op_move (And.intro @op_pick (And.intro @op_load (And.intro @op_loadN (And.intro @op_store (And.intro @op_nil (And.intro @op_bin (And.intro @op_eq (And.intro @op_not (And.intro @op_neg (And.intro @op_convI (And.intro @op_len (And.intro @op_idxAddr (And.intro @op_fieldAddr (And.intro @op_field (And.intro @op_extract (And.intro @op_callF (And.intro @op_alloc (And.intro @op_build (And.intro @move_int (And.intro @move_bool (And.intro @move_str (And.intro @move_ptr (And.intro @move_nilp (And.intro @move_sl (And.intro @move_nils (And.intro @move_agg (And.intro @bin_lss (And.intro @bin_leq (And.intro @bin_gtr (And.intro @bin_geq (And.intro @bin_add (And.intro @bin_sub (And.intro @bin_mul (And.intro @eq_int (And.intro @eq_str (And.intro @eq_bool (And.intro @eq_agg (And.intro @eqLz (And.intro @eqLs (And.intro @eqS_int (And.intro @eqS_bool (And.intro @not_bool (And.intro @len_sl (And.intro @len_nils (And.intro @len_str (And.intro @pick_bool (And.intro @fieldAddr_ptr (And.intro @fill_nil (And.intro @onCells_some (And.intro @obind_some (And.intro @obind_none (And.intro @bi_true (And.intro @bi_false (And.intro @load_cells (And.intro @loadN_cells (And.intro @store_cells (And.intro @cells_agg (And.intro @cells_int (And.intro @loadL_zero (And.intro @loadL_more (And.intro @storeL_nil (And.intro @storeL_cons (And.intro @llen_nil (And.intro @llen_cons (And.intro @beq_nat (And.intro @onNorm_norm (And.intro @onNorm_ret (And.intro @onNorm_exit (And.intro @atBlock_norm (And.intro @atBlock_ret (And.intro @atBlock_exit (And.intro @get_ofList (And.intro @AH.add_mem (And.intro @AH.add_next (And.intro @AH.set_mem (And.intro @AH.set_next (And.intro @op_max (And.intro @op_min (And.intro @max_int (And.intro @min_int (And.intro @convI_int (And.intro @nil_ptr (And.intro @op_box (And.intro @box_agg (And.intro @op_bslice (And.intro @fill_cons (And.intro @op_append (And.intro @AH.kill_mem (And.intro @AH.kill_next (And.intro @ltake_eq (And.intro @ldrop_eq (And.intro @lapp_eq (And.intro @ble_nat (And.intro @add_nat (And.intro @cells_str (And.intro @cells_sl (And.intro @cells_bool (And.intro @lt_nat (And.intro @le_nat (@eq_nat)))))))))))))))))))))))))))))))))))))))))))))))))))))))))))))))))))))))))))))))))))))))))))))))))))))))))))))))))))))))))
/-- common rules -/
theorem EVC : type_of% (And.intro @Bool.true_eq_false (And.intro @Bool.false_eq_true (And.intro @Option.getD_some.{0} (And.intro @Option.getD_none.{0} (And.intro @List.getElem?_cons_zero.{0} (And.intro @List.getElem?_cons_succ.{0} (And.intro @List.getElem?_nil.{0} (And.intro @decide_true (And.intro @decide_false (And.intro @decide_eq_true_eq (And.intro @decide_eq_false_iff_not (And.intro @Int.ofNat_eq_natCast (And.intro @eq_self.{1} (And.intro @true_implies (And.intro @true_and (And.intro @and_true (And.intro @false_implies (And.intro @Bool.not_true (And.intro @Bool.not_false (And.intro @Nat.zero_add (And.intro @Nat.add_zero (And.intro @List.take_succ_cons.{0} (And.intro @List.take_zero.{0} (And.intro @List.drop_succ_cons.{0} (And.intro @List.drop_nil.{0} (And.intro @List.nil_append.{0} (And.intro @List.cons_append.{0} (And.intro @List.append_nil.{0} (And.intro @List.drop_zero.{0} (And.intro @Nat.le_refl (And.intro @Nat.mul_one (And.intro @not_true_eq_false (And.intro @not_false_eq_true (@ite_self.{1})))))))))))))))))))))))))))))))))) := And.intro @Bool.true_eq_false (And.intro @Bool.false_eq_true (And.intro @Option.getD_some.{0} (And.intro @Option.getD_none.{0} (And.intro @List.getElem?_cons_zero.{0} (And.intro @List.getElem?_cons_succ.{0} (And.intro @List.getElem?_nil.{0} (And.intro @decide_true (And.intro @decide_false (And.intro @decide_eq_true_eq (And.intro @decide_eq_false_iff_not (And.intro @Int.ofNat_eq_natCast (And.intro @eq_self.{1} (And.intro @true_implies (And.intro @true_and (And.intro @and_true (And.intro @false_implies (And.intro @Bool.not_true (And.intro @Bool.not_false (And.intro @Nat.zero_add (And.intro @Nat.add_zero (And.intro @List.take_succ_cons.{0} (And.intro @List.take_zero.{0} (And.intro @List.drop_succ_cons.{0} (And.intro @List.drop_nil.{0} (And.intro @List.nil_append.{0} (And.intro @List.cons_append.{0} (And.intro @List.append_nil.{0} (And.intro @List.drop_zero.{0} (And.intro @Nat.le_refl (And.intro @Nat.mul_one (And.intro @not_true_eq_false (And.intro @not_false_eq_true (@ite_self.{1})))))))))))))))))))))))))))))))))
/-- rules with side conditions on numbers -/
theorem EVN : type_of% (And.intro @wrap_mul (And.intro @wrap_add (And.intro @wrap_sub (And.intro @wrap_nat (And.intro @idx_sl (And.intro @quo_nat (@rem_nat))))))) := And.intro @wrap_mul (And.intro @wrap_add (And.intro @wrap_sub (And.intro @wrap_nat (And.intro @idx_sl (And.intro @quo_nat (@rem_nat))))))
/-- all of them -/
theorem ER : type_of% (And.intro EVR (And.intro EVN EVC)) := And.intro EVR (And.intro EVN EVC)
end Go.Ev

namespace Go.Ev
open Go Go.ChangeShapes Go.RowKit
/-- data of a type, in an abstract heap -/
inductive RdD (P : Program) (h : AH) : TypeId → List AV → Prop
  | bool {t : TypeId} {b : Bool} : P.underlying t = some .bool → RdD P h t [.bool b]
  | int {t : TypeId} {k : IntKind} {n : Int} : P.underlying t = some (.int k) → (Lit.int k n).wf = true → RdD P h t [.int k n]
  | str {t : TypeId} (s : ByteArray) : P.underlying t = some .string → s.size ≤ maxLen → RdD P h t [.str s.data.toList.length (encB s.data.toList)]
  | struct {t : TypeId} {fs : Array Field} {cs : List AV} : P.underlying t = some (.struct fs) → cs.length = P.cellsOf t → (∀ f ∈ fs.toList, RdD P h f.type ((cs.drop f.offset).take (P.cellsOf f.type))) → RdD P h t cs
  | array {t e : TypeId} {n : Nat} {cs : List AV} : P.underlying t = some (.array n e) → cs.length = P.cellsOf t → (∀ i, i < n → RdD P h e ((cs.drop (i * P.cellsOf e)).take (P.cellsOf e))) → RdD P h t cs
  | nils {t e : TypeId} : P.underlying t = some (.slice e) → RdD P h t [.nils]
  | emp {t e : TypeId} {id off : Nat} : P.underlying t = some (.slice e) → RdD P h t [.sl id off 0 (.known 0)]
  | sl {t e : TypeId} {id off len cap s : Nat} {c : T AV} (L : Nat → List AV) : P.underlying t = some (.slice e) → len ≤ cap → cap ≤ maxLen → h.mem.get id = some (.cells c s false true) → id < h.next →
      (∀ i, i < len → (L i).length = P.cellsOf e ∧ ∀ j, j < P.cellsOf e → c.get (off + i * P.cellsOf e + j) = (L i)[j]?) → (∀ i, i < len → RdD P h e (L i)) → RdD P h t [.sl id off len (.known cap)]
theorem RdD.more {P : Program} {h h' : AH} {t : TypeId} {l : List AV} (x : RdD P h t l) (m : More h h') : RdD P h' t l := by
  induction x with
  | bool a => exact .bool a
  | int a b => exact .int a b
  | str s a b => exact .str s a b
  | struct a b _ ih => exact .struct a b ih
  | array a b _ ih => exact .array a b ih
  | nils a => exact .nils a
  | emp a => exact .emp a
  | sl L a b c d e f _ ih => exact .sl L a b c (by rw [m.keep _ e]; exact d) (Nat.lt_of_lt_of_le e m.next) f ih
/-- fields that stand one behind the other -/
def consecB (P : Program) : List Field → Nat → Nat → Bool
  | [], off, tot => decide (off = tot)
  | f :: fs, off, tot => decide (f.offset = off) && consecB P fs (off + P.cellsOf f.type) tot
def deepT (P : Program) : Nat → TypeId → Bool
  | 0, _ => false
  | n + 1, t => match P.underlying t with
    | some .bool => true
    | some (.int _) => true
    | some .string => true
    | some (.struct fs) => fs.toList.all (fun f => deepT P n f.type) && consecB P fs.toList 0 (P.cellsOf t)
    | some (.array k e) => deepT P n e && decide (P.cellsOf t = k * P.cellsOf e)
    | some (.slice e) => deepT P n e && decide (0 < P.cellsOf e)
    | _ => false
theorem consecB_le {P : Program} : ∀ {fs : List Field} {off tot : Nat}, consecB P fs off tot = true → off ≤ tot ∧ ∀ f ∈ fs, off ≤ f.offset
  | [], off, tot, h => by
    simp only [consecB, decide_eq_true_eq] at h
    exact ⟨by omega, fun f hf => by cases hf⟩
  | f :: fs, off, tot, h => by
    simp only [consecB, Bool.and_eq_true, decide_eq_true_eq] at h
    obtain ⟨h1, h2⟩ := consecB_le h.2
    refine ⟨by omega, fun g hg => ?_⟩
    rcases List.mem_cons.1 hg with rfl | hg
    · omega
    · have := h2 g hg; omega
section
variable {H : Type} {enc : TypeId × Value → H} {P : Program} {w : World}
/-- what is shown of one datum -/
def InD (P : Program) (w : World) (t : TypeId) (cs : List Value) : Prop :=
  ∀ (ρ : Rho) (ah : AH), WR ρ ah w → AllRo ah → ∃ ρ' ah' l, VCs ρ' l cs ∧ WR ρ' ah' w ∧ ρ.le ρ' ∧ More ah ah' ∧ AllRo ah' ∧ RdD P ah' t l
theorem fields_in {cs : List Value} : ∀ (fs : List Field) (off : Nat), consecB P fs off cs.length = true → (∀ f ∈ fs, InD P w f.type ((cs.drop f.offset).take (P.cellsOf f.type))) → ∀ {ρ : Rho} {ah : AH}, WR ρ ah w → AllRo ah →
    ∃ ρ' ah' l, VCs ρ' l (cs.drop off) ∧ WR ρ' ah' w ∧ ρ.le ρ' ∧ More ah ah' ∧ AllRo ah' ∧ ∀ f ∈ fs, RdD P ah' f.type ((l.drop (f.offset - off)).take (P.cellsOf f.type))
  | [], off, hc, _, ρ, ah, W, A => by
    simp only [consecB, decide_eq_true_eq] at hc
    refine ⟨ρ, ah, [], ?_, W, ρ.le_refl, More.refl ah, A, fun f hf => by cases hf⟩
    rw [List.drop_eq_nil_of_le (by omega)]
    exact .nil
  | f :: fs, off, hc, hI, ρ, ah, W, A => by
    have hc0 := hc
    simp only [consecB, Bool.and_eq_true, decide_eq_true_eq] at hc
    obtain ⟨ho, hc⟩ := hc
    have hle := (consecB_le hc).1
    obtain ⟨ρ1, ah1, l1, a1, a2, a3, a4, a5, a6⟩ := hI f (by simp) _ _ W A
    obtain ⟨ρ2, ah2, l2, b1, b2, b3, b4, b5, b6⟩ := fields_in fs (off + P.cellsOf f.type) hc (fun g hg => hI g (by simp [hg])) a2 a5
    rw [ho] at a1
    have hl1 : l1.length = P.cellsOf f.type := by
      rw [a1.length, List.length_take, List.length_drop]; omega
    refine ⟨ρ2, ah2, l1 ++ l2, ?_, b2, Rho.le_trans a3 b3, a4.trans b4, b5, fun g hg => ?_⟩
    · have e : cs.drop off = (cs.drop off).take (P.cellsOf f.type) ++ cs.drop (off + P.cellsOf f.type) := by
        rw [← List.drop_drop, List.take_append_drop]
      rw [e]
      exact (a1.mono b3).append b1
    · rcases List.mem_cons.1 hg with rfl | hg
      · rw [ho, Nat.sub_self, List.drop_zero, List.take_append_of_le_length (by omega), List.take_of_length_le (by omega)]
        exact a6.more b4
      · have h2 := (consecB_le hc).2 g hg
        have := b6 g hg
        rw [List.drop_append, List.drop_eq_nil_of_le (by omega), List.nil_append, show g.offset - off - l1.length = g.offset - (off + P.cellsOf f.type) by omega]
        exact this
/-- k elements, one behind the other -/
theorem elems_in {e : TypeId} {cs : List Value} : ∀ (k : Nat), k * P.cellsOf e ≤ cs.length → (∀ i, i < k → InD P w e ((cs.drop (i * P.cellsOf e)).take (P.cellsOf e))) → ∀ {ρ : Rho} {ah : AH}, WR ρ ah w → AllRo ah →
    ∃ ρ' ah' l, VCs ρ' l (cs.take (k * P.cellsOf e)) ∧ WR ρ' ah' w ∧ ρ.le ρ' ∧ More ah ah' ∧ AllRo ah' ∧ ∀ i, i < k → RdD P ah' e ((l.drop (i * P.cellsOf e)).take (P.cellsOf e))
  | 0, _, _, ρ, ah, W, A => ⟨ρ, ah, [], by rw [Nat.zero_mul, List.take_zero]; exact .nil, W, ρ.le_refl, More.refl ah, A, fun i hi => by omega⟩
  | k + 1, hl, hI, ρ, ah, W, A => by
    have hl' := hl
    rw [Nat.succ_mul] at hl'
    obtain ⟨ρ1, ah1, l1, a1, a2, a3, a4, a5, a6⟩ := elems_in k (by omega) (fun i hi => hI i (by omega)) W A
    obtain ⟨ρ2, ah2, l2, b1, b2, b3, b4, b5, b6⟩ := hI k (by omega) _ _ a2 a5
    have hl1 : l1.length = k * P.cellsOf e := by rw [a1.length, List.length_take]; omega
    have hl2 : l2.length = P.cellsOf e := by rw [b1.length, List.length_take, List.length_drop]; omega
    refine ⟨ρ2, ah2, l1 ++ l2, ?_, b2, Rho.le_trans a3 b3, a4.trans b4, b5, fun i hi => ?_⟩
    · rw [Nat.succ_mul, List.take_add]
      exact (a1.mono b3).append b1
    · by_cases hik : i < k
      · have h1 : (i + 1) * P.cellsOf e ≤ k * P.cellsOf e := Nat.mul_le_mul_right _ hik
        rw [Nat.succ_mul] at h1
        rw [List.drop_append_of_le_length (by omega), List.take_append_of_le_length (by rw [List.length_drop]; omega)]
        exact (a6 i hik).more b4
      · obtain rfl : i = k := by omega
        rw [List.drop_append, List.drop_eq_nil_of_le (by omega), List.nil_append, show i * P.cellsOf e - l1.length = 0 by omega, List.drop_zero, List.take_of_length_le (by omega)]
        exact b6
theorem deep_in : ∀ (m : Nat) {fuel : Nat} {t : TypeId} {cs : List Value} {x : DataW H × List MemPlace}, deepT P m t = true → DataW.trod enc P w 0 (fun _ => true) true fuel t cs = some x → InD P w t cs
  | 0, _, _, _, _, h, _ => by cases h
  | m + 1, fuel, t, cs, x, hf, h => by
    intro ρ ah W A
    unfold deepT at hf
    cases hu : P.underlying t with
    | none => rw [hu] at hf; cases hf
    | some d =>
      rw [hu] at hf
      cases d <;> try (cases hf; done)
      case bool =>
        obtain ⟨b, rfl⟩ : ∃ b, cs = [.bool b] := by
          cases fuel with
          | zero => simp [DataW.trod] at h
          | succ n => unfold DataW.trod at h; rw [hu] at h; split at h <;> simp_all
        exact ⟨ρ, ah, [.bool b], .cons rfl (.bool b) .nil, W, ρ.le_refl, More.refl ah, A, .bool hu⟩
      case int k =>
        obtain ⟨n, rfl, _, hw⟩ := DataW.trod_int hu h
        exact ⟨ρ, ah, [.int k n], .cons rfl (.int k n) .nil, W, ρ.le_refl, More.refl ah, A, .int hu hw⟩
      case string =>
        obtain ⟨s, rfl, _, hs⟩ := DataW.trod_string hu h
        exact ⟨ρ, ah, [.str s.data.toList.length (encB s.data.toList)], .cons rfl (.str s rfl rfl) .nil, W, ρ.le_refl, More.refl ah, A, .str s hu hs⟩
      case struct fs =>
        obtain ⟨xs, n, hn, _, hlen, hxs, hall⟩ := DataW.trod_struct hu h
        rw [Bool.and_eq_true, List.all_eq_true] at hf
        have part : ∀ f ∈ fs.toList, InD P w f.type ((cs.drop f.offset).take (P.cellsOf f.type)) := by
          intro f hfm
          obtain ⟨i, hi, e⟩ := List.getElem_of_mem hfm
          have hi' : i < fs.size := by simpa using hi
          have hg : fs[i]? = some f := by rw [Array.getElem?_eq_getElem hi']; simpa using e
          have := hall i f hg
          rw [List.getElem?_eq_getElem (by omega)] at this
          exact deep_in m (hf.1 f hfm) this
        obtain ⟨ρ1, ah1, l, a1, a2, a3, a4, a5, a6⟩ := fields_in fs.toList 0 (by rw [hlen]; exact hf.2) part W A
        rw [List.drop_zero] at a1
        exact ⟨ρ1, ah1, l, a1, a2, a3, a4, a5, .struct hu (by rw [a1.length, hlen]) fun f hfm => by simpa using a6 f hfm⟩
      case array k e =>
        obtain ⟨xs, n, hn, _, hlen, hxs, hall⟩ := DataW.trod_array hu h
        rw [Bool.and_eq_true, decide_eq_true_eq] at hf
        have part : ∀ i, i < k → InD P w e ((cs.drop (i * P.cellsOf e)).take (P.cellsOf e)) := by
          intro i hi
          have := hall i hi
          rw [List.getElem?_eq_getElem (by omega)] at this
          exact deep_in m hf.1 this
        obtain ⟨ρ1, ah1, l, a1, a2, a3, a4, a5, a6⟩ := elems_in k (by omega) part W A
        rw [List.take_of_length_le (by omega)] at a1
        exact ⟨ρ1, ah1, l, a1, a2, a3, a4, a5, .array hu (by rw [a1.length, hlen]) a6⟩
      case slice e =>
        rw [Bool.and_eq_true, decide_eq_true_eq] at hf
        rcases Deep.open_slice hu h with ⟨rfl, _⟩ | ⟨a, len, cap, m', n, D, Pl, rfl, _, hl, hm, hmm, _, hel⟩
        · exact ⟨ρ, ah, [.nils], .cons rfl .nils .nil, W, ρ.le_refl, More.refl ah, A, .nils hu⟩
        · have hmm : m' = cap := by simpa using hmm
          subst hmm
          rcases Nat.eq_zero_or_pos m' with hz | hpos
          · subst hz
            obtain rfl : len = 0 := by omega
            exact ⟨ρ, ah, [.sl 0 0 0 (.known 0)], .cons rfl .slz .nil, W, ρ.le_refl, More.refl ah, A, .emp hu⟩
          obtain ⟨b, off, sp⟩ := a
          obtain ⟨cs', h1, h2⟩ := hel 0 hpos
          obtain ⟨_, hlen, hget⟩ := World.cells?_some h1
          have hc0 := hget 0 hf.2
          rw [List.getElem?_eq_getElem (by omega)] at hc0
          have a00 : ((Addr.mk b off sp).add (0 * P.cellsOf e)).add 0 = ⟨b, off, sp⟩ := by rw [Nat.zero_mul]; rfl
          rw [a00] at hc0
          obtain ⟨cs0, row, fr, hblk, rfl⟩ : ∃ cs0 row fr, w.heap[b]? = some (.cells cs0 row fr) ∧ sp = none := by
            unfold World.cell? at hc0
            simp only at hc0
            split at hc0
            · rename_i c el fr hg
              refine ⟨c, el, fr, hg, ?_⟩
              cases sp with
              | none => rfl
              | some _ => simp at hc0
            · cases hc0
          have hcell : ∀ k, w.cell? ⟨b, off + k, none⟩ = cs0[off + k]? := fun k => by
            unfold World.cell?
            rw [hblk]
            simp
          have hcl : ∀ i, i < m' → ∃ cs', cs'.length = P.cellsOf e ∧ (∀ j, j < P.cellsOf e → cs0[off + (i * P.cellsOf e + j)]? = cs'[j]?) ∧ InD P w e cs' := by
            intro i hi
            obtain ⟨cs', h1, h2⟩ := hel i hi
            obtain ⟨_, hlen, hget⟩ := World.cells?_some h1
            refine ⟨cs', hlen, fun j hj => ?_, deep_in m hf.1 h2⟩
            rw [← hget j hj, add_off, add_off, Nat.add_assoc, hcell]
          let vals : List Value := (cs0.toList.drop off).take (len * P.cellsOf e)
          have hroom : off + m' * P.cellsOf e ≤ cs0.size := by
            obtain ⟨cs', g1, g2, _⟩ := hcl (m' - 1) (by omega)
            have := g2 (P.cellsOf e - 1) (by omega)
            rw [List.getElem?_eq_getElem (by omega)] at this
            have hlt : off + ((m' - 1) * P.cellsOf e + (P.cellsOf e - 1)) < cs0.size := by
              rcases Nat.lt_or_ge (off + ((m' - 1) * P.cellsOf e + (P.cellsOf e - 1))) cs0.size with hlt | hge
              · exact hlt
              · rw [Array.getElem?_eq_none hge] at this; cases this
            have e1 : m' * P.cellsOf e = (m' - 1) * P.cellsOf e + P.cellsOf e := by
              rw [← Nat.succ_mul]; congr 1; omega
            omega
          have hle : len * P.cellsOf e ≤ m' * P.cellsOf e := Nat.mul_le_mul_right _ hl
          have hvlen : vals.length = len * P.cellsOf e := by
            show ((cs0.toList.drop off).take (len * P.cellsOf e)).length = _
            rw [List.length_take, List.length_drop, Array.length_toList]
            omega
          have hvget : ∀ k, k < len * P.cellsOf e → vals[k]? = cs0[off + k]? := fun k hk => by
            show ((cs0.toList.drop off).take (len * P.cellsOf e))[k]? = _
            rw [List.getElem?_take_of_lt hk, List.getElem?_drop]
            simp
          have hpart : ∀ i, i < len → InD P w e ((vals.drop (i * P.cellsOf e)).take (P.cellsOf e)) := by
            intro i hi
            obtain ⟨cs', g1, g2, g3⟩ := hcl i (by omega)
            have h1 : (i + 1) * P.cellsOf e ≤ len * P.cellsOf e := Nat.mul_le_mul_right _ hi
            rw [Nat.succ_mul] at h1
            have e1 : (vals.drop (i * P.cellsOf e)).take (P.cellsOf e) = cs' := by
              refine List.ext_getElem? fun j => ?_
              by_cases hj : j < P.cellsOf e
              · rw [List.getElem?_take_of_lt hj, List.getElem?_drop, hvget _ (by omega), g2 j hj]
              · rw [List.getElem?_eq_none (by rw [List.length_take]; omega), List.getElem?_eq_none (by omega)]
            rw [e1]; exact g3
          obtain ⟨ρ1, ah1, l, a1, a2, a3, a4, a5, a6⟩ := elems_in len (by omega) hpart W A
          rw [List.take_of_length_le (by omega)] at a1
          have hll : l.length = len * P.cellsOf e := by rw [a1.length, hvlen]
          have hcg : ∀ k, (putL l T.leaf off).get k = if off ≤ k ∧ k < off + l.length then l[k - off]? else none := fun k => by rw [get_putL, T.get_leaf]
          have hobj : ObjR ρ1 (.cells (putL l T.leaf off) cs0.size false true) (.cells cs0 row fr) 0 cs0.size := by
            refine .cells (by omega) (Nat.le_refl _) (fun i x hi => ?_) (fun h => by cases h)
            rw [hcg] at hi
            split at hi
            · rename_i hk
              obtain ⟨v, hv, hr, hcl⟩ := a1.get hi
              rw [hvget _ (by omega), show off + (i - off) = i by omega] at hv
              exact ⟨by omega, hcl, v, by simpa using hv, hr⟩
            · cases hi
          obtain ⟨ρ', hρ, W', hle', A'⟩ := a2.addRo a5 (o := .cells (putL l T.leaf off) cs0.size false true) rfl hblk hobj
          refine ⟨ρ', ah1.add (.cells (putL l T.leaf off) cs0.size false true), [.sl ah1.next off len (.known m')], .cons rfl (.sl (by rw [hρ]; exact Rho.ext_self _ _ _) (by omega) (.known hl)) .nil, W', Rho.le_trans a3 hle', a4.trans (More.add ah1 _), A', ?_⟩
          refine .sl (fun i => (l.drop (i * P.cellsOf e)).take (P.cellsOf e)) hu hl hm (s := cs0.size) (c := putL l T.leaf off) (by rw [AH.add_mem, T.get_put_self]) (by rw [AH.add_next]; omega) (fun i hi => ?_) fun i hi => (a6 i hi).more (More.add ah1 _)
          have h1 : (i + 1) * P.cellsOf e ≤ len * P.cellsOf e := Nat.mul_le_mul_right _ hi
          rw [Nat.succ_mul] at h1
          refine ⟨by rw [List.length_take, List.length_drop]; omega, fun j hj => ?_⟩
          rw [hcg, if_pos (by omega), List.getElem?_take_of_lt hj, List.getElem?_drop]
          congr 1; omega
/-- an argument: the value of its cells -/
inductive RdA (P : Program) (h : AH) (t : TypeId) : AV → Prop
  | one {a : AV} : RdD P h t [a] → (∀ fs, P.underlying t ≠ some (.struct fs)) → RdA P h t a
  | agg {l : List AV} {fs : Array Field} : RdD P h t l → P.underlying t = some (.struct fs) → RdA P h t (.agg l)
inductive RdAs (P : Program) (h : AH) : List TypeId → List AV → Prop
  | nil : RdAs P h [] []
  | cons {t : TypeId} {ts : List TypeId} {a : AV} {l : List AV} : RdA P h t a → RdAs P h ts l → RdAs P h (t :: ts) (a :: l)
theorem RdA.more {h h' : AH} {t : TypeId} {a : AV} (x : RdA P h t a) (m : More h h') : RdA P h' t a := by
  cases x with
  | one a b => exact .one (a.more m) b
  | agg a b => exact .agg (a.more m) b
theorem RdAs.more {h h' : AH} : ∀ {ts : List TypeId} {l : List AV}, RdAs P h ts l → More h h' → RdAs P h' ts l
  | _, _, .nil, _ => .nil
  | _, _, .cons a b, m => .cons (a.more m) (b.more m)
/-- not an array at the top -/
def topT (P : Program) (t : TypeId) : Bool := deepT P 40 t && (match P.underlying t with | some (.array _ _) => false | _ => true)
theorem argD_in {base : Nat} {t : TypeId} {v : Value} {d : DataW H} {ps : List MemPlace} (ha : topT P t = true) (h : DataW.Trod enc P w 0 (fun _ => true) true t v d ps) (hok : Value.okWide P w .any base t v) {ρ : Rho} {ah : AH} (W : WR ρ ah w) (A : AllRo ah) :
    ∃ ρ' ah' a, VR ρ' a v ∧ WR ρ' ah' w ∧ ρ.le ρ' ∧ More ah ah' ∧ AllRo ah' ∧ RdA P ah' t a := by
  obtain ⟨fuel, h⟩ := h
  unfold topT at ha
  rw [Bool.and_eq_true] at ha
  obtain ⟨ρ1, ah1, l, a1, a2, a3, a4, a5, a6⟩ := deep_in 40 ha.1 h _ _ W A
  by_cases hs : ∃ fs, P.underlying t = some (.struct fs)
  · obtain ⟨fs, hs⟩ := hs
    simp only [Value.okWide, hs] at hok
    obtain ⟨cs, rfl, hsz, _⟩ := hok
    exact ⟨ρ1, ah1, .agg l, .agg a1 (by simp [Value.cells]), a2, a3, a4, a5, .agg a6 hs⟩
  · have hv : v.cells.toList = [v] := by
      have h1 := ha.1
      unfold deepT at h1
      cases hu : P.underlying t with
      | none => rw [hu] at h1; cases h1
      | some d =>
        rw [hu] at h1
        have h2 := ha.2
        rw [hu] at h2
        simp only [Value.okWide, hu] at hok
        cases d <;> try (cases h1; done)
        case struct fs => exact absurd ⟨fs, hu⟩ hs
        case array => cases h2
        all_goals (simp only [Cell.okWide, hu] at hok; cases v <;> first | rfl | (simp [Cell.ok, hu] at hok))
    rw [hv] at a1
    cases a1 with
    | cons c r n =>
      cases n
      exact ⟨ρ1, ah1, _, r, a2, a3, a4, a5, .one a6 fun fs e => hs ⟨fs, e⟩⟩
theorem argsD_in {base : Nat} : ∀ {ts : List TypeId} {vs : List Value} {ds : List (DataW H)} {ps : List MemPlace}, (∀ t ∈ ts, topT P t = true) → DataW.TrodAll enc P w 0 (fun _ => true) true ts vs ds ps →
    (∀ (j : Nat) t v, ts[j]? = some t → vs[j]? = some v → Value.okWide P w .any base t v) → ∀ {ρ : Rho} {ah : AH}, WR ρ ah w → AllRo ah →
    ∃ ρ' ah' l, VRs ρ' l vs ∧ WR ρ' ah' w ∧ ρ.le ρ' ∧ More ah ah' ∧ AllRo ah' ∧ RdAs P ah' ts l
  | [], vs, ds, ps, _, h, _, ρ, ah, W, A => by
    obtain ⟨rfl, _, _⟩ := trodAll_nil h
    exact ⟨ρ, ah, [], .nil, W, ρ.le_refl, More.refl ah, A, .nil⟩
  | t :: ts, vs, ds, ps, ha, h, hok, ρ, ah, W, A => by
    obtain ⟨v, vs', d, ds', p, q, rfl, rfl, rfl, h1, h2⟩ := trodAll_cons h
    obtain ⟨ρ1, ah1, a, g1, g2, g3, g4, g5, g6⟩ := argD_in (ha t (by simp)) h1 (hok 0 t v rfl rfl) W A
    obtain ⟨ρ2, ah2, l, k1, k2, k3, k4, k5, k6⟩ := argsD_in (fun x hx => ha x (by simp [hx])) h2 (fun j t v h1 h2 => hok (j + 1) t v (by simpa using h1) (by simpa using h2)) g2 g5
    exact ⟨ρ2, ah2, a :: l, .cons (g1.mono k3) k1, k2, Rho.le_trans g3 k3, g4.trans k4, k5, .cons (g6.more k4) k6⟩
/-- a law: what the abstract machine answers of all that reads so, the call answers -/
theorem lawD_calls {base : Nat} {tab : Nat → Option AFunc} (hm : P.follows .mixedOrders = true) (htab : TabOK P tab) {f : Nat} {ts : List TypeId} {vs : List Value} {ds : List (DataW H)} {ps : List MemPlace} (ha : ∀ t ∈ ts, topT P t = true)
    (h : DataW.TrodAll enc P w 0 (fun _ => true) true ts vs ds ps) (hok : ∀ (j : Nat) t v, ts[j]? = some t → vs[j]? = some v → Value.okWide P w .any base t v)
    (law : ∀ (ah : AH) (l : List AV), RdAs P ah ts l → GP tab f l ah fun v _ => v = .bool true) :
    Calls P f vs.toArray w fun e w' => e = .returned (.bool true) ∧ Below w.heap.size w w' := by
  obtain ⟨ρ, ah, l, k1, k2, _, _, k5, k6⟩ := argsD_in ha h hok (WR.empty w) (fun id o hg => by rw [T.get_leaf] at hg; cases hg)
  obtain ⟨v, h1, ⟨_, n, hn⟩, rfl⟩ := law ah l k6
  refine Calls.mono (evF_ok hm htab hn trivial k1 k2) fun e w' he => ?_
  obtain ⟨ρ', v', rfl, hv, W', S'⟩ := he
  cases hv
  refine ⟨rfl, S'.os, S'.tape, S'.output, S'.size, fun k hk => S'.frame hk ?_⟩
  rintro ⟨id, o, p, s, g1, g2, _⟩
  rw [k5 _ _ g1] at g2
  cases g2
end
end Go.Ev

namespace Go.Ev
open Go
section
variable {tab : Nat → Option AFunc} {h : AH}
theorem Gives.uniq {f : Nat} {args : List AV} {r r' : CR} (x : Gives tab f args h r) (y : Gives tab f args h r') : r = r' := by
  obtain ⟨n, hn⟩ := x.at
  obtain ⟨m, hm⟩ := y.at
  rw [← hn (max n m) (Nat.le_max_left _ _), ← hm (max n m) (Nat.le_max_right _ _)]
theorem gp_rw {f : Nat} {args : List AV} {v0 : AV} {h0 : AH} (g : GP tab f args h fun v h1 => v = v0 ∧ h1 = h0) {Q : AV → AH → Prop} : GP tab f args h Q = Q v0 h0 := by
  obtain ⟨v, h1, gi, rfl, rfl⟩ := g
  refine propext ⟨fun ⟨v', h', g', q⟩ => ?_, fun q => ⟨_, _, gi, q⟩⟩
  have := gi.uniq g'
  injection this with e1 e2
  subst e1; subst e2
  exact q
/-- a row of n integers from o on, in an object of which the rest stays -/
structure Seg (h0 : AH) (id o n s : Nat) (p : Bool) (c0 : T AV) (h : AH) (g : Nat → Int) : Prop where
  old : id < h0.next
  more : MoreBut id h0 h
  row : ∃ c, h.mem.get id = some (.cells c s p false) ∧ IArr c o n g ∧ ∀ k, (k < o ∨ o + n ≤ k) → c.get k = c0.get k
variable {h0 : AH} {id o n s : Nat} {p : Bool} {c0 : T AV} {g : Nat → Int}
theorem Seg.start {c : T AV} {f : Nat → Int} (hi : id < h.next) (hg : h.mem.get id = some (.cells c s p false)) (hc : IArr c o n f) : Seg h id o n s p c h f := ⟨hi, MoreBut.refl _ _, c, hg, hc, fun _ _ => rfl⟩
theorem Seg.swap {c : T AV} {X : AObj} {i j : Nat} (x : Seg h0 id o n s p c0 h g) (hc : IArr c o n g) (ho : ∀ k, (k < o ∨ o + n ≤ k) → c.get k = c0.get k) (hi : i < n) (hj : j < n) :
    Seg h0 id o n s p c0 ((h.set id X).set id (.cells (T.put (some (.int .i64 (g i))) (T.put (some (.int .i64 (g j))) c (o + i)) (o + j)) s p false)) (swp g i j) := by
  refine ⟨x.old, (x.more.set X).set _, _, AH.get_set, hc.swap hi hj, fun k hk => ?_⟩
  rw [T.get_put_ne _ _ _ _ (by omega), T.get_put_ne _ _ _ _ (by omega)]
  exact ho k hk
theorem Seg.on {h' : AH} {g' : Nat → Int} {c : T AV} (x : Seg h0 id o n s p c0 h g) (hc : ∀ k, (k < o ∨ o + n ≤ k) → c.get k = c0.get k) (y : Seg h id o n s p c h' g') : Seg h0 id o n s p c0 h' g' := by
  obtain ⟨a1, a2, c1, a3, a4, a5⟩ := y
  exact ⟨x.old, x.more.trans a2, c1, a3, a4, fun k hk => by rw [a5 k hk, hc k hk]⟩
theorem Seg.add (x : Seg h0 id o n s p c0 h g) (ob : AObj) : Seg h0 id o n s p c0 (h.add ob) g := by
  obtain ⟨a1, a2, c1, a3, a4, a5⟩ := x
  have := a2.next
  exact ⟨a1, a2.trans ((More.add h ob).but id), c1, by rw [AH.add_mem, T.get_put_ne _ _ _ _ (by omega)]; exact a3, a4, a5⟩
theorem Seg.other (x : Seg h0 id o n s p c0 h g) {k : Nat} (hk : h0.next ≤ k) (ob : AObj) : Seg h0 id o n s p c0 (h.set k ob) g := by
  obtain ⟨a1, a2, c1, a3, a4, a5⟩ := x
  refine ⟨a1, ⟨by rw [AH.set_next]; exact a2.next, fun i h1 h2 => by rw [AH.set_mem, T.get_put_ne _ _ _ _ (by omega)]; exact a2.keep i h1 h2⟩, c1, by rw [AH.set_mem, T.get_put_ne _ _ _ _ (by omega)]; exact a3, a4, a5⟩
end
end Go.Ev

namespace Go.Ev
open Go Go.ChangeShapes Go.RowKit
inductive Sh where
  | bool
  | int (k : IntKind)
  | str
  | struct (l : List Sh)
  | arr (n : Nat) (s : Sh)
  | slice (s : Sh)
mutual
def Sh.size : Sh → Nat
  | .bool => 1
  | .int _ => 1
  | .str => 1
  | .struct l => Sh.sizes l
  | .arr n s => n * s.size
  | .slice _ => 1
def Sh.sizes : List Sh → Nat
  | [] => 0
  | s :: l => s.size + Sh.sizes l
end
mutual
/-- data of a shape -/
def ShR (h : AH) : Sh → List AV → Prop
  | .bool, cs => ∃ b, cs = [.bool b]
  | .int k, cs => ∃ n, cs = [.int k n] ∧ (Lit.int k n).wf = true
  | .str, cs => ∃ l : List UInt8, cs = [sv l] ∧ l.length ≤ maxLen
  | .struct l, cs => ShRs h l cs
  | .arr n s, cs => cs.length = n * s.size ∧ ∀ i, i < n → ShR h s ((cs.drop (i * s.size)).take s.size)
  | .slice s, cs => cs = [.nils] ∨ (∃ id off, cs = [.sl id off 0 (.known 0)]) ∨ ∃ (id off len cap sz : Nat) (c : T AV) (L : Nat → List AV), cs = [.sl id off len (.known cap)] ∧ len ≤ cap ∧ cap ≤ maxLen ∧ h.mem.get id = some (.cells c sz false true) ∧ id < h.next ∧
      ∀ i, i < len → (L i).length = s.size ∧ (∀ j, j < s.size → c.get (off + i * s.size + j) = (L i)[j]?) ∧ ShR h s (L i)
def ShRs (h : AH) : List Sh → List AV → Prop
  | [], cs => cs = []
  | s :: l, cs => ∃ a b, cs = a ++ b ∧ a.length = s.size ∧ ShR h s a ∧ ShRs h l b
end
mutual
/-- a type has a shape -/
def shapeB (P : Program) : TypeId → Sh → Bool
  | t, .bool => (match P.underlying t with | some .bool => true | _ => false) && decide (P.cellsOf t = 1)
  | t, .int k => (match P.underlying t with | some (.int k') => decide (k = k') | _ => false) && decide (P.cellsOf t = 1)
  | t, .str => (match P.underlying t with | some .string => true | _ => false) && decide (P.cellsOf t = 1)
  | t, .struct l => match P.underlying t with | some (.struct fs) => shapesB P fs.toList 0 l && decide (P.cellsOf t = Sh.sizes l) | _ => false
  | t, .arr n s => match P.underlying t with | some (.array n' e) => decide (n = n') && (shapeB P e s && decide (P.cellsOf t = n * s.size)) | _ => false
  | t, .slice s => (match P.underlying t with | some (.slice e) => shapeB P e s | _ => false) && decide (P.cellsOf t = 1)
def shapesB (P : Program) : List Field → Nat → List Sh → Bool
  | [], _, [] => true
  | f :: fs, off, s :: l => decide (f.offset = off) && (shapeB P f.type s && shapesB P fs (off + s.size) l)
  | _, _, _ => false
end
theorem shapeB_size {P : Program} {t : TypeId} {s : Sh} (hb : shapeB P t s = true) : P.cellsOf t = s.size := by
  cases s with
  | bool => simp only [shapeB, Bool.and_eq_true, decide_eq_true_eq] at hb; exact hb.2
  | int k => simp only [shapeB, Bool.and_eq_true, decide_eq_true_eq] at hb; exact hb.2
  | str => simp only [shapeB, Bool.and_eq_true, decide_eq_true_eq] at hb; exact hb.2
  | slice s => simp only [shapeB, Bool.and_eq_true, decide_eq_true_eq] at hb; exact hb.2
  | struct l =>
    unfold shapeB at hb
    split at hb
    · rw [Bool.and_eq_true, decide_eq_true_eq] at hb; exact hb.2
    · cases hb
  | arr n s =>
    unfold shapeB at hb
    split at hb
    · simp only [Bool.and_eq_true, decide_eq_true_eq] at hb; exact hb.2.2
    · cases hb
mutual
theorem shape_rd {P : Program} {h : AH} : ∀ {t : TypeId} {s : Sh} {l : List AV}, shapeB P t s = true → RdD P h t l → ShR h s l
  | t, .bool, l, hb, x => by
    simp only [shapeB, Bool.and_eq_true, decide_eq_true_eq] at hb
    obtain ⟨hb, hc⟩ := hb
    split at hb
    · rename_i hu
      cases x <;> (rename_i hu2 <;> first | (exact ⟨_, rfl⟩) | skip)
      all_goals (simp_all)
    · cases hb
  | t, .int k, l, hb, x => by
    simp only [shapeB, Bool.and_eq_true, decide_eq_true_eq] at hb
    obtain ⟨hb, hc⟩ := hb
    split at hb
    · rename_i k' hu
      have hb : k = k' := of_decide_eq_true hb
      subst hb
      cases x
      case int k2 n h2 h1 =>
        rw [hu] at h1
        injection h1 with h1
        injection h1 with h1
        subst h1
        exact ⟨_, rfl, h2⟩
      all_goals (simp_all)
    · cases hb
  | t, .str, l, hb, x => by
    simp only [shapeB, Bool.and_eq_true, decide_eq_true_eq] at hb
    obtain ⟨hb, hc⟩ := hb
    split at hb
    · rename_i hu
      cases x
      case str s h2 h1 => exact ⟨s.data.toList, rfl, by simpa using h2⟩
      all_goals (simp_all)
    · cases hb
  | t, .struct ss, l, hb, x => by
    unfold shapeB at hb
    split at hb
    · rename_i fs hu
      rw [Bool.and_eq_true, decide_eq_true_eq] at hb
      cases x
      case struct fs2 h1 h2 h3 =>
        rw [hu] at h1
        injection h1 with h1
        injection h1 with h1
        subst h1
        have := shapes_rd (l := l) hb.1 (by rw [h3, hb.2]; omega) h2
        rwa [List.drop_zero] at this
      all_goals (simp_all)
    · cases hb
  | t, .arr n s, l, hb, x => by
    unfold shapeB at hb
    split at hb
    · rename_i n' e hu
      simp only [Bool.and_eq_true, decide_eq_true_eq] at hb
      obtain ⟨rfl, hb1, hb2⟩ := hb
      have hsz := shapeB_size hb1
      cases x
      case array n2 e2 h1 h2 h3 =>
        rw [hu] at h1
        injection h1 with h1
        injection h1 with h1 h1'
        subst h1; subst h1'
        refine ⟨by rw [h3, hb2], fun i hi => ?_⟩
        have := h2 i hi
        rw [hsz] at this
        exact shape_rd hb1 this
      all_goals (simp_all)
    · cases hb
  | t, .slice s, l, hb, x => by
    simp only [shapeB, Bool.and_eq_true, decide_eq_true_eq] at hb
    obtain ⟨hb, hc⟩ := hb
    split at hb
    · rename_i e hu
      have hsz := shapeB_size hb
      cases x
      case nils => exact .inl rfl
      case emp id off h1 => exact .inr (.inl ⟨_, _, rfl⟩)
      case sl e2 id off len cap sz c L h1 h2 h3 h4 h5 h6 h7 =>
        rw [hu] at h7
        injection h7 with h7
        injection h7 with h7
        subst h7
        rw [hsz] at h5
        exact .inr (.inr ⟨id, off, len, cap, sz, c, L, rfl, h1, h2, h3, h4, fun i hi => ⟨(h5 i hi).1, (h5 i hi).2, shape_rd hb (h6 i hi)⟩⟩)
      all_goals (simp_all)
    · cases hb
theorem shapes_rd {P : Program} {h : AH} {l : List AV} : ∀ {fs : List Field} {off : Nat} {ss : List Sh}, shapesB P fs off ss = true → off + Sh.sizes ss = l.length → (∀ f ∈ fs, RdD P h f.type ((l.drop f.offset).take (P.cellsOf f.type))) → ShRs h ss (l.drop off)
  | [], off, [], _, hl, _ => by
    simp only [Sh.sizes] at hl
    exact List.drop_eq_nil_of_le (by omega)
  | f :: fs, off, s :: ss, hb, hl, hx => by
    simp only [shapesB, Bool.and_eq_true, decide_eq_true_eq] at hb
    obtain ⟨ho, hb1, hb2⟩ := hb
    have hsz := shapeB_size hb1
    simp only [Sh.sizes] at hl
    have h1 := hx f (by simp)
    rw [ho, hsz] at h1
    refine ⟨(l.drop off).take s.size, l.drop (off + s.size), ?_, ?_, shape_rd hb1 h1, shapes_rd hb2 (by omega) fun g hg => hx g (by simp [hg])⟩
    · rw [← List.drop_drop, List.take_append_drop]
    · rw [List.length_take, List.length_drop]; omega
  | [], _, _ :: _, hb, _, _ => by cases hb
  | _ :: _, _, [], hb, _, _ => by cases hb
end
/-- a slice that is read alone, of data told by R -/
inductive SlD {α : Type} (h : AH) (es : Nat) (R : List AV → α → Prop) : AV → List α → Prop
  | nils : SlD h es R .nils []
  | emp {id off : Nat} : SlD h es R (.sl id off 0 (.known 0)) []
  | sl {id off cap sz : Nat} {c : T AV} {xs : List α} (E : Nat → List AV) : xs.length ≤ cap → cap ≤ maxLen → h.mem.get id = some (.cells c sz false true) → id < h.next →
      (∀ (i : Nat) (hi : i < xs.length), (E i).length = es ∧ (∀ j, j < es → c.get (off + i * es + j) = (E i)[j]?) ∧ R (E i) xs[i]) → SlD h es R (.sl id off xs.length (.known cap)) xs
theorem SlD.of {α : Type} {h : AH} {s : Sh} {R : List AV → α → Prop} {v : AV} (hR : ∀ cs, ShR h s cs → ∃ x, R cs x) (x : ShR h (.slice s) [v]) : ∃ xs, SlD h s.size R v xs := by
  rcases x with x | ⟨id, off, x⟩ | ⟨id, off, len, cap, sz, c, L, x, h1, h2, h3, h4, h5⟩
  · injection x with x; subst x; exact ⟨[], .nils⟩
  · injection x with x; subst x; exact ⟨[], .emp⟩
  · injection x with x; subst x
    have hex : ∀ i, i < len → ∃ x, R (L i) x := fun i hi => hR _ (h5 i hi).2.2
    obtain ⟨xs, hxl, hx⟩ : ∃ xs : List α, xs.length = len ∧ ∀ (i : Nat) (hi : i < xs.length), R (L i) xs[i] := by
      clear h1 h2 h5
      induction len with
      | zero => exact ⟨[], rfl, fun i hi => by cases hi⟩
      | succ n ih =>
        obtain ⟨xs, e, hx⟩ := ih fun i hi => hex i (by omega)
        obtain ⟨y, hy⟩ := hex n (by omega)
        refine ⟨xs ++ [y], by simp [e], fun i hi => ?_⟩
        by_cases h : i < xs.length
        · rw [List.getElem_append_left h]; exact hx i h
        · have : i = n := by simp [e] at hi; omega
          subst this
          rw [List.getElem_append_right (by omega)]
          simpa [e] using hy
    subst hxl
    exact ⟨xs, .sl L h1 h2 h3 h4 fun i hi => ⟨(h5 i hi).1, (h5 i hi).2.1, hx i hi⟩⟩
theorem SlD.more {α : Type} {h h' : AH} {es : Nat} {R R' : List AV → α → Prop} {v : AV} {xs : List α} (x : SlD h es R v xs) (m : More h h') (hR : ∀ cs y, R cs y → R' cs y) : SlD h' es R' v xs := by
  cases x with
  | nils => exact .nils
  | emp => exact .emp
  | sl E a b c d e => exact .sl E a b (by rw [m.keep _ d]; exact c) (Nat.lt_of_lt_of_le d m.next) fun i hi => ⟨(e i hi).1, (e i hi).2.1, hR _ _ (e i hi).2.2⟩
theorem SlD.len {α : Type} {h : AH} {es : Nat} {R : List AV → α → Prop} {v : AV} {xs : List α} (x : SlD h es R v xs) : ∀ h', oLen .sl (.c v) .leaf [] h' = .val (.int .i64 (xs.length : Int)) h' := by
  cases x with
  | nils => intro h'; rfl
  | emp => intro h'; exact len_sl
  | sl E => intro h'; exact len_sl
theorem SlD.mv {α : Type} {h : AH} {es : Nat} {R : List AV → α → Prop} {v : AV} {xs : List α} (x : SlD h es R v xs) : v.mv = true := by
  cases x <;> rfl
theorem SlD.cells {α : Type} {h : AH} {es : Nat} {R : List AV → α → Prop} {v : AV} {xs : List α} (x : SlD h es R v xs) : cellsOf v = some [v] := by
  cases x <;> rfl
theorem SlD.bound {α : Type} {h : AH} {es : Nat} {R : List AV → α → Prop} {v : AV} {xs : List α} (x : SlD h es R v xs) : xs.length ≤ maxLen := by
  cases x with
  | nils => exact Nat.zero_le _
  | emp => exact Nat.zero_le _
  | sl E a b => exact Nat.le_trans a b
theorem SlD.open {α : Type} {h : AH} {es : Nat} {R : List AV → α → Prop} {v : AV} {xs : List α} (x : SlD h es R v xs) (hn : 0 < xs.length) : ∃ (id off cap sz : Nat) (c : T AV) (E : Nat → List AV), v = .sl id off xs.length (.known cap) ∧ h.mem.get id = some (.cells c sz false true) ∧ id < h.next ∧
    ∀ (i : Nat) (hi : i < xs.length), (E i).length = es ∧ (∀ j, j < es → c.get (off + i * es + j) = (E i)[j]?) ∧ R (E i) xs[i] := by
  cases x with
  | nils => simp at hn
  | emp => simp at hn
  | sl E a b c d e => exact ⟨_, _, _, _, _, E, rfl, c, d, e⟩

/-! ### Slices that a call has made -/
structure Keep (b : Nat) (h h' : AH) : Prop where
  next : h.next ≤ h'.next
  keep : ∀ k, k < b → h'.mem.get k = h.mem.get k
theorem Keep.refl (b : Nat) (h : AH) : Keep b h h := ⟨Nat.le_refl _, fun _ _ => rfl⟩
theorem Keep.trans {b : Nat} {x y z : AH} (p : Keep b x y) (q : Keep b y z) : Keep b x z := ⟨Nat.le_trans p.next q.next, fun k hk => by rw [q.keep k hk, p.keep k hk]⟩
theorem Keep.less {b b' : Nat} {x y : AH} (p : Keep b x y) (h : b' ≤ b) : Keep b' x y := ⟨p.next, fun k hk => p.keep k (by omega)⟩
theorem Keep.more {h h' : AH} (p : Keep h.next h h') : More h h' := ⟨p.next, p.keep⟩
theorem More.keepAt {h h' : AH} (p : More h h') {b : Nat} (hb : b ≤ h.next) : Keep b h h' := ⟨p.next, fun k hk => p.keep k (by omega)⟩
theorem MoreBut.keepAt {id : Nat} {h h' : AH} (p : MoreBut id h h') {b : Nat} (hb : b ≤ h.next) (hi : b ≤ id) : Keep b h h' := ⟨p.next, fun k hk => p.keep k (by omega) (by omega)⟩
theorem Keep.set {b id : Nat} {h h' : AH} (p : Keep b h h') (hi : b ≤ id) (o : AObj) : Keep b h (h'.set id o) := ⟨by rw [AH.set_next]; exact p.next, fun k hk => by rw [AH.set_mem, T.get_put_ne _ _ _ _ (by omega)]; exact p.keep k hk⟩
theorem Keep.add {b : Nat} {h h' : AH} (p : Keep b h h') (hb : b ≤ h.next) (o : AObj) : Keep b h (h'.add o) := ⟨Nat.le_trans p.next (Nat.le_succ _), fun k hk => by have := p.next; rw [AH.add_mem, T.get_put_ne _ _ _ _ (by omega)]; exact p.keep k hk⟩
theorem Keep.kill {b id : Nat} {h h' : AH} (p : Keep b h h') (hi : b ≤ id) : Keep b h (h'.kill id) := ⟨by rw [AH.kill_next]; exact p.next, fun k hk => by rw [AH.kill_mem, T.get_put_ne _ _ _ _ (by omega)]; exact p.keep k hk⟩
/-- a slice from b on, of rows of es cells -/
inductive OwnL (h : AH) (b es : Nat) : AV → List (List AV) → Prop
  | nils : OwnL h b es .nils []
  | emp {id off : Nat} : OwnL h b es (.sl id off 0 (.known 0)) []
  | sl {id : Nat} {c : T AV} {xs : List (List AV)} : xs ≠ [] → b ≤ id → id < h.next → h.mem.get id = some (.cells c (xs.length * es) true false) →
      (∀ (i : Nat) (hi : i < xs.length), xs[i].length = es ∧ ∀ j, j < es → c.get (i * es + j) = xs[i][j]?) → OwnL h b es (.sl id 0 xs.length (.rest es)) xs
theorem OwnL.len {h : AH} {b es : Nat} {v : AV} {xs : List (List AV)} (x : OwnL h b es v xs) : ∀ h', oLen .sl (.c v) .leaf [] h' = .val (.int .i64 (xs.length : Int)) h' := by
  cases x with
  | nils => intro h'; rfl
  | emp => intro h'; rfl
  | sl => intro h'; exact len_sl
theorem OwnL.mv {h : AH} {b es : Nat} {v : AV} {xs : List (List AV)} (x : OwnL h b es v xs) : v.mv = true := by cases x <;> rfl
theorem OwnL.more {h h' : AH} {b es : Nat} {v : AV} {xs : List (List AV)} (x : OwnL h b es v xs) (m : More h h') : OwnL h' b es v xs := by
  cases x with
  | nils => exact .nils
  | emp => exact .emp
  | sl a1 a2 a3 a4 a5 => exact .sl a1 a2 (Nat.lt_of_lt_of_le a3 m.next) (by rw [m.keep _ a3]; exact a4) a5
theorem OwnL.open {h : AH} {b es : Nat} {v : AV} {xs : List (List AV)} (x : OwnL h b es v xs) (hn : 0 < xs.length) : ∃ (id : Nat) (c : T AV), v = .sl id 0 xs.length (.rest es) ∧ b ≤ id ∧ id < h.next ∧ h.mem.get id = some (.cells c (xs.length * es) true false) ∧
    ∀ (i : Nat) (hi : i < xs.length), xs[i].length = es ∧ ∀ j, j < es → c.get (i * es + j) = xs[i][j]? := by
  cases x with
  | nils => simp at hn
  | emp => simp at hn
  | sl a1 a2 a3 a4 a5 => exact ⟨_, _, rfl, a2, a3, a4, a5⟩
theorem append_emp {h : AH} {es b n id off : Nat} {x : AV} {new : List AV} (hs : ∀ k, srcCells es x h k = k n new) (hn : n ≠ 0) (hr : room n b = true) :
    oAppend es b (.c (.sl id off 0 (.known 0))) (.c x) .leaf [] h = .val (.sl h.next 0 n (.rest es)) (h.add (.cells (ofList new) (n * es) true false)) := by
  show srcCells es x h _ = _
  rw [hs]
  show bi (Nat.beq n 0) _ (bi (room n b) (AH.new h (AObj.cells (ofList new) (Nat.mul n es) true false) fun id h => OR.val (AV.sl id 0 n (ACap.rest es)) h) (F 48)) = _
  have e : Nat.beq n 0 = false := by cases n with | zero => exact absurd rfl hn | succ n => rfl
  rw [e, hr]
  simp only [bi_true, bi_false, AH.new_eq]
  rfl
/-- one more row -/
theorem OwnL.append {h : AH} {b es by' : Nat} {v : AV} {xs : List (List AV)} (x : OwnL h b es v xs) {src : AV} {new : List AV} (hs : ∀ k, srcCells es src h k = k 1 new) (hl : new.length = es) (he : 1 ≤ es) (hb : b ≤ h.next) (hx : xs.length < 1000000) (hby : by' ≤ 1000) :
    ∃ v' h', oAppend es by' (.c v) (.c src) .leaf [] h = .val v' h' ∧ OwnL h' b es v' (xs ++ [new]) ∧ Keep b h h' ∧ h'.next = h.next + 1 ∧ (∀ k, k < h.next → (∀ o n e, v ≠ .sl k o n (.rest e)) → h'.mem.get k = h.mem.get k) ∧ ∀ k o n c, v' = .sl k o n c → h.next ≤ k := by
  have fresh : ∀ k o n c, AV.sl h.next 0 1 (.rest es) = .sl k o n c → h.next ≤ k := fun k o n c e => by injection e with e; omega
  have one : OwnL (h.add (.cells (ofList new) (1 * es) true false)) b es (.sl h.next 0 1 (.rest es)) [new] := by
    refine OwnL.sl (xs := [new]) (c := ofList new) (by simp) hb (Nat.lt_succ_self _) (by rw [AH.add_mem, T.get_put_self]; simp) fun i hi => ?_
    obtain rfl : i = 0 := by simp at hi; omega
    refine ⟨hl, fun j hj => ?_⟩
    rw [Nat.zero_mul, Nat.zero_add, get_ofList]; rfl
  cases x with
  | nils =>
    exact ⟨_, _, append_nils hs (by omega) (room_small (by omega) hby), one, (Keep.refl b h).add hb _, rfl, fun k hk _ => by rw [AH.add_mem, T.get_put_ne _ _ _ _ (by omega)], fresh⟩
  | emp =>
    exact ⟨_, _, append_emp hs (by omega) (room_small (by omega) hby), one, (Keep.refl b h).add hb _, rfl, fun k hk _ => by rw [AH.add_mem, T.get_put_ne _ _ _ _ (by omega)], fresh⟩
  | sl a1 a2 a3 a4 a5 =>
    rename_i id c
    refine ⟨_, _, append_own (p := true) hs a4 rfl he (by omega) (room_small (by omega) hby), ?_, ((Keep.refl b h).kill a2).add hb _, by rw [AH.add_next, AH.kill_next], fun k hk hne => ?_, fun k o n c e => by injection e with e; omega⟩
    rotate_left
    · rw [AH.add_mem, AH.kill_next, T.get_put_ne _ _ _ _ (by omega), AH.kill_mem, T.get_put_ne _ _ _ _ (fun e => hne 0 xs.length es (by rw [e]))]
    have e : xs.length + 1 = (xs ++ [new]).length := by simp
    rw [e]
    refine OwnL.sl (c := putL new c (xs.length * es)) (by simp) hb (by rw [AH.add_next, AH.kill_next]; exact Nat.lt_succ_self _) (by rw [AH.add_mem, AH.kill_next, T.get_put_self]) fun i hi => ?_
    by_cases h1 : i < xs.length
    · rw [List.getElem_append_left h1]
      refine ⟨(a5 i h1).1, fun j hj => ?_⟩
      have h2 : (i + 1) * es ≤ xs.length * es := Nat.mul_le_mul_right _ h1
      rw [Nat.succ_mul] at h2
      rw [get_putL, if_neg (by omega)]
      exact (a5 i h1).2 j hj
    · obtain rfl : i = xs.length := by simp at hi; omega
      rw [List.getElem_append_right (Nat.le_refl _)]
      simp only [Nat.sub_self, List.getElem_cons_zero]
      refine ⟨hl, fun j hj => ?_⟩
      rw [get_putL, if_pos (by omega)]
      congr 1; omega
theorem OwnL.idx {h : AH} {b es : Nat} {v : AV} {xs : List (List AV)} (x : OwnL h b es v xs) {i : Nat} (hi : i < xs.length) : ∃ id c, b ≤ id ∧ id < h.next ∧ (∀ h' k, oIdxAddr es (.c v) (.c (.int k (i : Int))) .leaf [] h' = .val (.ptr id (i * es)) h') ∧ h.mem.get id = some (.cells c (xs.length * es) true false) ∧ xs[i].length = es ∧ ∀ j, j < es → c.get (i * es + j) = xs[i][j]? := by
  obtain ⟨id, c, rfl, h1, h2, h3, h4⟩ := x.open (by omega)
  refine ⟨id, c, h1, h2, fun h' k => ?_, h3, h4 i hi⟩
  rw [idx_sl hi, Nat.zero_add]
end Go.Ev
