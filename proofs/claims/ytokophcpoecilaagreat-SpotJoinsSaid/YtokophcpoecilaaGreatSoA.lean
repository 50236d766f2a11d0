/- Rows of records of four integers, in place. The rules of the abstract machine, for rows of records. Rows of records joined: by place and then sorted, or put where they belong. Sorting of records: the comparison. Sorting of records: insertion. Sorting of records: medians, the pivot, rows turned round. Sorting of records: heaps. Sorting of records: lengths in bits, and patterns that are broken. -/
import Derived.Test.YtokophcpoecilaaGreatEvH
import Derived.Test.YtokophcpoecilaaGreatCoA
set_option linter.unusedSimpArgs false
set_option linter.unusedVariables false
namespace Go.Ev
open Go
/-- a record -/
structure Rw where
  a : Int
  b : Int
  c : Int
  d : Int
def rl (r : Rw) : List AV := [.int .i64 r.a, .int .i64 r.b, .int .i64 r.c, .int .i64 r.d]
noncomputable def putR (r : Rw) (c : T AV) (k : Nat) : T AV := T.put (some (.int .i64 r.d)) (T.put (some (.int .i64 r.c)) (T.put (some (.int .i64 r.b)) (T.put (some (.int .i64 r.a)) c k) (k + 1)) (k + 1 + 1)) (k + 1 + 1 + 1)
def ltR (x y : Rw) : Bool := decide (x.a < y.a ∨ (x.a = y.a ∧ x.b < y.b))
theorem ordR : Ord ltR := ⟨fun x y h => by simp only [ltR, decide_eq_true_eq, decide_eq_false_iff_not] at *; omega, fun x y z h1 h2 => by simp only [ltR, decide_eq_false_iff_not] at *; omega⟩
theorem llen_rl {r : Rw} : llen (rl r) = 4 := rfl
theorem putR_get {r : Rw} {c : T AV} {k j : Nat} : (putR r c k).get j = if k + 1 + 1 + 1 = j then some (.int .i64 r.d) else if k + 1 + 1 = j then some (.int .i64 r.c) else if k + 1 = j then some (.int .i64 r.b) else if k = j then some (.int .i64 r.a) else c.get j := by
  rw [putR, T.get_put, T.get_put, T.get_put, T.get_put]
theorem putR_out {r : Rw} {c : T AV} {k j : Nat} (h : j < k ∨ k + 4 ≤ j) : (putR r c k).get j = c.get j := by
  rw [putR_get, if_neg (by omega), if_neg (by omega), if_neg (by omega), if_neg (by omega)]
/-- the cells of a record -/
structure R4 (e : T AV) (k : Nat) (r : Rw) : Prop where
  a : e.get k = some (.int .i64 r.a)
  b : e.get (k + 1) = some (.int .i64 r.b)
  c : e.get (k + 1 + 1) = some (.int .i64 r.c)
  d : e.get (k + 1 + 1 + 1) = some (.int .i64 r.d)
theorem R4.load {c : T AV} {k : Nat} {r : Rw} (x : R4 c k r) : loadL c 4 k = some (rl r) := by
  refine loadL_succ x.a (loadL_succ x.b (loadL_succ x.c (loadL_succ x.d rfl)))
theorem storeR {c : T AV} {k : Nat} {r : Rw} (h0 : c.get k ≠ none) (h1 : c.get (k + 1) ≠ none) (h2 : c.get (k + 1 + 1) ≠ none) (h3 : c.get (k + 1 + 1 + 1) ≠ none) : storeL (rl r) c k = some (putR r c k) := by
  have e : ∀ {x : Option AV} {d : Option (T AV)} {y : Option (T AV)}, x ≠ none → obind x d (fun _ => y) = y := fun {x} _ _ h => by cases x with | none => exact absurd rfl h | some _ => rfl
  rw [rl, storeL_cons, e h0, storeL_cons, e (by rw [T.get_put_ne _ _ _ _ (by omega)]; exact h1), storeL_cons, e (by rw [T.get_put_ne _ _ _ _ (by omega), T.get_put_ne _ _ _ _ (by omega)]; exact h2), storeL_cons, e (by rw [T.get_put_ne _ _ _ _ (by omega), T.get_put_ne _ _ _ _ (by omega), T.get_put_ne _ _ _ _ (by omega)]; exact h3), storeL_nil]
  rfl
theorem R4.store {c : T AV} {k : Nat} {r : Rw} (x : R4 c k r) (r' : Rw) : storeL (rl r') c k = some (putR r' c k) :=
  storeR (by rw [x.a]; exact fun h => by cases h) (by rw [x.b]; exact fun h => by cases h) (by rw [x.c]; exact fun h => by cases h) (by rw [x.d]; exact fun h => by cases h)
theorem putR_some {r : Rw} {c : T AV} {k j : Nat} (h : c.get j ≠ none) : (putR r c k).get j ≠ none := by
  rw [putR_get]
  split
  · exact fun h => by cases h
  split
  · exact fun h => by cases h
  split
  · exact fun h => by cases h
  split
  · exact fun h => by cases h
  exact h
theorem R4.store2 {c : T AV} {k : Nat} {r : Rw} (x : R4 c k r) (r' r2 : Rw) (k2 : Nat) : storeL (rl r') (putR r2 c k2) k = some (putR r' (putR r2 c k2) k) :=
  storeR (putR_some (by rw [x.a]; exact fun h => by cases h)) (putR_some (by rw [x.b]; exact fun h => by cases h)) (putR_some (by rw [x.c]; exact fun h => by cases h)) (putR_some (by rw [x.d]; exact fun h => by cases h))
theorem R4.put {c : T AV} {k : Nat} {r : Rw} : R4 (putR r c k) k r := ⟨by rw [putR_get, if_neg (by omega), if_neg (by omega), if_neg (by omega), if_pos rfl], by rw [putR_get, if_neg (by omega), if_neg (by omega), if_pos rfl], by rw [putR_get, if_neg (by omega), if_pos rfl], by rw [putR_get, if_pos rfl]⟩
theorem R4.other {c : T AV} {k k' : Nat} {r r' : Rw} (x : R4 c k r) (h : k + 4 ≤ k' ∨ k' + 4 ≤ k) : R4 (putR r' c k') k r := by
  obtain ⟨a, b, c, d⟩ := x
  exact ⟨by rw [putR_out (by omega)]; exact a, by rw [putR_out (by omega)]; exact b, by rw [putR_out (by omega)]; exact c, by rw [putR_out (by omega)]; exact d⟩
/-- a row of records in cells -/
def RArr (c : T AV) (o n : Nat) (f : Nat → Rw) : Prop := ∀ i, i < n → loadL c 4 (o + i * 4) = some (rl (f i)) ∧ (∀ r, storeL (rl r) c (o + i * 4) = some (putR r c (o + i * 4))) ∧ (∀ r r2 k2, storeL (rl r) (putR r2 c k2) (o + i * 4) = some (putR r (putR r2 c k2) (o + i * 4)))
def RArr4 (c : T AV) (o n : Nat) (f : Nat → Rw) : Prop := ∀ i, i < n → R4 c (o + i * 4) (f i)
theorem RArr4.arr {c : T AV} {o n : Nat} {f : Nat → Rw} (x : RArr4 c o n f) : RArr c o n f := fun i hi => ⟨(x i hi).load, (x i hi).store, (x i hi).store2⟩
theorem RArr4.swap {c : T AV} {o n i j : Nat} {f : Nat → Rw} (x : RArr4 c o n f) (hi : i < n) (hj : j < n) : RArr4 (putR (f i) (putR (f j) c (o + i * 4)) (o + j * 4)) o n (swp f i j) := by
  intro k hk
  by_cases h1 : k = j
  · subst h1; rw [swp_r]; exact R4.put
  by_cases h2 : k = i
  · subst h2; rw [swp_l]; exact R4.put.other (by omega)
  rw [swp_o h2 h1]
  exact ((x k hk).other (by omega)).other (by omega)
section
variable {h h0 : AH} {id o n s : Nat} {p : Bool} {c0 : T AV} {g : Nat → Rw}
/-- a row of n records from o on, in an object of which the rest stays -/
structure SegR (h0 : AH) (id o n s : Nat) (p : Bool) (c0 : T AV) (h : AH) (g : Nat → Rw) : Prop where
  old : id < h0.next
  more : MoreBut id h0 h
  row4 : ∃ c, h.mem.get id = some (.cells c s p false) ∧ RArr4 c o n g ∧ ∀ k, (k < o ∨ o + n * 4 ≤ k) → c.get k = c0.get k
theorem SegR.row (x : SegR h0 id o n s p c0 h g) : ∃ c, h.mem.get id = some (.cells c s p false) ∧ RArr4 c o n g ∧ (∀ k, (k < o ∨ o + n * 4 ≤ k) → c.get k = c0.get k) ∧ RArr c o n g := by
  obtain ⟨c, h1, h2, h3⟩ := x.row4
  exact ⟨c, h1, h2, h3, h2.arr⟩
theorem SegR.start {c : T AV} {f : Nat → Rw} (hi : id < h.next) (hg : h.mem.get id = some (.cells c s p false)) (hc : RArr4 c o n f) : SegR h id o n s p c h f := ⟨hi, MoreBut.refl _ _, c, hg, hc, fun _ _ => rfl⟩
theorem SegR.swap {c : T AV} {X : AObj} {i j : Nat} (x : SegR h0 id o n s p c0 h g) (hc : RArr4 c o n g) (ho : ∀ k, (k < o ∨ o + n * 4 ≤ k) → c.get k = c0.get k) (hi : i < n) (hj : j < n) :
    SegR h0 id o n s p c0 ((h.set id X).set id (.cells (putR (g i) (putR (g j) c (o + i * 4)) (o + j * 4)) s p false)) (swp g i j) := by
  refine ⟨x.old, (x.more.set X).set _, _, AH.get_set, hc.swap hi hj, fun k hk => ?_⟩
  rw [putR_out (by omega), putR_out (by omega)]
  exact ho k hk
theorem SegR.on {h' : AH} {g' : Nat → Rw} {c : T AV} (x : SegR h0 id o n s p c0 h g) (hc : ∀ k, (k < o ∨ o + n * 4 ≤ k) → c.get k = c0.get k) (y : SegR h id o n s p c h' g') : SegR h0 id o n s p c0 h' g' := by
  obtain ⟨a1, a2, c1, a3, a4, a5⟩ := y
  exact ⟨x.old, x.more.trans a2, c1, a3, a4, fun k hk => by rw [a5 k hk, hc k hk]⟩
theorem SegR.but {h' : AH} (x : SegR h0 id o n s p c0 h g) {q : Nat} (hq : h0.next ≤ q) (y : MoreBut q h h') : SegR h0 id o n s p c0 h' g := by
  obtain ⟨a1, a2, c1, a3, a4, a5⟩ := x
  have a2n := a2.next
  exact ⟨a1, ⟨Nat.le_trans a2.next y.next, fun k k1 k2 => by rw [y.keep k (by omega) (by omega)]; exact a2.keep k k1 k2⟩, c1, by rw [y.keep id (by omega) (by omega)]; exact a3, a4, a5⟩
theorem SegR.to {h' : AH} (x : SegR h0 id o n s p c0 h g) (y : More h h') : SegR h0 id o n s p c0 h' g := by
  obtain ⟨a1, a2, c1, a3, a4, a5⟩ := x
  have a2n := a2.next
  exact ⟨a1, ⟨Nat.le_trans a2.next y.next, fun k k1 k2 => by rw [y.keep k (by omega)]; exact a2.keep k k1 k2⟩, c1, by rw [y.keep id (by omega)]; exact a3, a4, a5⟩
theorem SegR.add (x : SegR h0 id o n s p c0 h g) (ob : AObj) : SegR h0 id o n s p c0 (h.add ob) g := x.to (More.add h ob)
theorem SegR.other (x : SegR h0 id o n s p c0 h g) {k : Nat} (hk : h0.next ≤ k) (ob : AObj) : SegR h0 id o n s p c0 (h.set k ob) g := x.but hk ((MoreBut.refl k h).set ob)
end
noncomputable def cvK (v : AV) (l : List AV) : OR := onFn v fun f first caps => OR.enter f (lapp first (lapp l caps))
theorem op_callV {loc : T AV} {tmp : List AV} {h : AH} {f : Opd} {l : List Opd} : evOp (.callV f l) loc tmp h = cvK (ev loc tmp f) (evs loc tmp l) := rfl
theorem cvK_fn {n : Nat} {l : List AV} : cvK (.fn n [] []) l = .enter n l := by
  show OR.enter n (lapp [] (lapp l [])) = _
  rw [lapp_eq, lapp_eq, List.append_nil, List.nil_append]
noncomputable def rd1 (x : AV) (b : Bool) (r : OR) : Bool := OR.rec (motive := fun _ => Bool) (fun v _ => bi (same v x) b false) (fun _ _ => false) (fun _ => false) (fun _ => false) (fun _ => false) r
theorem reads_c {loc : T AV} {tmp : List AV} {h : AH} {op : AOp} {i : Nat} {l : List ARe} : reads loc tmp h (⟨op, i, none⟩ :: l) = rd1 (nth tmp i) (reads loc tmp h l) (evOp op loc tmp h) := rfl
theorem rd1_val {x v : AV} {b : Bool} {h' : AH} : rd1 x b (.val v h') = bi (same v x) b false := rfl
theorem same_rl {r : Rw} : same (.agg (rl r)) (.agg (rl r)) = true := by
  rw [rl, same_agg_cons, same_int, bi_true, same_agg_cons, same_int, bi_true, same_agg_cons, same_int, bi_true, same_agg_cons, same_int, bi_true, same_agg_nil]
theorem ne_1 {n : Nat} : (n + 1 = n) = False := eq_false (by omega)
theorem ne_2 {n : Nat} : (n + 1 + 1 = n) = False := eq_false (by omega)
theorem ne_1' {n : Nat} : (n = n + 1) = False := eq_false (by omega)
theorem ne_2' {n : Nat} : (n = n + 1 + 1) = False := eq_false (by omega)
theorem move_fn {n : Nat} {a b : List AV} {h : AH} : oMove (.c (.fn n a b)) .leaf [] h = .val (.fn n a b) h := rfl
end Go.Ev

namespace Go.Ev
open Go
theorem EVR4 : type_of% (And.intro @obind_ite (And.intro @PO_nil (And.intro @PO_cons (And.intro @guardO_false (And.intro @guardO_true (And.intro @stepO_val (And.intro @stepO_enter (And.intro @guardB_none (And.intro @gb_any (And.intro @gb_bool (And.intro @ev_t (And.intro @evl (And.intro @ev_c (And.intro @nth_zero (And.intro @nth_succ (And.intro @T.get_put (And.intro @putOut_none (And.intro @putOut_some (And.intro @evs_nil (And.intro @evs_cons (And.intro @reads_nil (And.intro @op_move (And.intro @op_pick (And.intro @op_load (And.intro @op_loadN (And.intro @op_store (And.intro @op_nil (And.intro @op_bin (And.intro @op_eq (And.intro @op_not (And.intro @op_neg (And.intro @op_convI (And.intro @op_len (And.intro @op_idxAddr (And.intro @op_fieldAddr (And.intro @op_field (And.intro @op_extract (And.intro @op_callF (And.intro @op_alloc (And.intro @op_build (And.intro @move_int (And.intro @move_bool (And.intro @move_str (And.intro @move_ptr (And.intro @move_nilp (And.intro @move_sl (And.intro @move_nils (And.intro @move_agg (And.intro @bin_lss (And.intro @bin_leq (And.intro @bin_gtr (And.intro @bin_geq (And.intro @bin_add (And.intro @bin_sub (And.intro @bin_mul (And.intro @eq_int (And.intro @eq_str (And.intro @eq_bool (And.intro @eq_agg (And.intro @eqLz (And.intro @eqLs (And.intro @eqS_int (And.intro @eqS_bool (And.intro @not_bool (And.intro @len_sl (And.intro @len_nils (And.intro @len_str (And.intro @pick_bool (And.intro @fieldAddr_ptr (And.intro @fill_nil (And.intro @onCells_some (And.intro @obind_some (And.intro @obind_none (And.intro @bi_true (And.intro @bi_false (And.intro @load_cells (And.intro @loadN_cells (And.intro @store_cells (And.intro @cells_agg (And.intro @cells_int (And.intro @loadL_zero (And.intro @storeL_nil (And.intro @llen_nil (And.intro @llen_cons (And.intro @beq_nat (And.intro @onNorm_norm (And.intro @onNorm_ret (And.intro @onNorm_exit (And.intro @atBlock_norm (And.intro @atBlock_ret (And.intro @atBlock_exit (And.intro @get_ofList (And.intro @AH.add_mem (And.intro @AH.add_next (And.intro @AH.set_mem (And.intro @AH.set_next (And.intro @op_max (And.intro @op_min (And.intro @max_int (And.intro @min_int (And.intro @convI_int (And.intro @nil_ptr (And.intro @op_box (And.intro @box_agg (And.intro @op_bslice (And.intro @fill_cons (And.intro @op_append (And.intro @AH.kill_mem (And.intro @AH.kill_next (And.intro @ltake_eq (And.intro @ldrop_eq (And.intro @lapp_eq (And.intro @ble_nat (And.intro @add_nat (And.intro @cells_str (And.intro @cells_sl (And.intro @cells_bool (And.intro @lt_nat (And.intro @le_nat (And.intro @eq_nat (And.intro @llen_rl (And.intro @op_callV (And.intro @cvK_fn (And.intro @move_fn (And.intro @reads_c (And.intro @rd1_val (And.intro @same_int (And.intro @same_agg_nil (And.intro @same_agg_cons (And.intro @same_rl (And.intro @ne_1 (And.intro @ne_2 (And.intro @ne_1' (And.intro @ne_2' (@storeL_cons))))))))))))))))))))))))))))))))))))))))))))))))))))))))))))))))))))))))))))))))))))))))))))))))))))))))))))))))))))))))))))))))))))))) := And.intro @obind_ite (And.intro @PO_nil (And.intro @PO_cons (And.intro @guardO_false (And.intro @guardO_true (And.intro @stepO_val (And.intro @stepO_enter (And.intro @guardB_none (And.intro @gb_any (And.intro @gb_bool (And.intro @ev_t (And.intro @evl (And.intro @ev_c (And.intro @nth_zero (And.intro @nth_succ (And.intro @T.get_put (And.intro @putOut_none (And.intro @putOut_some (And.intro @evs_nil (And.intro @evs_cons (And.intro @reads_nil (And.intro @op_move (And.intro @op_pick (And.intro @op_load (And.intro @op_loadN (And.intro @op_store (And.intro @op_nil (And.intro @op_bin (And.intro @op_eq (And.intro @op_not (And.intro @op_neg (And.intro @op_convI (And.intro @op_len (And.intro @op_idxAddr (And.intro @op_fieldAddr (And.intro @op_field (And.intro @op_extract (And.intro @op_callF (And.intro @op_alloc (And.intro @op_build (And.intro @move_int (And.intro @move_bool (And.intro @move_str (And.intro @move_ptr (And.intro @move_nilp (And.intro @move_sl (And.intro @move_nils (And.intro @move_agg (And.intro @bin_lss (And.intro @bin_leq (And.intro @bin_gtr (And.intro @bin_geq (And.intro @bin_add (And.intro @bin_sub (And.intro @bin_mul (And.intro @eq_int (And.intro @eq_str (And.intro @eq_bool (And.intro @eq_agg (And.intro @eqLz (And.intro @eqLs (And.intro @eqS_int (And.intro @eqS_bool (And.intro @not_bool (And.intro @len_sl (And.intro @len_nils (And.intro @len_str (And.intro @pick_bool (And.intro @fieldAddr_ptr (And.intro @fill_nil (And.intro @onCells_some (And.intro @obind_some (And.intro @obind_none (And.intro @bi_true (And.intro @bi_false (And.intro @load_cells (And.intro @loadN_cells (And.intro @store_cells (And.intro @cells_agg (And.intro @cells_int (And.intro @loadL_zero (And.intro @storeL_nil (And.intro @llen_nil (And.intro @llen_cons (And.intro @beq_nat (And.intro @onNorm_norm (And.intro @onNorm_ret (And.intro @onNorm_exit (And.intro @atBlock_norm (And.intro @atBlock_ret (And.intro @atBlock_exit (And.intro @get_ofList (And.intro @AH.add_mem (And.intro @AH.add_next (And.intro @AH.set_mem (And.intro @AH.set_next (And.intro @op_max (And.intro @op_min (And.intro @max_int (And.intro @min_int (And.intro @convI_int (And.intro @nil_ptr (And.intro @op_box (And.intro @box_agg (And.intro @op_bslice (And.intro @fill_cons (And.intro @op_append (And.intro @AH.kill_mem (And.intro @AH.kill_next (And.intro @ltake_eq (And.intro @ldrop_eq (And.intro @lapp_eq (And.intro @ble_nat (And.intro @add_nat (And.intro @cells_str (And.intro @cells_sl (And.intro @cells_bool (And.intro @lt_nat (And.intro @le_nat (And.intro @eq_nat (And.intro @llen_rl (And.intro @op_callV (And.intro @cvK_fn (And.intro @move_fn (And.intro @reads_c (And.intro @rd1_val (And.intro @same_int (And.intro @same_agg_nil (And.intro @same_agg_cons (And.intro @same_rl (And.intro @ne_1 (And.intro @ne_2 (And.intro @ne_1' (And.intro @ne_2' (@storeL_cons))))))))))))))))))))))))))))))))))))))))))))))))))))))))))))))))))))))))))))))))))))))))))))))))))))))))))))))))))))))))))))))))))))))
theorem ER4 : type_of% (And.intro EVR4 (And.intro EVN EVC)) := And.intro EVR4 (And.intro EVN EVC)
end Go.Ev

namespace Go.Ev
open Go
def same2 (x : Rw) (a b : Int) : Prop := x.a = a ∧ x.b = b
instance (x : Rw) (a b : Int) : Decidable (same2 x a b) := inferInstanceAs (Decidable (_ ∧ _))
def mrg (x s : Rw) : Rw := ⟨x.a, x.b, if x.c < s.c then s.c else x.c, IntKind.i64.wrap (x.d + s.d)⟩
def upd : List Rw → Rw → List Rw
  | [], s => [s]
  | x :: l, s => if same2 x s.a s.b then mrg x s :: l else x :: upd l s
def ins : List Rw → Rw → List Rw
  | [], s => [s]
  | x :: l, s => if ltR x s = true then x :: ins l s else if same2 x s.a s.b then mrg x s :: l else s :: x :: l
def pos : List Rw → Int → Int → Nat
  | [], _, _ => 0
  | x :: l, a, b => if same2 x a b then 0 else pos l a b + 1
def posL : List Rw → Rw → Nat
  | [], _ => 0
  | x :: l, s => if ltR x s = true then posL l s + 1 else 0
theorem upd_nil {s : Rw} : upd [] s = [s] := rfl
theorem pos_le : ∀ {l : List Rw} {a b : Int}, pos l a b ≤ l.length
  | [], _, _ => Nat.le_refl _
  | x :: l, a, b => by
    unfold pos
    split
    · exact Nat.zero_le _
    · exact Nat.succ_le_succ pos_le
theorem pos_at : ∀ {l : List Rw} {a b : Int} (h : pos l a b < l.length), same2 l[pos l a b] a b
  | [], _, _, h => by cases h
  | x :: l, a, b, h => by
    by_cases hx : same2 x a b
    · simp only [pos, hx, if_true, List.getElem_cons_zero]
    · have h' : pos l a b < l.length := by simp only [pos, hx, if_false, List.length_cons] at h; omega
      simp only [pos, hx, if_false, List.getElem_cons_succ]
      exact pos_at h'
theorem upd_in : ∀ {l : List Rw} {s : Rw} (h : pos l s.a s.b < l.length), upd l s = l.set (pos l s.a s.b) (mrg l[pos l s.a s.b] s)
  | [], _, h => by cases h
  | x :: l, s, h => by
    by_cases hx : same2 x s.a s.b
    · simp only [upd, pos, hx, if_true, List.set_cons_zero, List.getElem_cons_zero]
    · have h' : pos l s.a s.b < l.length := by simp only [pos, hx, if_false, List.length_cons] at h; omega
      simp only [upd, pos, hx, if_false, List.set_cons_succ, List.getElem_cons_succ]
      rw [upd_in h']
theorem upd_out : ∀ {l : List Rw} {s : Rw}, pos l s.a s.b = l.length → upd l s = l ++ [s]
  | [], _, _ => rfl
  | x :: l, s, h => by
    by_cases hx : same2 x s.a s.b
    · simp only [pos, hx, if_true, List.length_cons] at h; omega
    · simp only [pos, hx, if_false, List.length_cons] at h
      simp only [upd, hx, if_false, List.cons_append]
      rw [upd_out (by omega)]
theorem posL_le : ∀ {l : List Rw} {s : Rw}, posL l s ≤ l.length
  | [], _ => Nat.le_refl _
  | x :: l, s => by
    unfold posL
    split
    · exact Nat.succ_le_succ posL_le
    · exact Nat.zero_le _
theorem posL_lt : ∀ {l : List Rw} {s : Rw} {i : Nat} (hi : i < l.length), i < posL l s → ltR l[i] s = true
  | [], _, _, h, _ => by cases h
  | x :: l, s, i, h, hp => by
    by_cases hx : ltR x s = true
    · cases i with
      | zero => exact hx
      | succ i =>
        simp only [posL, hx, if_true] at hp
        exact posL_lt (l := l) (by simpa using h) (by omega)
    · simp only [posL, hx, if_false] at hp
      simp at hp
theorem posL_at : ∀ {l : List Rw} {s : Rw} (h : posL l s < l.length), ltR l[posL l s] s = false
  | [], _, h => by cases h
  | x :: l, s, h => by
    by_cases hx : ltR x s = true
    · have h' : posL l s < l.length := by simp only [posL, hx, if_true, List.length_cons] at h; omega
      simp only [posL, hx, if_true, List.getElem_cons_succ]
      exact posL_at h'
    · have hx' : ltR x s = false := by simpa using hx
      simp [posL, hx']
theorem insr_in : ∀ {l : List Rw} {s : Rw} (h : posL l s < l.length), same2 l[posL l s] s.a s.b → ins l s = l.set (posL l s) (mrg l[posL l s] s)
  | [], _, h, _ => by cases h
  | x :: l, s, h, hk => by
    by_cases hx : ltR x s = true
    · have h' : posL l s < l.length := by simp only [posL, hx, if_true, List.length_cons] at h; omega
      simp only [posL, hx, if_true, List.getElem_cons_succ] at hk
      simp only [ins, posL, hx, if_true, List.set_cons_succ, List.getElem_cons_succ]
      rw [insr_in h' hk]
    · have hx' : ltR x s = false := by simpa using hx
      simp [posL, hx'] at hk
      simp [ins, posL, hx', hk]
theorem insr_out : ∀ {l : List Rw} {s : Rw}, (∀ h : posL l s < l.length, ¬ same2 l[posL l s] s.a s.b) → ins l s = l.take (posL l s) ++ s :: l.drop (posL l s)
  | [], _, _ => rfl
  | x :: l, s, hk => by
    by_cases hx : ltR x s = true
    · simp only [ins, posL, hx, if_true, List.take_succ_cons, List.drop_succ_cons, List.cons_append]
      rw [insr_out fun h => ?_]
      have := hk (by simp only [posL, hx, if_true, List.length_cons]; omega)
      simpa only [posL, hx, if_true, List.getElem_cons_succ] using this
    · have hx' : ltR x s = false := by simpa using hx
      have := hk (by simp [posL, hx'])
      simp [posL, hx'] at this
      simp [ins, posL, hx', this]
/-- keys are different -/
def Dif (l : List Rw) : Prop := l.Pairwise fun x y => ¬ same2 x y.a y.b
def Inc (l : List Rw) : Prop := l.Pairwise fun x y => ltR x y = true
def chr (l : List Rw) (s x : Rw) : Prop := (x ∈ l ∧ ¬ same2 x s.a s.b) ∨ (∃ y ∈ l, same2 y s.a s.b ∧ x = mrg y s) ∨ ((∀ y ∈ l, ¬ same2 y s.a s.b) ∧ x = s)
theorem chr_iff {l l' : List Rw} {s x : Rw} (h : ∀ x, x ∈ l ↔ x ∈ l') : chr l s x ↔ chr l' s x := by
  unfold chr
  simp only [h]
theorem mrg_key {x s : Rw} : (mrg x s).a = x.a ∧ (mrg x s).b = x.b := ⟨rfl, rfl⟩
theorem chr_cons {y s x : Rw} {l : List Rw} (hy : ¬ same2 y s.a s.b) : chr (y :: l) s x ↔ x = y ∨ chr l s x := by
  unfold chr
  simp only [List.mem_cons]
  constructor
  · rintro (⟨rfl | h, h2⟩ | ⟨z, rfl | h, h2, h3⟩ | ⟨h, h2⟩)
    · exact .inl rfl
    · exact .inr (.inl ⟨h, h2⟩)
    · exact absurd h2 hy
    · exact .inr (.inr (.inl ⟨z, h, h2, h3⟩))
    · exact .inr (.inr (.inr ⟨fun z hz => h z (.inr hz), h2⟩))
  · rintro (rfl | ⟨h, h2⟩ | ⟨z, h, h2, h3⟩ | ⟨h, h2⟩)
    · exact .inl ⟨.inl rfl, hy⟩
    · exact .inl ⟨.inr h, h2⟩
    · exact .inr (.inl ⟨z, .inr h, h2, h3⟩)
    · exact .inr (.inr ⟨fun z hz => by rcases hz with rfl | hz; exact hy; exact h z hz, h2⟩)
theorem chr_head {y s x : Rw} {l : List Rw} (hy : same2 y s.a s.b) (hl : ∀ z ∈ l, ¬ same2 z s.a s.b) : chr (y :: l) s x ↔ x = mrg y s ∨ x ∈ l := by
  unfold chr
  simp only [List.mem_cons]
  constructor
  · rintro (⟨rfl | h, h2⟩ | ⟨z, rfl | h, h2, h3⟩ | ⟨h, h2⟩)
    · exact absurd hy h2
    · exact .inr h
    · exact .inl h3
    · exact absurd h2 (hl z h)
    · exact absurd hy (h y (.inl rfl))
  · rintro (h | h)
    · exact .inr (.inl ⟨y, .inl rfl, hy, h⟩)
    · exact .inl ⟨.inr h, hl x h⟩
theorem chr_none {s x : Rw} {l : List Rw} (hl : ∀ z ∈ l, ¬ same2 z s.a s.b) : chr l s x ↔ x = s ∨ x ∈ l := by
  unfold chr
  constructor
  · rintro (⟨h, h2⟩ | ⟨z, h, h2, h3⟩ | ⟨h, h2⟩)
    · exact .inr h
    · exact absurd h2 (hl z h)
    · exact .inl h2
  · rintro (h | h)
    · exact .inr (.inr ⟨hl, h⟩)
    · exact .inl ⟨h, hl x h⟩
theorem same2_of {x y s : Rw} (hx : same2 x s.a s.b) : same2 y s.a s.b ↔ same2 y x.a x.b := by unfold same2 at *; omega
theorem mem_upd : ∀ {l : List Rw} {s x : Rw}, Dif l → (x ∈ upd l s ↔ chr l s x)
  | [], s, x, _ => by rw [chr_none (by simp)]; simp [upd]
  | y :: l, s, x, hd => by
    obtain ⟨h1, h2⟩ := List.pairwise_cons.1 hd
    by_cases hy : same2 y s.a s.b
    · rw [upd, if_pos hy, chr_head hy (fun z hz h => h1 z hz (by unfold same2 at *; omega)), List.mem_cons]
    · rw [upd, if_neg hy, chr_cons hy, List.mem_cons, mem_upd h2]
theorem key_upd : ∀ {l : List Rw} {s x : Rw}, x ∈ upd l s → same2 x s.a s.b ∨ ∃ y ∈ l, same2 x y.a y.b
  | [], s, x, h => by simp only [upd, List.mem_singleton] at h; subst h; exact .inl ⟨rfl, rfl⟩
  | y :: l, s, x, h => by
    unfold upd at h
    split at h
    · rename_i hy
      rcases List.mem_cons.1 h with rfl | h
      · exact .inl hy
      · exact .inr ⟨x, by simp [h], rfl, rfl⟩
    · rcases List.mem_cons.1 h with rfl | h
      · exact .inr ⟨x, by simp, rfl, rfl⟩
      · rcases key_upd h with h | ⟨z, h1, h2⟩
        · exact .inl h
        · exact .inr ⟨z, by simp [h1], h2⟩
theorem dif_upd : ∀ {l : List Rw} {s : Rw}, Dif l → Dif (upd l s)
  | [], s, _ => by simp [upd, Dif]
  | y :: l, s, hd => by
    obtain ⟨h1, h2⟩ := List.pairwise_cons.1 hd
    by_cases hy : same2 y s.a s.b
    · rw [upd, if_pos hy]
      exact List.pairwise_cons.2 ⟨fun z hz => h1 z hz, h2⟩
    · rw [upd, if_neg hy]
      refine List.pairwise_cons.2 ⟨fun z hz => ?_, dif_upd h2⟩
      rcases key_upd hz with h | ⟨w, hw, h⟩
      · unfold same2 at *; omega
      · have := h1 w hw
        unfold same2 at *; omega
theorem ltR_iff {x y : Rw} : ltR x y = true ↔ x.a < y.a ∨ (x.a = y.a ∧ x.b < y.b) := by simp [ltR]
theorem mem_ins : ∀ {l : List Rw} {s x : Rw}, Inc l → (x ∈ ins l s ↔ chr l s x)
  | [], s, x, _ => by rw [chr_none (by simp)]; simp [ins]
  | y :: l, s, x, hd => by
    obtain ⟨h1, h2⟩ := List.pairwise_cons.1 hd
    by_cases hl : ltR y s = true
    · have hy : ¬ same2 y s.a s.b := by rw [ltR_iff] at hl; unfold same2; omega
      rw [ins, if_pos hl, chr_cons hy, List.mem_cons, mem_ins h2]
    · by_cases hy : same2 y s.a s.b
      · rw [ins, if_neg hl, if_pos hy, chr_head hy (fun z hz h => by have := h1 z hz; rw [ltR_iff] at this; unfold same2 at *; omega), List.mem_cons]
      · rw [ins, if_neg hl, if_neg hy, chr_none (fun z hz h => ?_), List.mem_cons]
        rcases List.mem_cons.1 hz with rfl | hz
        · exact hy h
        · have := h1 z hz
          rw [ltR_iff] at this hl
          unfold same2 at *; omega
theorem key_ins : ∀ {l : List Rw} {s x : Rw}, x ∈ ins l s → same2 x s.a s.b ∨ ∃ y ∈ l, same2 x y.a y.b
  | [], s, x, h => by simp only [ins, List.mem_singleton] at h; subst h; exact .inl ⟨rfl, rfl⟩
  | y :: l, s, x, h => by
    unfold ins at h
    split at h
    · rcases List.mem_cons.1 h with rfl | h
      · exact .inr ⟨x, by simp, rfl, rfl⟩
      · rcases key_ins h with h | ⟨z, h1, h2⟩
        · exact .inl h
        · exact .inr ⟨z, by simp [h1], h2⟩
    · split at h
      · rename_i hy
        rcases List.mem_cons.1 h with rfl | h
        · exact .inl hy
        · exact .inr ⟨x, by simp [h], rfl, rfl⟩
      · rcases List.mem_cons.1 h with rfl | h
        · exact .inl ⟨rfl, rfl⟩
        · exact .inr ⟨x, h, rfl, rfl⟩
theorem inc_ins : ∀ {l : List Rw} {s : Rw}, Inc l → Inc (ins l s)
  | [], s, _ => by simp [ins, Inc]
  | y :: l, s, hd => by
    obtain ⟨h1, h2⟩ := List.pairwise_cons.1 hd
    by_cases hl : ltR y s = true
    · rw [ins, if_pos hl]
      refine List.pairwise_cons.2 ⟨fun z hz => ?_, inc_ins h2⟩
      rcases key_ins hz with h | ⟨w, hw, h⟩
      · rw [ltR_iff] at *; unfold same2 at *; omega
      · have := h1 w hw
        rw [ltR_iff] at *; unfold same2 at *; omega
    · by_cases hy : same2 y s.a s.b
      · rw [ins, if_neg hl, if_pos hy]
        exact List.pairwise_cons.2 ⟨fun z hz => h1 z hz, h2⟩
      · rw [ins, if_neg hl, if_neg hy]
        have h0 : ltR s y = true := by rw [ltR_iff] at *; unfold same2 at *; omega
        refine List.pairwise_cons.2 ⟨fun z hz => ?_, hd⟩
        rcases List.mem_cons.1 hz with rfl | hz
        · exact h0
        · have := h1 z hz
          rw [ltR_iff] at *; omega
theorem fold_law : ∀ (L U I : List Rw), Dif U → Inc I → (∀ x, x ∈ U ↔ x ∈ I) → Dif (L.foldl upd U) ∧ Inc (L.foldl ins I) ∧ ∀ x, x ∈ L.foldl upd U ↔ x ∈ L.foldl ins I
  | [], _, _, h1, h2, h3 => ⟨h1, h2, h3⟩
  | s :: L, U, I, h1, h2, h3 => fold_law L (upd U s) (ins I s) (dif_upd h1) (inc_ins h2) fun x => by rw [mem_upd h1, mem_ins h2, chr_iff h3]
theorem inc_eq : ∀ {l l' : List Rw}, Inc l → Inc l' → (∀ x, x ∈ l ↔ x ∈ l') → l = l'
  | [], [], _, _, _ => rfl
  | [], y :: l', _, _, h => by have := (h y).2 (by simp); cases this
  | x :: l, [], _, _, h => by have := (h x).1 (by simp); cases this
  | x :: l, y :: l', h1, h2, h => by
    obtain ⟨a1, a2⟩ := List.pairwise_cons.1 h1
    obtain ⟨b1, b2⟩ := List.pairwise_cons.1 h2
    have irr : ∀ z : Rw, ¬ ltR z z = true := fun z => by rw [ltR_iff]; omega
    have asy : ∀ z w : Rw, ltR z w = true → ¬ ltR w z = true := fun z w => by rw [ltR_iff, ltR_iff]; omega
    have e : x = y := by
      rcases List.mem_cons.1 ((h x).1 (by simp)) with e | hx
      · exact e
      · rcases List.mem_cons.1 ((h y).2 (by simp)) with e | hy
        · exact e.symm
        · exact absurd (a1 y hy) (asy _ _ (b1 x hx))
    subst e
    congr 1
    refine inc_eq a2 b2 fun z => ⟨fun hz => ?_, fun hz => ?_⟩
    · rcases List.mem_cons.1 ((h z).1 (by simp [hz])) with e | hz'
      · subst e; exact absurd (a1 z hz) (irr z)
      · exact hz'
    · rcases List.mem_cons.1 ((h z).2 (by simp [hz])) with e | hz'
      · subst e; exact absurd (b1 z hz) (irr z)
      · exact hz'
/-- a row that is sorted is the other one -/
theorem join_law {L : List Rw} {g : Nat → Rw} {d : Rw} {n : Nat} (hn : n = (L.foldl upd []).length) (pm : PermOn 0 n (fun i => (L.foldl upd []).getD i d) g) (ri : Rises ltR 0 n g) : (List.range n).map g = L.foldl ins [] := by
  obtain ⟨h1, h2, h3⟩ := fold_law L [] [] (by simp [Dif]) (by simp [Inc]) (fun x => Iff.rfl)
  generalize L.foldl upd [] = U at *
  generalize L.foldl ins [] = I at *
  subst hn
  have hf : ∀ i (hi : i < U.length), U.getD i d = U[i] := fun i hi => by simp [List.getD, List.getElem?_eq_getElem hi]
  have dif : ∀ i j, i < U.length → j < U.length → i ≠ j → ¬ same2 (U.getD i d) (U.getD j d).a (U.getD j d).b := by
    intro i j hi hj hne
    rw [hf i hi, hf j hj]
    have pw := List.pairwise_iff_getElem.1 h1
    rcases Nat.lt_or_ge i j with h | h
    · exact pw i j hi hj h
    · have := pw j i hj hi (by omega)
      unfold same2 at *; omega
  refine inc_eq ?_ h2 fun x => ?_
  · refine List.pairwise_iff_getElem.2 fun i j hi hj hij => ?_
    simp only [List.length_map, List.length_range] at hi hj
    simp only [List.getElem_map, List.getElem_range]
    have hr := ri i j (Nat.zero_le _) (by omega) hj
    obtain ⟨s1, t1, a1, a2, a3, a4⟩ := pm
    have ins : ∀ k, k < U.length → s1 k < U.length := fun k hk => by
      rcases Nat.lt_or_ge (s1 k) U.length with h | h
      · exact h
      · have e := a3 (s1 k) (by omega)
        have e2 := congrArg t1 e
        rw [a1, a1] at e2
        omega
    have hne : s1 i ≠ s1 j := fun e => by have := congrArg t1 e; rw [a1, a1] at this; omega
    have hd := dif (s1 i) (s1 j) (ins i hi) (ins j hj) hne
    rw [a4, a4] at hr ⊢
    simp only at hr ⊢
    generalize U.getD (s1 i) d = p at *
    generalize U.getD (s1 j) d = q at *
    rw [ltR_iff]
    have hr : ¬ (q.a < p.a ∨ (q.a = p.a ∧ q.b < p.b)) := by simpa [ltR] using hr
    unfold same2 at hd
    omega
  · rw [← h3, List.mem_map]
    constructor
    · rintro ⟨i, hi, rfl⟩
      obtain ⟨j, _, hj, e⟩ := pm.inside (i := i) (Nat.zero_le _) (List.mem_range.1 hi)
      rw [e]
      rw [hf j hj]
      exact List.getElem_mem hj
    · intro hx
      obtain ⟨i, hi, rfl⟩ := List.getElem_of_mem hx
      obtain ⟨j, _, hj, e⟩ := pm.symm.inside (i := i) (Nat.zero_le _) hi
      exact ⟨j, List.mem_range.2 hj, by rw [← e]; exact hf i hi⟩
end Go.Ev

namespace Go.Ev
open Go
set_option linter.unusedSimpArgs false
set_option linter.unusedVariables false
set_option maxRecDepth 100000
set_option maxHeartbeats 4000000
structure CmpT (tab : Nat → Option AFunc) : Prop where
  fn : tab 13 = some af13
  or : tab 14 = some af14
  cp : tab 15 = some af15
  nan : tab 28 = some af28
def cmpZ (m n : Int) : Int := if m < n then -1 else if n < m then 1 else 0
def cmpR (x y : Rw) : Int := if cmpZ x.a y.a = 0 then cmpZ x.b y.b else cmpZ x.a y.a
theorem cmp_lt {x y : Rw} : decide (cmpR x y < ((0 : Nat) : Int)) = ltR x y := by
  rw [ltR]
  apply decide_eq_decide.2
  unfold cmpR cmpZ
  split <;> split <;> (try split) <;> (try split) <;> omega
section
variable {tab : Nat → Option AFunc} {h : AH}
theorem isNaN_rw (t : tab 28 = some af28) {n : Int} {Q : AV → AH → Prop} : GP tab 28 [.int .i64 n] h Q = Q (.bool false) h := by
  have i0 : initLoc [.int .i64 n] = ofList [.int .i64 n] := rfl
  refine gp_rw (gp_of t rfl ?_)
  refine wc_seq (wc_opq fun Q1 hQ => ?_)
  simp (disch := omega) only [ER4, reduceIte, Nat.reduceEqDiff, Nat.reduceAdd]
  refine hQ _ ?_
  clear hQ Q1
  refine wc_seq (wc_opq fun Q1 hQ => ?_)
  simp (disch := omega) only [ER4, reduceIte, Nat.reduceEqDiff, Nat.reduceAdd, i0]
  refine hQ _ ?_
  clear hQ Q1
  refine wc_ret ⟨_, results_val results_nil, ?_, rfl⟩
  simp (disch := omega) only [ER4, reduceIte, Nat.reduceEqDiff, Nat.reduceAdd, one_one]
theorem compare_rw (t : CmpT tab) {m n : Int} {Q : AV → AH → Prop} : GP tab 15 [.int .i64 m, .int .i64 n] h Q = Q (.int .i64 (cmpZ m n)) h := by
  have i0 : initLoc [.int .i64 m, .int .i64 n] = ofList [.int .i64 m, .int .i64 n] := rfl
  have e := @isNaN_rw tab
  refine gp_rw (gp_of t.cp rfl ?_)
  refine wc_seq (wc_opq fun Q1 hQ => ?_)
  simp (disch := omega) only [ER4, reduceIte, Nat.reduceEqDiff, Nat.reduceAdd]
  refine hQ _ ?_
  clear hQ Q1
  refine wc_seq (wc_opq fun Q1 hQ => ?_)
  simp (disch := omega) only [ER4, reduceIte, Nat.reduceEqDiff, Nat.reduceAdd, i0, isNaN_rw t.nan]
  refine hQ _ ?_
  clear hQ Q1
  refine wc_seq (wc_opq fun Q1 hQ => ?_)
  simp (disch := omega) only [ER4, reduceIte, Nat.reduceEqDiff, Nat.reduceAdd, i0, isNaN_rw t.nan]
  refine hQ _ ?_
  clear hQ Q1
  refine wc_seq ?_
  refine wc_seq (wc_opq fun Q1 hQ => ?_)
  simp (disch := omega) only [ER4, reduceIte, Nat.reduceEqDiff, Nat.reduceAdd]
  refine hQ _ ?_
  clear hQ Q1
  refine wc_no (by simp (disch := omega) only [ER4, reduceIte, Nat.reduceEqDiff, Nat.reduceAdd]) (wc_skip ?_)
  refine wc_seq ?_
  refine wc_seq (wc_opq fun Q1 hQ => ?_)
  simp (disch := omega) only [ER4, reduceIte, Nat.reduceEqDiff, Nat.reduceAdd]
  refine hQ _ ?_
  clear hQ Q1
  refine wc_no (by simp (disch := omega) only [ER4, reduceIte, Nat.reduceEqDiff, Nat.reduceAdd]) (wc_skip ?_)
  refine wc_seq ?_
  refine wc_seq (wc_opq fun Q1 hQ => ?_)
  simp (disch := omega) only [ER4, reduceIte, Nat.reduceEqDiff, Nat.reduceAdd, i0]
  refine hQ _ ?_
  clear hQ Q1
  refine wc_if (m < n) (by simp (disch := omega) only [ER4, reduceIte, Nat.reduceEqDiff, Nat.reduceAdd]) (fun hlt => ?_) (fun hge => ?_)
  · refine wc_seq (wc_opq fun Q1 hQ => ?_)
    simp (disch := omega) only [ER4, reduceIte, Nat.reduceEqDiff, Nat.reduceAdd]
    refine hQ _ ?_
    clear hQ Q1
    refine wc_ret ⟨_, results_val results_nil, ?_, rfl⟩
    simp (disch := omega) only [ER4, reduceIte, Nat.reduceEqDiff, Nat.reduceAdd, one_one, cmpZ, hlt]
    rfl
  refine wc_skip (wc_seq ?_)
  refine wc_seq (wc_opq fun Q1 hQ => ?_)
  simp (disch := omega) only [ER4, reduceIte, Nat.reduceEqDiff, Nat.reduceAdd, i0]
  refine hQ _ ?_
  clear hQ Q1
  refine wc_if (n < m) (by simp (disch := omega) only [ER4, reduceIte, Nat.reduceEqDiff, Nat.reduceAdd]) (fun hlt => ?_) (fun hge2 => ?_)
  · refine wc_seq (wc_opq fun Q1 hQ => ?_)
    simp (disch := omega) only [ER4, reduceIte, Nat.reduceEqDiff, Nat.reduceAdd]
    refine hQ _ ?_
    clear hQ Q1
    refine wc_ret ⟨_, results_val results_nil, ?_, rfl⟩
    simp (disch := omega) only [ER4, reduceIte, Nat.reduceEqDiff, Nat.reduceAdd, one_one, cmpZ, hge, hlt]
    rfl
  · refine wc_skip ?_
    refine wc_seq (wc_opq fun Q1 hQ => ?_)
    simp (disch := omega) only [ER4, reduceIte, Nat.reduceEqDiff, Nat.reduceAdd]
    refine hQ _ ?_
    clear hQ Q1
    refine wc_ret ⟨_, results_val results_nil, ?_, rfl⟩
    simp (disch := omega) only [ER4, reduceIte, Nat.reduceEqDiff, Nat.reduceAdd, one_one, cmpZ, hge, hge2]
    rfl
theorem or_rw (t : CmpT tab) {m n : Int} {id s : Nat} {p r : Bool} {cap : ACap} {c : T AV} (hg : h.mem.get id = some (.cells c s p r)) (c0 : c.get 0 = some (.int .i64 m)) (c1 : c.get 1 = some (.int .i64 n)) {Q : AV → AH → Prop} : GP tab 14 [.sl id 0 2 cap] h Q = Q (.int .i64 (if m = 0 then n else m)) h := by
  have i0 : initLoc [.sl id 0 2 cap] = ofList [.sl id 0 2 cap] := rfl
  refine gp_rw (gp_of t.or rfl ?_)
  refine wc_seq (wc_opq fun Q1 hQ => ?_)
  simp (disch := omega) only [ER4, reduceIte, Nat.reduceEqDiff, Nat.reduceAdd]
  refine hQ _ ?_
  clear hQ Q1
  refine wc_seq (wc_opq fun Q1 hQ => ?_)
  simp (disch := omega) only [ER4, reduceIte, Nat.reduceEqDiff, Nat.reduceAdd]
  refine hQ _ ?_
  clear hQ Q1
  refine wc_mid (fun l d h1 => m = 0 ∧ n = 0 ∧ h = h1 ∧ d = [] ∧ l.get 6 = some (.int .i64 ((0 : Nat) : Int))) ?_ ?_
  · refine wc_seq (wc_opq fun Q1 hQ => ?_)
    simp (disch := omega) only [ER4, reduceIte, Nat.reduceEqDiff, Nat.reduceAdd, i0]
    refine hQ _ ?_
    clear hQ Q1
    refine wc_block ?_
    refine wc_while (fun k l d h1 => ∃ i : Nat, k = 2 - i ∧ i ≤ 2 ∧ (1 ≤ i → m = 0) ∧ (i = 2 → n = 0) ∧ h = h1 ∧ d = [] ∧ l.get 1 = some (.int .i64 (i : Int)) ∧ l.get 2 = some (.int .i64 ((2 : Nat) : Int)) ∧ l.get 4 = some (.sl id 0 2 cap) ∧ l.get 6 = some (.int .i64 ((0 : Nat) : Int))) ?_ 2 ?_
    · rintro k l d h1 ⟨i, hk, hi, e1, e2, rfl, rfl, g1, g2, g4, g6⟩
      refine wc_seq (wc_opq fun Q1 hQ => ?_)
      simp (disch := omega) only [ER4, reduceIte, Nat.reduceEqDiff, Nat.reduceAdd, g1, g2]
      refine hQ _ ?_
      clear hQ Q1
      refine wc_seq (wc_if (i < 2) (by simp (disch := omega) only [ER4, reduceIte, Nat.reduceEqDiff, Nat.reduceAdd]) (fun hlt => ?_) (fun hge => ?_))
      · refine wc_skip ?_
        obtain ⟨z, hz, ez⟩ : ∃ z, c.get i = some (.int .i64 z) ∧ z = (if i = 0 then m else n) := by
          rcases (show i = 0 ∨ i = 1 by omega) with rfl | rfl
          · exact ⟨m, c0, rfl⟩
          · exact ⟨n, c1, rfl⟩
        refine wc_mid (fun l d h1 => z = 0 ∧ h = h1 ∧ d = [] ∧ l.get 1 = some (.int .i64 (i : Int)) ∧ l.get 2 = some (.int .i64 ((2 : Nat) : Int)) ∧ l.get 4 = some (.sl id 0 2 cap) ∧ l.get 6 = some (.int .i64 ((0 : Nat) : Int))) ?_ ?_
        · refine wc_block ?_
          refine wc_seq (wc_opq fun Q1 hQ => ?_)
          simp (disch := omega) only [ER4, reduceIte, Nat.reduceEqDiff, Nat.reduceAdd, g1, g4, hg, hz]
          refine hQ _ ?_
          clear hQ Q1
          refine wc_seq (wc_opq fun Q1 hQ => ?_)
          simp (disch := omega) only [ER4, reduceIte, Nat.reduceEqDiff, Nat.reduceAdd, g6]
          refine hQ _ ?_
          clear hQ Q1
          refine wc_cond (q := !decide (z = ((0 : Nat) : Int))) (by simp (disch := omega) only [ER4, reduceIte, Nat.reduceEqDiff, Nat.reduceAdd]) (fun hne => ?_) (fun he => ?_)
          · have hne : ¬ z = 0 := by simpa using hne
            refine wc_seq (wc_opq fun Q1 hQ => ?_)
            simp (disch := omega) only [ER4, reduceIte, Nat.reduceEqDiff, Nat.reduceAdd]
            refine hQ _ ?_
            clear hQ Q1
            refine wc_ret ⟨_, results_val results_nil, ?_, rfl⟩
            simp (disch := omega) only [ER4, reduceIte, Nat.reduceEqDiff, Nat.reduceAdd, one_one]
            rcases (show i = 0 ∨ i = 1 by omega) with rfl | rfl
            · rw [if_pos rfl] at ez; subst ez; rw [if_neg hne]
            · rw [if_neg (by omega)] at ez; subst ez; rw [if_pos (e1 (by omega))]
          · refine wc_skip ⟨by simpa using he, rfl, rfl, ?_, ?_, ?_, ?_⟩
            all_goals simp (disch := omega) only [ER4, reduceIte, Nat.reduceEqDiff, Nat.reduceAdd, g1, g2, g4, g6]
        · rintro l d h2 ⟨hz0, rfl, rfl, g1, g2, g4, g6⟩
          refine wc_opq fun Q1 hQ => ?_
          simp (disch := omega) only [ER4, reduceIte, Nat.reduceEqDiff, Nat.reduceAdd, g1]
          refine hQ _ ?_
          clear hQ Q1
          refine ⟨2 - (i + 1), by omega, i + 1, rfl, by omega, fun _ => ?_, fun e => ?_, rfl, rfl, ?_, ?_, ?_, ?_⟩
          · by_cases h : 1 ≤ i
            · exact e1 h
            · rw [if_pos (by omega)] at ez; omega
          · rw [if_neg (by omega)] at ez; omega
          all_goals simp (disch := omega) only [ER4, reduceIte, Nat.reduceEqDiff, Nat.reduceAdd, g1, g2, g4, g6]
      · refine wc_exit ⟨e1 (by omega), e2 (by omega), rfl, rfl, ?_⟩
        simp (disch := omega) only [ER4, reduceIte, Nat.reduceEqDiff, Nat.reduceAdd, g6]
    · refine ⟨0, rfl, by omega, fun h => by omega, fun h => by omega, rfl, rfl, ?_, ?_, ?_, ?_⟩
      all_goals simp (disch := omega) only [ER4, reduceIte, Nat.reduceEqDiff, Nat.reduceAdd, i0]
  · rintro l d h1 ⟨rfl, rfl, rfl, rfl, g6⟩
    refine wc_seq (wc_opq fun Q1 hQ => ?_)
    simp (disch := omega) only [ER4, reduceIte, Nat.reduceEqDiff, Nat.reduceAdd, g6]
    refine hQ _ ?_
    clear hQ Q1
    refine wc_ret ⟨_, results_val results_nil, ?_, rfl⟩
    simp (disch := omega) only [ER4, reduceIte, Nat.reduceEqDiff, Nat.reduceAdd, one_one]
    rfl
/-- the objects that a comparison leaves -/
noncomputable def hcm (x y : Rw) (h : AH) : AH := ((h.add (.cells (ofList (rl x)) 4 false false)).add (.cells (ofList (rl y)) 4 false false)).add (.cells (ofList [.int .i64 (cmpZ x.a y.a), .int .i64 (cmpZ x.b y.b)]) 2 false false)
theorem hcm_more {x y : Rw} : More h (hcm x y h) := ((More.add h _).trans (More.add _ _)).trans (More.add _ _)
theorem cmp_rw (t : CmpT tab) {x y : Rw} {Q : AV → AH → Prop} : GP tab 13 [.agg (rl x), .agg (rl y)] h Q = Q (.int .i64 (cmpR x y)) (hcm x y h) := by
  refine gp_rw ?_
  have i0 : initLoc [.agg [.int .i64 x.a, .int .i64 x.b, .int .i64 x.c, .int .i64 x.d], .agg [.int .i64 y.a, .int .i64 y.b, .int .i64 y.c, .int .i64 y.d]] = ofList [.agg [.int .i64 x.a, .int .i64 x.b, .int .i64 x.c, .int .i64 x.d], .agg [.int .i64 y.a, .int .i64 y.b, .int .i64 y.c, .int .i64 y.d]] := rfl
  show GP tab 13 [.agg [.int .i64 x.a, .int .i64 x.b, .int .i64 x.c, .int .i64 x.d], .agg [.int .i64 y.a, .int .i64 y.b, .int .i64 y.c, .int .i64 y.d]] h _
  refine gp_of t.fn rfl ?_
  refine wc_seq (wc_opq fun Q1 hQ => ?_)
  simp (disch := omega) only [ER4, reduceIte, Nat.reduceEqDiff, Nat.reduceAdd, i0]
  refine hQ _ ?_
  clear hQ Q1
  refine wc_seq (wc_opq fun Q1 hQ => ?_)
  simp (disch := omega) only [ER4, reduceIte, Nat.reduceEqDiff, Nat.reduceAdd, compare_rw t, Nat.reduceLeDiff]
  rw [or_rw t (m := cmpZ x.a y.a) (n := cmpZ x.b y.b) (c := ofList [.int .i64 (cmpZ x.a y.a), .int .i64 (cmpZ x.b y.b)]) (s := 2) (p := false) (r := false) ?_ rfl rfl]
  rotate_left
  · rw [AH.add_mem]; exact T.get_put_self _ _ _
  simp (disch := omega) only [ER4, reduceIte, Nat.reduceEqDiff, Nat.reduceAdd]
  refine hQ _ ?_
  clear hQ Q1
  refine wc_ret ⟨_, results_val results_nil, ?_, ?_⟩
  · simp (disch := omega) only [ER4, reduceIte, Nat.reduceEqDiff, Nat.reduceAdd, one_one]
    rfl
  · rfl
theorem SegR.cmp {h0 : AH} {id o n s : Nat} {p : Bool} {c0 : T AV} {g : Nat → Rw} {x y : Rw} (sg : SegR h0 id o n s p c0 h g) : SegR h0 id o n s p c0 (hcm x y h) g := sg.to hcm_more
end
end Go.Ev

namespace Go.Ev
open Go
set_option linter.unusedSimpArgs false
set_option linter.unusedVariables false
set_option maxRecDepth 100000
set_option maxHeartbeats 4000000
section
variable {tab : Nat → Option AFunc} {h : AH} {id o n s a b : Nat} {p : Bool} {cap : ACap} {c : T AV} {f : Nat → Rw}
theorem insertion_gp (t57 : tab 42 = some af42) (tc : CmpT tab)
    (hi : id < h.next) (hg : h.mem.get id = some (.cells c s p false)) (hc : RArr4 c o n f) (hab : a ≤ b) (hbn : b ≤ n) (hn : n < 4611686018427387904) :
    GP tab 42 [.sl id o n cap, .int .i64 (a : Int), .int .i64 (b : Int), .fn 13 [] []] h fun _ h1 => ∃ g, SegR h id o n s p c h1 g ∧ PermOn a b f g ∧ Rises ltR a b g := by
  have i0 : initLoc [.sl id o n cap, .int .i64 (a : Int), .int .i64 (b : Int), .fn 13 [] []] = ofList [.sl id o n cap, .int .i64 (a : Int), .int .i64 (b : Int), .fn 13 [] []] := rfl
  refine gp_of t57 rfl ?_
  refine wc_seq (wc_opq fun Q1 hQ => ?_)
  simp (disch := omega) only [ER4, reduceIte, Nat.reduceEqDiff, Nat.reduceAdd, i0]
  refine hQ _ ?_
  clear hQ Q1
  refine wc_block ?_
  refine wc_while (fun k l d h1 => ∃ i g, k = b + 1 - i ∧ i ≤ b + 1 ∧ a < i ∧ d = [] ∧ (l.get 0 = some (.sl id o n cap) ∧ l.get 3 = some (.fn 13 [] [])) ∧ l.get 1 = some (.int .i64 (a : Int)) ∧ l.get 2 = some (.int .i64 (b : Int)) ∧ l.get 4 = some (.int .i64 (i : Int)) ∧
    SegR h id o n s p c h1 g ∧ PermOn a b f g ∧ Rises ltR a i g) ?_ (b + 1 - (a + 1)) ?_
  · rintro k l d h1 ⟨i, g, hk, hib, hai, rfl, g0, g1, g2, g3, sg, pm, ri⟩
    refine wc_seq ?_
    refine wc_seq (wc_opq fun Q1 hQ => ?_)
    simp (disch := omega) only [ER4, reduceIte, Nat.reduceEqDiff, Nat.reduceAdd, g2, g3]
    refine hQ _ ?_
    clear hQ Q1
    refine wc_if (i < b) (by simp (disch := omega) only [ER4, reduceIte, Nat.reduceEqDiff, Nat.reduceAdd]) (fun hlt => ?_) (fun hge => ?_)
    · refine wc_skip ?_
      refine wc_mid (fun l d h1 => ∃ g, d = [] ∧ (l.get 0 = some (.sl id o n cap) ∧ l.get 3 = some (.fn 13 [] [])) ∧ l.get 1 = some (.int .i64 (a : Int)) ∧ l.get 2 = some (.int .i64 (b : Int)) ∧ l.get 4 = some (.int .i64 (i : Int)) ∧
        SegR h id o n s p c h1 g ∧ PermOn a b f g ∧ Rises ltR a (i + 1) g) ?_ ?_
      · refine wc_block ?_
        refine wc_seq (wc_opq fun Q1 hQ => ?_)
        simp (disch := omega) only [ER4, reduceIte, Nat.reduceEqDiff, Nat.reduceAdd, g3]
        refine hQ _ ?_
        clear hQ Q1
        refine wc_block ?_
        refine wc_while (fun k l d h1 => ∃ j g, k = j ∧ a ≤ j ∧ j ≤ i ∧ d = [] ∧ (l.get 0 = some (.sl id o n cap) ∧ l.get 3 = some (.fn 13 [] [])) ∧ l.get 1 = some (.int .i64 (a : Int)) ∧ l.get 2 = some (.int .i64 (b : Int)) ∧ l.get 4 = some (.int .i64 (i : Int)) ∧ l.get 6 = some (.int .i64 (j : Int)) ∧
          SegR h id o n s p c h1 g ∧ PermOn a b f g ∧ InsInv ltR a i j g) ?_ i ?_
        · rintro k l d h1 ⟨j, g, rfl, haj, hji, rfl, g0, g1, g2, g3, g5, sg, pm, iv⟩
          obtain ⟨c1, hg1, hd1, ho1, hc1⟩ := sg.row
          refine wc_seq ?_
          by_cases hj : a < k
          · have r1 := hc1 k (by omega)
            have r2 := hc1 (k - 1) (by omega)
            refine wc_seq (wc_opq fun Q1 hQ => ?_)
            simp (disch := omega) only [ER4, reduceIte, Nat.reduceEqDiff, Nat.reduceAdd, g0, g1, g5, hj, hg1, r1, r2, cmp_rw tc, cmp_lt]
            refine hQ _ ?_
            clear hQ Q1
            have sg := sg.cmp (x := (g k)) (y := (g (k - 1)))
            generalize hcm (g k) (g (k - 1)) _ = hx at sg ⊢
            obtain ⟨c1, hg1, hd1, ho1, hc1⟩ := sg.row
            have r1 := hc1 k (by omega)
            have r2 := hc1 (k - 1) (by omega)
            refine wc_cond (q := ltR (g k) (g (k - 1))) (by simp (disch := omega) only [ER4, reduceIte, Nat.reduceEqDiff, Nat.reduceAdd]) (fun hl => ?_) (fun hl => ?_)
            · refine wc_skip (wc_seq (wc_block ?_))
              refine wc_opq fun Q1 hQ => ?_
              simp (disch := omega) only [ER4, reduceIte, Nat.reduceEqDiff, Nat.reduceAdd, g0, g5, hg1, r1, r2]
              refine hQ _ ?_
              clear hQ Q1
              refine wc_opq fun Q1 hQ => ?_
              simp (disch := omega) only [ER4, reduceIte, Nat.reduceEqDiff, Nat.reduceAdd, g5]
              refine hQ _ ?_
              clear hQ Q1
              refine ⟨k - 1, by omega, k - 1, swp g k (k - 1), rfl, by omega, by omega, rfl, ?_, ?_, ?_, ?_, ?_, sg.swap hd1 ho1 (by omega) (by omega), pm.trans (PermOn.swap (by omega) (by omega)), ins_step ordR hj hji iv hl⟩
              · simp (disch := omega) only [ER4, reduceIte, Nat.reduceEqDiff, Nat.reduceAdd, g0]
              · simp (disch := omega) only [ER4, reduceIte, Nat.reduceEqDiff, Nat.reduceAdd, g1]
              · simp (disch := omega) only [ER4, reduceIte, Nat.reduceEqDiff, Nat.reduceAdd, g2]
              · simp (disch := omega) only [ER4, reduceIte, Nat.reduceEqDiff, Nat.reduceAdd, g3]
              · simp (disch := omega) only [ER4, reduceIte, Nat.reduceEqDiff, Nat.reduceAdd]
            · refine wc_exit ?_
              refine ⟨g, rfl, ?_, ?_, ?_, ?_, sg, pm, ins_stop ordR iv (.inr hl)⟩
              · simp (disch := omega) only [ER4, reduceIte, Nat.reduceEqDiff, Nat.reduceAdd, g0]
              · simp (disch := omega) only [ER4, reduceIte, Nat.reduceEqDiff, Nat.reduceAdd, g1]
              · simp (disch := omega) only [ER4, reduceIte, Nat.reduceEqDiff, Nat.reduceAdd, g2]
              · simp (disch := omega) only [ER4, reduceIte, Nat.reduceEqDiff, Nat.reduceAdd, g3]
          · refine wc_seq (wc_opq fun Q1 hQ => ?_)
            simp (disch := omega) only [ER4, reduceIte, Nat.reduceEqDiff, Nat.reduceAdd, g0, g1, g5, hj]
            refine hQ _ ?_
            clear hQ Q1
            refine wc_no (by simp (disch := omega) only [ER4, reduceIte, Nat.reduceEqDiff, Nat.reduceAdd]) (wc_exit ?_)
            refine ⟨g, rfl, ?_, ?_, ?_, ?_, sg, pm, ins_stop ordR iv (.inl (by omega))⟩
            · simp (disch := omega) only [ER4, reduceIte, Nat.reduceEqDiff, Nat.reduceAdd, g0]
            · simp (disch := omega) only [ER4, reduceIte, Nat.reduceEqDiff, Nat.reduceAdd, g1]
            · simp (disch := omega) only [ER4, reduceIte, Nat.reduceEqDiff, Nat.reduceAdd, g2]
            · simp (disch := omega) only [ER4, reduceIte, Nat.reduceEqDiff, Nat.reduceAdd, g3]
        · refine ⟨i, g, rfl, by omega, by omega, rfl, ?_, ?_, ?_, ?_, ?_, sg, pm, ins_start ri⟩
          · simp (disch := omega) only [ER4, reduceIte, Nat.reduceEqDiff, Nat.reduceAdd, g0]
          · simp (disch := omega) only [ER4, reduceIte, Nat.reduceEqDiff, Nat.reduceAdd, g1]
          · simp (disch := omega) only [ER4, reduceIte, Nat.reduceEqDiff, Nat.reduceAdd, g2]
          · simp (disch := omega) only [ER4, reduceIte, Nat.reduceEqDiff, Nat.reduceAdd, g3]
          · simp (disch := omega) only [ER4, reduceIte, Nat.reduceEqDiff, Nat.reduceAdd]
      · rintro l d h1 ⟨g, rfl, g0, g1, g2, g3, sg, pm, ri⟩
        refine wc_opq fun Q1 hQ => ?_
        simp (disch := omega) only [ER4, reduceIte, Nat.reduceEqDiff, Nat.reduceAdd, g3]
        refine hQ _ ?_
        clear hQ Q1
        refine ⟨b + 1 - (i + 1), by omega, i + 1, g, rfl, by omega, by omega, rfl, ?_, ?_, ?_, ?_, sg, pm, ri⟩
        · simp (disch := omega) only [ER4, reduceIte, Nat.reduceEqDiff, Nat.reduceAdd, g0]
        · simp (disch := omega) only [ER4, reduceIte, Nat.reduceEqDiff, Nat.reduceAdd, g1]
        · simp (disch := omega) only [ER4, reduceIte, Nat.reduceEqDiff, Nat.reduceAdd, g2]
        · simp (disch := omega) only [ER4, reduceIte, Nat.reduceEqDiff, Nat.reduceAdd]
    · refine wc_exit ?_
      refine ⟨[], rfl, g, sg, pm, fun x y h1 h2 h3 => ri x y h1 h2 (by omega)⟩
  · refine ⟨a + 1, f, rfl, by omega, by omega, rfl, ?_, ?_, ?_, ?_, SegR.start hi hg hc, PermOn.refl, rises_short ordR (by omega)⟩
    · simp (disch := omega) only [ER4, reduceIte, Nat.reduceEqDiff, Nat.reduceAdd]
    · simp (disch := omega) only [ER4, reduceIte, Nat.reduceEqDiff, Nat.reduceAdd]
    · simp (disch := omega) only [ER4, reduceIte, Nat.reduceEqDiff, Nat.reduceAdd]
    · simp (disch := omega) only [ER4, reduceIte, Nat.reduceEqDiff, Nat.reduceAdd]
end
end Go.Ev

namespace Go.Ev
open Go
set_option linter.unusedSimpArgs false
set_option linter.unusedVariables false
set_option maxRecDepth 100000
set_option maxHeartbeats 4000000
/-- a pointer to an integer -/
def PInt (h : AH) (q : Nat) : Prop := q < h.next ∧ ∃ cq sq pq z, h.mem.get q = some (.cells cq sq pq false) ∧ cq.get 0 = some (.int .i64 z)
section
variable {tab : Nat → Option AFunc} {h : AH} {id o n s a b : Nat} {p : Bool} {cap : ACap} {c : T AV} {f : Nat → Rw}
theorem mvt (l : List AV) (h : AH) : oMove (.c (.tup l)) .leaf [] h = .val (.tup l) h := rfl
theorem xt0 {a b : AV} {h : AH} (hv : a.mv = true) : oExtract 0 (.c (.tup [a, b])) .leaf [] h = .val a h := extract_tup (i := 0) hv
theorem xt1 {a b : AV} {h : AH} (hv : b.mv = true) : oExtract 1 (.c (.tup [a, b])) .leaf [] h = .val b h := extract_tup (i := 1) hv
theorem mvi {k : IntKind} {n : Int} : (AV.int k n).mv = true := rfl
theorem mvb {b : Bool} : (AV.bool b).mv = true := rfl
theorem order2_gp (t134 : tab 100 = some af100) (tc : CmpT tab)
    (hg : h.mem.get id = some (.cells c s p false)) (hc : RArr4 c o n f) {x y q : Nat} (hx : x < n) (hy : y < n) (hq : PInt h q) :
    GP tab 100 [.sl id o n cap, .int .i64 (x : Int), .int .i64 (y : Int), .ptr q 0, .fn 13 [] []] h fun v h1 => ∃ x' y' : Nat, v = .tup [.int .i64 (x' : Int), .int .i64 (y' : Int)] ∧ (x' = x ∧ y' = y ∨ x' = y ∧ y' = x) ∧ PInt h1 q ∧ MoreBut q h h1 := by
  have i0 : initLoc [.sl id o n cap, .int .i64 (x : Int), .int .i64 (y : Int), .ptr q 0, .fn 13 [] []] = ofList [.sl id o n cap, .int .i64 (x : Int), .int .i64 (y : Int), .ptr q 0, .fn 13 [] []] := rfl
  obtain ⟨hqn, cq, sq, pq, z, hq1, hq2⟩ := hq
  have r1 := hc.arr x hx
  have r2 := hc.arr y hy
  refine gp_of t134 rfl ?_
  refine wc_seq (wc_opq fun Q1 hQ => ?_)
  simp (disch := omega) only [ER4, reduceIte, Nat.reduceEqDiff, Nat.reduceAdd, i0]
  refine hQ _ ?_
  clear hQ Q1
  refine wc_seq ?_
  refine wc_seq (wc_opq fun Q1 hQ => ?_)
  simp (disch := omega) only [ER4, reduceIte, Nat.reduceEqDiff, Nat.reduceAdd, i0, hg, r1, r2, cmp_rw tc, cmp_lt]
  refine hQ _ ?_
  clear hQ Q1
  have mo := hcm_more (h := h) (x := f y) (y := f x)
  generalize hcm (f y) (f x) _ = h9 at mo ⊢
  have mb := mo.but q
  have hq1 : h9.mem.get q = some (.cells cq sq pq false) := by rw [mo.keep q hqn]; exact hq1
  have hqn : q < h9.next := Nat.lt_of_lt_of_le hqn mo.next
  refine wc_cond (q := ltR (f y) (f x)) (by simp (disch := omega) only [ER4, reduceIte, Nat.reduceEqDiff, Nat.reduceAdd]) (fun hl => ?_) (fun hl => ?_)
  · refine wc_seq (wc_opq fun Q1 hQ => ?_)
    simp (disch := omega) only [ER4, reduceIte, Nat.reduceEqDiff, Nat.reduceAdd, i0, hq1, hq2]
    refine hQ _ ?_
    clear hQ Q1
    refine wc_seq (wc_opq fun Q1 hQ => ?_)
    simp (disch := omega) only [ER4, reduceIte, Nat.reduceEqDiff, Nat.reduceAdd, i0]
    refine hQ _ ?_
    clear hQ Q1
    refine wc_ret ⟨_, results_val (results_val results_nil), y, x, ?_, .inr ⟨rfl, rfl⟩, ⟨hqn, _, _, _, _, AH.get_set, T.get_put_self _ _ _⟩, mb.set _⟩
    simp (disch := omega) only [ER4, reduceIte, Nat.reduceEqDiff, Nat.reduceAdd, one_more]
  · refine wc_skip ?_
    refine wc_seq (wc_opq fun Q1 hQ => ?_)
    simp (disch := omega) only [ER4, reduceIte, Nat.reduceEqDiff, Nat.reduceAdd, i0]
    refine hQ _ ?_
    clear hQ Q1
    refine wc_ret ⟨_, results_val (results_val results_nil), x, y, ?_, .inl ⟨rfl, rfl⟩, ⟨hqn, _, _, _, _, hq1, hq2⟩, mb⟩
    simp (disch := omega) only [ER4, reduceIte, Nat.reduceEqDiff, Nat.reduceAdd, one_more]
theorem median_gp (t109 : tab 68 = some af68) (t134 : tab 100 = some af100) (tc : CmpT tab)
    (hi : id < h.next) (hg : h.mem.get id = some (.cells c s p false)) (hc : RArr4 c o n f) {x y z q : Nat} (hx : x < n) (hy : y < n) (hz : z < n) (hq : PInt h q) (hne : id ≠ q) :
    GP tab 68 [.sl id o n cap, .int .i64 (x : Int), .int .i64 (y : Int), .int .i64 (z : Int), .ptr q 0, .fn 13 [] []] h fun v h1 => ∃ m : Nat, v = .int .i64 (m : Int) ∧ (m = x ∨ m = y ∨ m = z) ∧ PInt h1 q ∧ MoreBut q h h1 := by
  have i0 : initLoc [.sl id o n cap, .int .i64 (x : Int), .int .i64 (y : Int), .int .i64 (z : Int), .ptr q 0, .fn 13 [] []] = ofList [.sl id o n cap, .int .i64 (x : Int), .int .i64 (y : Int), .int .i64 (z : Int), .ptr q 0, .fn 13 [] []] := rfl
  refine gp_of t109 rfl ?_
  refine wc_seq (wc_opq fun Q1 hQ => ?_)
  simp (disch := omega) only [ER4, reduceIte, Nat.reduceEqDiff, Nat.reduceAdd, i0]
  refine hQ _ ?_
  clear hQ Q1
  refine wc_seq (wc_opq fun Q1 hQ => ?_)
  simp (disch := omega) only [ER4, reduceIte, Nat.reduceEqDiff, Nat.reduceAdd, i0]
  refine (order2_gp t134 tc hg hc hx hy hq).mono ?_
  rintro v h1 ⟨x1, y1, rfl, e1, hq1, m1⟩
  have hg1 : h1.mem.get id = some (.cells c s p false) := by rw [m1.keep _ hi hne]; exact hg
  simp (disch := omega) only [ER4, reduceIte, Nat.reduceEqDiff, Nat.reduceAdd, mvt, xt0 mvi, xt1 mvi]
  refine hQ _ ?_
  clear hQ Q1
  refine wc_seq (wc_opq fun Q1 hQ => ?_)
  simp (disch := omega) only [ER4, reduceIte, Nat.reduceEqDiff, Nat.reduceAdd, i0]
  refine (order2_gp t134 tc hg1 hc (x := y1) (y := z) (by omega) hz hq1).mono ?_
  rintro v h2 ⟨y2, z2, rfl, e2, hq2, m2⟩
  have hg2 : h2.mem.get id = some (.cells c s p false) := by rw [m2.keep _ (Nat.lt_of_lt_of_le hi m1.next) hne]; exact hg1
  simp (disch := omega) only [ER4, reduceIte, Nat.reduceEqDiff, Nat.reduceAdd, mvt, xt0 mvi, xt1 mvi]
  refine hQ _ ?_
  clear hQ Q1
  refine wc_seq (wc_opq fun Q1 hQ => ?_)
  simp (disch := omega) only [ER4, reduceIte, Nat.reduceEqDiff, Nat.reduceAdd, i0]
  refine (order2_gp t134 tc hg2 hc (x := x1) (y := y2) (by omega) (by omega) hq2).mono ?_
  rintro v h3 ⟨x3, y3, rfl, e3, hq3, m3⟩
  simp (disch := omega) only [ER4, reduceIte, Nat.reduceEqDiff, Nat.reduceAdd, mvt, xt0 mvi, xt1 mvi]
  refine hQ _ ?_
  clear hQ Q1
  refine wc_seq (wc_opq fun Q1 hQ => ?_)
  simp (disch := omega) only [ER4, reduceIte, Nat.reduceEqDiff, Nat.reduceAdd, i0]
  refine hQ _ ?_
  clear hQ Q1
  refine wc_ret ⟨_, results_val results_nil, y3, ?_, by omega, hq3, (m1.trans m2).trans m3⟩
  simp (disch := omega) only [ER4, reduceIte, Nat.reduceEqDiff, Nat.reduceAdd, one_one]
theorem adjacent_gp (t108 : tab 67 = some af67) (t109 : tab 68 = some af68) (t134 : tab 100 = some af100) (tc : CmpT tab)
    (hi : id < h.next) (hg : h.mem.get id = some (.cells c s p false)) (hc : RArr4 c o n f) {x q : Nat} (hx0 : 0 < x) (hx : x + 1 < n) (hn : n < 4611686018427387904) (hq : PInt h q) (hne : id ≠ q) :
    GP tab 67 [.sl id o n cap, .int .i64 (x : Int), .ptr q 0, .fn 13 [] []] h fun v h1 => ∃ m : Nat, v = .int .i64 (m : Int) ∧ x ≤ m + 1 ∧ m ≤ x + 1 ∧ PInt h1 q ∧ MoreBut q h h1 := by
  have i0 : initLoc [.sl id o n cap, .int .i64 (x : Int), .ptr q 0, .fn 13 [] []] = ofList [.sl id o n cap, .int .i64 (x : Int), .ptr q 0, .fn 13 [] []] := rfl
  refine gp_of t108 rfl ?_
  refine wc_seq (wc_opq fun Q1 hQ => ?_)
  simp (disch := omega) only [ER4, reduceIte, Nat.reduceEqDiff, Nat.reduceAdd, i0]
  refine hQ _ ?_
  clear hQ Q1
  refine wc_seq (wc_opq fun Q1 hQ => ?_)
  simp (disch := omega) only [ER4, reduceIte, Nat.reduceEqDiff, Nat.reduceAdd, i0]
  refine (median_gp t109 t134 tc hi hg hc (x := x - 1) (y := x) (z := x + 1) (by omega) (by omega) (by omega) hq hne).mono ?_
  rintro v h1 ⟨m, rfl, e1, hq1, m1⟩
  simp (disch := omega) only [ER4, reduceIte, Nat.reduceEqDiff, Nat.reduceAdd]
  refine hQ _ ?_
  clear hQ Q1
  refine wc_ret ⟨_, results_val results_nil, m, ?_, by omega, by omega, hq1, m1⟩
  simp (disch := omega) only [ER4, reduceIte, Nat.reduceEqDiff, Nat.reduceAdd, one_one]
theorem pivot_gp (t60 : tab 45 = some af45) (t108 : tab 67 = some af67) (t109 : tab 68 = some af68) (t134 : tab 100 = some af100) (tc : CmpT tab)
    (hi : id < h.next) (hg : h.mem.get id = some (.cells c s p false)) (hc : RArr4 c o n f) (hab : a + 8 ≤ b) (hbn : b ≤ n) (hn : n < 4611686018427387904) :
    GP tab 45 [.sl id o n cap, .int .i64 (a : Int), .int .i64 (b : Int), .fn 13 [] []] h fun v h1 => ∃ m t : Nat, v = .tup [.int .i64 (m : Int), .int .i64 (t : Int)] ∧ a ≤ m ∧ m < b ∧ More h h1 := by
  have i0 : initLoc [.sl id o n cap, .int .i64 (a : Int), .int .i64 (b : Int), .fn 13 [] []] = ofList [.sl id o n cap, .int .i64 (a : Int), .int .i64 (b : Int), .fn 13 [] []] := rfl
  have hm1 : (b - a) / 4 * 3 < 4611686018427387904 := by omega
  have hmb : ∀ {h' : AH}, MoreBut h.next (h.add (.cells (ofList [.int .i64 ((0 : Nat) : Int)]) 1 false false)) h' → More h h' := fun m => ⟨Nat.le_trans (Nat.le_succ _) m.next, fun k hk => by rw [m.keep k (Nat.lt_succ_of_lt hk) (by omega), AH.add_mem, T.get_put_ne _ _ _ _ (by omega)]⟩
  refine gp_of t60 rfl ?_
  refine wc_seq (wc_opq fun Q1 hQ => ?_)
  simp (disch := omega) only [ER4, reduceIte, Nat.reduceEqDiff, Nat.reduceAdd, i0]
  refine hQ _ ?_
  clear hQ Q1
  refine wc_seq (wc_opq fun Q1 hQ => ?_)
  simp (disch := omega) only [ER4, reduceIte, Nat.reduceEqDiff, Nat.reduceAdd, i0]
  refine hQ _ ?_
  clear hQ Q1
  refine wc_seq (wc_opq fun Q1 hQ => ?_)
  simp (disch := omega) only [ER4, reduceIte, Nat.reduceEqDiff, Nat.reduceAdd, i0]
  refine hQ _ ?_
  clear hQ Q1
  refine wc_seq (wc_opq fun Q1 hQ => ?_)
  simp (disch := omega) only [ER4, reduceIte, Nat.reduceEqDiff, Nat.reduceAdd, i0]
  refine hQ _ ?_
  clear hQ Q1
  refine wc_seq (wc_opq fun Q1 hQ => ?_)
  simp (disch := omega) only [ER4, reduceIte, Nat.reduceEqDiff, Nat.reduceAdd, i0]
  refine hQ _ ?_
  clear hQ Q1
  refine wc_seq (wc_opq fun Q1 hQ => ?_)
  simp (disch := omega) only [ER4, reduceIte, Nat.reduceEqDiff, Nat.reduceAdd, i0]
  refine hQ _ ?_
  clear hQ Q1
  have hid : id ≠ h.next := by omega
  have hg0 : (h.add (.cells (ofList [.int .i64 ((0 : Nat) : Int)]) 1 false false)).mem.get id = some (.cells c s p false) := by rw [AH.add_mem, T.get_put_ne _ _ _ _ (Ne.symm hid)]; exact hg
  have hq0 : PInt (h.add (.cells (ofList [.int .i64 ((0 : Nat) : Int)]) 1 false false)) h.next := ⟨Nat.lt_succ_self _, _, _, _, _, by rw [AH.add_mem]; exact T.get_put_self _ _ _, rfl⟩
  have hi0 : id < (h.add (.cells (ofList [.int .i64 ((0 : Nat) : Int)]) 1 false false)).next := Nat.lt_succ_of_lt hi
  generalize (h.add (.cells (ofList [.int .i64 ((0 : Nat) : Int)]) 1 false false)) = h0 at *
  refine wc_mid (fun l d h1 => ∃ m : Nat, d = [] ∧ l.get 8 = some (.ptr h.next 0) ∧ l.get 9 = some (.int .i64 (m : Int)) ∧ a ≤ m ∧ m < b ∧ PInt h1 h.next ∧ MoreBut h.next h0 h1) ?_ ?_
  · refine wc_seq (wc_opq fun Q1 hQ => ?_)
    simp (disch := omega) only [ER4, reduceIte, Nat.reduceEqDiff, Nat.reduceAdd, i0]
    refine hQ _ ?_
    clear hQ Q1
    have e8 : 8 ≤ b - a := by omega
    refine wc_yes (by simp (disch := omega) only [ER4, reduceIte, Nat.reduceEqDiff, Nat.reduceAdd, e8]) ?_
    refine wc_mid (fun l d h1 => ∃ i j k : Nat, d = [] ∧ (l.get 0 = some (.sl id o n cap) ∧ l.get 3 = some (.fn 13 [] [])) ∧ l.get 7 = some (.int .i64 (i : Int)) ∧ l.get 9 = some (.int .i64 (j : Int)) ∧ l.get 10 = some (.int .i64 (k : Int)) ∧ l.get 8 = some (.ptr h.next 0) ∧ a ≤ i ∧ i < b ∧ a ≤ j ∧ j < b ∧ a ≤ k ∧ k < b ∧ PInt h1 h.next ∧ MoreBut h.next h0 h1) ?_ ?_
    · refine wc_seq (wc_opq fun Q1 hQ => ?_)
      simp (disch := omega) only [ER4, reduceIte, Nat.reduceEqDiff, Nat.reduceAdd, i0]
      refine hQ _ ?_
      clear hQ Q1
      refine wc_if (50 ≤ b - a) (by simp (disch := omega) only [ER4, reduceIte, Nat.reduceEqDiff, Nat.reduceAdd]) (fun h50 => ?_) (fun h50 => ?_)
      · refine wc_seq (wc_opq fun Q1 hQ => ?_)
        simp (disch := omega) only [ER4, reduceIte, Nat.reduceEqDiff, Nat.reduceAdd, i0]
        refine (adjacent_gp t108 t109 t134 tc hi0 hg0 hc (x := a + (b - a) / 4) (by omega) (by omega) hn hq0 hid).mono ?_
        rintro v h1 ⟨m1, rfl, b1, b2, hq1, mb1⟩
        have hg1 : h1.mem.get id = some (.cells c s p false) := by rw [mb1.keep _ hi0 hid]; exact hg0
        have hi1 := Nat.lt_of_lt_of_le hi0 mb1.next
        simp (disch := omega) only [ER4, reduceIte, Nat.reduceEqDiff, Nat.reduceAdd]
        refine hQ _ ?_
        clear hQ Q1
        refine wc_seq (wc_opq fun Q1 hQ => ?_)
        simp (disch := omega) only [ER4, reduceIte, Nat.reduceEqDiff, Nat.reduceAdd, i0]
        refine (adjacent_gp t108 t109 t134 tc hi1 hg1 hc (x := a + (b - a) / 4 * 2) (by omega) (by omega) hn hq1 hid).mono ?_
        rintro v h2 ⟨m2, rfl, b3, b4, hq2, mb2⟩
        have hg2 : h2.mem.get id = some (.cells c s p false) := by rw [mb2.keep _ hi1 hid]; exact hg1
        have hi2 := Nat.lt_of_lt_of_le hi1 mb2.next
        simp (disch := omega) only [ER4, reduceIte, Nat.reduceEqDiff, Nat.reduceAdd]
        refine hQ _ ?_
        clear hQ Q1
        refine wc_opq fun Q1 hQ => ?_
        simp (disch := omega) only [ER4, reduceIte, Nat.reduceEqDiff, Nat.reduceAdd, i0]
        refine (adjacent_gp t108 t109 t134 tc hi2 hg2 hc (x := a + (b - a) / 4 * 3) (by omega) (by omega) hn hq2 hid).mono ?_
        rintro v h3 ⟨m3, rfl, b5, b6, hq3, mb3⟩
        simp (disch := omega) only [ER4, reduceIte, Nat.reduceEqDiff, Nat.reduceAdd]
        refine hQ _ ?_
        clear hQ Q1
        refine ⟨m1, m2, m3, rfl, ?_, ?_, ?_, ?_, ?_, by omega, by omega, by omega, by omega, by omega, by omega, hq3, (mb1.trans mb2).trans mb3⟩
        all_goals simp (disch := omega) only [ER4, reduceIte, Nat.reduceEqDiff, Nat.reduceAdd, i0]
      · refine wc_skip ⟨a + (b - a) / 4, a + (b - a) / 4 * 2, a + (b - a) / 4 * 3, rfl, ?_, ?_, ?_, ?_, ?_, by omega, by omega, by omega, by omega, by omega, by omega, hq0, MoreBut.refl _ _⟩
        all_goals simp (disch := omega) only [ER4, reduceIte, Nat.reduceEqDiff, Nat.reduceAdd, i0]
    · rintro l d h1 ⟨i, j, k, rfl, g0, g6, g8, g9, g7, b1, b2, b3, b4, b5, b6, hq1, mb1⟩
      have hg1 : h1.mem.get id = some (.cells c s p false) := by rw [mb1.keep _ hi0 hid]; exact hg0
      refine wc_opq fun Q1 hQ => ?_
      simp (disch := omega) only [ER4, reduceIte, Nat.reduceEqDiff, Nat.reduceAdd, g0, g6, g8, g9, g7]
      refine (median_gp t109 t134 tc (Nat.lt_of_lt_of_le hi0 mb1.next) hg1 hc (x := i) (y := j) (z := k) (by omega) (by omega) (by omega) hq1 hid).mono ?_
      rintro v h2 ⟨m, rfl, e1, hq2, mb2⟩
      simp (disch := omega) only [ER4, reduceIte, Nat.reduceEqDiff, Nat.reduceAdd]
      refine hQ _ ?_
      clear hQ Q1
      refine ⟨m, rfl, ?_, ?_, by omega, by omega, hq2, mb1.trans mb2⟩
      · simp (disch := omega) only [ER4, reduceIte, Nat.reduceEqDiff, Nat.reduceAdd, g7]
      · simp (disch := omega) only [ER4, reduceIte, Nat.reduceEqDiff, Nat.reduceAdd]
  · rintro l d h1 ⟨m, rfl, g7, g8, b1, b2, ⟨_, cq, sq, pq, z, hq1, hq2⟩, mb⟩
    have hmo : More h h1 := hmb mb
    refine wc_seq (wc_opq fun Q1 hQ => ?_)
    simp (disch := omega) only [ER4, reduceIte, Nat.reduceEqDiff, Nat.reduceAdd, g7, hq1, hq2]
    refine hQ _ ?_
    clear hQ Q1
    refine wc_block ?_
    refine wc_seq (wc_opq fun Q1 hQ => ?_)
    simp (disch := omega) only [ER4, reduceIte, Nat.reduceEqDiff, Nat.reduceAdd]
    refine hQ _ ?_
    clear hQ Q1
    refine wc_if (z = ((0 : Nat) : Int)) (by simp (disch := omega) only [ER4, reduceIte, Nat.reduceEqDiff, Nat.reduceAdd]) (fun hz => ?_) (fun hz => ?_)
    · refine wc_seq (wc_opq fun Q1 hQ => ?_)
      simp (disch := omega) only [ER4, reduceIte, Nat.reduceEqDiff, Nat.reduceAdd, g8]
      refine hQ _ ?_
      clear hQ Q1
      refine wc_ret ⟨_, results_val (results_val results_nil), m, 1, ?_, b1, b2, hmo⟩
      simp (disch := omega) only [ER4, reduceIte, Nat.reduceEqDiff, Nat.reduceAdd, one_more]
    · refine wc_seq (wc_opq fun Q1 hQ => ?_)
      simp (disch := omega) only [ER4, reduceIte, Nat.reduceEqDiff, Nat.reduceAdd]
      refine hQ _ ?_
      clear hQ Q1
      refine wc_if (z = ((12 : Nat) : Int)) (by simp (disch := omega) only [ER4, reduceIte, Nat.reduceEqDiff, Nat.reduceAdd]) (fun hz => ?_) (fun hz => ?_)
      · refine wc_seq (wc_opq fun Q1 hQ => ?_)
        simp (disch := omega) only [ER4, reduceIte, Nat.reduceEqDiff, Nat.reduceAdd, g8]
        refine hQ _ ?_
        clear hQ Q1
        refine wc_ret ⟨_, results_val (results_val results_nil), m, 2, ?_, b1, b2, hmo⟩
        simp (disch := omega) only [ER4, reduceIte, Nat.reduceEqDiff, Nat.reduceAdd, one_more]
      · refine wc_seq (wc_opq fun Q1 hQ => ?_)
        simp (disch := omega) only [ER4, reduceIte, Nat.reduceEqDiff, Nat.reduceAdd, g8]
        refine hQ _ ?_
        clear hQ Q1
        refine wc_ret ⟨_, results_val (results_val results_nil), m, 0, ?_, b1, b2, hmo⟩
        simp (disch := omega) only [ER4, reduceIte, Nat.reduceEqDiff, Nat.reduceAdd, one_more]
theorem reverse_gp (t61 : tab 46 = some af46) (hi : id < h.next) (hg : h.mem.get id = some (.cells c s p false)) (hc : RArr4 c o n f) (hab : a < b) (hbn : b ≤ n) (hn : n < 4611686018427387904) :
    GP tab 46 [.sl id o n cap, .int .i64 (a : Int), .int .i64 (b : Int), .fn 13 [] []] h fun _ h1 => ∃ g, SegR h id o n s p c h1 g ∧ PermOn a b f g := by
  have i0 : initLoc [.sl id o n cap, .int .i64 (a : Int), .int .i64 (b : Int), .fn 13 [] []] = ofList [.sl id o n cap, .int .i64 (a : Int), .int .i64 (b : Int), .fn 13 [] []] := rfl
  refine gp_of t61 rfl ?_
  refine wc_seq (wc_opq fun Q1 hQ => ?_)
  simp (disch := omega) only [ER4, reduceIte, Nat.reduceEqDiff, Nat.reduceAdd, i0]
  refine hQ _ ?_
  clear hQ Q1
  refine wc_seq (wc_opq fun Q1 hQ => ?_)
  simp (disch := omega) only [ER4, reduceIte, Nat.reduceEqDiff, Nat.reduceAdd, i0]
  refine hQ _ ?_
  clear hQ Q1
  refine wc_block ?_
  refine wc_while (fun k l d h1 => ∃ i j g, k = j + 1 - i ∧ a ≤ i ∧ j < b ∧ i ≤ j + 1 ∧ d = [] ∧ (l.get 0 = some (.sl id o n cap) ∧ l.get 3 = some (.fn 13 [] [])) ∧ l.get 4 = some (.int .i64 (i : Int)) ∧ l.get 5 = some (.int .i64 (j : Int)) ∧ SegR h id o n s p c h1 g ∧ PermOn a b f g) ?_ (b - 1 + 1 - a) ?_
  · rintro k l d h1 ⟨i, j, g, hk, h1', h2', h3', rfl, g0, g3, g4, sg, pm⟩
    obtain ⟨c1, hg1, hd1, ho1, hc1⟩ := sg.row
    refine wc_seq ?_
    refine wc_seq (wc_opq fun Q1 hQ => ?_)
    simp (disch := omega) only [ER4, reduceIte, Nat.reduceEqDiff, Nat.reduceAdd, g3, g4]
    refine hQ _ ?_
    clear hQ Q1
    refine wc_if (i < j) (by simp (disch := omega) only [ER4, reduceIte, Nat.reduceEqDiff, Nat.reduceAdd]) (fun hlt => ?_) (fun hge => ?_)
    · refine wc_skip (wc_block ?_)
      have r1 := hc1 i (by omega)
      have r2 := hc1 j (by omega)
      refine wc_seq (wc_opq fun Q1 hQ => ?_)
      simp (disch := omega) only [ER4, reduceIte, Nat.reduceEqDiff, Nat.reduceAdd, g0, g3, g4, hg1, r1, r2]
      refine hQ _ ?_
      clear hQ Q1
      refine wc_seq (wc_opq fun Q1 hQ => ?_)
      simp (disch := omega) only [ER4, reduceIte, Nat.reduceEqDiff, Nat.reduceAdd, g3]
      refine hQ _ ?_
      clear hQ Q1
      refine wc_opq fun Q1 hQ => ?_
      simp (disch := omega) only [ER4, reduceIte, Nat.reduceEqDiff, Nat.reduceAdd, g4]
      refine hQ _ ?_
      clear hQ Q1
      refine ⟨j - 1 + 1 - (i + 1), by omega, i + 1, j - 1, _, rfl, by omega, by omega, by omega, rfl, ?_, ?_, ?_, sg.swap hd1 ho1 (by omega) (by omega), pm.trans (PermOn.swap (by omega) (by omega))⟩
      all_goals simp (disch := omega) only [ER4, reduceIte, Nat.reduceEqDiff, Nat.reduceAdd, g0]
    · exact wc_exit ⟨[], rfl, g, sg, pm⟩
  · refine ⟨a, b - 1, f, rfl, by omega, by omega, by omega, rfl, ?_, ?_, ?_, SegR.start hi hg hc, PermOn.refl⟩
    all_goals simp (disch := omega) only [ER4, reduceIte, Nat.reduceEqDiff, Nat.reduceAdd]
end
end Go.Ev

namespace Go.Ev
open Go
set_option linter.unusedSimpArgs false
set_option linter.unusedVariables false
set_option maxRecDepth 100000
set_option maxHeartbeats 4000000
theorem PermOn.shf {α : Type} {a b o : Nat} {f g : Nat → α} {Q : α → Prop} (x : PermOn (o + a) (o + b) f g) (h : ∀ i, a ≤ i → i < b → Q (Ev.shf f o i)) : ∀ i, a ≤ i → i < b → Q (Ev.shf g o i) := fun i h1 h2 =>
  x.all (Q := Q) (fun j j1 j2 => by have := h (j - o) (by omega) (by omega); rwa [Ev.shf, show o + (j - o) = j by omega] at this) (o + i) (by omega) (by omega)
section
variable {tab : Nat → Option AFunc} {h : AH} {id o n s a b : Nat} {p : Bool} {cap : ACap} {c : T AV} {f : Nat → Rw}
theorem sift_gp (t105 : tab 64 = some af64) (tc : CmpT tab)
    (hi : id < h.next) (hg : h.mem.get id = some (.cells c s p false)) (hc : RArr4 c o n f) {lo hh fst : Nat} (hlo : lo ≤ hh) (hfn : fst + hh ≤ n) (hn : n < 2305843009213693952) (hp : HeapBut ltR lo hh lo (shf f fst)) :
    GP tab 64 [.sl id o n cap, .int .i64 (lo : Int), .int .i64 (hh : Int), .int .i64 (fst : Int), .fn 13 [] []] h fun _ h1 => ∃ g, SegR h id o n s p c h1 g ∧ PermOn (fst + lo) (fst + hh) f g ∧ Heap ltR lo hh (shf g fst) := by
  have i0 : initLoc [.sl id o n cap, .int .i64 (lo : Int), .int .i64 (hh : Int), .int .i64 (fst : Int), .fn 13 [] []] = ofList [.sl id o n cap, .int .i64 (lo : Int), .int .i64 (hh : Int), .int .i64 (fst : Int), .fn 13 [] []] := rfl
  refine gp_of t105 rfl ?_
  refine wc_seq (wc_opq fun Q1 hQ => ?_)
  simp (disch := omega) only [ER4, reduceIte, Nat.reduceEqDiff, Nat.reduceAdd, i0]
  refine hQ _ ?_
  clear hQ Q1
  refine wc_block ?_
  refine wc_while (fun k l d h1 => ∃ r g, k = hh + 1 - r ∧ lo ≤ r ∧ r ≤ hh ∧ d = [] ∧ (l.get 0 = some (.sl id o n cap) ∧ l.get 4 = some (.fn 13 [] [])) ∧ l.get 2 = some (.int .i64 (hh : Int)) ∧ l.get 3 = some (.int .i64 (fst : Int)) ∧ l.get 5 = some (.int .i64 (r : Int)) ∧
    SegR h id o n s p c h1 g ∧ PermOn (fst + lo) (fst + hh) f g ∧ HeapBut ltR lo hh r (shf g fst)) ?_ (hh + 1 - lo) ?_
  · rintro k l d h1 ⟨r, g, hk, hlr, hrh, rfl, g0, g2, g3, g4, sg, pm, hb⟩
    obtain ⟨c1, hg1, hd1, ho1, hc1⟩ := sg.row
    refine wc_block ?_
    refine wc_seq (wc_opq fun Q1 hQ => ?_)
    simp (disch := omega) only [ER4, reduceIte, Nat.reduceEqDiff, Nat.reduceAdd, g4]
    refine hQ _ ?_
    clear hQ Q1
    refine wc_seq ?_
    refine wc_seq (wc_opq fun Q1 hQ => ?_)
    simp (disch := omega) only [ER4, reduceIte, Nat.reduceEqDiff, Nat.reduceAdd, g2]
    refine hQ _ ?_
    clear hQ Q1
    refine wc_if (hh ≤ 2 * r + 1) (by simp (disch := omega) only [ER4, reduceIte, Nat.reduceEqDiff, Nat.reduceAdd]) (fun hle => ?_) (fun hle => ?_)
    · exact wc_exit ⟨[], rfl, g, sg, pm, heap_leaf hb hle⟩
    refine wc_skip ?_
    refine wc_mid (fun l d h2 => ∃ e : Nat, SegR h id o n s p c h2 g ∧ d = [] ∧ (l.get 0 = some (.sl id o n cap) ∧ l.get 4 = some (.fn 13 [] [])) ∧ l.get 2 = some (.int .i64 (hh : Int)) ∧ l.get 3 = some (.int .i64 (fst : Int)) ∧ l.get 5 = some (.int .i64 (r : Int)) ∧ l.get 6 = some (.int .i64 (e : Int)) ∧
      (e = 2 * r + 1 ∨ e = 2 * r + 2) ∧ e < hh ∧ ∀ d, d = 2 * r + 1 ∨ d = 2 * r + 2 → d < hh → ltR (shf g fst e) (shf g fst d) = false) ?_ ?_
    · by_cases hc2 : 2 * r + 1 + 1 < hh
      · have r1 := hc1 (fst + (2 * r + 1)) (by omega)
        have r2 := hc1 (fst + (2 * r + 1) + 1) (by omega)
        refine wc_seq (wc_opq fun Q1 hQ => ?_)
        simp (disch := omega) only [ER4, reduceIte, Nat.reduceEqDiff, Nat.reduceAdd, g0, g2, g3, g4, hc2, hg1, r1, r2, cmp_rw tc, cmp_lt]
        refine hQ _ ?_
        clear hQ Q1
        have sg := sg.cmp (x := (g (fst + (2 * r + 1)))) (y := (g (fst + (2 * r + 1) + 1)))
        generalize hcm (g (fst + (2 * r + 1))) (g (fst + (2 * r + 1) + 1)) _ = h9 at sg ⊢
        obtain ⟨c1, hg1, hd1, ho1, hc1⟩ := sg.row
        have r1 := hc1 (fst + (2 * r + 1)) (by omega)
        have r2 := hc1 (fst + (2 * r + 1) + 1) (by omega)
        refine wc_cond (q := ltR (g (fst + (2 * r + 1))) (g (fst + (2 * r + 1) + 1))) (by simp (disch := omega) only [ER4, reduceIte, Nat.reduceEqDiff, Nat.reduceAdd]) (fun hl => ?_) (fun hl => ?_)
        · refine wc_opq fun Q1 hQ => ?_
          simp (disch := omega) only [ER4, reduceIte, Nat.reduceEqDiff, Nat.reduceAdd, g4]
          refine hQ _ ?_
          clear hQ Q1
          refine ⟨2 * r + 1 + 1, sg, rfl, ?_, ?_, ?_, ?_, ?_, .inr rfl, hc2, ?_⟩
          · simp (disch := omega) only [ER4, reduceIte, Nat.reduceEqDiff, Nat.reduceAdd, g0]
          · simp (disch := omega) only [ER4, reduceIte, Nat.reduceEqDiff, Nat.reduceAdd, g2]
          · simp (disch := omega) only [ER4, reduceIte, Nat.reduceEqDiff, Nat.reduceAdd, g3]
          · simp (disch := omega) only [ER4, reduceIte, Nat.reduceEqDiff, Nat.reduceAdd, g4]
          · simp (disch := omega) only [ER4, reduceIte, Nat.reduceEqDiff, Nat.reduceAdd]
          · rintro d (rfl | rfl) hd
            · exact ordR.asym _ _ hl
            · exact ordR.irrefl _
        · refine wc_skip ⟨2 * r + 1, sg, rfl, ?_, ?_, ?_, ?_, ?_, .inl rfl, by omega, ?_⟩
          · simp (disch := omega) only [ER4, reduceIte, Nat.reduceEqDiff, Nat.reduceAdd, g0]
          · simp (disch := omega) only [ER4, reduceIte, Nat.reduceEqDiff, Nat.reduceAdd, g2]
          · simp (disch := omega) only [ER4, reduceIte, Nat.reduceEqDiff, Nat.reduceAdd, g3]
          · simp (disch := omega) only [ER4, reduceIte, Nat.reduceEqDiff, Nat.reduceAdd, g4]
          · simp (disch := omega) only [ER4, reduceIte, Nat.reduceEqDiff, Nat.reduceAdd]
          · rintro d (rfl | rfl) hd
            · exact ordR.irrefl _
            · exact hl
      · refine wc_seq (wc_opq fun Q1 hQ => ?_)
        simp (disch := omega) only [ER4, reduceIte, Nat.reduceEqDiff, Nat.reduceAdd, g0, g2, g3, g4, hc2]
        refine hQ _ ?_
        clear hQ Q1
        refine wc_no (by simp (disch := omega) only [ER4, reduceIte, Nat.reduceEqDiff, Nat.reduceAdd]) (wc_skip ?_)
        refine ⟨2 * r + 1, sg, rfl, ?_, ?_, ?_, ?_, ?_, .inl rfl, by omega, ?_⟩
        · simp (disch := omega) only [ER4, reduceIte, Nat.reduceEqDiff, Nat.reduceAdd, g0]
        · simp (disch := omega) only [ER4, reduceIte, Nat.reduceEqDiff, Nat.reduceAdd, g2]
        · simp (disch := omega) only [ER4, reduceIte, Nat.reduceEqDiff, Nat.reduceAdd, g3]
        · simp (disch := omega) only [ER4, reduceIte, Nat.reduceEqDiff, Nat.reduceAdd, g4]
        · simp (disch := omega) only [ER4, reduceIte, Nat.reduceEqDiff, Nat.reduceAdd]
        · rintro d (rfl | rfl) hd
          · exact ordR.irrefl _
          · omega
    · rintro l d h2 ⟨e, sg, rfl, g0, g2, g3, g4, g5, he, heh, hbig⟩
      obtain ⟨c1, hg1, hd1, ho1, hc1⟩ := sg.row
      have r1 := hc1 (fst + r) (by omega)
      have r2 := hc1 (fst + e) (by omega)
      refine wc_seq ?_
      refine wc_seq (wc_opq fun Q1 hQ => ?_)
      simp (disch := omega) only [ER4, reduceIte, Nat.reduceEqDiff, Nat.reduceAdd, g0, g3, g4, g5, hg1, r1, r2, cmp_rw tc, cmp_lt]
      refine hQ _ ?_
      clear hQ Q1
      have sg := sg.cmp (x := (g (fst + r))) (y := (g (fst + e)))
      generalize hcm (g (fst + r)) (g (fst + e)) _ = h9 at sg ⊢
      obtain ⟨c1, hg1, hd1, ho1, hc1⟩ := sg.row
      have r1 := hc1 (fst + r) (by omega)
      have r2 := hc1 (fst + e) (by omega)
      refine wc_cond (q := !ltR (g (fst + r)) (g (fst + e))) (by simp (disch := omega) only [ER4, reduceIte, Nat.reduceEqDiff, Nat.reduceAdd]) (fun hl => ?_) (fun hl => ?_)
      · refine wc_ret ⟨[], rfl, g, sg, pm, heap_stop ordR hb he hbig ?_⟩
        simpa [shf] using hl
      · refine wc_skip ?_
        refine wc_seq (wc_opq fun Q1 hQ => ?_)
        simp (disch := omega) only [ER4, reduceIte, Nat.reduceEqDiff, Nat.reduceAdd, g0, g3, g4, g5, hg1, r1, r2]
        refine hQ _ ?_
        clear hQ Q1
        refine wc_opq fun Q1 hQ => ?_
        simp (disch := omega) only [ER4, reduceIte, Nat.reduceEqDiff, Nat.reduceAdd, g5]
        refine hQ _ ?_
        clear hQ Q1
        refine ⟨hh + 1 - e, by omega, e, _, rfl, by omega, by omega, rfl, ?_, ?_, ?_, ?_, sg.swap hd1 ho1 (i := fst + r) (j := fst + e) (by omega) (by omega), pm.trans (PermOn.swap (by omega) (by omega)), ?_⟩
        · simp (disch := omega) only [ER4, reduceIte, Nat.reduceEqDiff, Nat.reduceAdd, g0]
        · simp (disch := omega) only [ER4, reduceIte, Nat.reduceEqDiff, Nat.reduceAdd, g2]
        · simp (disch := omega) only [ER4, reduceIte, Nat.reduceEqDiff, Nat.reduceAdd, g3]
        · simp (disch := omega) only [ER4, reduceIte, Nat.reduceEqDiff, Nat.reduceAdd]
        · rw [shf_swp]
          exact heap_step ordR hlr hb he heh hbig (by simpa [shf] using hl)
  · refine ⟨lo, f, rfl, by omega, hlo, rfl, ?_, ?_, ?_, ?_, SegR.start hi hg hc, PermOn.refl, hp⟩
    all_goals simp (disch := omega) only [ER4, reduceIte, Nat.reduceEqDiff, Nat.reduceAdd]
theorem heapsort_gp (t58 : tab 43 = some af43) (t105 : tab 64 = some af64) (tc : CmpT tab)
    (hi : id < h.next) (hg : h.mem.get id = some (.cells c s p false)) (hc : RArr4 c o n f) (hab : a < b) (hbn : b ≤ n) (hn : n < 2305843009213693952) :
    GP tab 43 [.sl id o n cap, .int .i64 (a : Int), .int .i64 (b : Int), .fn 13 [] []] h fun _ h1 => ∃ g, SegR h id o n s p c h1 g ∧ PermOn a b f g ∧ Rises ltR a b g := by
  have i0 : initLoc [.sl id o n cap, .int .i64 (a : Int), .int .i64 (b : Int), .fn 13 [] []] = ofList [.sl id o n cap, .int .i64 (a : Int), .int .i64 (b : Int), .fn 13 [] []] := rfl
  obtain ⟨m, rfl⟩ : ∃ m, b = a + m := ⟨b - a, by omega⟩
  have em : a + m - a = m := by omega
  refine gp_of t58 rfl ?_
  refine wc_seq (wc_opq fun Q1 hQ => ?_)
  simp (disch := omega) only [ER4, reduceIte, Nat.reduceEqDiff, Nat.reduceAdd, i0]
  refine hQ _ ?_
  clear hQ Q1
  refine wc_seq (wc_opq fun Q1 hQ => ?_)
  simp (disch := omega) only [ER4, reduceIte, Nat.reduceEqDiff, Nat.reduceAdd, i0]
  refine hQ _ ?_
  clear hQ Q1
  refine wc_seq (wc_opq fun Q1 hQ => ?_)
  simp (disch := omega) only [ER4, reduceIte, Nat.reduceEqDiff, Nat.reduceAdd, i0]
  refine hQ _ ?_
  clear hQ Q1
  refine wc_mid (fun l d h1 => ∃ g, d = [] ∧ (l.get 0 = some (.sl id o n cap) ∧ l.get 3 = some (.fn 13 [] [])) ∧ l.get 4 = some (.int .i64 (m : Int)) ∧ l.get 7 = some (.int .i64 (a : Int)) ∧ l.get 10 = some (.int .i64 ((0 : Nat) : Int)) ∧ SegR h id o n s p c h1 g ∧ PermOn a (a + m) f g ∧ Heap ltR 0 m (shf g a)) ?_ ?_
  · refine wc_seq (wc_opq fun Q1 hQ => ?_)
    simp (disch := omega) only [ER4, reduceIte, Nat.reduceEqDiff, Nat.reduceAdd, i0, em]
    refine hQ _ ?_
    clear hQ Q1
    refine wc_block ?_
    -- i runs from (m - 1) / 2 down to -1; z = i + 1
    refine wc_while (fun k l d h1 => ∃ g, d = [] ∧ k ≤ (m - 1) / 2 + 1 ∧ (l.get 0 = some (.sl id o n cap) ∧ l.get 3 = some (.fn 13 [] [])) ∧ l.get 4 = some (.int .i64 (m : Int)) ∧ l.get 7 = some (.int .i64 (a : Int)) ∧ l.get 10 = some (.int .i64 ((0 : Nat) : Int)) ∧ l.get 5 = some (.int .i64 ((k : Int) - 1)) ∧
      SegR h id o n s p c h1 g ∧ PermOn a (a + m) f g ∧ Heap ltR k m (shf g a)) ?_ ((m - 1) / 2 + 1) ?_
    · rintro k l d h1 ⟨g, rfl, hk, g0, g3, g6, g9, g4, sg, pm, hp⟩
      obtain ⟨c1, hg1, hd1, ho1, hc1⟩ := sg.row
      refine wc_seq ?_
      refine wc_seq (wc_opq fun Q1 hQ => ?_)
      simp (disch := omega) only [ER4, reduceIte, Nat.reduceEqDiff, Nat.reduceAdd, g4]
      refine hQ _ ?_
      clear hQ Q1
      refine wc_if (((0 : Nat) : Int) ≤ (k : Int) - 1) (by simp (disch := omega) only [ER4, reduceIte, Nat.reduceEqDiff, Nat.reduceAdd]) (fun hlt => ?_) (fun hge => ?_)
      · refine wc_skip ?_
        obtain ⟨i, rfl⟩ : ∃ i, k = i + 1 := ⟨k - 1, by omega⟩
        have e1 : ((i + 1 : Nat) : Int) - 1 = (i : Int) := by omega
        rw [e1] at g4
        refine wc_seq (wc_block (wc_opq fun Q1 hQ => ?_))
        simp (disch := omega) only [ER4, reduceIte, Nat.reduceEqDiff, Nat.reduceAdd, g0, g3, g4, g6]
        refine (sift_gp t105 tc (Nat.lt_of_lt_of_le hi sg.more.next) hg1 hd1 (lo := i) (hh := m) (fst := a) (by omega) hbn hn (heap_start hp)).mono ?_
        rintro v h2 ⟨g2, sg2, pm2, hp2⟩
        refine hQ _ ?_
        clear hQ Q1
        refine wc_opq fun Q1 hQ => ?_
        simp (disch := omega) only [ER4, reduceIte, Nat.reduceEqDiff, Nat.reduceAdd, g4, bin_sub]
        refine hQ _ ?_
        clear hQ Q1
        refine ⟨i, by omega, g2, rfl, by omega, ?_, ?_, ?_, ?_, ?_, sg.on ho1 sg2, pm.trans (pm2.wider (by omega) (by omega)), hp2⟩
        · simp (disch := omega) only [ER4, reduceIte, Nat.reduceEqDiff, Nat.reduceAdd, g0]
        · simp (disch := omega) only [ER4, reduceIte, Nat.reduceEqDiff, Nat.reduceAdd, g3]
        · simp (disch := omega) only [ER4, reduceIte, Nat.reduceEqDiff, Nat.reduceAdd, g6]
        · simp (disch := omega) only [ER4, reduceIte, Nat.reduceEqDiff, Nat.reduceAdd, g9]
        · simp (disch := omega) only [ER4, reduceIte, Nat.reduceEqDiff, Nat.reduceAdd]
          rw [wrap_i64 (by omega) (by omega)]; rfl
      · obtain rfl : k = 0 := by omega
        refine wc_exit ⟨g, rfl, ?_, ?_, ?_, ?_, sg, pm, hp⟩
        · simp (disch := omega) only [ER4, reduceIte, Nat.reduceEqDiff, Nat.reduceAdd, g0]
        · simp (disch := omega) only [ER4, reduceIte, Nat.reduceEqDiff, Nat.reduceAdd, g3]
        · simp (disch := omega) only [ER4, reduceIte, Nat.reduceEqDiff, Nat.reduceAdd, g6]
        · simp (disch := omega) only [ER4, reduceIte, Nat.reduceEqDiff, Nat.reduceAdd, g9]
    · refine ⟨f, rfl, Nat.le_refl _, ?_, ?_, ?_, ?_, ?_, SegR.start hi hg hc, PermOn.refl, fun p c h1 h2 h3 => by omega⟩
      · simp (disch := omega) only [ER4, reduceIte, Nat.reduceEqDiff, Nat.reduceAdd]
      · simp (disch := omega) only [ER4, reduceIte, Nat.reduceEqDiff, Nat.reduceAdd, em]
      · simp (disch := omega) only [ER4, reduceIte, Nat.reduceEqDiff, Nat.reduceAdd]
      · simp (disch := omega) only [ER4, reduceIte, Nat.reduceEqDiff, Nat.reduceAdd]
      · simp (disch := omega) only [ER4, reduceIte, Nat.reduceEqDiff, Nat.reduceAdd]
        rw [show (((m - 1) / 2 + 1 : Nat) : Int) - 1 = (((m - 1) / 2 : Nat) : Int) by omega]
  · rintro l d h1 ⟨g, rfl, g0, g3, g6, g9, sg, pm, hp⟩
    refine wc_seq (wc_opq fun Q1 hQ => ?_)
    simp (disch := omega) only [ER4, reduceIte, Nat.reduceEqDiff, Nat.reduceAdd, g3]
    refine hQ _ ?_
    clear hQ Q1
    refine wc_block ?_
    refine wc_while (fun k l d h1 => ∃ g, d = [] ∧ k ≤ m ∧ (l.get 0 = some (.sl id o n cap) ∧ l.get 3 = some (.fn 13 [] [])) ∧ l.get 7 = some (.int .i64 (a : Int)) ∧ l.get 10 = some (.int .i64 ((0 : Nat) : Int)) ∧ l.get 8 = some (.int .i64 ((k : Int) - 1)) ∧
      SegR h id o n s p c h1 g ∧ PermOn a (a + m) f g ∧ Heap ltR 0 k (shf g a) ∧ Rises ltR k m (shf g a) ∧ ∀ x y, x < k → k ≤ y → y < m → ltR (shf g a y) (shf g a x) = false) ?_ m ?_
    · rintro k l d h1 ⟨g, rfl, hk, g0, g6, g9, g7, sg, pm, hp, hr, hx⟩
      obtain ⟨c1, hg1, hd1, ho1, hc1⟩ := sg.row
      refine wc_seq ?_
      refine wc_seq (wc_opq fun Q1 hQ => ?_)
      simp (disch := omega) only [ER4, reduceIte, Nat.reduceEqDiff, Nat.reduceAdd, g7]
      refine hQ _ ?_
      clear hQ Q1
      refine wc_if (((0 : Nat) : Int) ≤ (k : Int) - 1) (by simp (disch := omega) only [ER4, reduceIte, Nat.reduceEqDiff, Nat.reduceAdd]) (fun hlt => ?_) (fun hge => ?_)
      · refine wc_skip ?_
        obtain ⟨i, rfl⟩ : ∃ i, k = i + 1 := ⟨k - 1, by omega⟩
        have e1 : ((i + 1 : Nat) : Int) - 1 = (i : Int) := by omega
        rw [e1] at g7
        have r1 := hc1 a (by omega)
        have r2 := hc1 (a + i) (by omega)
        refine wc_seq (wc_block ?_)
        refine wc_seq (wc_opq fun Q1 hQ => ?_)
        simp (disch := omega) only [ER4, reduceIte, Nat.reduceEqDiff, Nat.reduceAdd, g0, g6, g7, hg1, r1, r2]
        refine hQ _ ?_
        clear hQ Q1
        have sw := sg.swap (X := (AObj.cells (putR (g (a + i)) c1 (o + a * 4)) s p false)) hd1 ho1 (i := a) (j := a + i) (by omega) (by omega)
        obtain ⟨c2, hg2, hd2, ho2, hc2⟩ := sw.row
        have top := heap_top ordR hp
        have esw : shf (swp g a (a + i)) a = swp (shf g a) 0 i := by
          have := shf_swp (f := g) (o := a) (i := 0) (j := i)
          rwa [Nat.add_zero] at this
        refine wc_opq fun Q1 hQ => ?_
        simp (disch := omega) only [ER4, reduceIte, Nat.reduceEqDiff, Nat.reduceAdd, g0, g6, g7, g9]
        refine (sift_gp t105 tc (Nat.lt_of_lt_of_le hi sw.more.next) hg2 hd2 (lo := 0) (hh := i) (fst := a) (by omega) (by omega) hn ?_).mono ?_
        · rw [esw]
          refine ⟨fun q e h1 h2 h3 h4 => ?_, fun q e h1 h2 h3 h4 => by omega⟩
          rw [swp_o (by omega) (by omega), swp_o (by omega) (by omega)]
          exact hp q e (by omega) h3 (by omega)
        rintro v h2 ⟨g2, sg2, pm2, hp2⟩
        have out2 : ∀ y, i ≤ y → y < m → shf g2 a y = swp (shf g a) 0 i y := fun y h1 h2 => by rw [← esw]; exact pm2.out (i := a + y) (by omega)
        refine hQ _ ?_
        clear hQ Q1
        refine wc_opq fun Q1 hQ => ?_
        simp (disch := omega) only [ER4, reduceIte, Nat.reduceEqDiff, Nat.reduceAdd, g7, bin_sub]
        refine hQ _ ?_
        clear hQ Q1
        refine ⟨i, by omega, g2, rfl, by omega, ?_, ?_, ?_, ?_, sw.on ho2 sg2, (pm.trans (PermOn.swap (by omega) (by omega))).trans (pm2.wider (by omega) (by omega)), hp2, ?_, ?_⟩
        · simp (disch := omega) only [ER4, reduceIte, Nat.reduceEqDiff, Nat.reduceAdd, g0]
        · simp (disch := omega) only [ER4, reduceIte, Nat.reduceEqDiff, Nat.reduceAdd, g6]
        · simp (disch := omega) only [ER4, reduceIte, Nat.reduceEqDiff, Nat.reduceAdd, g9]
        · simp (disch := omega) only [ER4, reduceIte, Nat.reduceEqDiff, Nat.reduceAdd]
          rw [wrap_i64 (by omega) (by omega)]; rfl
        · intro x y h1 h2 h3
          rw [out2 x (by omega) (by omega), out2 y (by omega) h3]
          by_cases hxi : x = i
          · subst hxi
            rw [swp_r]
            by_cases hyi : y = x
            · subst hyi; rw [swp_r]; exact ordR.irrefl _
            · rw [swp_o (by omega) hyi]
              exact hx 0 y (by omega) (by omega) h3
          · rw [swp_o (by omega) hxi, swp_o (by omega) (by omega)]
            exact hr x y (by omega) h2 h3
        · intro x y h1 h2 h3
          rw [out2 y h2 h3]
          refine pm2.shf (Q := fun z => ltR (swp (shf g a) 0 i y) z = false) (fun j j1 j2 => ?_) x (by omega) h1
          rw [esw]
          by_cases hyi : y = i
          · subst hyi
            rw [swp_r]
            by_cases hj : j = 0
            · subst hj; rw [swp_l]; exact top y (by omega)
            · rw [swp_o hj (by omega)]; exact top j (by omega)
          · rw [swp_o (by omega) hyi]
            by_cases hj : j = 0
            · subst hj; rw [swp_l]; exact hx i y (by omega) (by omega) h3
            · rw [swp_o hj (by omega)]; exact hx j y (by omega) (by omega) h3
      · obtain rfl : k = 0 := by omega
        refine wc_exit ⟨[], rfl, g, sg, pm, fun x y h1 h2 h3 => ?_⟩
        have := hr (x - a) (y - a) (by omega) (by omega) (by omega)
        rwa [shf, shf, show a + (x - a) = x by omega, show a + (y - a) = y by omega] at this
    · refine ⟨g, rfl, Nat.le_refl _, ?_, ?_, ?_, ?_, sg, pm, hp, fun x y h1 h2 h3 => by omega, fun x y h1 h2 h3 => by omega⟩
      · simp (disch := omega) only [ER4, reduceIte, Nat.reduceEqDiff, Nat.reduceAdd, g0]
      · simp (disch := omega) only [ER4, reduceIte, Nat.reduceEqDiff, Nat.reduceAdd, g6]
      · simp (disch := omega) only [ER4, reduceIte, Nat.reduceEqDiff, Nat.reduceAdd, g9]
      · simp (disch := omega) only [ER4, reduceIte, Nat.reduceEqDiff, Nat.reduceAdd]
        rw [show (m : Int) - 1 = ((m - 1 : Nat) : Int) by omega]
end
end Go.Ev

namespace Go.Ev
open Go
set_option linter.unusedSimpArgs false
set_option linter.unusedVariables false
set_option maxRecDepth 100000
set_option maxHeartbeats 4000000
section
variable {h : AH}
theorem shr_u64 {m n : Nat} {k : IntKind} (hn : n ≤ 64) : oBin .shr (.c (.int .u64 (m : Int))) (.c (.int k (n : Int))) .leaf [] h = .val (.int .u64 ((m / 2 ^ n : Nat) : Int)) h := bin_shr hn
theorem shl_u64 {m n : Nat} {k : IntKind} (hn : n ≤ 64) : oBin .shl (.c (.int .u64 (m : Int))) (.c (.int k (n : Int))) .leaf [] h = .val (.int .u64 ((m * 2 ^ n % 18446744073709551616 : Nat) : Int)) h := by
  show bi (Nat.ble n 64) (intV .u64 (Int.mul (m : Int) (Int.ofNat (Nat.pow 2 n))) h) _ = _
  rw [bi_eq, if_pos (Nat.ble_eq.mpr hn), intV_eq]
  show OR.val (AV.int .u64 (IntKind.u64.wrap ((m : Int) * ((2 ^ n : Nat) : Int)))) h = _
  rw [← Int.natCast_mul, wrap_u64]
theorem in_u64 {m : Nat} (hm : m < 18446744073709551616) : inRange .u64 (m : Int) = true := by
  show Nat.ble m (nat_lit 18446744073709551615) = true
  exact Nat.ble_eq.mpr (Nat.le_of_lt_succ hm)
theorem xor_u64 {m n : Nat} (hm : m < 18446744073709551616) (hn : n < 18446744073709551616) : oBin .xor (.c (.int .u64 (m : Int))) (.c (.int .u64 (n : Int))) .leaf [] h = .val (.int .u64 ((m ^^^ n : Nat) : Int)) h := by
  have hx : m ^^^ n < 2 ^ 64 := Nat.xor_lt_two_pow hm hn
  show bi (inRange .u64 (m : Int)) (bi (inRange .u64 (n : Int)) (fN (Nat.xor m n) fun n => bi (inRange .u64 (Int.ofNat n)) (OR.val (AV.int .u64 (Int.ofNat n)) h) (F 23)) (F 23)) (F 23) = _
  rw [in_u64 hm, in_u64 hn, bi_true, bi_true, fN_eq]
  have e : inRange .u64 (Int.ofNat (Nat.xor m n)) = true := in_u64 hx
  rw [e]; rfl
theorem and_u64 {m n : Nat} (hm : m < 18446744073709551616) (hn : n < 18446744073709551616) : oBin .and (.c (.int .u64 (m : Int))) (.c (.int .u64 (n : Int))) .leaf [] h = .val (.int .u64 ((m &&& n : Nat) : Int)) h := by
  have hx : m &&& n < 2 ^ 64 := Nat.and_lt_two_pow _ hn
  show bi (inRange .u64 (m : Int)) (bi (inRange .u64 (n : Int)) (fN (Nat.land m n) fun n => bi (inRange .u64 (Int.ofNat n)) (OR.val (AV.int .u64 (Int.ofNat n)) h) (F 23)) (F 23)) (F 23) = _
  rw [in_u64 hm, in_u64 hn, bi_true, bi_true, fN_eq]
  have e : inRange .u64 (Int.ofNat (Nat.land m n)) = true := in_u64 hx
  rw [e]; rfl
theorem wrap_u64n {m : Nat} (hm : m < 18446744073709551616) : IntKind.u64.wrap (m : Int) = (m : Int) := inRange_wrap (in_u64 hm)
theorem wrap_u8n {m : Nat} (hm : m < 256) : IntKind.u8.wrap (m : Int) = (m : Int) := inRange_wrap (by
  show Nat.ble m (nat_lit 255) = true
  exact Nat.ble_eq.mpr (Nat.le_of_lt_succ hm))
theorem sub_u64 {m n : Nat} (h1 : n ≤ m) (hm : m < 18446744073709551616) : IntKind.u64.wrap ((m : Int) - (n : Int)) = ((m - n : Nat) : Int) := by
  rw [show (m : Int) - (n : Int) = ((m - n : Nat) : Int) by omega]; exact wrap_u64n (by omega)
theorem idxS_str {l m i : Nat} {k : IntKind} (hi : i < l) : oIdxS (.c (.str l m)) (.c (.int k (i : Int))) .leaf [] h = .val (.int .u8 ((m / 256 ^ i % 256 : Nat) : Int)) h := by
  show bi (Nat.ble (Nat.succ i) l) _ _ = _
  rw [bi_eq, if_pos (Nat.ble_eq.mpr hi)]
  simp only [fN_eq]
  rfl
end
/-- the table of the lengths of bytes in bits -/
def lenTab : Nat := 1013866857139168856493015739252390649739422828853819106890363778118420553376247557433637691341895324351018602695588957474325319502760499485336098898398377509666851054660423406800006203933793007272033180812049178612605246075062580585469430410618860250057463399279570354286669047577758927328864388992123306212451509403152394148136105363817402562688186708175358218852349079190158732807302672745370040257219644697201681238697346923541678507645485296520536209706771857694240900605172937619415410180424934769249448772944216470541052485265558808433676546390051204254346932932316488017972311616136051587427851453983453479168
theorem lenTab_ok : ((List.range 256).all fun x => decide ((x = 0 ∨ 2 ^ (lenTab / 256 ^ x % 256) ≤ 2 * x) ∧ x < 2 ^ (lenTab / 256 ^ x % 256) ∧ lenTab / 256 ^ x % 256 ≤ 8)) = true := by decide +kernel
theorem lenTab_at {x : Nat} (hx : x < 256) : (x = 0 ∨ 2 ^ (lenTab / 256 ^ x % 256) ≤ 2 * x) ∧ x < 2 ^ (lenTab / 256 ^ x % 256) ∧ lenTab / 256 ^ x % 256 ≤ 8 := of_decide_eq_true (List.all_eq_true.1 lenTab_ok x (List.mem_range.2 hx))
section
variable {tab : Nat → Option AFunc} {h : AH} {id o n s a b : Nat} {p : Bool} {cap : ACap} {c : T AV} {f : Nat → Rw}
theorem len64_gp (t67 : tab 51 = some af51) {x : Nat} (hx : x < 18446744073709551616) :
    GP tab 51 [.int .u64 (x : Int)] h fun v h1 => ∃ L : Nat, v = .int .i64 (L : Int) ∧ L ≤ 64 ∧ x < 2 ^ L ∧ (0 < x → 2 ^ L ≤ 2 * x) ∧ h1 = h := by
  have i0 : initLoc [.int .u64 (x : Int)] = ofList [.int .u64 (x : Int)] := rfl
  have pos : ∀ m, 0 < 2 ^ m := fun m => Nat.two_pow_pos m
  refine gp_of t67 rfl ?_
  refine wc_seq (wc_opq fun Q1 hQ => ?_)
  simp (disch := omega) only [ER4, reduceIte, Nat.reduceEqDiff, Nat.reduceAdd, i0]
  refine hQ _ ?_
  clear hQ Q1
  refine wc_mid (fun l d h1 => ∃ y m : Nat, h1 = h ∧ d = [] ∧ l.get 0 = some (.int .u64 (y : Int)) ∧ l.get 3 = some (.int .i64 (m : Int)) ∧ y < 4294967296 ∧ m ≤ 32 ∧ y = x / 2 ^ m ∧ (0 < x → 0 < y)) ?_ ?_
  · refine wc_seq (wc_opq fun Q1 hQ => ?_)
    simp (disch := omega) only [ER4, reduceIte, Nat.reduceEqDiff, Nat.reduceAdd, i0]
    refine hQ _ ?_
    clear hQ Q1
    refine wc_if (4294967296 ≤ x) (by simp (disch := omega) only [ER4, reduceIte, Nat.reduceEqDiff, Nat.reduceAdd]) (fun hle => ?_) (fun hle => ?_)
    · refine wc_seq (wc_opq fun Q1 hQ => ?_)
      simp (disch := omega) only [ER4, reduceIte, Nat.reduceEqDiff, Nat.reduceAdd, i0, shr_u64]
      refine hQ _ ?_
      clear hQ Q1
      refine wc_opq fun Q1 hQ => ?_
      simp (disch := omega) only [ER4, reduceIte, Nat.reduceEqDiff, Nat.reduceAdd]
      refine hQ _ ?_
      clear hQ Q1
      refine ⟨x / 2 ^ 32, 32, rfl, rfl, ?_, ?_, by omega, by omega, rfl, fun _ => by omega⟩
      all_goals simp (disch := omega) only [ER4, reduceIte, Nat.reduceEqDiff, Nat.reduceAdd]
    · refine wc_skip ⟨x, 0, rfl, rfl, ?_, ?_, by omega, by omega, by simp, fun h => h⟩
      all_goals simp (disch := omega) only [ER4, reduceIte, Nat.reduceEqDiff, Nat.reduceAdd, i0]
  rintro l d h1 ⟨y, m, rfl, rfl, g0, g3, hy, hm, ey, ep⟩
  refine wc_mid (fun l d h2 => ∃ y m : Nat, h2 = h1 ∧ d = [] ∧ l.get 0 = some (.int .u64 (y : Int)) ∧ l.get 3 = some (.int .i64 (m : Int)) ∧ y < 65536 ∧ m ≤ 48 ∧ y = x / 2 ^ m ∧ (0 < x → 0 < y)) ?_ ?_
  · refine wc_seq (wc_opq fun Q1 hQ => ?_)
    simp (disch := omega) only [ER4, reduceIte, Nat.reduceEqDiff, Nat.reduceAdd, g0]
    refine hQ _ ?_
    clear hQ Q1
    refine wc_if (65536 ≤ y) (by simp (disch := omega) only [ER4, reduceIte, Nat.reduceEqDiff, Nat.reduceAdd]) (fun hle => ?_) (fun hle => ?_)
    · refine wc_seq (wc_opq fun Q1 hQ => ?_)
      simp (disch := omega) only [ER4, reduceIte, Nat.reduceEqDiff, Nat.reduceAdd, g0, shr_u64]
      refine hQ _ ?_
      clear hQ Q1
      refine wc_opq fun Q1 hQ => ?_
      simp (disch := omega) only [ER4, reduceIte, Nat.reduceEqDiff, Nat.reduceAdd, g3]
      refine hQ _ ?_
      clear hQ Q1
      refine ⟨y / 2 ^ 16, m + 16, rfl, rfl, ?_, ?_, by omega, by omega, by rw [ey, Nat.div_div_eq_div_mul, ← Nat.pow_add], fun _ => by omega⟩
      all_goals simp (disch := omega) only [ER4, reduceIte, Nat.reduceEqDiff, Nat.reduceAdd]
    · refine wc_skip ⟨y, m, rfl, rfl, ?_, ?_, by omega, by omega, ey, ep⟩
      all_goals simp (disch := omega) only [ER4, reduceIte, Nat.reduceEqDiff, Nat.reduceAdd, g0, g3]
  clear g0 g3 hy hm ey ep y m l
  rintro l d h2 ⟨y, m, rfl, rfl, g0, g3, hy, hm, ey, ep⟩
  refine wc_mid (fun l d h1 => ∃ y m : Nat, h1 = h2 ∧ d = [] ∧ l.get 0 = some (.int .u64 (y : Int)) ∧ l.get 3 = some (.int .i64 (m : Int)) ∧ y < 256 ∧ m ≤ 56 ∧ y = x / 2 ^ m ∧ (0 < x → 0 < y)) ?_ ?_
  · refine wc_seq (wc_opq fun Q1 hQ => ?_)
    simp (disch := omega) only [ER4, reduceIte, Nat.reduceEqDiff, Nat.reduceAdd, g0]
    refine hQ _ ?_
    clear hQ Q1
    refine wc_if (256 ≤ y) (by simp (disch := omega) only [ER4, reduceIte, Nat.reduceEqDiff, Nat.reduceAdd]) (fun hle => ?_) (fun hle => ?_)
    · refine wc_seq (wc_opq fun Q1 hQ => ?_)
      simp (disch := omega) only [ER4, reduceIte, Nat.reduceEqDiff, Nat.reduceAdd, g0, shr_u64]
      refine hQ _ ?_
      clear hQ Q1
      refine wc_opq fun Q1 hQ => ?_
      simp (disch := omega) only [ER4, reduceIte, Nat.reduceEqDiff, Nat.reduceAdd, g3]
      refine hQ _ ?_
      clear hQ Q1
      refine ⟨y / 2 ^ 8, m + 8, rfl, rfl, ?_, ?_, by omega, by omega, by rw [ey, Nat.div_div_eq_div_mul, ← Nat.pow_add], fun _ => by omega⟩
      all_goals simp (disch := omega) only [ER4, reduceIte, Nat.reduceEqDiff, Nat.reduceAdd]
    · refine wc_skip ⟨y, m, rfl, rfl, ?_, ?_, by omega, by omega, ey, ep⟩
      all_goals simp (disch := omega) only [ER4, reduceIte, Nat.reduceEqDiff, Nat.reduceAdd, g0, g3]
  clear g0 g3 hy hm ey ep y m l
  rintro l d h1 ⟨y, m, rfl, rfl, g0, g3, hy, hm, ey, ep⟩
  obtain ⟨q1, q2, q3⟩ := lenTab_at hy
  have ei : ∀ h : AH, oIdxS (.c (.str 256 1013866857139168856493015739252390649739422828853819106890363778118420553376247557433637691341895324351018602695588957474325319502760499485336098898398377509666851054660423406800006203933793007272033180812049178612605246075062580585469430410618860250057463399279570354286669047577758927328864388992123306212451509403152394148136105363817402562688186708175358218852349079190158732807302672745370040257219644697201681238697346923541678507645485296520536209706771857694240900605172937619415410180424934769249448772944216470541052485265558808433676546390051204254346932932316488017972311616136051587427851453983453479168)) (.c (.int .u8 (y : Int))) .leaf [] h = .val (.int .u8 ((lenTab / 256 ^ y % 256 : Nat) : Int)) h := fun h => idxS_str hy
  generalize lenTab / 256 ^ y % 256 = t at *
  refine wc_seq (wc_opq fun Q1 hQ => ?_)
  simp (disch := omega) only [ER4, reduceIte, Nat.reduceEqDiff, Nat.reduceAdd, g0, g3, wrap_u8n, op_idxS, ei]
  refine hQ _ ?_
  clear hQ Q1
  refine wc_ret ⟨_, results_val results_nil, m + t, ?_, by omega, ?_, fun hx0 => ?_, rfl⟩
  · simp (disch := omega) only [ER4, reduceIte, Nat.reduceEqDiff, Nat.reduceAdd, one_one]
  · have h1 := Nat.div_add_mod x (2 ^ m)
    have h2 := Nat.mod_lt x (pos m)
    rw [← ey] at h1
    have h3 : 2 ^ m * (y + 1) ≤ 2 ^ m * 2 ^ t := Nat.mul_le_mul_left _ q2
    rw [Nat.mul_add, Nat.mul_one] at h3
    rw [Nat.pow_add]
    omega
  · have h1 := Nat.div_add_mod x (2 ^ m)
    rw [← ey] at h1
    have h3 : 2 ^ m * 2 ^ t ≤ 2 ^ m * (2 * y) := Nat.mul_le_mul_left _ (by have := ep hx0; omega)
    rw [Nat.pow_add]
    have e : 2 ^ m * (2 * y) = 2 * (2 ^ m * y) := by rw [Nat.mul_left_comm]
    omega
theorem len_gp (t28 : tab 27 = some af27) (t67 : tab 51 = some af51) {x : Nat} (hx : x < 18446744073709551616) :
    GP tab 27 [.int .u64 (x : Int)] h fun v h1 => ∃ L : Nat, v = .int .i64 (L : Int) ∧ L ≤ 64 ∧ x < 2 ^ L ∧ (0 < x → 2 ^ L ≤ 2 * x) ∧ h1 = h := by
  have i0 : initLoc [.int .u64 (x : Int)] = ofList [.int .u64 (x : Int)] := rfl
  refine gp_of t28 rfl ?_
  refine wc_seq (wc_opq fun Q1 hQ => ?_)
  simp (disch := omega) only [ER4, reduceIte, Nat.reduceEqDiff, Nat.reduceAdd, i0]
  refine hQ _ ?_
  clear hQ Q1
  refine wc_seq (wc_no rfl (wc_skip ?_))
  refine wc_seq (wc_opq fun Q1 hQ => ?_)
  simp (disch := omega) only [ER4, reduceIte, Nat.reduceEqDiff, Nat.reduceAdd, i0]
  refine (len64_gp t67 hx).mono ?_
  rintro v h1 ⟨L, rfl, b1, b2, b3, rfl⟩
  simp (disch := omega) only [ER4, reduceIte, Nat.reduceEqDiff, Nat.reduceAdd]
  refine hQ _ ?_
  clear hQ Q1
  refine wc_ret ⟨_, results_val results_nil, L, ?_, b1, b2, b3, rfl⟩
  simp (disch := omega) only [ER4, reduceIte, Nat.reduceEqDiff, Nat.reduceAdd, one_one]
/-- the next power of two -/
theorem pow2_gp (t106 : tab 65 = some af65) (t28 : tab 27 = some af27) (t67 : tab 51 = some af51) {x : Nat} (h0 : 0 < x) (hx : x < 4611686018427387904) :
    GP tab 65 [.int .i64 (x : Int)] h fun v h1 => ∃ m : Nat, v = .int .u64 (m : Int) ∧ 0 < m ∧ m ≤ 2 * x ∧ h1 = h := by
  have i0 : initLoc [.int .i64 (x : Int)] = ofList [.int .i64 (x : Int)] := rfl
  refine gp_of t106 rfl ?_
  refine wc_seq (wc_opq fun Q1 hQ => ?_)
  simp (disch := omega) only [ER4, reduceIte, Nat.reduceEqDiff, Nat.reduceAdd, i0]
  refine hQ _ ?_
  clear hQ Q1
  refine wc_seq (wc_opq fun Q1 hQ => ?_)
  simp (disch := omega) only [ER4, reduceIte, Nat.reduceEqDiff, Nat.reduceAdd, i0, wrap_u64n]
  refine (len_gp t28 t67 (by omega)).mono ?_
  rintro v h1 ⟨L, rfl, b1, b2, b3, rfl⟩
  have b4 := b3 h0
  have e : 1 * 2 ^ L % 18446744073709551616 = 2 ^ L := by rw [Nat.one_mul]; exact Nat.mod_eq_of_lt (by omega)
  simp (disch := omega) only [ER4, reduceIte, Nat.reduceEqDiff, Nat.reduceAdd, shl_u64, e]
  refine hQ _ ?_
  clear hQ Q1
  refine wc_ret ⟨_, results_val results_nil, 2 ^ L, ?_, Nat.two_pow_pos L, b4, rfl⟩
  simp (disch := omega) only [ER4, reduceIte, Nat.reduceEqDiff, Nat.reduceAdd, one_one]
/-- a pointer to a number without sign -/
def PU64 (h : AH) (q : Nat) : Prop := ∃ cq sq pq, ∃ z : Nat, h.mem.get q = some (.cells cq sq pq false) ∧ cq.get 0 = some (.int .u64 (z : Int)) ∧ z < 18446744073709551616
theorem next_gp (t107 : tab 66 = some af66) {q : Nat} (hq : PU64 h q) : GP tab 66 [.ptr q 0] h fun v h1 => (∃ z : Nat, v = .int .u64 (z : Int) ∧ z < 18446744073709551616) ∧ PU64 h1 q ∧ MoreBut q h h1 := by
  have i0 : initLoc [.ptr q 0] = ofList [.ptr q 0] := rfl
  obtain ⟨cq, sq, pq, z, hq1, hq2, hz⟩ := hq
  refine gp_of t107 rfl ?_
  refine wc_seq (wc_opq fun Q1 hQ => ?_)
  simp (disch := omega) only [ER4, reduceIte, Nat.reduceEqDiff, Nat.reduceAdd, i0]
  refine hQ _ ?_
  clear hQ Q1
  refine wc_seq (wc_opq fun Q1 hQ => ?_)
  simp (disch := omega) only [ER4, reduceIte, Nat.reduceEqDiff, Nat.reduceAdd, i0, hq1, hq2, xor_u64, shl_u64]
  refine hQ _ ?_
  clear hQ Q1
  have hz1 : z ^^^ (z * 2 ^ 13 % 18446744073709551616) < 18446744073709551616 := Nat.xor_lt_two_pow (n := 64) hz (Nat.mod_lt _ (by decide))
  generalize z ^^^ (z * 2 ^ 13 % 18446744073709551616) = z1 at *
  have hz1' : z1 / 2 ^ 7 < 18446744073709551616 := Nat.lt_of_le_of_lt (Nat.div_le_self _ _) hz1
  refine wc_seq (wc_opq fun Q1 hQ => ?_)
  simp (disch := omega) only [ER4, reduceIte, Nat.reduceEqDiff, Nat.reduceAdd, i0, xor_u64, shr_u64]
  refine hQ _ ?_
  clear hQ Q1
  have hz2 : z1 ^^^ (z1 / 2 ^ 7) < 18446744073709551616 := Nat.xor_lt_two_pow (n := 64) hz1 hz1'
  generalize z1 ^^^ (z1 / 2 ^ 7) = z2 at *
  refine wc_seq (wc_opq fun Q1 hQ => ?_)
  simp (disch := omega) only [ER4, reduceIte, Nat.reduceEqDiff, Nat.reduceAdd, i0, xor_u64, shl_u64]
  refine hQ _ ?_
  clear hQ Q1
  have hz3 : z2 ^^^ (z2 * 2 ^ 17 % 18446744073709551616) < 18446744073709551616 := Nat.xor_lt_two_pow (n := 64) hz2 (Nat.mod_lt _ (by decide))
  generalize z2 ^^^ (z2 * 2 ^ 17 % 18446744073709551616) = z3 at *
  refine wc_seq (wc_opq fun Q1 hQ => ?_)
  simp (disch := omega) only [ER4, reduceIte, Nat.reduceEqDiff, Nat.reduceAdd, i0]
  refine hQ _ ?_
  clear hQ Q1
  refine wc_ret ⟨_, results_val results_nil, ⟨z3, ?_, hz3⟩, ⟨_, _, _, z3, AH.get_set, T.get_put_self _ _ _, hz3⟩, (((MoreBut.refl q h).set _).set _).set _⟩
  simp (disch := omega) only [ER4, reduceIte, Nat.reduceEqDiff, Nat.reduceAdd, one_one]
theorem break_gp (t59 : tab 44 = some af44) (t106 : tab 65 = some af65) (t107 : tab 66 = some af66) (t28 : tab 27 = some af27) (t67 : tab 51 = some af51)
    (hi : id < h.next) (hg : h.mem.get id = some (.cells c s p false)) (hc : RArr4 c o n f) (hab : a + 8 ≤ b) (hbn : b ≤ n) (hn : n < 2305843009213693952) :
    GP tab 44 [.sl id o n cap, .int .i64 (a : Int), .int .i64 (b : Int), .fn 13 [] []] h fun _ h1 => ∃ g, SegR h id o n s p c h1 g ∧ PermOn a b f g := by
  have i0 : initLoc [.sl id o n cap, .int .i64 (a : Int), .int .i64 (b : Int), .fn 13 [] []] = ofList [.sl id o n cap, .int .i64 (a : Int), .int .i64 (b : Int), .fn 13 [] []] := rfl
  obtain ⟨m, rfl⟩ : ∃ m, b = a + m := ⟨b - a, by omega⟩
  have em : a + m - a = m := by omega
  have em8 : 8 ≤ m := by omega
  refine gp_of t59 rfl ?_
  refine wc_seq (wc_opq fun Q1 hQ => ?_)
  simp (disch := omega) only [ER4, reduceIte, Nat.reduceEqDiff, Nat.reduceAdd, i0, em]
  refine hQ _ ?_
  clear hQ Q1
  refine wc_seq (wc_opq fun Q1 hQ => ?_)
  simp (disch := omega) only [ER4, reduceIte, Nat.reduceEqDiff, Nat.reduceAdd]
  refine hQ _ ?_
  clear hQ Q1
  refine wc_yes (by simp (disch := omega) only [ER4, reduceIte, Nat.reduceEqDiff, Nat.reduceAdd, em8]) ?_
  refine wc_seq (wc_opq fun Q1 hQ => ?_)
  simp (disch := omega) only [ER4, reduceIte, Nat.reduceEqDiff, Nat.reduceAdd, wrap_u64n]
  refine hQ _ ?_
  clear hQ Q1
  have sg0 : SegR h id o n s p c ((h.add (.cells (ofList [.int .u64 ((0 : Nat) : Int)]) 1 false false)).set h.next (.cells (T.put (some (.int .u64 (m : Int))) (ofList [.int .u64 ((0 : Nat) : Int)]) 0) 1 false false)) f := ((SegR.start hi hg hc).add _).other (Nat.le_refl _) _
  have pu0 : PU64 ((h.add (.cells (ofList [.int .u64 ((0 : Nat) : Int)]) 1 false false)).set h.next (.cells (T.put (some (.int .u64 (m : Int))) (ofList [.int .u64 ((0 : Nat) : Int)]) 0) 1 false false)) h.next := ⟨_, _, _, m, AH.get_set, T.get_put_self _ _ _, by omega⟩
  generalize ((h.add (.cells (ofList [.int .u64 ((0 : Nat) : Int)]) 1 false false)).set h.next (.cells (T.put (some (.int .u64 (m : Int))) (ofList [.int .u64 ((0 : Nat) : Int)]) 0) 1 false false)) = hh at *
  refine wc_seq (wc_opq fun Q1 hQ => ?_)
  simp (disch := omega) only [ER4, reduceIte, Nat.reduceEqDiff, Nat.reduceAdd]
  refine (pow2_gp t106 t28 t67 (by omega) (by omega)).mono ?_
  rintro v h1 ⟨w, rfl, w0, w1, rfl⟩
  simp (disch := omega) only [ER4, reduceIte, Nat.reduceEqDiff, Nat.reduceAdd]
  refine hQ _ ?_
  clear hQ Q1
  refine wc_seq (wc_opq fun Q1 hQ => ?_)
  simp (disch := omega) only [ER4, reduceIte, Nat.reduceEqDiff, Nat.reduceAdd, i0]
  refine hQ _ ?_
  clear hQ Q1
  refine wc_block ?_
  refine wc_while (fun k l d h2 => ∃ i g, k = a + m / 4 * 2 + 2 - i ∧ a ≤ i ∧ d = [] ∧ (l.get 0 = some (.sl id o n cap) ∧ l.get 3 = some (.fn 13 [] [])) ∧ l.get 1 = some (.int .i64 (a : Int)) ∧ l.get 4 = some (.int .i64 (m : Int)) ∧ l.get 6 = some (.int .i64 (i : Int)) ∧ l.get 8 = some (.ptr h.next 0) ∧ l.get 9 = some (.int .u64 (w : Int)) ∧
    SegR h id o n s p c h2 g ∧ PU64 h2 h.next ∧ PermOn a (a + m) f g) ?_ (a + m / 4 * 2 + 2 - (a + m / 4 * 2 - 1)) ?_
  · rintro k l d h2 ⟨i, g, hk, hai, rfl, g0, g1, g3, g5, g7, g8, sg, pu, pm⟩
    refine wc_seq ?_
    refine wc_seq (wc_opq fun Q1 hQ => ?_)
    simp (disch := omega) only [ER4, reduceIte, Nat.reduceEqDiff, Nat.reduceAdd, g1, g3, g5]
    refine hQ _ ?_
    clear hQ Q1
    refine wc_if (i ≤ a + m / 4 * 2 + 1) (by simp (disch := omega) only [ER4, reduceIte, Nat.reduceEqDiff, Nat.reduceAdd]) (fun hle => ?_) (fun hle => ?_)
    · refine wc_skip ?_
      refine wc_mid (fun l d h2 => ∃ g, d = [] ∧ (l.get 0 = some (.sl id o n cap) ∧ l.get 3 = some (.fn 13 [] [])) ∧ l.get 1 = some (.int .i64 (a : Int)) ∧ l.get 4 = some (.int .i64 (m : Int)) ∧ l.get 6 = some (.int .i64 (i : Int)) ∧ l.get 8 = some (.ptr h.next 0) ∧ l.get 9 = some (.int .u64 (w : Int)) ∧
        SegR h id o n s p c h2 g ∧ PU64 h2 h.next ∧ PermOn a (a + m) f g) ?_ ?_
      · refine wc_block ?_
        refine wc_seq (wc_opq fun Q1 hQ => ?_)
        simp (disch := omega) only [ER4, reduceIte, Nat.reduceEqDiff, Nat.reduceAdd, g7]
        refine (next_gp t107 pu).mono ?_
        rintro v h3 ⟨⟨z, rfl, hz⟩, pu3, mb⟩
        have hzw : z &&& (w - 1) < 2 * m := Nat.lt_of_le_of_lt Nat.and_le_right (by omega)
        have sg3 : SegR h id o n s p c h3 g := by
          obtain ⟨c1, hg1, hd1, ho1, hc1⟩ := sg.row
          refine ⟨hi, ⟨Nat.le_trans sg.more.next mb.next, fun k k1 k2 => ?_⟩, c1, ?_, hd1, ho1⟩
          · rw [mb.keep k (Nat.lt_of_lt_of_le k1 sg.more.next) (by omega)]; exact sg.more.keep k k1 k2
          · rw [mb.keep id (Nat.lt_of_lt_of_le hi sg.more.next) (by omega)]; exact hg1
        simp (disch := omega) only [ER4, reduceIte, Nat.reduceEqDiff, Nat.reduceAdd, g8, sub_u64, and_u64]
        refine hQ _ ?_
        clear hQ Q1
        generalize z &&& (w - 1) = y at *
        refine wc_mid (fun l d h2 => ∃ y : Nat, y < m ∧ h2 = h3 ∧ d = [] ∧ (l.get 0 = some (.sl id o n cap) ∧ l.get 3 = some (.fn 13 [] [])) ∧ l.get 1 = some (.int .i64 (a : Int)) ∧ l.get 4 = some (.int .i64 (m : Int)) ∧ l.get 6 = some (.int .i64 (i : Int)) ∧ l.get 8 = some (.ptr h.next 0) ∧ l.get 9 = some (.int .u64 (w : Int)) ∧ l.get 10 = some (.int .i64 (y : Int))) ?_ ?_
        · refine wc_seq (wc_opq fun Q1 hQ => ?_)
          simp (disch := omega) only [ER4, reduceIte, Nat.reduceEqDiff, Nat.reduceAdd, g3]
          refine hQ _ ?_
          clear hQ Q1
          refine wc_if (m ≤ y) (by simp (disch := omega) only [ER4, reduceIte, Nat.reduceEqDiff, Nat.reduceAdd]) (fun hle => ?_) (fun hle => ?_)
          · refine wc_opq fun Q1 hQ => ?_
            simp (disch := omega) only [ER4, reduceIte, Nat.reduceEqDiff, Nat.reduceAdd, g3]
            refine hQ _ ?_
            clear hQ Q1
            refine ⟨y - m, by omega, rfl, rfl, ?_, ?_, ?_, ?_, ?_, ?_, ?_⟩
            all_goals simp (disch := omega) only [ER4, reduceIte, Nat.reduceEqDiff, Nat.reduceAdd, g0, g1, g3, g5, g7, g8]
          · refine wc_skip ⟨y, by omega, rfl, rfl, ?_, ?_, ?_, ?_, ?_, ?_, ?_⟩
            all_goals simp (disch := omega) only [ER4, reduceIte, Nat.reduceEqDiff, Nat.reduceAdd, g0, g1, g3, g5, g7, g8]
        · clear g0 g1 g3 g5 g7 g8
          rintro l d h2 ⟨y, hy, rfl, rfl, g0, g1, g3, g5, g7, g8, g9⟩
          obtain ⟨c1, hg1, hd1, ho1, hc1⟩ := sg3.row
          have r1 := hc1 i (by omega)
          have r2 := hc1 (a + y) (by omega)
          refine wc_opq fun Q1 hQ => ?_
          simp (disch := omega) only [ER4, reduceIte, Nat.reduceEqDiff, Nat.reduceAdd, g0, g1, g5, g9, hg1, r1, r2]
          refine hQ _ ?_
          clear hQ Q1
          refine ⟨_, rfl, ?_, ?_, ?_, ?_, ?_, ?_, sg3.swap hd1 ho1 (by omega) (by omega), ?_, pm.trans (PermOn.swap (by omega) (by omega))⟩
          · simp (disch := omega) only [ER4, reduceIte, Nat.reduceEqDiff, Nat.reduceAdd, g0]
          · simp (disch := omega) only [ER4, reduceIte, Nat.reduceEqDiff, Nat.reduceAdd, g1]
          · simp (disch := omega) only [ER4, reduceIte, Nat.reduceEqDiff, Nat.reduceAdd, g3]
          · simp (disch := omega) only [ER4, reduceIte, Nat.reduceEqDiff, Nat.reduceAdd, g5]
          · simp (disch := omega) only [ER4, reduceIte, Nat.reduceEqDiff, Nat.reduceAdd, g7]
          · simp (disch := omega) only [ER4, reduceIte, Nat.reduceEqDiff, Nat.reduceAdd, g8]
          · obtain ⟨cq, sq, pq, z', u1, u2, u3⟩ := pu3
            exact ⟨cq, sq, pq, z', by rw [AH.set_mem, T.get_put_ne _ _ _ _ (by omega), AH.set_mem, T.get_put_ne _ _ _ _ (by omega)]; exact u1, u2, u3⟩
      · rintro l d h3 ⟨g', rfl, g0, g1, g3, g5, g7, g8, sg', pu', pm'⟩
        refine wc_opq fun Q1 hQ => ?_
        simp (disch := omega) only [ER4, reduceIte, Nat.reduceEqDiff, Nat.reduceAdd, g5]
        refine hQ _ ?_
        clear hQ Q1
        refine ⟨a + m / 4 * 2 + 2 - (i + 1), by omega, i + 1, g', rfl, by omega, rfl, ?_, ?_, ?_, ?_, ?_, ?_, sg', pu', pm'⟩
        · simp (disch := omega) only [ER4, reduceIte, Nat.reduceEqDiff, Nat.reduceAdd, g0]
        · simp (disch := omega) only [ER4, reduceIte, Nat.reduceEqDiff, Nat.reduceAdd, g1]
        · simp (disch := omega) only [ER4, reduceIte, Nat.reduceEqDiff, Nat.reduceAdd, g3]
        · simp (disch := omega) only [ER4, reduceIte, Nat.reduceEqDiff, Nat.reduceAdd]
        · simp (disch := omega) only [ER4, reduceIte, Nat.reduceEqDiff, Nat.reduceAdd, g7]
        · simp (disch := omega) only [ER4, reduceIte, Nat.reduceEqDiff, Nat.reduceAdd, g8]
    · exact wc_exit ⟨[], rfl, g, sg, pm⟩
  · refine ⟨a + m / 4 * 2 - 1, f, rfl, by omega, rfl, ?_, ?_, ?_, ?_, ?_, ?_, sg0, pu0, PermOn.refl⟩
    all_goals simp (disch := omega) only [ER4, reduceIte, Nat.reduceEqDiff, Nat.reduceAdd, i0]
end
end Go.Ev
