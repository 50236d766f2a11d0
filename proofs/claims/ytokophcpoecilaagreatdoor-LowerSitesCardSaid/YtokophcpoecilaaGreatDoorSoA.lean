/- Sorting of integers: less, insertion. Sorting of integers: insertion. Sorting of integers: medians, the pivot, rows turned round. Sorting of integers: heaps. Sorting of integers: lengths in bits, and patterns that are broken. Sorting of integers: partitions. -/
import Derived.Test.YtokophcpoecilaaGreatDoorEvH
import Derived.Test.YtokophcpoecilaaGreatDoorCoB
set_option linter.unusedSimpArgs false
set_option linter.unusedVariables false
namespace Go.Ev
open Go
set_option maxRecDepth 100000
set_option maxHeartbeats 4000000
section
variable {tab : Nat → Option AFunc} {h : AH}
theorem isNaN_rw (t : tab 110 = some af110) {n : Int} {Q : AV → AH → Prop} : GP tab 110 [.int .i64 n] h Q = Q (.bool false) h := by
  have i0 : initLoc [.int .i64 n] = ofList [.int .i64 n] := rfl
  refine gp_rw (gp_of t rfl ?_)
  refine wc_seq (wc_opq fun Q1 hQ => ?_)
  simp (disch := omega) only [ER, reduceIte, Nat.reduceEqDiff, Nat.reduceAdd]
  refine hQ _ ?_
  clear hQ Q1
  refine wc_seq (wc_opq fun Q1 hQ => ?_)
  simp (disch := omega) only [ER, reduceIte, Nat.reduceEqDiff, Nat.reduceAdd, i0]
  refine hQ _ ?_
  clear hQ Q1
  refine wc_ret ⟨_, results_val results_nil, ?_, rfl⟩
  simp (disch := omega) only [ER, reduceIte, Nat.reduceEqDiff, Nat.reduceAdd, one_one]
theorem less_rw (t1 : tab 63 = some af63) (t2 : tab 110 = some af110) {m n : Int} {Q : AV → AH → Prop} : GP tab 63 [.int .i64 m, .int .i64 n] h Q = Q (.bool (ltZ m n)) h := by
  have i0 : initLoc [.int .i64 m, .int .i64 n] = ofList [.int .i64 m, .int .i64 n] := rfl
  have e := @isNaN_rw tab
  refine gp_rw (gp_of t1 rfl ?_)
  refine wc_seq (wc_opq fun Q1 hQ => ?_)
  simp (disch := omega) only [ER, reduceIte, Nat.reduceEqDiff, Nat.reduceAdd]
  refine hQ _ ?_
  clear hQ Q1
  refine wc_seq (wc_opq fun Q1 hQ => ?_)
  simp (disch := omega) only [ER, reduceIte, Nat.reduceEqDiff, Nat.reduceAdd, i0, isNaN_rw t2]
  refine hQ _ ?_
  clear hQ Q1
  refine wc_ret ⟨_, results_val results_nil, ?_, rfl⟩
  simp (disch := omega) only [ER, reduceIte, Nat.reduceEqDiff, Nat.reduceAdd, one_one]
  rfl
end
end Go.Ev

namespace Go.Ev
open Go
set_option maxRecDepth 100000
set_option maxHeartbeats 4000000
section
variable {tab : Nat → Option AFunc} {h : AH} {id o n s a b : Nat} {p : Bool} {cap : ACap} {c : T AV} {f : Nat → Int}
theorem insertion_gp (t57 : tab 57 = some af57) (t1 : tab 63 = some af63) (t2 : tab 110 = some af110)
    (hi : id < h.next) (hg : h.mem.get id = some (.cells c s p false)) (hc : IArr c o n f) (hab : a ≤ b) (hbn : b ≤ n) (hn : n < 4611686018427387904) :
    GP tab 57 [.sl id o n cap, .int .i64 (a : Int), .int .i64 (b : Int)] h fun _ h1 => ∃ g, Seg h id o n s p c h1 g ∧ PermOn a b f g ∧ Rises ltZ a b g := by
  have i0 : initLoc [.sl id o n cap, .int .i64 (a : Int), .int .i64 (b : Int)] = ofList [.sl id o n cap, .int .i64 (a : Int), .int .i64 (b : Int)] := rfl
  refine gp_of t57 rfl ?_
  refine wc_seq (wc_opq fun Q1 hQ => ?_)
  simp (disch := omega) only [ER, reduceIte, Nat.reduceEqDiff, Nat.reduceAdd, i0]
  refine hQ _ ?_
  clear hQ Q1
  refine wc_block ?_
  refine wc_while (fun k l d h1 => ∃ i g, k = b + 1 - i ∧ i ≤ b + 1 ∧ a < i ∧ d = [] ∧ l.get 0 = some (.sl id o n cap) ∧ l.get 1 = some (.int .i64 (a : Int)) ∧ l.get 2 = some (.int .i64 (b : Int)) ∧ l.get 3 = some (.int .i64 (i : Int)) ∧
    Seg h id o n s p c h1 g ∧ PermOn a b f g ∧ Rises ltZ a i g) ?_ (b + 1 - (a + 1)) ?_
  · rintro k l d h1 ⟨i, g, hk, hib, hai, rfl, g0, g1, g2, g3, sg, pm, ri⟩
    refine wc_seq ?_
    refine wc_seq (wc_opq fun Q1 hQ => ?_)
    simp (disch := omega) only [ER, reduceIte, Nat.reduceEqDiff, Nat.reduceAdd, g2, g3]
    refine hQ _ ?_
    clear hQ Q1
    refine wc_if (i < b) (by simp (disch := omega) only [ER, reduceIte, Nat.reduceEqDiff, Nat.reduceAdd]) (fun hlt => ?_) (fun hge => ?_)
    · refine wc_skip ?_
      refine wc_mid (fun l d h1 => ∃ g, d = [] ∧ l.get 0 = some (.sl id o n cap) ∧ l.get 1 = some (.int .i64 (a : Int)) ∧ l.get 2 = some (.int .i64 (b : Int)) ∧ l.get 3 = some (.int .i64 (i : Int)) ∧
        Seg h id o n s p c h1 g ∧ PermOn a b f g ∧ Rises ltZ a (i + 1) g) ?_ ?_
      · refine wc_block ?_
        refine wc_seq (wc_opq fun Q1 hQ => ?_)
        simp (disch := omega) only [ER, reduceIte, Nat.reduceEqDiff, Nat.reduceAdd, g3]
        refine hQ _ ?_
        clear hQ Q1
        refine wc_block ?_
        refine wc_while (fun k l d h1 => ∃ j g, k = j ∧ a ≤ j ∧ j ≤ i ∧ d = [] ∧ l.get 0 = some (.sl id o n cap) ∧ l.get 1 = some (.int .i64 (a : Int)) ∧ l.get 2 = some (.int .i64 (b : Int)) ∧ l.get 3 = some (.int .i64 (i : Int)) ∧ l.get 5 = some (.int .i64 (j : Int)) ∧
          Seg h id o n s p c h1 g ∧ PermOn a b f g ∧ InsInv ltZ a i j g) ?_ i ?_
        · rintro k l d h1 ⟨j, g, rfl, haj, hji, rfl, g0, g1, g2, g3, g5, sg, pm, iv⟩
          obtain ⟨c1, hg1, hc1, ho1⟩ := sg.row
          refine wc_seq ?_
          by_cases hj : a < k
          · have r1 := hc1 k (by omega)
            have r2 := hc1 (k - 1) (by omega)
            refine wc_seq (wc_opq fun Q1 hQ => ?_)
            simp (disch := omega) only [ER, reduceIte, Nat.reduceEqDiff, Nat.reduceAdd, g0, g1, g5, hj, hg1, r1, r2, less_rw t1 t2]
            refine hQ _ ?_
            clear hQ Q1
            refine wc_cond (q := ltZ (g k) (g (k - 1))) (by simp (disch := omega) only [ER, reduceIte, Nat.reduceEqDiff, Nat.reduceAdd]) (fun hl => ?_) (fun hl => ?_)
            · refine wc_skip (wc_seq (wc_block ?_))
              refine wc_opq fun Q1 hQ => ?_
              simp (disch := omega) only [ER, reduceIte, Nat.reduceEqDiff, Nat.reduceAdd, g0, g5, hg1, r1, r2]
              refine hQ _ ?_
              clear hQ Q1
              refine wc_opq fun Q1 hQ => ?_
              simp (disch := omega) only [ER, reduceIte, Nat.reduceEqDiff, Nat.reduceAdd, g5]
              refine hQ _ ?_
              clear hQ Q1
              refine ⟨k - 1, by omega, k - 1, swp g k (k - 1), rfl, by omega, by omega, rfl, ?_, ?_, ?_, ?_, ?_, sg.swap hc1 ho1 (by omega) (by omega), pm.trans (PermOn.swap (by omega) (by omega)), ins_step ordZ hj hji iv hl⟩
              · simp (disch := omega) only [ER, reduceIte, Nat.reduceEqDiff, Nat.reduceAdd, g0]
              · simp (disch := omega) only [ER, reduceIte, Nat.reduceEqDiff, Nat.reduceAdd, g1]
              · simp (disch := omega) only [ER, reduceIte, Nat.reduceEqDiff, Nat.reduceAdd, g2]
              · simp (disch := omega) only [ER, reduceIte, Nat.reduceEqDiff, Nat.reduceAdd, g3]
              · simp (disch := omega) only [ER, reduceIte, Nat.reduceEqDiff, Nat.reduceAdd]
            · refine wc_exit ?_
              refine ⟨g, rfl, ?_, ?_, ?_, ?_, sg, pm, ins_stop ordZ iv (.inr hl)⟩
              · simp (disch := omega) only [ER, reduceIte, Nat.reduceEqDiff, Nat.reduceAdd, g0]
              · simp (disch := omega) only [ER, reduceIte, Nat.reduceEqDiff, Nat.reduceAdd, g1]
              · simp (disch := omega) only [ER, reduceIte, Nat.reduceEqDiff, Nat.reduceAdd, g2]
              · simp (disch := omega) only [ER, reduceIte, Nat.reduceEqDiff, Nat.reduceAdd, g3]
          · refine wc_seq (wc_opq fun Q1 hQ => ?_)
            simp (disch := omega) only [ER, reduceIte, Nat.reduceEqDiff, Nat.reduceAdd, g0, g1, g5, hj]
            refine hQ _ ?_
            clear hQ Q1
            refine wc_no (by simp (disch := omega) only [ER, reduceIte, Nat.reduceEqDiff, Nat.reduceAdd]) (wc_exit ?_)
            refine ⟨g, rfl, ?_, ?_, ?_, ?_, sg, pm, ins_stop ordZ iv (.inl (by omega))⟩
            · simp (disch := omega) only [ER, reduceIte, Nat.reduceEqDiff, Nat.reduceAdd, g0]
            · simp (disch := omega) only [ER, reduceIte, Nat.reduceEqDiff, Nat.reduceAdd, g1]
            · simp (disch := omega) only [ER, reduceIte, Nat.reduceEqDiff, Nat.reduceAdd, g2]
            · simp (disch := omega) only [ER, reduceIte, Nat.reduceEqDiff, Nat.reduceAdd, g3]
        · refine ⟨i, g, rfl, by omega, by omega, rfl, ?_, ?_, ?_, ?_, ?_, sg, pm, ins_start ri⟩
          · simp (disch := omega) only [ER, reduceIte, Nat.reduceEqDiff, Nat.reduceAdd, g0]
          · simp (disch := omega) only [ER, reduceIte, Nat.reduceEqDiff, Nat.reduceAdd, g1]
          · simp (disch := omega) only [ER, reduceIte, Nat.reduceEqDiff, Nat.reduceAdd, g2]
          · simp (disch := omega) only [ER, reduceIte, Nat.reduceEqDiff, Nat.reduceAdd, g3]
          · simp (disch := omega) only [ER, reduceIte, Nat.reduceEqDiff, Nat.reduceAdd]
      · rintro l d h1 ⟨g, rfl, g0, g1, g2, g3, sg, pm, ri⟩
        refine wc_opq fun Q1 hQ => ?_
        simp (disch := omega) only [ER, reduceIte, Nat.reduceEqDiff, Nat.reduceAdd, g3]
        refine hQ _ ?_
        clear hQ Q1
        refine ⟨b + 1 - (i + 1), by omega, i + 1, g, rfl, by omega, by omega, rfl, ?_, ?_, ?_, ?_, sg, pm, ri⟩
        · simp (disch := omega) only [ER, reduceIte, Nat.reduceEqDiff, Nat.reduceAdd, g0]
        · simp (disch := omega) only [ER, reduceIte, Nat.reduceEqDiff, Nat.reduceAdd, g1]
        · simp (disch := omega) only [ER, reduceIte, Nat.reduceEqDiff, Nat.reduceAdd, g2]
        · simp (disch := omega) only [ER, reduceIte, Nat.reduceEqDiff, Nat.reduceAdd]
    · refine wc_exit ?_
      refine ⟨[], rfl, g, sg, pm, fun x y h1 h2 h3 => ri x y h1 h2 (by omega)⟩
  · refine ⟨a + 1, f, rfl, by omega, by omega, rfl, ?_, ?_, ?_, ?_, Seg.start hi hg hc, PermOn.refl, rises_short ordZ (by omega)⟩
    · simp (disch := omega) only [ER, reduceIte, Nat.reduceEqDiff, Nat.reduceAdd]
    · simp (disch := omega) only [ER, reduceIte, Nat.reduceEqDiff, Nat.reduceAdd]
    · simp (disch := omega) only [ER, reduceIte, Nat.reduceEqDiff, Nat.reduceAdd]
    · simp (disch := omega) only [ER, reduceIte, Nat.reduceEqDiff, Nat.reduceAdd]
end
end Go.Ev

namespace Go.Ev
open Go
set_option maxRecDepth 100000
set_option maxHeartbeats 4000000
/-- a pointer to an integer -/
def PInt (h : AH) (q : Nat) : Prop := ∃ cq sq pq z, h.mem.get q = some (.cells cq sq pq false) ∧ cq.get 0 = some (.int .i64 z)
section
variable {tab : Nat → Option AFunc} {h : AH} {id o n s a b : Nat} {p : Bool} {cap : ACap} {c : T AV} {f : Nat → Int}
theorem mvt (l : List AV) (h : AH) : oMove (.c (.tup l)) .leaf [] h = .val (.tup l) h := rfl
theorem xt0 {a b : AV} {h : AH} (hv : a.mv = true) : oExtract 0 (.c (.tup [a, b])) .leaf [] h = .val a h := extract_tup (i := 0) hv
theorem xt1 {a b : AV} {h : AH} (hv : b.mv = true) : oExtract 1 (.c (.tup [a, b])) .leaf [] h = .val b h := extract_tup (i := 1) hv
theorem mvi {k : IntKind} {n : Int} : (AV.int k n).mv = true := rfl
theorem mvb {b : Bool} : (AV.bool b).mv = true := rfl
theorem order2_gp (t134 : tab 134 = some af134) (t1 : tab 63 = some af63) (t2 : tab 110 = some af110)
    (hg : h.mem.get id = some (.cells c s p false)) (hc : IArr c o n f) {x y q : Nat} (hx : x < n) (hy : y < n) (hq : PInt h q) :
    GP tab 134 [.sl id o n cap, .int .i64 (x : Int), .int .i64 (y : Int), .ptr q 0] h fun v h1 => ∃ x' y' : Nat, v = .tup [.int .i64 (x' : Int), .int .i64 (y' : Int)] ∧ (x' = x ∧ y' = y ∨ x' = y ∧ y' = x) ∧ PInt h1 q ∧ MoreBut q h h1 := by
  have i0 : initLoc [.sl id o n cap, .int .i64 (x : Int), .int .i64 (y : Int), .ptr q 0] = ofList [.sl id o n cap, .int .i64 (x : Int), .int .i64 (y : Int), .ptr q 0] := rfl
  obtain ⟨cq, sq, pq, z, hq1, hq2⟩ := hq
  have r1 := hc x hx
  have r2 := hc y hy
  refine gp_of t134 rfl ?_
  refine wc_seq (wc_opq fun Q1 hQ => ?_)
  simp (disch := omega) only [ER, reduceIte, Nat.reduceEqDiff, Nat.reduceAdd, i0]
  refine hQ _ ?_
  clear hQ Q1
  refine wc_seq ?_
  refine wc_seq (wc_opq fun Q1 hQ => ?_)
  simp (disch := omega) only [ER, reduceIte, Nat.reduceEqDiff, Nat.reduceAdd, i0, hg, r1, r2, less_rw t1 t2]
  refine hQ _ ?_
  clear hQ Q1
  refine wc_cond (q := ltZ (f y) (f x)) (by simp (disch := omega) only [ER, reduceIte, Nat.reduceEqDiff, Nat.reduceAdd]) (fun hl => ?_) (fun hl => ?_)
  · refine wc_seq (wc_opq fun Q1 hQ => ?_)
    simp (disch := omega) only [ER, reduceIte, Nat.reduceEqDiff, Nat.reduceAdd, i0, hq1, hq2]
    refine hQ _ ?_
    clear hQ Q1
    refine wc_seq (wc_opq fun Q1 hQ => ?_)
    simp (disch := omega) only [ER, reduceIte, Nat.reduceEqDiff, Nat.reduceAdd, i0]
    refine hQ _ ?_
    clear hQ Q1
    refine wc_ret ⟨_, results_val (results_val results_nil), y, x, ?_, .inr ⟨rfl, rfl⟩, ⟨_, _, _, _, AH.get_set, T.get_put_self _ _ _⟩, (MoreBut.refl q h).set _⟩
    simp (disch := omega) only [ER, reduceIte, Nat.reduceEqDiff, Nat.reduceAdd, one_more]
  · refine wc_skip ?_
    refine wc_seq (wc_opq fun Q1 hQ => ?_)
    simp (disch := omega) only [ER, reduceIte, Nat.reduceEqDiff, Nat.reduceAdd, i0]
    refine hQ _ ?_
    clear hQ Q1
    refine wc_ret ⟨_, results_val (results_val results_nil), x, y, ?_, .inl ⟨rfl, rfl⟩, ⟨_, _, _, _, hq1, hq2⟩, MoreBut.refl q h⟩
    simp (disch := omega) only [ER, reduceIte, Nat.reduceEqDiff, Nat.reduceAdd, one_more]
theorem median_gp (t109 : tab 109 = some af109) (t134 : tab 134 = some af134) (t1 : tab 63 = some af63) (t2 : tab 110 = some af110)
    (hi : id < h.next) (hg : h.mem.get id = some (.cells c s p false)) (hc : IArr c o n f) {x y z q : Nat} (hx : x < n) (hy : y < n) (hz : z < n) (hq : PInt h q) (hne : id ≠ q) :
    GP tab 109 [.sl id o n cap, .int .i64 (x : Int), .int .i64 (y : Int), .int .i64 (z : Int), .ptr q 0] h fun v h1 => ∃ m : Nat, v = .int .i64 (m : Int) ∧ (m = x ∨ m = y ∨ m = z) ∧ PInt h1 q ∧ MoreBut q h h1 := by
  have i0 : initLoc [.sl id o n cap, .int .i64 (x : Int), .int .i64 (y : Int), .int .i64 (z : Int), .ptr q 0] = ofList [.sl id o n cap, .int .i64 (x : Int), .int .i64 (y : Int), .int .i64 (z : Int), .ptr q 0] := rfl
  refine gp_of t109 rfl ?_
  refine wc_seq (wc_opq fun Q1 hQ => ?_)
  simp (disch := omega) only [ER, reduceIte, Nat.reduceEqDiff, Nat.reduceAdd, i0]
  refine hQ _ ?_
  clear hQ Q1
  refine wc_seq (wc_opq fun Q1 hQ => ?_)
  simp (disch := omega) only [ER, reduceIte, Nat.reduceEqDiff, Nat.reduceAdd, i0]
  refine (order2_gp t134 t1 t2 hg hc hx hy hq).mono ?_
  rintro v h1 ⟨x1, y1, rfl, e1, hq1, m1⟩
  have hg1 : h1.mem.get id = some (.cells c s p false) := by rw [m1.keep _ hi hne]; exact hg
  simp (disch := omega) only [ER, reduceIte, Nat.reduceEqDiff, Nat.reduceAdd, mvt, xt0 mvi, xt1 mvi]
  refine hQ _ ?_
  clear hQ Q1
  refine wc_seq (wc_opq fun Q1 hQ => ?_)
  simp (disch := omega) only [ER, reduceIte, Nat.reduceEqDiff, Nat.reduceAdd, i0]
  refine (order2_gp t134 t1 t2 hg1 hc (x := y1) (y := z) (by omega) hz hq1).mono ?_
  rintro v h2 ⟨y2, z2, rfl, e2, hq2, m2⟩
  have hg2 : h2.mem.get id = some (.cells c s p false) := by rw [m2.keep _ (Nat.lt_of_lt_of_le hi m1.next) hne]; exact hg1
  simp (disch := omega) only [ER, reduceIte, Nat.reduceEqDiff, Nat.reduceAdd, mvt, xt0 mvi, xt1 mvi]
  refine hQ _ ?_
  clear hQ Q1
  refine wc_seq (wc_opq fun Q1 hQ => ?_)
  simp (disch := omega) only [ER, reduceIte, Nat.reduceEqDiff, Nat.reduceAdd, i0]
  refine (order2_gp t134 t1 t2 hg2 hc (x := x1) (y := y2) (by omega) (by omega) hq2).mono ?_
  rintro v h3 ⟨x3, y3, rfl, e3, hq3, m3⟩
  simp (disch := omega) only [ER, reduceIte, Nat.reduceEqDiff, Nat.reduceAdd, mvt, xt0 mvi, xt1 mvi]
  refine hQ _ ?_
  clear hQ Q1
  refine wc_seq (wc_opq fun Q1 hQ => ?_)
  simp (disch := omega) only [ER, reduceIte, Nat.reduceEqDiff, Nat.reduceAdd, i0]
  refine hQ _ ?_
  clear hQ Q1
  refine wc_ret ⟨_, results_val results_nil, y3, ?_, by omega, hq3, (m1.trans m2).trans m3⟩
  simp (disch := omega) only [ER, reduceIte, Nat.reduceEqDiff, Nat.reduceAdd, one_one]
theorem adjacent_gp (t108 : tab 108 = some af108) (t109 : tab 109 = some af109) (t134 : tab 134 = some af134) (t1 : tab 63 = some af63) (t2 : tab 110 = some af110)
    (hi : id < h.next) (hg : h.mem.get id = some (.cells c s p false)) (hc : IArr c o n f) {x q : Nat} (hx0 : 0 < x) (hx : x + 1 < n) (hn : n < 4611686018427387904) (hq : PInt h q) (hne : id ≠ q) :
    GP tab 108 [.sl id o n cap, .int .i64 (x : Int), .ptr q 0] h fun v h1 => ∃ m : Nat, v = .int .i64 (m : Int) ∧ x ≤ m + 1 ∧ m ≤ x + 1 ∧ PInt h1 q ∧ MoreBut q h h1 := by
  have i0 : initLoc [.sl id o n cap, .int .i64 (x : Int), .ptr q 0] = ofList [.sl id o n cap, .int .i64 (x : Int), .ptr q 0] := rfl
  refine gp_of t108 rfl ?_
  refine wc_seq (wc_opq fun Q1 hQ => ?_)
  simp (disch := omega) only [ER, reduceIte, Nat.reduceEqDiff, Nat.reduceAdd, i0]
  refine hQ _ ?_
  clear hQ Q1
  refine wc_seq (wc_opq fun Q1 hQ => ?_)
  simp (disch := omega) only [ER, reduceIte, Nat.reduceEqDiff, Nat.reduceAdd, i0]
  refine (median_gp t109 t134 t1 t2 hi hg hc (x := x - 1) (y := x) (z := x + 1) (by omega) (by omega) (by omega) hq hne).mono ?_
  rintro v h1 ⟨m, rfl, e1, hq1, m1⟩
  simp (disch := omega) only [ER, reduceIte, Nat.reduceEqDiff, Nat.reduceAdd]
  refine hQ _ ?_
  clear hQ Q1
  refine wc_ret ⟨_, results_val results_nil, m, ?_, by omega, by omega, hq1, m1⟩
  simp (disch := omega) only [ER, reduceIte, Nat.reduceEqDiff, Nat.reduceAdd, one_one]
theorem pivot_gp (t60 : tab 60 = some af60) (t108 : tab 108 = some af108) (t109 : tab 109 = some af109) (t134 : tab 134 = some af134) (t1 : tab 63 = some af63) (t2 : tab 110 = some af110)
    (hi : id < h.next) (hg : h.mem.get id = some (.cells c s p false)) (hc : IArr c o n f) (hab : a + 8 ≤ b) (hbn : b ≤ n) (hn : n < 4611686018427387904) :
    GP tab 60 [.sl id o n cap, .int .i64 (a : Int), .int .i64 (b : Int)] h fun v h1 => ∃ m t : Nat, v = .tup [.int .i64 (m : Int), .int .i64 (t : Int)] ∧ a ≤ m ∧ m < b ∧ More h h1 := by
  have i0 : initLoc [.sl id o n cap, .int .i64 (a : Int), .int .i64 (b : Int)] = ofList [.sl id o n cap, .int .i64 (a : Int), .int .i64 (b : Int)] := rfl
  have hm1 : (b - a) / 4 * 3 < 4611686018427387904 := by omega
  have hmb : ∀ {h' : AH}, MoreBut h.next (h.add (.cells (ofList [.int .i64 ((0 : Nat) : Int)]) 1 false false)) h' → More h h' := fun m => ⟨Nat.le_trans (Nat.le_succ _) m.next, fun k hk => by rw [m.keep k (Nat.lt_succ_of_lt hk) (by omega), AH.add_mem, T.get_put_ne _ _ _ _ (by omega)]⟩
  refine gp_of t60 rfl ?_
  refine wc_seq (wc_opq fun Q1 hQ => ?_)
  simp (disch := omega) only [ER, reduceIte, Nat.reduceEqDiff, Nat.reduceAdd, i0]
  refine hQ _ ?_
  clear hQ Q1
  refine wc_seq (wc_opq fun Q1 hQ => ?_)
  simp (disch := omega) only [ER, reduceIte, Nat.reduceEqDiff, Nat.reduceAdd, i0]
  refine hQ _ ?_
  clear hQ Q1
  refine wc_seq (wc_opq fun Q1 hQ => ?_)
  simp (disch := omega) only [ER, reduceIte, Nat.reduceEqDiff, Nat.reduceAdd, i0]
  refine hQ _ ?_
  clear hQ Q1
  refine wc_seq (wc_opq fun Q1 hQ => ?_)
  simp (disch := omega) only [ER, reduceIte, Nat.reduceEqDiff, Nat.reduceAdd, i0]
  refine hQ _ ?_
  clear hQ Q1
  refine wc_seq (wc_opq fun Q1 hQ => ?_)
  simp (disch := omega) only [ER, reduceIte, Nat.reduceEqDiff, Nat.reduceAdd, i0]
  refine hQ _ ?_
  clear hQ Q1
  refine wc_seq (wc_opq fun Q1 hQ => ?_)
  simp (disch := omega) only [ER, reduceIte, Nat.reduceEqDiff, Nat.reduceAdd, i0]
  refine hQ _ ?_
  clear hQ Q1
  have hid : id ≠ h.next := by omega
  have hg0 : (h.add (.cells (ofList [.int .i64 ((0 : Nat) : Int)]) 1 false false)).mem.get id = some (.cells c s p false) := by rw [AH.add_mem, T.get_put_ne _ _ _ _ (Ne.symm hid)]; exact hg
  have hq0 : PInt (h.add (.cells (ofList [.int .i64 ((0 : Nat) : Int)]) 1 false false)) h.next := ⟨_, _, _, _, by rw [AH.add_mem]; exact T.get_put_self _ _ _, rfl⟩
  have hi0 : id < (h.add (.cells (ofList [.int .i64 ((0 : Nat) : Int)]) 1 false false)).next := Nat.lt_succ_of_lt hi
  generalize (h.add (.cells (ofList [.int .i64 ((0 : Nat) : Int)]) 1 false false)) = h0 at *
  refine wc_mid (fun l d h1 => ∃ m : Nat, d = [] ∧ l.get 7 = some (.ptr h.next 0) ∧ l.get 8 = some (.int .i64 (m : Int)) ∧ a ≤ m ∧ m < b ∧ PInt h1 h.next ∧ MoreBut h.next h0 h1) ?_ ?_
  · refine wc_seq (wc_opq fun Q1 hQ => ?_)
    simp (disch := omega) only [ER, reduceIte, Nat.reduceEqDiff, Nat.reduceAdd, i0]
    refine hQ _ ?_
    clear hQ Q1
    have e8 : 8 ≤ b - a := by omega
    refine wc_yes (by simp (disch := omega) only [ER, reduceIte, Nat.reduceEqDiff, Nat.reduceAdd, e8]) ?_
    refine wc_mid (fun l d h1 => ∃ i j k : Nat, d = [] ∧ l.get 0 = some (.sl id o n cap) ∧ l.get 6 = some (.int .i64 (i : Int)) ∧ l.get 8 = some (.int .i64 (j : Int)) ∧ l.get 9 = some (.int .i64 (k : Int)) ∧ l.get 7 = some (.ptr h.next 0) ∧ a ≤ i ∧ i < b ∧ a ≤ j ∧ j < b ∧ a ≤ k ∧ k < b ∧ PInt h1 h.next ∧ MoreBut h.next h0 h1) ?_ ?_
    · refine wc_seq (wc_opq fun Q1 hQ => ?_)
      simp (disch := omega) only [ER, reduceIte, Nat.reduceEqDiff, Nat.reduceAdd, i0]
      refine hQ _ ?_
      clear hQ Q1
      refine wc_if (50 ≤ b - a) (by simp (disch := omega) only [ER, reduceIte, Nat.reduceEqDiff, Nat.reduceAdd]) (fun h50 => ?_) (fun h50 => ?_)
      · refine wc_seq (wc_opq fun Q1 hQ => ?_)
        simp (disch := omega) only [ER, reduceIte, Nat.reduceEqDiff, Nat.reduceAdd, i0]
        refine (adjacent_gp t108 t109 t134 t1 t2 hi0 hg0 hc (x := a + (b - a) / 4) (by omega) (by omega) hn hq0 hid).mono ?_
        rintro v h1 ⟨m1, rfl, b1, b2, hq1, mb1⟩
        have hg1 : h1.mem.get id = some (.cells c s p false) := by rw [mb1.keep _ hi0 hid]; exact hg0
        have hi1 := Nat.lt_of_lt_of_le hi0 mb1.next
        simp (disch := omega) only [ER, reduceIte, Nat.reduceEqDiff, Nat.reduceAdd]
        refine hQ _ ?_
        clear hQ Q1
        refine wc_seq (wc_opq fun Q1 hQ => ?_)
        simp (disch := omega) only [ER, reduceIte, Nat.reduceEqDiff, Nat.reduceAdd, i0]
        refine (adjacent_gp t108 t109 t134 t1 t2 hi1 hg1 hc (x := a + (b - a) / 4 * 2) (by omega) (by omega) hn hq1 hid).mono ?_
        rintro v h2 ⟨m2, rfl, b3, b4, hq2, mb2⟩
        have hg2 : h2.mem.get id = some (.cells c s p false) := by rw [mb2.keep _ hi1 hid]; exact hg1
        have hi2 := Nat.lt_of_lt_of_le hi1 mb2.next
        simp (disch := omega) only [ER, reduceIte, Nat.reduceEqDiff, Nat.reduceAdd]
        refine hQ _ ?_
        clear hQ Q1
        refine wc_opq fun Q1 hQ => ?_
        simp (disch := omega) only [ER, reduceIte, Nat.reduceEqDiff, Nat.reduceAdd, i0]
        refine (adjacent_gp t108 t109 t134 t1 t2 hi2 hg2 hc (x := a + (b - a) / 4 * 3) (by omega) (by omega) hn hq2 hid).mono ?_
        rintro v h3 ⟨m3, rfl, b5, b6, hq3, mb3⟩
        simp (disch := omega) only [ER, reduceIte, Nat.reduceEqDiff, Nat.reduceAdd]
        refine hQ _ ?_
        clear hQ Q1
        refine ⟨m1, m2, m3, rfl, ?_, ?_, ?_, ?_, ?_, by omega, by omega, by omega, by omega, by omega, by omega, hq3, (mb1.trans mb2).trans mb3⟩
        all_goals simp (disch := omega) only [ER, reduceIte, Nat.reduceEqDiff, Nat.reduceAdd, i0]
      · refine wc_skip ⟨a + (b - a) / 4, a + (b - a) / 4 * 2, a + (b - a) / 4 * 3, rfl, ?_, ?_, ?_, ?_, ?_, by omega, by omega, by omega, by omega, by omega, by omega, hq0, MoreBut.refl _ _⟩
        all_goals simp (disch := omega) only [ER, reduceIte, Nat.reduceEqDiff, Nat.reduceAdd, i0]
    · rintro l d h1 ⟨i, j, k, rfl, g0, g6, g8, g9, g7, b1, b2, b3, b4, b5, b6, hq1, mb1⟩
      have hg1 : h1.mem.get id = some (.cells c s p false) := by rw [mb1.keep _ hi0 hid]; exact hg0
      refine wc_opq fun Q1 hQ => ?_
      simp (disch := omega) only [ER, reduceIte, Nat.reduceEqDiff, Nat.reduceAdd, g0, g6, g8, g9, g7]
      refine (median_gp t109 t134 t1 t2 (Nat.lt_of_lt_of_le hi0 mb1.next) hg1 hc (x := i) (y := j) (z := k) (by omega) (by omega) (by omega) hq1 hid).mono ?_
      rintro v h2 ⟨m, rfl, e1, hq2, mb2⟩
      simp (disch := omega) only [ER, reduceIte, Nat.reduceEqDiff, Nat.reduceAdd]
      refine hQ _ ?_
      clear hQ Q1
      refine ⟨m, rfl, ?_, ?_, by omega, by omega, hq2, mb1.trans mb2⟩
      · simp (disch := omega) only [ER, reduceIte, Nat.reduceEqDiff, Nat.reduceAdd, g7]
      · simp (disch := omega) only [ER, reduceIte, Nat.reduceEqDiff, Nat.reduceAdd]
  · rintro l d h1 ⟨m, rfl, g7, g8, b1, b2, ⟨cq, sq, pq, z, hq1, hq2⟩, mb⟩
    have hmo : More h h1 := hmb mb
    refine wc_seq (wc_opq fun Q1 hQ => ?_)
    simp (disch := omega) only [ER, reduceIte, Nat.reduceEqDiff, Nat.reduceAdd, g7, hq1, hq2]
    refine hQ _ ?_
    clear hQ Q1
    refine wc_block ?_
    refine wc_seq (wc_opq fun Q1 hQ => ?_)
    simp (disch := omega) only [ER, reduceIte, Nat.reduceEqDiff, Nat.reduceAdd]
    refine hQ _ ?_
    clear hQ Q1
    refine wc_if (z = ((0 : Nat) : Int)) (by simp (disch := omega) only [ER, reduceIte, Nat.reduceEqDiff, Nat.reduceAdd]) (fun hz => ?_) (fun hz => ?_)
    · refine wc_seq (wc_opq fun Q1 hQ => ?_)
      simp (disch := omega) only [ER, reduceIte, Nat.reduceEqDiff, Nat.reduceAdd, g8]
      refine hQ _ ?_
      clear hQ Q1
      refine wc_ret ⟨_, results_val (results_val results_nil), m, 1, ?_, b1, b2, hmo⟩
      simp (disch := omega) only [ER, reduceIte, Nat.reduceEqDiff, Nat.reduceAdd, one_more]
    · refine wc_seq (wc_opq fun Q1 hQ => ?_)
      simp (disch := omega) only [ER, reduceIte, Nat.reduceEqDiff, Nat.reduceAdd]
      refine hQ _ ?_
      clear hQ Q1
      refine wc_if (z = ((12 : Nat) : Int)) (by simp (disch := omega) only [ER, reduceIte, Nat.reduceEqDiff, Nat.reduceAdd]) (fun hz => ?_) (fun hz => ?_)
      · refine wc_seq (wc_opq fun Q1 hQ => ?_)
        simp (disch := omega) only [ER, reduceIte, Nat.reduceEqDiff, Nat.reduceAdd, g8]
        refine hQ _ ?_
        clear hQ Q1
        refine wc_ret ⟨_, results_val (results_val results_nil), m, 2, ?_, b1, b2, hmo⟩
        simp (disch := omega) only [ER, reduceIte, Nat.reduceEqDiff, Nat.reduceAdd, one_more]
      · refine wc_seq (wc_opq fun Q1 hQ => ?_)
        simp (disch := omega) only [ER, reduceIte, Nat.reduceEqDiff, Nat.reduceAdd, g8]
        refine hQ _ ?_
        clear hQ Q1
        refine wc_ret ⟨_, results_val (results_val results_nil), m, 0, ?_, b1, b2, hmo⟩
        simp (disch := omega) only [ER, reduceIte, Nat.reduceEqDiff, Nat.reduceAdd, one_more]
theorem reverse_gp (t61 : tab 61 = some af61) (hi : id < h.next) (hg : h.mem.get id = some (.cells c s p false)) (hc : IArr c o n f) (hab : a < b) (hbn : b ≤ n) (hn : n < 4611686018427387904) :
    GP tab 61 [.sl id o n cap, .int .i64 (a : Int), .int .i64 (b : Int)] h fun _ h1 => ∃ g, Seg h id o n s p c h1 g ∧ PermOn a b f g := by
  have i0 : initLoc [.sl id o n cap, .int .i64 (a : Int), .int .i64 (b : Int)] = ofList [.sl id o n cap, .int .i64 (a : Int), .int .i64 (b : Int)] := rfl
  refine gp_of t61 rfl ?_
  refine wc_seq (wc_opq fun Q1 hQ => ?_)
  simp (disch := omega) only [ER, reduceIte, Nat.reduceEqDiff, Nat.reduceAdd, i0]
  refine hQ _ ?_
  clear hQ Q1
  refine wc_seq (wc_opq fun Q1 hQ => ?_)
  simp (disch := omega) only [ER, reduceIte, Nat.reduceEqDiff, Nat.reduceAdd, i0]
  refine hQ _ ?_
  clear hQ Q1
  refine wc_block ?_
  refine wc_while (fun k l d h1 => ∃ i j g, k = j + 1 - i ∧ a ≤ i ∧ j < b ∧ i ≤ j + 1 ∧ d = [] ∧ l.get 0 = some (.sl id o n cap) ∧ l.get 3 = some (.int .i64 (i : Int)) ∧ l.get 4 = some (.int .i64 (j : Int)) ∧ Seg h id o n s p c h1 g ∧ PermOn a b f g) ?_ (b - 1 + 1 - a) ?_
  · rintro k l d h1 ⟨i, j, g, hk, h1', h2', h3', rfl, g0, g3, g4, sg, pm⟩
    obtain ⟨c1, hg1, hc1, ho1⟩ := sg.row
    refine wc_seq ?_
    refine wc_seq (wc_opq fun Q1 hQ => ?_)
    simp (disch := omega) only [ER, reduceIte, Nat.reduceEqDiff, Nat.reduceAdd, g3, g4]
    refine hQ _ ?_
    clear hQ Q1
    refine wc_if (i < j) (by simp (disch := omega) only [ER, reduceIte, Nat.reduceEqDiff, Nat.reduceAdd]) (fun hlt => ?_) (fun hge => ?_)
    · refine wc_skip (wc_block ?_)
      have r1 := hc1 i (by omega)
      have r2 := hc1 j (by omega)
      refine wc_seq (wc_opq fun Q1 hQ => ?_)
      simp (disch := omega) only [ER, reduceIte, Nat.reduceEqDiff, Nat.reduceAdd, g0, g3, g4, hg1, r1, r2]
      refine hQ _ ?_
      clear hQ Q1
      refine wc_seq (wc_opq fun Q1 hQ => ?_)
      simp (disch := omega) only [ER, reduceIte, Nat.reduceEqDiff, Nat.reduceAdd, g3]
      refine hQ _ ?_
      clear hQ Q1
      refine wc_opq fun Q1 hQ => ?_
      simp (disch := omega) only [ER, reduceIte, Nat.reduceEqDiff, Nat.reduceAdd, g4]
      refine hQ _ ?_
      clear hQ Q1
      refine ⟨j - 1 + 1 - (i + 1), by omega, i + 1, j - 1, _, rfl, by omega, by omega, by omega, rfl, ?_, ?_, ?_, sg.swap hc1 ho1 (by omega) (by omega), pm.trans (PermOn.swap (by omega) (by omega))⟩
      all_goals simp (disch := omega) only [ER, reduceIte, Nat.reduceEqDiff, Nat.reduceAdd, g0]
    · exact wc_exit ⟨[], rfl, g, sg, pm⟩
  · refine ⟨a, b - 1, f, rfl, by omega, by omega, by omega, rfl, ?_, ?_, ?_, Seg.start hi hg hc, PermOn.refl⟩
    all_goals simp (disch := omega) only [ER, reduceIte, Nat.reduceEqDiff, Nat.reduceAdd]
end
end Go.Ev

namespace Go.Ev
open Go
set_option maxRecDepth 100000
set_option maxHeartbeats 4000000
theorem PermOn.shf {α : Type} {a b o : Nat} {f g : Nat → α} {Q : α → Prop} (x : PermOn (o + a) (o + b) f g) (h : ∀ i, a ≤ i → i < b → Q (Ev.shf f o i)) : ∀ i, a ≤ i → i < b → Q (Ev.shf g o i) := fun i h1 h2 =>
  x.all (Q := Q) (fun j j1 j2 => by have := h (j - o) (by omega) (by omega); rwa [Ev.shf, show o + (j - o) = j by omega] at this) (o + i) (by omega) (by omega)
section
variable {tab : Nat → Option AFunc} {h : AH} {id o n s a b : Nat} {p : Bool} {cap : ACap} {c : T AV} {f : Nat → Int}
theorem sift_gp (t105 : tab 105 = some af105) (t1 : tab 63 = some af63) (t2 : tab 110 = some af110)
    (hi : id < h.next) (hg : h.mem.get id = some (.cells c s p false)) (hc : IArr c o n f) {lo hh fst : Nat} (hlo : lo ≤ hh) (hfn : fst + hh ≤ n) (hn : n < 2305843009213693952) (hp : HeapBut ltZ lo hh lo (shf f fst)) :
    GP tab 105 [.sl id o n cap, .int .i64 (lo : Int), .int .i64 (hh : Int), .int .i64 (fst : Int)] h fun _ h1 => ∃ g, Seg h id o n s p c h1 g ∧ PermOn (fst + lo) (fst + hh) f g ∧ Heap ltZ lo hh (shf g fst) := by
  have i0 : initLoc [.sl id o n cap, .int .i64 (lo : Int), .int .i64 (hh : Int), .int .i64 (fst : Int)] = ofList [.sl id o n cap, .int .i64 (lo : Int), .int .i64 (hh : Int), .int .i64 (fst : Int)] := rfl
  refine gp_of t105 rfl ?_
  refine wc_seq (wc_opq fun Q1 hQ => ?_)
  simp (disch := omega) only [ER, reduceIte, Nat.reduceEqDiff, Nat.reduceAdd, i0]
  refine hQ _ ?_
  clear hQ Q1
  refine wc_block ?_
  refine wc_while (fun k l d h1 => ∃ r g, k = hh + 1 - r ∧ lo ≤ r ∧ r ≤ hh ∧ d = [] ∧ l.get 0 = some (.sl id o n cap) ∧ l.get 2 = some (.int .i64 (hh : Int)) ∧ l.get 3 = some (.int .i64 (fst : Int)) ∧ l.get 4 = some (.int .i64 (r : Int)) ∧
    Seg h id o n s p c h1 g ∧ PermOn (fst + lo) (fst + hh) f g ∧ HeapBut ltZ lo hh r (shf g fst)) ?_ (hh + 1 - lo) ?_
  · rintro k l d h1 ⟨r, g, hk, hlr, hrh, rfl, g0, g2, g3, g4, sg, pm, hb⟩
    obtain ⟨c1, hg1, hc1, ho1⟩ := sg.row
    refine wc_block ?_
    refine wc_seq (wc_opq fun Q1 hQ => ?_)
    simp (disch := omega) only [ER, reduceIte, Nat.reduceEqDiff, Nat.reduceAdd, g4]
    refine hQ _ ?_
    clear hQ Q1
    refine wc_seq ?_
    refine wc_seq (wc_opq fun Q1 hQ => ?_)
    simp (disch := omega) only [ER, reduceIte, Nat.reduceEqDiff, Nat.reduceAdd, g2]
    refine hQ _ ?_
    clear hQ Q1
    refine wc_if (hh ≤ 2 * r + 1) (by simp (disch := omega) only [ER, reduceIte, Nat.reduceEqDiff, Nat.reduceAdd]) (fun hle => ?_) (fun hle => ?_)
    · exact wc_exit ⟨[], rfl, g, sg, pm, heap_leaf hb hle⟩
    refine wc_skip ?_
    refine wc_mid (fun l d h2 => ∃ e : Nat, h2 = h1 ∧ d = [] ∧ l.get 0 = some (.sl id o n cap) ∧ l.get 2 = some (.int .i64 (hh : Int)) ∧ l.get 3 = some (.int .i64 (fst : Int)) ∧ l.get 4 = some (.int .i64 (r : Int)) ∧ l.get 5 = some (.int .i64 (e : Int)) ∧
      (e = 2 * r + 1 ∨ e = 2 * r + 2) ∧ e < hh ∧ ∀ d, d = 2 * r + 1 ∨ d = 2 * r + 2 → d < hh → ltZ (shf g fst e) (shf g fst d) = false) ?_ ?_
    · by_cases hc2 : 2 * r + 1 + 1 < hh
      · have r1 := hc1 (fst + (2 * r + 1)) (by omega)
        have r2 := hc1 (fst + (2 * r + 1) + 1) (by omega)
        refine wc_seq (wc_opq fun Q1 hQ => ?_)
        simp (disch := omega) only [ER, reduceIte, Nat.reduceEqDiff, Nat.reduceAdd, g0, g2, g3, g4, hc2, hg1, r1, r2, less_rw t1 t2]
        refine hQ _ ?_
        clear hQ Q1
        refine wc_cond (q := ltZ (g (fst + (2 * r + 1))) (g (fst + (2 * r + 1) + 1))) (by simp (disch := omega) only [ER, reduceIte, Nat.reduceEqDiff, Nat.reduceAdd]) (fun hl => ?_) (fun hl => ?_)
        · refine wc_opq fun Q1 hQ => ?_
          simp (disch := omega) only [ER, reduceIte, Nat.reduceEqDiff, Nat.reduceAdd, g4]
          refine hQ _ ?_
          clear hQ Q1
          refine ⟨2 * r + 1 + 1, rfl, rfl, ?_, ?_, ?_, ?_, ?_, .inr rfl, hc2, ?_⟩
          · simp (disch := omega) only [ER, reduceIte, Nat.reduceEqDiff, Nat.reduceAdd, g0]
          · simp (disch := omega) only [ER, reduceIte, Nat.reduceEqDiff, Nat.reduceAdd, g2]
          · simp (disch := omega) only [ER, reduceIte, Nat.reduceEqDiff, Nat.reduceAdd, g3]
          · simp (disch := omega) only [ER, reduceIte, Nat.reduceEqDiff, Nat.reduceAdd, g4]
          · simp (disch := omega) only [ER, reduceIte, Nat.reduceEqDiff, Nat.reduceAdd]
          · rintro d (rfl | rfl) hd
            · exact ordZ.asym _ _ hl
            · exact ordZ.irrefl _
        · refine wc_skip ⟨2 * r + 1, rfl, rfl, ?_, ?_, ?_, ?_, ?_, .inl rfl, by omega, ?_⟩
          · simp (disch := omega) only [ER, reduceIte, Nat.reduceEqDiff, Nat.reduceAdd, g0]
          · simp (disch := omega) only [ER, reduceIte, Nat.reduceEqDiff, Nat.reduceAdd, g2]
          · simp (disch := omega) only [ER, reduceIte, Nat.reduceEqDiff, Nat.reduceAdd, g3]
          · simp (disch := omega) only [ER, reduceIte, Nat.reduceEqDiff, Nat.reduceAdd, g4]
          · simp (disch := omega) only [ER, reduceIte, Nat.reduceEqDiff, Nat.reduceAdd]
          · rintro d (rfl | rfl) hd
            · exact ordZ.irrefl _
            · exact hl
      · refine wc_seq (wc_opq fun Q1 hQ => ?_)
        simp (disch := omega) only [ER, reduceIte, Nat.reduceEqDiff, Nat.reduceAdd, g0, g2, g3, g4, hc2]
        refine hQ _ ?_
        clear hQ Q1
        refine wc_no (by simp (disch := omega) only [ER, reduceIte, Nat.reduceEqDiff, Nat.reduceAdd]) (wc_skip ?_)
        refine ⟨2 * r + 1, rfl, rfl, ?_, ?_, ?_, ?_, ?_, .inl rfl, by omega, ?_⟩
        · simp (disch := omega) only [ER, reduceIte, Nat.reduceEqDiff, Nat.reduceAdd, g0]
        · simp (disch := omega) only [ER, reduceIte, Nat.reduceEqDiff, Nat.reduceAdd, g2]
        · simp (disch := omega) only [ER, reduceIte, Nat.reduceEqDiff, Nat.reduceAdd, g3]
        · simp (disch := omega) only [ER, reduceIte, Nat.reduceEqDiff, Nat.reduceAdd, g4]
        · simp (disch := omega) only [ER, reduceIte, Nat.reduceEqDiff, Nat.reduceAdd]
        · rintro d (rfl | rfl) hd
          · exact ordZ.irrefl _
          · omega
    · rintro l d h2 ⟨e, rfl, rfl, g0, g2, g3, g4, g5, he, heh, hbig⟩
      have r1 := hc1 (fst + r) (by omega)
      have r2 := hc1 (fst + e) (by omega)
      refine wc_seq ?_
      refine wc_seq (wc_opq fun Q1 hQ => ?_)
      simp (disch := omega) only [ER, reduceIte, Nat.reduceEqDiff, Nat.reduceAdd, g0, g3, g4, g5, hg1, r1, r2, less_rw t1 t2]
      refine hQ _ ?_
      clear hQ Q1
      refine wc_cond (q := !ltZ (g (fst + r)) (g (fst + e))) (by simp (disch := omega) only [ER, reduceIte, Nat.reduceEqDiff, Nat.reduceAdd]) (fun hl => ?_) (fun hl => ?_)
      · refine wc_ret ⟨[], rfl, g, sg, pm, heap_stop ordZ hb he hbig ?_⟩
        simpa [shf] using hl
      · refine wc_skip ?_
        refine wc_seq (wc_opq fun Q1 hQ => ?_)
        simp (disch := omega) only [ER, reduceIte, Nat.reduceEqDiff, Nat.reduceAdd, g0, g3, g4, g5, hg1, r1, r2]
        refine hQ _ ?_
        clear hQ Q1
        refine wc_opq fun Q1 hQ => ?_
        simp (disch := omega) only [ER, reduceIte, Nat.reduceEqDiff, Nat.reduceAdd, g5]
        refine hQ _ ?_
        clear hQ Q1
        refine ⟨hh + 1 - e, by omega, e, _, rfl, by omega, by omega, rfl, ?_, ?_, ?_, ?_, sg.swap hc1 ho1 (i := fst + r) (j := fst + e) (by omega) (by omega), pm.trans (PermOn.swap (by omega) (by omega)), ?_⟩
        · simp (disch := omega) only [ER, reduceIte, Nat.reduceEqDiff, Nat.reduceAdd, g0]
        · simp (disch := omega) only [ER, reduceIte, Nat.reduceEqDiff, Nat.reduceAdd, g2]
        · simp (disch := omega) only [ER, reduceIte, Nat.reduceEqDiff, Nat.reduceAdd, g3]
        · simp (disch := omega) only [ER, reduceIte, Nat.reduceEqDiff, Nat.reduceAdd]
        · rw [shf_swp]
          exact heap_step ordZ hlr hb he heh hbig (by simpa [shf] using hl)
  · refine ⟨lo, f, rfl, by omega, hlo, rfl, ?_, ?_, ?_, ?_, Seg.start hi hg hc, PermOn.refl, hp⟩
    all_goals simp (disch := omega) only [ER, reduceIte, Nat.reduceEqDiff, Nat.reduceAdd]
theorem heapsort_gp (t58 : tab 58 = some af58) (t105 : tab 105 = some af105) (t1 : tab 63 = some af63) (t2 : tab 110 = some af110)
    (hi : id < h.next) (hg : h.mem.get id = some (.cells c s p false)) (hc : IArr c o n f) (hab : a < b) (hbn : b ≤ n) (hn : n < 2305843009213693952) :
    GP tab 58 [.sl id o n cap, .int .i64 (a : Int), .int .i64 (b : Int)] h fun _ h1 => ∃ g, Seg h id o n s p c h1 g ∧ PermOn a b f g ∧ Rises ltZ a b g := by
  have i0 : initLoc [.sl id o n cap, .int .i64 (a : Int), .int .i64 (b : Int)] = ofList [.sl id o n cap, .int .i64 (a : Int), .int .i64 (b : Int)] := rfl
  obtain ⟨m, rfl⟩ : ∃ m, b = a + m := ⟨b - a, by omega⟩
  have em : a + m - a = m := by omega
  refine gp_of t58 rfl ?_
  refine wc_seq (wc_opq fun Q1 hQ => ?_)
  simp (disch := omega) only [ER, reduceIte, Nat.reduceEqDiff, Nat.reduceAdd, i0]
  refine hQ _ ?_
  clear hQ Q1
  refine wc_seq (wc_opq fun Q1 hQ => ?_)
  simp (disch := omega) only [ER, reduceIte, Nat.reduceEqDiff, Nat.reduceAdd, i0]
  refine hQ _ ?_
  clear hQ Q1
  refine wc_seq (wc_opq fun Q1 hQ => ?_)
  simp (disch := omega) only [ER, reduceIte, Nat.reduceEqDiff, Nat.reduceAdd, i0]
  refine hQ _ ?_
  clear hQ Q1
  refine wc_mid (fun l d h1 => ∃ g, d = [] ∧ l.get 0 = some (.sl id o n cap) ∧ l.get 3 = some (.int .i64 (m : Int)) ∧ l.get 6 = some (.int .i64 (a : Int)) ∧ l.get 9 = some (.int .i64 ((0 : Nat) : Int)) ∧ Seg h id o n s p c h1 g ∧ PermOn a (a + m) f g ∧ Heap ltZ 0 m (shf g a)) ?_ ?_
  · refine wc_seq (wc_opq fun Q1 hQ => ?_)
    simp (disch := omega) only [ER, reduceIte, Nat.reduceEqDiff, Nat.reduceAdd, i0, em]
    refine hQ _ ?_
    clear hQ Q1
    refine wc_block ?_
    -- i runs from (m - 1) / 2 down to -1; z = i + 1
    refine wc_while (fun k l d h1 => ∃ g, d = [] ∧ k ≤ (m - 1) / 2 + 1 ∧ l.get 0 = some (.sl id o n cap) ∧ l.get 3 = some (.int .i64 (m : Int)) ∧ l.get 6 = some (.int .i64 (a : Int)) ∧ l.get 9 = some (.int .i64 ((0 : Nat) : Int)) ∧ l.get 4 = some (.int .i64 ((k : Int) - 1)) ∧
      Seg h id o n s p c h1 g ∧ PermOn a (a + m) f g ∧ Heap ltZ k m (shf g a)) ?_ ((m - 1) / 2 + 1) ?_
    · rintro k l d h1 ⟨g, rfl, hk, g0, g3, g6, g9, g4, sg, pm, hp⟩
      obtain ⟨c1, hg1, hc1, ho1⟩ := sg.row
      refine wc_seq ?_
      refine wc_seq (wc_opq fun Q1 hQ => ?_)
      simp (disch := omega) only [ER, reduceIte, Nat.reduceEqDiff, Nat.reduceAdd, g4]
      refine hQ _ ?_
      clear hQ Q1
      refine wc_if (((0 : Nat) : Int) ≤ (k : Int) - 1) (by simp (disch := omega) only [ER, reduceIte, Nat.reduceEqDiff, Nat.reduceAdd]) (fun hlt => ?_) (fun hge => ?_)
      · refine wc_skip ?_
        obtain ⟨i, rfl⟩ : ∃ i, k = i + 1 := ⟨k - 1, by omega⟩
        have e1 : ((i + 1 : Nat) : Int) - 1 = (i : Int) := by omega
        rw [e1] at g4
        refine wc_seq (wc_block (wc_opq fun Q1 hQ => ?_))
        simp (disch := omega) only [ER, reduceIte, Nat.reduceEqDiff, Nat.reduceAdd, g0, g3, g4, g6]
        refine (sift_gp t105 t1 t2 (Nat.lt_of_lt_of_le hi sg.more.next) hg1 hc1 (lo := i) (hh := m) (fst := a) (by omega) hbn hn (heap_start hp)).mono ?_
        rintro v h2 ⟨g2, sg2, pm2, hp2⟩
        refine hQ _ ?_
        clear hQ Q1
        refine wc_opq fun Q1 hQ => ?_
        simp (disch := omega) only [ER, reduceIte, Nat.reduceEqDiff, Nat.reduceAdd, g4, bin_sub]
        refine hQ _ ?_
        clear hQ Q1
        refine ⟨i, by omega, g2, rfl, by omega, ?_, ?_, ?_, ?_, ?_, sg.on ho1 sg2, pm.trans (pm2.wider (by omega) (by omega)), hp2⟩
        · simp (disch := omega) only [ER, reduceIte, Nat.reduceEqDiff, Nat.reduceAdd, g0]
        · simp (disch := omega) only [ER, reduceIte, Nat.reduceEqDiff, Nat.reduceAdd, g3]
        · simp (disch := omega) only [ER, reduceIte, Nat.reduceEqDiff, Nat.reduceAdd, g6]
        · simp (disch := omega) only [ER, reduceIte, Nat.reduceEqDiff, Nat.reduceAdd, g9]
        · simp (disch := omega) only [ER, reduceIte, Nat.reduceEqDiff, Nat.reduceAdd]
          rw [wrap_i64 (by omega) (by omega)]; rfl
      · obtain rfl : k = 0 := by omega
        refine wc_exit ⟨g, rfl, ?_, ?_, ?_, ?_, sg, pm, hp⟩
        · simp (disch := omega) only [ER, reduceIte, Nat.reduceEqDiff, Nat.reduceAdd, g0]
        · simp (disch := omega) only [ER, reduceIte, Nat.reduceEqDiff, Nat.reduceAdd, g3]
        · simp (disch := omega) only [ER, reduceIte, Nat.reduceEqDiff, Nat.reduceAdd, g6]
        · simp (disch := omega) only [ER, reduceIte, Nat.reduceEqDiff, Nat.reduceAdd, g9]
    · refine ⟨f, rfl, Nat.le_refl _, ?_, ?_, ?_, ?_, ?_, Seg.start hi hg hc, PermOn.refl, fun p c h1 h2 h3 => by omega⟩
      · simp (disch := omega) only [ER, reduceIte, Nat.reduceEqDiff, Nat.reduceAdd]
      · simp (disch := omega) only [ER, reduceIte, Nat.reduceEqDiff, Nat.reduceAdd, em]
      · simp (disch := omega) only [ER, reduceIte, Nat.reduceEqDiff, Nat.reduceAdd]
      · simp (disch := omega) only [ER, reduceIte, Nat.reduceEqDiff, Nat.reduceAdd]
      · simp (disch := omega) only [ER, reduceIte, Nat.reduceEqDiff, Nat.reduceAdd]
        rw [show (((m - 1) / 2 + 1 : Nat) : Int) - 1 = (((m - 1) / 2 : Nat) : Int) by omega]
  · rintro l d h1 ⟨g, rfl, g0, g3, g6, g9, sg, pm, hp⟩
    refine wc_seq (wc_opq fun Q1 hQ => ?_)
    simp (disch := omega) only [ER, reduceIte, Nat.reduceEqDiff, Nat.reduceAdd, g3]
    refine hQ _ ?_
    clear hQ Q1
    refine wc_block ?_
    refine wc_while (fun k l d h1 => ∃ g, d = [] ∧ k ≤ m ∧ l.get 0 = some (.sl id o n cap) ∧ l.get 6 = some (.int .i64 (a : Int)) ∧ l.get 9 = some (.int .i64 ((0 : Nat) : Int)) ∧ l.get 7 = some (.int .i64 ((k : Int) - 1)) ∧
      Seg h id o n s p c h1 g ∧ PermOn a (a + m) f g ∧ Heap ltZ 0 k (shf g a) ∧ Rises ltZ k m (shf g a) ∧ ∀ x y, x < k → k ≤ y → y < m → ltZ (shf g a y) (shf g a x) = false) ?_ m ?_
    · rintro k l d h1 ⟨g, rfl, hk, g0, g6, g9, g7, sg, pm, hp, hr, hx⟩
      obtain ⟨c1, hg1, hc1, ho1⟩ := sg.row
      refine wc_seq ?_
      refine wc_seq (wc_opq fun Q1 hQ => ?_)
      simp (disch := omega) only [ER, reduceIte, Nat.reduceEqDiff, Nat.reduceAdd, g7]
      refine hQ _ ?_
      clear hQ Q1
      refine wc_if (((0 : Nat) : Int) ≤ (k : Int) - 1) (by simp (disch := omega) only [ER, reduceIte, Nat.reduceEqDiff, Nat.reduceAdd]) (fun hlt => ?_) (fun hge => ?_)
      · refine wc_skip ?_
        obtain ⟨i, rfl⟩ : ∃ i, k = i + 1 := ⟨k - 1, by omega⟩
        have e1 : ((i + 1 : Nat) : Int) - 1 = (i : Int) := by omega
        rw [e1] at g7
        have r1 := hc1 a (by omega)
        have r2 := hc1 (a + i) (by omega)
        refine wc_seq (wc_block ?_)
        refine wc_seq (wc_opq fun Q1 hQ => ?_)
        simp (disch := omega) only [ER, reduceIte, Nat.reduceEqDiff, Nat.reduceAdd, g0, g6, g7, hg1, r1, r2]
        refine hQ _ ?_
        clear hQ Q1
        have sw := sg.swap (X := (AObj.cells (T.put (some (AV.int IntKind.i64 (g (a + i)))) c1 (o + a)) s p false)) hc1 ho1 (i := a) (j := a + i) (by omega) (by omega)
        obtain ⟨c2, hg2, hc2, ho2⟩ := sw.row
        have top := heap_top ordZ hp
        have esw : shf (swp g a (a + i)) a = swp (shf g a) 0 i := by
          have := shf_swp (f := g) (o := a) (i := 0) (j := i)
          rwa [Nat.add_zero] at this
        refine wc_opq fun Q1 hQ => ?_
        simp (disch := omega) only [ER, reduceIte, Nat.reduceEqDiff, Nat.reduceAdd, g0, g6, g7, g9]
        refine (sift_gp t105 t1 t2 (Nat.lt_of_lt_of_le hi sw.more.next) hg2 hc2 (lo := 0) (hh := i) (fst := a) (by omega) (by omega) hn ?_).mono ?_
        · rw [esw]
          refine ⟨fun q e h1 h2 h3 h4 => ?_, fun q e h1 h2 h3 h4 => by omega⟩
          rw [swp_o (by omega) (by omega), swp_o (by omega) (by omega)]
          exact hp q e (by omega) h3 (by omega)
        rintro v h2 ⟨g2, sg2, pm2, hp2⟩
        have out2 : ∀ y, i ≤ y → y < m → shf g2 a y = swp (shf g a) 0 i y := fun y h1 h2 => by rw [← esw]; exact pm2.out (i := a + y) (by omega)
        refine hQ _ ?_
        clear hQ Q1
        refine wc_opq fun Q1 hQ => ?_
        simp (disch := omega) only [ER, reduceIte, Nat.reduceEqDiff, Nat.reduceAdd, g7, bin_sub]
        refine hQ _ ?_
        clear hQ Q1
        refine ⟨i, by omega, g2, rfl, by omega, ?_, ?_, ?_, ?_, sw.on ho2 sg2, (pm.trans (PermOn.swap (by omega) (by omega))).trans (pm2.wider (by omega) (by omega)), hp2, ?_, ?_⟩
        · simp (disch := omega) only [ER, reduceIte, Nat.reduceEqDiff, Nat.reduceAdd, g0]
        · simp (disch := omega) only [ER, reduceIte, Nat.reduceEqDiff, Nat.reduceAdd, g6]
        · simp (disch := omega) only [ER, reduceIte, Nat.reduceEqDiff, Nat.reduceAdd, g9]
        · simp (disch := omega) only [ER, reduceIte, Nat.reduceEqDiff, Nat.reduceAdd]
          rw [wrap_i64 (by omega) (by omega)]; rfl
        · intro x y h1 h2 h3
          rw [out2 x (by omega) (by omega), out2 y (by omega) h3]
          by_cases hxi : x = i
          · subst hxi
            rw [swp_r]
            by_cases hyi : y = x
            · subst hyi; rw [swp_r]; exact ordZ.irrefl _
            · rw [swp_o (by omega) hyi]
              exact hx 0 y (by omega) (by omega) h3
          · rw [swp_o (by omega) hxi, swp_o (by omega) (by omega)]
            exact hr x y (by omega) h2 h3
        · intro x y h1 h2 h3
          rw [out2 y h2 h3]
          refine pm2.shf (Q := fun z => ltZ (swp (shf g a) 0 i y) z = false) (fun j j1 j2 => ?_) x (by omega) h1
          rw [esw]
          by_cases hyi : y = i
          · subst hyi
            rw [swp_r]
            by_cases hj : j = 0
            · subst hj; rw [swp_l]; exact top y (by omega)
            · rw [swp_o hj (by omega)]; exact top j (by omega)
          · rw [swp_o (by omega) hyi]
            by_cases hj : j = 0
            · subst hj; rw [swp_l]; exact hx i y (by omega) (by omega) h3
            · rw [swp_o hj (by omega)]; exact hx j y (by omega) (by omega) h3
      · obtain rfl : k = 0 := by omega
        refine wc_exit ⟨[], rfl, g, sg, pm, fun x y h1 h2 h3 => ?_⟩
        have := hr (x - a) (y - a) (by omega) (by omega) (by omega)
        rwa [shf, shf, show a + (x - a) = x by omega, show a + (y - a) = y by omega] at this
    · refine ⟨g, rfl, Nat.le_refl _, ?_, ?_, ?_, ?_, sg, pm, hp, fun x y h1 h2 h3 => by omega, fun x y h1 h2 h3 => by omega⟩
      · simp (disch := omega) only [ER, reduceIte, Nat.reduceEqDiff, Nat.reduceAdd, g0]
      · simp (disch := omega) only [ER, reduceIte, Nat.reduceEqDiff, Nat.reduceAdd, g6]
      · simp (disch := omega) only [ER, reduceIte, Nat.reduceEqDiff, Nat.reduceAdd, g9]
      · simp (disch := omega) only [ER, reduceIte, Nat.reduceEqDiff, Nat.reduceAdd]
        rw [show (m : Int) - 1 = ((m - 1 : Nat) : Int) by omega]
end
end Go.Ev

namespace Go.Ev
open Go
set_option maxRecDepth 100000
set_option maxHeartbeats 4000000
section
variable {h : AH}
theorem shr_u64 {m n : Nat} {k : IntKind} (hn : n ≤ 64) : oBin .shr (.c (.int .u64 (m : Int))) (.c (.int k (n : Int))) .leaf [] h = .val (.int .u64 ((m / 2 ^ n : Nat) : Int)) h := bin_shr hn
theorem shl_u64 {m n : Nat} {k : IntKind} (hn : n ≤ 64) : oBin .shl (.c (.int .u64 (m : Int))) (.c (.int k (n : Int))) .leaf [] h = .val (.int .u64 ((m * 2 ^ n % 18446744073709551616 : Nat) : Int)) h := by
  show bi (Nat.ble n 64) (intV .u64 (Int.mul (m : Int) (Int.ofNat (Nat.pow 2 n))) h) _ = _
  rw [bi_eq, if_pos (Nat.ble_eq.mpr hn), intV_eq]
  show OR.val (AV.int .u64 (IntKind.u64.wrap ((m : Int) * ((2 ^ n : Nat) : Int)))) h = _
  rw [← Int.natCast_mul, wrap_u64]
theorem in_u64 {m : Nat} (hm : m < 18446744073709551616) : inRange .u64 (m : Int) = true := by
  show Nat.ble m (nat_lit 18446744073709551615) = true
  exact Nat.ble_eq.mpr (Nat.le_of_lt_succ hm)
theorem xor_u64 {m n : Nat} (hm : m < 18446744073709551616) (hn : n < 18446744073709551616) : oBin .xor (.c (.int .u64 (m : Int))) (.c (.int .u64 (n : Int))) .leaf [] h = .val (.int .u64 ((m ^^^ n : Nat) : Int)) h := by
  have hx : m ^^^ n < 2 ^ 64 := Nat.xor_lt_two_pow hm hn
  show bi (inRange .u64 (m : Int)) (bi (inRange .u64 (n : Int)) (fN (Nat.xor m n) fun n => bi (inRange .u64 (Int.ofNat n)) (OR.val (AV.int .u64 (Int.ofNat n)) h) (F 23)) (F 23)) (F 23) = _
  rw [in_u64 hm, in_u64 hn, bi_true, bi_true, fN_eq]
  have e : inRange .u64 (Int.ofNat (Nat.xor m n)) = true := in_u64 hx
  rw [e]; rfl
theorem and_u64 {m n : Nat} (hm : m < 18446744073709551616) (hn : n < 18446744073709551616) : oBin .and (.c (.int .u64 (m : Int))) (.c (.int .u64 (n : Int))) .leaf [] h = .val (.int .u64 ((m &&& n : Nat) : Int)) h := by
  have hx : m &&& n < 2 ^ 64 := Nat.and_lt_two_pow _ hn
  show bi (inRange .u64 (m : Int)) (bi (inRange .u64 (n : Int)) (fN (Nat.land m n) fun n => bi (inRange .u64 (Int.ofNat n)) (OR.val (AV.int .u64 (Int.ofNat n)) h) (F 23)) (F 23)) (F 23) = _
  rw [in_u64 hm, in_u64 hn, bi_true, bi_true, fN_eq]
  have e : inRange .u64 (Int.ofNat (Nat.land m n)) = true := in_u64 hx
  rw [e]; rfl
theorem wrap_u64n {m : Nat} (hm : m < 18446744073709551616) : IntKind.u64.wrap (m : Int) = (m : Int) := inRange_wrap (in_u64 hm)
theorem wrap_u8n {m : Nat} (hm : m < 256) : IntKind.u8.wrap (m : Int) = (m : Int) := inRange_wrap (by
  show Nat.ble m (nat_lit 255) = true
  exact Nat.ble_eq.mpr (Nat.le_of_lt_succ hm))
theorem sub_u64 {m n : Nat} (h1 : n ≤ m) (hm : m < 18446744073709551616) : IntKind.u64.wrap ((m : Int) - (n : Int)) = ((m - n : Nat) : Int) := by
  rw [show (m : Int) - (n : Int) = ((m - n : Nat) : Int) by omega]; exact wrap_u64n (by omega)
theorem idxS_str {l m i : Nat} {k : IntKind} (hi : i < l) : oIdxS (.c (.str l m)) (.c (.int k (i : Int))) .leaf [] h = .val (.int .u8 ((m / 256 ^ i % 256 : Nat) : Int)) h := by
  show bi (Nat.ble (Nat.succ i) l) _ _ = _
  rw [bi_eq, if_pos (Nat.ble_eq.mpr hi)]
  simp only [fN_eq]
  rfl
end
/-- the table of the lengths of bytes in bits -/
def lenTab : Nat := 1013866857139168856493015739252390649739422828853819106890363778118420553376247557433637691341895324351018602695588957474325319502760499485336098898398377509666851054660423406800006203933793007272033180812049178612605246075062580585469430410618860250057463399279570354286669047577758927328864388992123306212451509403152394148136105363817402562688186708175358218852349079190158732807302672745370040257219644697201681238697346923541678507645485296520536209706771857694240900605172937619415410180424934769249448772944216470541052485265558808433676546390051204254346932932316488017972311616136051587427851453983453479168
theorem lenTab_ok : ((List.range 256).all fun x => decide ((x = 0 ∨ 2 ^ (lenTab / 256 ^ x % 256) ≤ 2 * x) ∧ x < 2 ^ (lenTab / 256 ^ x % 256) ∧ lenTab / 256 ^ x % 256 ≤ 8)) = true := by decide +kernel
theorem lenTab_at {x : Nat} (hx : x < 256) : (x = 0 ∨ 2 ^ (lenTab / 256 ^ x % 256) ≤ 2 * x) ∧ x < 2 ^ (lenTab / 256 ^ x % 256) ∧ lenTab / 256 ^ x % 256 ≤ 8 := of_decide_eq_true (List.all_eq_true.1 lenTab_ok x (List.mem_range.2 hx))
section
variable {tab : Nat → Option AFunc} {h : AH} {id o n s a b : Nat} {p : Bool} {cap : ACap} {c : T AV} {f : Nat → Int}
theorem len64_gp (t67 : tab 67 = some af67) {x : Nat} (hx : x < 18446744073709551616) :
    GP tab 67 [.int .u64 (x : Int)] h fun v h1 => ∃ L : Nat, v = .int .i64 (L : Int) ∧ L ≤ 64 ∧ x < 2 ^ L ∧ (0 < x → 2 ^ L ≤ 2 * x) ∧ h1 = h := by
  have i0 : initLoc [.int .u64 (x : Int)] = ofList [.int .u64 (x : Int)] := rfl
  have pos : ∀ m, 0 < 2 ^ m := fun m => Nat.two_pow_pos m
  refine gp_of t67 rfl ?_
  refine wc_seq (wc_opq fun Q1 hQ => ?_)
  simp (disch := omega) only [ER, reduceIte, Nat.reduceEqDiff, Nat.reduceAdd, i0]
  refine hQ _ ?_
  clear hQ Q1
  refine wc_mid (fun l d h1 => ∃ y m : Nat, h1 = h ∧ d = [] ∧ l.get 0 = some (.int .u64 (y : Int)) ∧ l.get 3 = some (.int .i64 (m : Int)) ∧ y < 4294967296 ∧ m ≤ 32 ∧ y = x / 2 ^ m ∧ (0 < x → 0 < y)) ?_ ?_
  · refine wc_seq (wc_opq fun Q1 hQ => ?_)
    simp (disch := omega) only [ER, reduceIte, Nat.reduceEqDiff, Nat.reduceAdd, i0]
    refine hQ _ ?_
    clear hQ Q1
    refine wc_if (4294967296 ≤ x) (by simp (disch := omega) only [ER, reduceIte, Nat.reduceEqDiff, Nat.reduceAdd]) (fun hle => ?_) (fun hle => ?_)
    · refine wc_seq (wc_opq fun Q1 hQ => ?_)
      simp (disch := omega) only [ER, reduceIte, Nat.reduceEqDiff, Nat.reduceAdd, i0, shr_u64]
      refine hQ _ ?_
      clear hQ Q1
      refine wc_opq fun Q1 hQ => ?_
      simp (disch := omega) only [ER, reduceIte, Nat.reduceEqDiff, Nat.reduceAdd]
      refine hQ _ ?_
      clear hQ Q1
      refine ⟨x / 2 ^ 32, 32, rfl, rfl, ?_, ?_, by omega, by omega, rfl, fun _ => by omega⟩
      all_goals simp (disch := omega) only [ER, reduceIte, Nat.reduceEqDiff, Nat.reduceAdd]
    · refine wc_skip ⟨x, 0, rfl, rfl, ?_, ?_, by omega, by omega, by simp, fun h => h⟩
      all_goals simp (disch := omega) only [ER, reduceIte, Nat.reduceEqDiff, Nat.reduceAdd, i0]
  rintro l d h1 ⟨y, m, rfl, rfl, g0, g3, hy, hm, ey, ep⟩
  refine wc_mid (fun l d h2 => ∃ y m : Nat, h2 = h1 ∧ d = [] ∧ l.get 0 = some (.int .u64 (y : Int)) ∧ l.get 3 = some (.int .i64 (m : Int)) ∧ y < 65536 ∧ m ≤ 48 ∧ y = x / 2 ^ m ∧ (0 < x → 0 < y)) ?_ ?_
  · refine wc_seq (wc_opq fun Q1 hQ => ?_)
    simp (disch := omega) only [ER, reduceIte, Nat.reduceEqDiff, Nat.reduceAdd, g0]
    refine hQ _ ?_
    clear hQ Q1
    refine wc_if (65536 ≤ y) (by simp (disch := omega) only [ER, reduceIte, Nat.reduceEqDiff, Nat.reduceAdd]) (fun hle => ?_) (fun hle => ?_)
    · refine wc_seq (wc_opq fun Q1 hQ => ?_)
      simp (disch := omega) only [ER, reduceIte, Nat.reduceEqDiff, Nat.reduceAdd, g0, shr_u64]
      refine hQ _ ?_
      clear hQ Q1
      refine wc_opq fun Q1 hQ => ?_
      simp (disch := omega) only [ER, reduceIte, Nat.reduceEqDiff, Nat.reduceAdd, g3]
      refine hQ _ ?_
      clear hQ Q1
      refine ⟨y / 2 ^ 16, m + 16, rfl, rfl, ?_, ?_, by omega, by omega, by rw [ey, Nat.div_div_eq_div_mul, ← Nat.pow_add], fun _ => by omega⟩
      all_goals simp (disch := omega) only [ER, reduceIte, Nat.reduceEqDiff, Nat.reduceAdd]
    · refine wc_skip ⟨y, m, rfl, rfl, ?_, ?_, by omega, by omega, ey, ep⟩
      all_goals simp (disch := omega) only [ER, reduceIte, Nat.reduceEqDiff, Nat.reduceAdd, g0, g3]
  clear g0 g3 hy hm ey ep y m l
  rintro l d h2 ⟨y, m, rfl, rfl, g0, g3, hy, hm, ey, ep⟩
  refine wc_mid (fun l d h1 => ∃ y m : Nat, h1 = h2 ∧ d = [] ∧ l.get 0 = some (.int .u64 (y : Int)) ∧ l.get 3 = some (.int .i64 (m : Int)) ∧ y < 256 ∧ m ≤ 56 ∧ y = x / 2 ^ m ∧ (0 < x → 0 < y)) ?_ ?_
  · refine wc_seq (wc_opq fun Q1 hQ => ?_)
    simp (disch := omega) only [ER, reduceIte, Nat.reduceEqDiff, Nat.reduceAdd, g0]
    refine hQ _ ?_
    clear hQ Q1
    refine wc_if (256 ≤ y) (by simp (disch := omega) only [ER, reduceIte, Nat.reduceEqDiff, Nat.reduceAdd]) (fun hle => ?_) (fun hle => ?_)
    · refine wc_seq (wc_opq fun Q1 hQ => ?_)
      simp (disch := omega) only [ER, reduceIte, Nat.reduceEqDiff, Nat.reduceAdd, g0, shr_u64]
      refine hQ _ ?_
      clear hQ Q1
      refine wc_opq fun Q1 hQ => ?_
      simp (disch := omega) only [ER, reduceIte, Nat.reduceEqDiff, Nat.reduceAdd, g3]
      refine hQ _ ?_
      clear hQ Q1
      refine ⟨y / 2 ^ 8, m + 8, rfl, rfl, ?_, ?_, by omega, by omega, by rw [ey, Nat.div_div_eq_div_mul, ← Nat.pow_add], fun _ => by omega⟩
      all_goals simp (disch := omega) only [ER, reduceIte, Nat.reduceEqDiff, Nat.reduceAdd]
    · refine wc_skip ⟨y, m, rfl, rfl, ?_, ?_, by omega, by omega, ey, ep⟩
      all_goals simp (disch := omega) only [ER, reduceIte, Nat.reduceEqDiff, Nat.reduceAdd, g0, g3]
  clear g0 g3 hy hm ey ep y m l
  rintro l d h1 ⟨y, m, rfl, rfl, g0, g3, hy, hm, ey, ep⟩
  obtain ⟨q1, q2, q3⟩ := lenTab_at hy
  have ei : ∀ h : AH, oIdxS (.c (.str 256 1013866857139168856493015739252390649739422828853819106890363778118420553376247557433637691341895324351018602695588957474325319502760499485336098898398377509666851054660423406800006203933793007272033180812049178612605246075062580585469430410618860250057463399279570354286669047577758927328864388992123306212451509403152394148136105363817402562688186708175358218852349079190158732807302672745370040257219644697201681238697346923541678507645485296520536209706771857694240900605172937619415410180424934769249448772944216470541052485265558808433676546390051204254346932932316488017972311616136051587427851453983453479168)) (.c (.int .u8 (y : Int))) .leaf [] h = .val (.int .u8 ((lenTab / 256 ^ y % 256 : Nat) : Int)) h := fun h => idxS_str hy
  generalize lenTab / 256 ^ y % 256 = t at *
  refine wc_seq (wc_opq fun Q1 hQ => ?_)
  simp (disch := omega) only [ER, reduceIte, Nat.reduceEqDiff, Nat.reduceAdd, g0, g3, wrap_u8n, op_idxS, ei]
  refine hQ _ ?_
  clear hQ Q1
  refine wc_ret ⟨_, results_val results_nil, m + t, ?_, by omega, ?_, fun hx0 => ?_, rfl⟩
  · simp (disch := omega) only [ER, reduceIte, Nat.reduceEqDiff, Nat.reduceAdd, one_one]
  · have h1 := Nat.div_add_mod x (2 ^ m)
    have h2 := Nat.mod_lt x (pos m)
    rw [← ey] at h1
    have h3 : 2 ^ m * (y + 1) ≤ 2 ^ m * 2 ^ t := Nat.mul_le_mul_left _ q2
    rw [Nat.mul_add, Nat.mul_one] at h3
    rw [Nat.pow_add]
    omega
  · have h1 := Nat.div_add_mod x (2 ^ m)
    rw [← ey] at h1
    have h3 : 2 ^ m * 2 ^ t ≤ 2 ^ m * (2 * y) := Nat.mul_le_mul_left _ (by have := ep hx0; omega)
    rw [Nat.pow_add]
    have e : 2 ^ m * (2 * y) = 2 * (2 ^ m * y) := by rw [Nat.mul_left_comm]
    omega
theorem len_gp (t28 : tab 28 = some af28) (t67 : tab 67 = some af67) {x : Nat} (hx : x < 18446744073709551616) :
    GP tab 28 [.int .u64 (x : Int)] h fun v h1 => ∃ L : Nat, v = .int .i64 (L : Int) ∧ L ≤ 64 ∧ x < 2 ^ L ∧ (0 < x → 2 ^ L ≤ 2 * x) ∧ h1 = h := by
  have i0 : initLoc [.int .u64 (x : Int)] = ofList [.int .u64 (x : Int)] := rfl
  refine gp_of t28 rfl ?_
  refine wc_seq (wc_opq fun Q1 hQ => ?_)
  simp (disch := omega) only [ER, reduceIte, Nat.reduceEqDiff, Nat.reduceAdd, i0]
  refine hQ _ ?_
  clear hQ Q1
  refine wc_seq (wc_no rfl (wc_skip ?_))
  refine wc_seq (wc_opq fun Q1 hQ => ?_)
  simp (disch := omega) only [ER, reduceIte, Nat.reduceEqDiff, Nat.reduceAdd, i0]
  refine (len64_gp t67 hx).mono ?_
  rintro v h1 ⟨L, rfl, b1, b2, b3, rfl⟩
  simp (disch := omega) only [ER, reduceIte, Nat.reduceEqDiff, Nat.reduceAdd]
  refine hQ _ ?_
  clear hQ Q1
  refine wc_ret ⟨_, results_val results_nil, L, ?_, b1, b2, b3, rfl⟩
  simp (disch := omega) only [ER, reduceIte, Nat.reduceEqDiff, Nat.reduceAdd, one_one]
/-- the next power of two -/
theorem pow2_gp (t106 : tab 106 = some af106) (t28 : tab 28 = some af28) (t67 : tab 67 = some af67) {x : Nat} (h0 : 0 < x) (hx : x < 4611686018427387904) :
    GP tab 106 [.int .i64 (x : Int)] h fun v h1 => ∃ m : Nat, v = .int .u64 (m : Int) ∧ 0 < m ∧ m ≤ 2 * x ∧ h1 = h := by
  have i0 : initLoc [.int .i64 (x : Int)] = ofList [.int .i64 (x : Int)] := rfl
  refine gp_of t106 rfl ?_
  refine wc_seq (wc_opq fun Q1 hQ => ?_)
  simp (disch := omega) only [ER, reduceIte, Nat.reduceEqDiff, Nat.reduceAdd, i0]
  refine hQ _ ?_
  clear hQ Q1
  refine wc_seq (wc_opq fun Q1 hQ => ?_)
  simp (disch := omega) only [ER, reduceIte, Nat.reduceEqDiff, Nat.reduceAdd, i0, wrap_u64n]
  refine (len_gp t28 t67 (by omega)).mono ?_
  rintro v h1 ⟨L, rfl, b1, b2, b3, rfl⟩
  have b4 := b3 h0
  have e : 1 * 2 ^ L % 18446744073709551616 = 2 ^ L := by rw [Nat.one_mul]; exact Nat.mod_eq_of_lt (by omega)
  simp (disch := omega) only [ER, reduceIte, Nat.reduceEqDiff, Nat.reduceAdd, shl_u64, e]
  refine hQ _ ?_
  clear hQ Q1
  refine wc_ret ⟨_, results_val results_nil, 2 ^ L, ?_, Nat.two_pow_pos L, b4, rfl⟩
  simp (disch := omega) only [ER, reduceIte, Nat.reduceEqDiff, Nat.reduceAdd, one_one]
/-- a pointer to a number without sign -/
def PU64 (h : AH) (q : Nat) : Prop := ∃ cq sq pq, ∃ z : Nat, h.mem.get q = some (.cells cq sq pq false) ∧ cq.get 0 = some (.int .u64 (z : Int)) ∧ z < 18446744073709551616
theorem next_gp (t107 : tab 107 = some af107) {q : Nat} (hq : PU64 h q) : GP tab 107 [.ptr q 0] h fun v h1 => (∃ z : Nat, v = .int .u64 (z : Int) ∧ z < 18446744073709551616) ∧ PU64 h1 q ∧ MoreBut q h h1 := by
  have i0 : initLoc [.ptr q 0] = ofList [.ptr q 0] := rfl
  obtain ⟨cq, sq, pq, z, hq1, hq2, hz⟩ := hq
  refine gp_of t107 rfl ?_
  refine wc_seq (wc_opq fun Q1 hQ => ?_)
  simp (disch := omega) only [ER, reduceIte, Nat.reduceEqDiff, Nat.reduceAdd, i0]
  refine hQ _ ?_
  clear hQ Q1
  refine wc_seq (wc_opq fun Q1 hQ => ?_)
  simp (disch := omega) only [ER, reduceIte, Nat.reduceEqDiff, Nat.reduceAdd, i0, hq1, hq2, xor_u64, shl_u64]
  refine hQ _ ?_
  clear hQ Q1
  have hz1 : z ^^^ (z * 2 ^ 13 % 18446744073709551616) < 18446744073709551616 := Nat.xor_lt_two_pow (n := 64) hz (Nat.mod_lt _ (by decide))
  generalize z ^^^ (z * 2 ^ 13 % 18446744073709551616) = z1 at *
  have hz1' : z1 / 2 ^ 7 < 18446744073709551616 := Nat.lt_of_le_of_lt (Nat.div_le_self _ _) hz1
  refine wc_seq (wc_opq fun Q1 hQ => ?_)
  simp (disch := omega) only [ER, reduceIte, Nat.reduceEqDiff, Nat.reduceAdd, i0, xor_u64, shr_u64]
  refine hQ _ ?_
  clear hQ Q1
  have hz2 : z1 ^^^ (z1 / 2 ^ 7) < 18446744073709551616 := Nat.xor_lt_two_pow (n := 64) hz1 hz1'
  generalize z1 ^^^ (z1 / 2 ^ 7) = z2 at *
  refine wc_seq (wc_opq fun Q1 hQ => ?_)
  simp (disch := omega) only [ER, reduceIte, Nat.reduceEqDiff, Nat.reduceAdd, i0, xor_u64, shl_u64]
  refine hQ _ ?_
  clear hQ Q1
  have hz3 : z2 ^^^ (z2 * 2 ^ 17 % 18446744073709551616) < 18446744073709551616 := Nat.xor_lt_two_pow (n := 64) hz2 (Nat.mod_lt _ (by decide))
  generalize z2 ^^^ (z2 * 2 ^ 17 % 18446744073709551616) = z3 at *
  refine wc_seq (wc_opq fun Q1 hQ => ?_)
  simp (disch := omega) only [ER, reduceIte, Nat.reduceEqDiff, Nat.reduceAdd, i0]
  refine hQ _ ?_
  clear hQ Q1
  refine wc_ret ⟨_, results_val results_nil, ⟨z3, ?_, hz3⟩, ⟨_, _, _, z3, AH.get_set, T.get_put_self _ _ _, hz3⟩, (((MoreBut.refl q h).set _).set _).set _⟩
  simp (disch := omega) only [ER, reduceIte, Nat.reduceEqDiff, Nat.reduceAdd, one_one]
theorem break_gp (t59 : tab 59 = some af59) (t106 : tab 106 = some af106) (t107 : tab 107 = some af107) (t28 : tab 28 = some af28) (t67 : tab 67 = some af67)
    (hi : id < h.next) (hg : h.mem.get id = some (.cells c s p false)) (hc : IArr c o n f) (hab : a + 8 ≤ b) (hbn : b ≤ n) (hn : n < 2305843009213693952) :
    GP tab 59 [.sl id o n cap, .int .i64 (a : Int), .int .i64 (b : Int)] h fun _ h1 => ∃ g, Seg h id o n s p c h1 g ∧ PermOn a b f g := by
  have i0 : initLoc [.sl id o n cap, .int .i64 (a : Int), .int .i64 (b : Int)] = ofList [.sl id o n cap, .int .i64 (a : Int), .int .i64 (b : Int)] := rfl
  obtain ⟨m, rfl⟩ : ∃ m, b = a + m := ⟨b - a, by omega⟩
  have em : a + m - a = m := by omega
  have em8 : 8 ≤ m := by omega
  refine gp_of t59 rfl ?_
  refine wc_seq (wc_opq fun Q1 hQ => ?_)
  simp (disch := omega) only [ER, reduceIte, Nat.reduceEqDiff, Nat.reduceAdd, i0, em]
  refine hQ _ ?_
  clear hQ Q1
  refine wc_seq (wc_opq fun Q1 hQ => ?_)
  simp (disch := omega) only [ER, reduceIte, Nat.reduceEqDiff, Nat.reduceAdd]
  refine hQ _ ?_
  clear hQ Q1
  refine wc_yes (by simp (disch := omega) only [ER, reduceIte, Nat.reduceEqDiff, Nat.reduceAdd, em8]) ?_
  refine wc_seq (wc_opq fun Q1 hQ => ?_)
  simp (disch := omega) only [ER, reduceIte, Nat.reduceEqDiff, Nat.reduceAdd, wrap_u64n]
  refine hQ _ ?_
  clear hQ Q1
  have sg0 : Seg h id o n s p c ((h.add (.cells (ofList [.int .u64 ((0 : Nat) : Int)]) 1 false false)).set h.next (.cells (T.put (some (.int .u64 (m : Int))) (ofList [.int .u64 ((0 : Nat) : Int)]) 0) 1 false false)) f := ((Seg.start hi hg hc).add _).other (Nat.le_refl _) _
  have pu0 : PU64 ((h.add (.cells (ofList [.int .u64 ((0 : Nat) : Int)]) 1 false false)).set h.next (.cells (T.put (some (.int .u64 (m : Int))) (ofList [.int .u64 ((0 : Nat) : Int)]) 0) 1 false false)) h.next := ⟨_, _, _, m, AH.get_set, T.get_put_self _ _ _, by omega⟩
  generalize ((h.add (.cells (ofList [.int .u64 ((0 : Nat) : Int)]) 1 false false)).set h.next (.cells (T.put (some (.int .u64 (m : Int))) (ofList [.int .u64 ((0 : Nat) : Int)]) 0) 1 false false)) = hh at *
  refine wc_seq (wc_opq fun Q1 hQ => ?_)
  simp (disch := omega) only [ER, reduceIte, Nat.reduceEqDiff, Nat.reduceAdd]
  refine (pow2_gp t106 t28 t67 (by omega) (by omega)).mono ?_
  rintro v h1 ⟨w, rfl, w0, w1, rfl⟩
  simp (disch := omega) only [ER, reduceIte, Nat.reduceEqDiff, Nat.reduceAdd]
  refine hQ _ ?_
  clear hQ Q1
  refine wc_seq (wc_opq fun Q1 hQ => ?_)
  simp (disch := omega) only [ER, reduceIte, Nat.reduceEqDiff, Nat.reduceAdd, i0]
  refine hQ _ ?_
  clear hQ Q1
  refine wc_block ?_
  refine wc_while (fun k l d h2 => ∃ i g, k = a + m / 4 * 2 + 2 - i ∧ a ≤ i ∧ d = [] ∧ l.get 0 = some (.sl id o n cap) ∧ l.get 1 = some (.int .i64 (a : Int)) ∧ l.get 3 = some (.int .i64 (m : Int)) ∧ l.get 5 = some (.int .i64 (i : Int)) ∧ l.get 7 = some (.ptr h.next 0) ∧ l.get 8 = some (.int .u64 (w : Int)) ∧
    Seg h id o n s p c h2 g ∧ PU64 h2 h.next ∧ PermOn a (a + m) f g) ?_ (a + m / 4 * 2 + 2 - (a + m / 4 * 2 - 1)) ?_
  · rintro k l d h2 ⟨i, g, hk, hai, rfl, g0, g1, g3, g5, g7, g8, sg, pu, pm⟩
    refine wc_seq ?_
    refine wc_seq (wc_opq fun Q1 hQ => ?_)
    simp (disch := omega) only [ER, reduceIte, Nat.reduceEqDiff, Nat.reduceAdd, g1, g3, g5]
    refine hQ _ ?_
    clear hQ Q1
    refine wc_if (i ≤ a + m / 4 * 2 + 1) (by simp (disch := omega) only [ER, reduceIte, Nat.reduceEqDiff, Nat.reduceAdd]) (fun hle => ?_) (fun hle => ?_)
    · refine wc_skip ?_
      refine wc_mid (fun l d h2 => ∃ g, d = [] ∧ l.get 0 = some (.sl id o n cap) ∧ l.get 1 = some (.int .i64 (a : Int)) ∧ l.get 3 = some (.int .i64 (m : Int)) ∧ l.get 5 = some (.int .i64 (i : Int)) ∧ l.get 7 = some (.ptr h.next 0) ∧ l.get 8 = some (.int .u64 (w : Int)) ∧
        Seg h id o n s p c h2 g ∧ PU64 h2 h.next ∧ PermOn a (a + m) f g) ?_ ?_
      · refine wc_block ?_
        refine wc_seq (wc_opq fun Q1 hQ => ?_)
        simp (disch := omega) only [ER, reduceIte, Nat.reduceEqDiff, Nat.reduceAdd, g7]
        refine (next_gp t107 pu).mono ?_
        rintro v h3 ⟨⟨z, rfl, hz⟩, pu3, mb⟩
        have hzw : z &&& (w - 1) < 2 * m := Nat.lt_of_le_of_lt Nat.and_le_right (by omega)
        have sg3 : Seg h id o n s p c h3 g := by
          obtain ⟨c1, hg1, hc1, ho1⟩ := sg.row
          refine ⟨hi, ⟨Nat.le_trans sg.more.next mb.next, fun k k1 k2 => ?_⟩, c1, ?_, hc1, ho1⟩
          · rw [mb.keep k (Nat.lt_of_lt_of_le k1 sg.more.next) (by omega)]; exact sg.more.keep k k1 k2
          · rw [mb.keep id (Nat.lt_of_lt_of_le hi sg.more.next) (by omega)]; exact hg1
        simp (disch := omega) only [ER, reduceIte, Nat.reduceEqDiff, Nat.reduceAdd, g8, sub_u64, and_u64]
        refine hQ _ ?_
        clear hQ Q1
        generalize z &&& (w - 1) = y at *
        refine wc_mid (fun l d h2 => ∃ y : Nat, y < m ∧ h2 = h3 ∧ d = [] ∧ l.get 0 = some (.sl id o n cap) ∧ l.get 1 = some (.int .i64 (a : Int)) ∧ l.get 3 = some (.int .i64 (m : Int)) ∧ l.get 5 = some (.int .i64 (i : Int)) ∧ l.get 7 = some (.ptr h.next 0) ∧ l.get 8 = some (.int .u64 (w : Int)) ∧ l.get 9 = some (.int .i64 (y : Int))) ?_ ?_
        · refine wc_seq (wc_opq fun Q1 hQ => ?_)
          simp (disch := omega) only [ER, reduceIte, Nat.reduceEqDiff, Nat.reduceAdd, g3]
          refine hQ _ ?_
          clear hQ Q1
          refine wc_if (m ≤ y) (by simp (disch := omega) only [ER, reduceIte, Nat.reduceEqDiff, Nat.reduceAdd]) (fun hle => ?_) (fun hle => ?_)
          · refine wc_opq fun Q1 hQ => ?_
            simp (disch := omega) only [ER, reduceIte, Nat.reduceEqDiff, Nat.reduceAdd, g3]
            refine hQ _ ?_
            clear hQ Q1
            refine ⟨y - m, by omega, rfl, rfl, ?_, ?_, ?_, ?_, ?_, ?_, ?_⟩
            all_goals simp (disch := omega) only [ER, reduceIte, Nat.reduceEqDiff, Nat.reduceAdd, g0, g1, g3, g5, g7, g8]
          · refine wc_skip ⟨y, by omega, rfl, rfl, ?_, ?_, ?_, ?_, ?_, ?_, ?_⟩
            all_goals simp (disch := omega) only [ER, reduceIte, Nat.reduceEqDiff, Nat.reduceAdd, g0, g1, g3, g5, g7, g8]
        · clear g0 g1 g3 g5 g7 g8
          rintro l d h2 ⟨y, hy, rfl, rfl, g0, g1, g3, g5, g7, g8, g9⟩
          obtain ⟨c1, hg1, hc1, ho1⟩ := sg3.row
          have r1 := hc1 i (by omega)
          have r2 := hc1 (a + y) (by omega)
          refine wc_opq fun Q1 hQ => ?_
          simp (disch := omega) only [ER, reduceIte, Nat.reduceEqDiff, Nat.reduceAdd, g0, g1, g5, g9, hg1, r1, r2]
          refine hQ _ ?_
          clear hQ Q1
          refine ⟨_, rfl, ?_, ?_, ?_, ?_, ?_, ?_, sg3.swap hc1 ho1 (by omega) (by omega), ?_, pm.trans (PermOn.swap (by omega) (by omega))⟩
          · simp (disch := omega) only [ER, reduceIte, Nat.reduceEqDiff, Nat.reduceAdd, g0]
          · simp (disch := omega) only [ER, reduceIte, Nat.reduceEqDiff, Nat.reduceAdd, g1]
          · simp (disch := omega) only [ER, reduceIte, Nat.reduceEqDiff, Nat.reduceAdd, g3]
          · simp (disch := omega) only [ER, reduceIte, Nat.reduceEqDiff, Nat.reduceAdd, g5]
          · simp (disch := omega) only [ER, reduceIte, Nat.reduceEqDiff, Nat.reduceAdd, g7]
          · simp (disch := omega) only [ER, reduceIte, Nat.reduceEqDiff, Nat.reduceAdd, g8]
          · obtain ⟨cq, sq, pq, z', u1, u2, u3⟩ := pu3
            exact ⟨cq, sq, pq, z', by rw [AH.set_mem, T.get_put_ne _ _ _ _ (by omega), AH.set_mem, T.get_put_ne _ _ _ _ (by omega)]; exact u1, u2, u3⟩
      · rintro l d h3 ⟨g', rfl, g0, g1, g3, g5, g7, g8, sg', pu', pm'⟩
        refine wc_opq fun Q1 hQ => ?_
        simp (disch := omega) only [ER, reduceIte, Nat.reduceEqDiff, Nat.reduceAdd, g5]
        refine hQ _ ?_
        clear hQ Q1
        refine ⟨a + m / 4 * 2 + 2 - (i + 1), by omega, i + 1, g', rfl, by omega, rfl, ?_, ?_, ?_, ?_, ?_, ?_, sg', pu', pm'⟩
        · simp (disch := omega) only [ER, reduceIte, Nat.reduceEqDiff, Nat.reduceAdd, g0]
        · simp (disch := omega) only [ER, reduceIte, Nat.reduceEqDiff, Nat.reduceAdd, g1]
        · simp (disch := omega) only [ER, reduceIte, Nat.reduceEqDiff, Nat.reduceAdd, g3]
        · simp (disch := omega) only [ER, reduceIte, Nat.reduceEqDiff, Nat.reduceAdd]
        · simp (disch := omega) only [ER, reduceIte, Nat.reduceEqDiff, Nat.reduceAdd, g7]
        · simp (disch := omega) only [ER, reduceIte, Nat.reduceEqDiff, Nat.reduceAdd, g8]
    · exact wc_exit ⟨[], rfl, g, sg, pm⟩
  · refine ⟨a + m / 4 * 2 - 1, f, rfl, by omega, rfl, ?_, ?_, ?_, ?_, ?_, ?_, sg0, pu0, PermOn.refl⟩
    all_goals simp (disch := omega) only [ER, reduceIte, Nat.reduceEqDiff, Nat.reduceAdd, i0]
end
end Go.Ev

namespace Go.Ev
open Go
set_option maxRecDepth 100000
set_option maxHeartbeats 4000000
section
variable {tab : Nat → Option AFunc} {h : AH} {id o n s a b : Nat} {p : Bool} {cap : ACap} {c : T AV} {f : Nat → Int}
theorem partition_gp (t65 : tab 65 = some af65) (t1 : tab 63 = some af63) (t2 : tab 110 = some af110)
    (hi : id < h.next) (hg : h.mem.get id = some (.cells c s p false)) (hc : IArr c o n f) {pv : Nat} (hab : a + 2 ≤ b) (hpa : a ≤ pv) (hpb : pv < b) (hbn : b ≤ n) (hn : n < 2305843009213693952) :
    GP tab 65 [.sl id o n cap, .int .i64 (a : Int), .int .i64 (b : Int), .int .i64 (pv : Int)] h fun v h1 => ∃ (m : Nat) (q : Bool) (g : Nat → Int), v = .tup [.int .i64 (m : Int), .bool q] ∧ a ≤ m ∧ m < b ∧ Seg h id o n s p c h1 g ∧ PermOn a b f g ∧
      (∀ k, a ≤ k → k < m → ltZ (g k) (g m) = true) ∧ ∀ k, m < k → k < b → ltZ (g k) (g m) = false := by
  have i0 : initLoc [.sl id o n cap, .int .i64 (a : Int), .int .i64 (b : Int), .int .i64 (pv : Int)] = ofList [.sl id o n cap, .int .i64 (a : Int), .int .i64 (b : Int), .int .i64 (pv : Int)] := rfl
  refine gp_of t65 rfl ?_
  refine wc_seq (wc_opq fun Q1 hQ => ?_)
  simp (disch := omega) only [ER, reduceIte, Nat.reduceEqDiff, Nat.reduceAdd, i0]
  refine hQ _ ?_
  clear hQ Q1
  have q1 := hc a (by omega)
  have q2 := hc pv (by omega)
  refine wc_seq (wc_opq fun Q1 hQ => ?_)
  simp (disch := omega) only [ER, reduceIte, Nat.reduceEqDiff, Nat.reduceAdd, i0, hg, q1, q2]
  refine hQ _ ?_
  clear hQ Q1
  have sg := (Seg.start hi hg hc).swap (X := (AObj.cells (T.put (some (AV.int IntKind.i64 (f pv))) c (o + a)) s p false)) hc (fun _ _ => rfl) (i := a) (j := pv) (by omega) (by omega)
  have pm : PermOn a b f (swp f a pv) := PermOn.swap (by omega) (by omega)
  generalize swp f a pv = g at *
  generalize ((h.set id (AObj.cells (T.put (some (AV.int IntKind.i64 (f pv))) c (o + a)) s p false)).set id (AObj.cells (T.put (some (AV.int IntKind.i64 (f a))) (T.put (some (AV.int IntKind.i64 (f pv))) c (o + a)) (o + pv)) s p false)) = h1 at *
  refine wc_seq (wc_opq fun Q1 hQ => ?_)
  simp (disch := omega) only [ER, reduceIte, Nat.reduceEqDiff, Nat.reduceAdd, i0]
  refine hQ _ ?_
  clear hQ Q1
  obtain ⟨c1, hg1, hc1, ho1⟩ := sg.row
  refine wc_mid (fun l d h2 => ∃ i, a + 1 ≤ i ∧ i ≤ b - 1 + 1 ∧ h1 = h2 ∧ d = [] ∧ l.get 0 = some (.sl id o n cap) ∧ l.get 1 = some (.int .i64 (a : Int)) ∧ l.get 4 = some (.int .i64 (i : Int)) ∧ l.get 5 = some (.int .i64 ((b - 1 : Nat) : Int)) ∧
    (∀ k, a + 1 ≤ k → k < i → ltZ (g k) (g a) = true) ∧ (i ≤ b - 1 → ltZ (g i) (g a) = false)) ?_ ?_
  · have g0 : (1 : Nat) = 1 := rfl
    have g1 : (1 : Nat) = 1 := rfl
    have g4 : (1 : Nat) = 1 := rfl
    have g5 : (1 : Nat) = 1 := rfl
    refine wc_block ?_
    refine wc_while (fun k l d h2 => ∃ i, k = (b - 1) + 1 - i ∧ (a + 1) ≤ i ∧ i ≤ (b - 1) + 1 ∧ h1 = h2 ∧ d = [] ∧ l.get 0 = some (.sl id o n cap) ∧ l.get 1 = some (.int .i64 (a : Int)) ∧ l.get 4 = some (.int .i64 (i : Int)) ∧ l.get 5 = some (.int .i64 (((b - 1) : Nat) : Int)) ∧ ∀ k, (a + 1) ≤ k → k < i → (fun k => ltZ (g k) (g a) = true) k) ?_ ((b - 1) + 1 - (a + 1)) ?_
    · rintro k l d h2 ⟨i, hk, hi1, hi2, rfl, rfl, g0, g1, g4, g5, hE⟩
      refine wc_seq ?_
      by_cases hij : i ≤ (b - 1)
      · have r1 := hc1 i (by omega)
        have r2 := hc1 a (by omega)
        refine wc_seq (wc_opq fun Q1 hQ => ?_)
        simp (disch := omega) only [ER, reduceIte, Nat.reduceEqDiff, Nat.reduceAdd, g0, g1, g4, g5, hij, hg1, r1, r2, less_rw t1 t2]
        refine hQ _ ?_
        clear hQ Q1
        refine wc_cond (q := ltZ (g i) (g a)) (by simp (disch := omega) only [ER, reduceIte, Nat.reduceEqDiff, Nat.reduceAdd]) (fun hl => ?_) (fun hl => ?_)
        · refine wc_skip (wc_block ?_)
          refine wc_opq fun Q1 hQ => ?_
          simp (disch := omega) only [ER, reduceIte, Nat.reduceEqDiff, Nat.reduceAdd, g4]
          refine hQ _ ?_
          clear hQ Q1
          refine ⟨(b - 1) + 1 - (i + 1), by omega, i + 1, rfl, by omega, by omega, rfl, rfl, ?_, ?_, ?_, ?_, fun x x1 x2 => ?_⟩
          · simp (disch := omega) only [ER, reduceIte, Nat.reduceEqDiff, Nat.reduceAdd, g0]
          · simp (disch := omega) only [ER, reduceIte, Nat.reduceEqDiff, Nat.reduceAdd, g1]
          · simp (disch := omega) only [ER, reduceIte, Nat.reduceEqDiff, Nat.reduceAdd]
          · simp (disch := omega) only [ER, reduceIte, Nat.reduceEqDiff, Nat.reduceAdd, g5]
          · by_cases hx : x = i
            · subst hx; simpa using hl
            · exact hE x x1 (by omega)
        · refine wc_exit ⟨i, hi1, hi2, rfl, rfl, ?_, ?_, ?_, ?_, hE, fun _ => by simpa using hl⟩
          · simp (disch := omega) only [ER, reduceIte, Nat.reduceEqDiff, Nat.reduceAdd, g0]
          · simp (disch := omega) only [ER, reduceIte, Nat.reduceEqDiff, Nat.reduceAdd, g1]
          · simp (disch := omega) only [ER, reduceIte, Nat.reduceEqDiff, Nat.reduceAdd, g4]
          · simp (disch := omega) only [ER, reduceIte, Nat.reduceEqDiff, Nat.reduceAdd, g5]
      · refine wc_seq (wc_opq fun Q1 hQ => ?_)
        simp (disch := omega) only [ER, reduceIte, Nat.reduceEqDiff, Nat.reduceAdd, g0, g1, g4, g5, hij]
        refine hQ _ ?_
        clear hQ Q1
        refine wc_no (by simp (disch := omega) only [ER, reduceIte, Nat.reduceEqDiff, Nat.reduceAdd]) (wc_exit ⟨i, hi1, hi2, rfl, rfl, ?_, ?_, ?_, ?_, hE, fun h => absurd h hij⟩)
        · simp (disch := omega) only [ER, reduceIte, Nat.reduceEqDiff, Nat.reduceAdd, g0]
        · simp (disch := omega) only [ER, reduceIte, Nat.reduceEqDiff, Nat.reduceAdd, g1]
        · simp (disch := omega) only [ER, reduceIte, Nat.reduceEqDiff, Nat.reduceAdd, g4]
        · simp (disch := omega) only [ER, reduceIte, Nat.reduceEqDiff, Nat.reduceAdd, g5]
    · refine ⟨(a + 1), rfl, Nat.le_refl _, by omega, rfl, rfl, ?_, ?_, ?_, ?_, fun k h1 h2 => by omega⟩
      · simp (disch := omega) only [ER, reduceIte, Nat.reduceEqDiff, Nat.reduceAdd, g0]
      · simp (disch := omega) only [ER, reduceIte, Nat.reduceEqDiff, Nat.reduceAdd, g1]
      · simp (disch := omega) only [ER, reduceIte, Nat.reduceEqDiff, Nat.reduceAdd, g4]
      · simp (disch := omega) only [ER, reduceIte, Nat.reduceEqDiff, Nat.reduceAdd, g5]
  rintro l d h2 ⟨i, hi1, hi2, rfl, rfl, g0, g1, g4, g5, hU, hU2⟩
  refine wc_mid (fun l d h2 => ∃ j, j ≤ b - 1 ∧ i ≤ j + 1 ∧ h1 = h2 ∧ d = [] ∧ l.get 0 = some (.sl id o n cap) ∧ l.get 1 = some (.int .i64 (a : Int)) ∧ l.get 4 = some (.int .i64 (i : Int)) ∧ l.get 5 = some (.int .i64 (j : Int)) ∧
    (∀ k, j < k → k ≤ b - 1 → ltZ (g k) (g a) = false) ∧ (i ≤ j → ltZ (g j) (g a) = true)) ?_ ?_
  · refine wc_block ?_
    refine wc_while (fun k l d h2 => ∃ j, k = j + 1 - i ∧ j ≤ (b - 1) ∧ i ≤ j + 1 ∧ h1 = h2 ∧ d = [] ∧ l.get 0 = some (.sl id o n cap) ∧ l.get 1 = some (.int .i64 (a : Int)) ∧ l.get 4 = some (.int .i64 ((i : Nat) : Int)) ∧ l.get 5 = some (.int .i64 (j : Int)) ∧ ∀ k, j < k → k ≤ (b - 1) → (fun k => ltZ (g k) (g a) = false) k) ?_ ((b - 1) + 1 - i) ?_
    · rintro k l d h2 ⟨j, hk, hi1, hi2, rfl, rfl, g0, g1, g4, g5, hE⟩
      refine wc_seq ?_
      by_cases hij : i ≤ j
      · have r1 := hc1 j (by omega)
        have r2 := hc1 a (by omega)
        refine wc_seq (wc_opq fun Q1 hQ => ?_)
        simp (disch := omega) only [ER, reduceIte, Nat.reduceEqDiff, Nat.reduceAdd, g0, g1, g4, g5, hij, hg1, r1, r2, less_rw t1 t2]
        refine hQ _ ?_
        clear hQ Q1
        refine wc_cond (q := !ltZ (g j) (g a)) (by simp (disch := omega) only [ER, reduceIte, Nat.reduceEqDiff, Nat.reduceAdd]) (fun hl => ?_) (fun hl => ?_)
        · refine wc_skip (wc_block ?_)
          refine wc_opq fun Q1 hQ => ?_
          simp (disch := omega) only [ER, reduceIte, Nat.reduceEqDiff, Nat.reduceAdd, g5]
          refine hQ _ ?_
          clear hQ Q1
          refine ⟨j - 1 + 1 - i, by omega, j - 1, rfl, by omega, by omega, rfl, rfl, ?_, ?_, ?_, ?_, fun x x1 x2 => ?_⟩
          · simp (disch := omega) only [ER, reduceIte, Nat.reduceEqDiff, Nat.reduceAdd, g0]
          · simp (disch := omega) only [ER, reduceIte, Nat.reduceEqDiff, Nat.reduceAdd, g1]
          · simp (disch := omega) only [ER, reduceIte, Nat.reduceEqDiff, Nat.reduceAdd, g4]
          · simp (disch := omega) only [ER, reduceIte, Nat.reduceEqDiff, Nat.reduceAdd]
          · by_cases hx : x = j
            · subst hx; simpa using hl
            · exact hE x (by omega) x2
        · refine wc_exit ⟨j, hi1, hi2, rfl, rfl, ?_, ?_, ?_, ?_, hE, fun _ => by simpa using hl⟩
          · simp (disch := omega) only [ER, reduceIte, Nat.reduceEqDiff, Nat.reduceAdd, g0]
          · simp (disch := omega) only [ER, reduceIte, Nat.reduceEqDiff, Nat.reduceAdd, g1]
          · simp (disch := omega) only [ER, reduceIte, Nat.reduceEqDiff, Nat.reduceAdd, g4]
          · simp (disch := omega) only [ER, reduceIte, Nat.reduceEqDiff, Nat.reduceAdd, g5]
      · refine wc_seq (wc_opq fun Q1 hQ => ?_)
        simp (disch := omega) only [ER, reduceIte, Nat.reduceEqDiff, Nat.reduceAdd, g0, g1, g4, g5, hij]
        refine hQ _ ?_
        clear hQ Q1
        refine wc_no (by simp (disch := omega) only [ER, reduceIte, Nat.reduceEqDiff, Nat.reduceAdd]) (wc_exit ⟨j, hi1, hi2, rfl, rfl, ?_, ?_, ?_, ?_, hE, fun h => absurd h hij⟩)
        · simp (disch := omega) only [ER, reduceIte, Nat.reduceEqDiff, Nat.reduceAdd, g0]
        · simp (disch := omega) only [ER, reduceIte, Nat.reduceEqDiff, Nat.reduceAdd, g1]
        · simp (disch := omega) only [ER, reduceIte, Nat.reduceEqDiff, Nat.reduceAdd, g4]
        · simp (disch := omega) only [ER, reduceIte, Nat.reduceEqDiff, Nat.reduceAdd, g5]
    · refine ⟨(b - 1), rfl, Nat.le_refl _, by omega, rfl, rfl, ?_, ?_, ?_, ?_, fun k h1 h2 => by omega⟩
      · simp (disch := omega) only [ER, reduceIte, Nat.reduceEqDiff, Nat.reduceAdd, g0]
      · simp (disch := omega) only [ER, reduceIte, Nat.reduceEqDiff, Nat.reduceAdd, g1]
      · simp (disch := omega) only [ER, reduceIte, Nat.reduceEqDiff, Nat.reduceAdd, g4]
      · simp (disch := omega) only [ER, reduceIte, Nat.reduceEqDiff, Nat.reduceAdd, g5]
  clear g0 g1 g4 g5
  rintro l d h2 ⟨j, hj1, hj2, rfl, rfl, g0, g1, g4, g5, hD, hD2⟩
  have fin : ∀ {g : Nat → Int} {i j : Nat}, i = j + 1 → a + 1 ≤ i → j < b → (∀ k, a + 1 ≤ k → k < i → ltZ (g k) (g a) = true) → (∀ k, j < k → k < b → ltZ (g k) (g a) = false) → (∀ k, a ≤ k → k < j → ltZ (swp g j a k) (swp g j a j) = true) ∧ ∀ k, j < k → k < b → ltZ (swp g j a k) (swp g j a j) = false := by
    intro g i j e e1 e2 h1 h2
    refine ⟨fun k k1 k2 => ?_, fun k k1 k2 => ?_⟩
    · rw [swp_l]
      by_cases hk : k = a
      · subst hk; rw [swp_r]; exact h1 j (by omega) (by omega)
      · rw [swp_o (by omega) hk]; exact h1 k (by omega) (by omega)
    · rw [swp_l, swp_o (by omega) (by omega)]; exact h2 k k1 k2
  refine wc_seq ?_
  refine wc_seq (wc_opq fun Q1 hQ => ?_)
  simp (disch := omega) only [ER, reduceIte, Nat.reduceEqDiff, Nat.reduceAdd, g4, g5]
  refine hQ _ ?_
  clear hQ Q1
  refine wc_if (j < i) (by simp (disch := omega) only [ER, reduceIte, Nat.reduceEqDiff, Nat.reduceAdd]) (fun hlt => ?_) (fun hge => ?_)
  · have r1 := hc1 a (by omega)
    have r2 := hc1 j (by omega)
    refine wc_seq (wc_opq fun Q1 hQ => ?_)
    simp (disch := omega) only [ER, reduceIte, Nat.reduceEqDiff, Nat.reduceAdd, g0, g1, g5, hg1, r1, r2]
    refine hQ _ ?_
    clear hQ Q1
    refine wc_seq (wc_opq fun Q1 hQ => ?_)
    simp (disch := omega) only [ER, reduceIte, Nat.reduceEqDiff, Nat.reduceAdd, g5]
    refine hQ _ ?_
    clear hQ Q1
    obtain ⟨f1, f2⟩ := fin (show i = j + 1 by omega) hi1 (by omega) hU (fun k k1 k2 => hD k k1 (by omega))
    refine wc_ret ⟨_, results_val (results_val results_nil), j, true, _, ?_, by omega, by omega, sg.swap hc1 ho1 (by omega) (by omega), pm.trans (PermOn.swap (by omega) (by omega)), f1, f2⟩
    simp (disch := omega) only [ER, reduceIte, Nat.reduceEqDiff, Nat.reduceAdd, one_more]
  refine wc_skip ?_
  have hne : i < j := by
    rcases Nat.lt_or_ge i j with h | h
    · exact h
    · obtain rfl : i = j := by omega
      have := hU2 (by omega); rw [hD2 (by omega)] at this; cases this
  have r1 := hc1 i (by omega)
  have r2 := hc1 j (by omega)
  refine wc_seq (wc_opq fun Q1 hQ => ?_)
  simp (disch := omega) only [ER, reduceIte, Nat.reduceEqDiff, Nat.reduceAdd, g0, g4, g5, hg1, r1, r2]
  refine hQ _ ?_
  clear hQ Q1
  refine wc_seq (wc_opq fun Q1 hQ => ?_)
  simp (disch := omega) only [ER, reduceIte, Nat.reduceEqDiff, Nat.reduceAdd, g4]
  refine hQ _ ?_
  clear hQ Q1
  refine wc_seq (wc_opq fun Q1 hQ => ?_)
  simp (disch := omega) only [ER, reduceIte, Nat.reduceEqDiff, Nat.reduceAdd, g5]
  refine hQ _ ?_
  clear hQ Q1
  have pc : ∀ {g : Nat → Int} {i j : Nat}, a + 1 ≤ i → i < j → j < b → (∀ k, a + 1 ≤ k → k < i → ltZ (g k) (g a) = true) → (∀ k, j < k → k < b → ltZ (g k) (g a) = false) → ltZ (g i) (g a) = false → ltZ (g j) (g a) = true →
      (∀ k, a + 1 ≤ k → k < i + 1 → ltZ (swp g i j k) (swp g i j a) = true) ∧ (∀ k, j - 1 < k → k < b → ltZ (swp g i j k) (swp g i j a) = false) := by
    intro g i j e1 e2 e3 h1 h2 h3 h4
    have ea : swp g i j a = g a := swp_o (by omega) (by omega)
    refine ⟨fun k k1 k2 => ?_, fun k k1 k2 => ?_⟩
    · rw [ea]
      by_cases hk : k = i
      · subst hk; rw [swp_l]; exact h4
      · rw [swp_o hk (by omega)]; exact h1 k k1 (by omega)
    · rw [ea]
      by_cases hk : k = j
      · subst hk; rw [swp_r]; exact h3
      · rw [swp_o (by omega) hk]; exact h2 k (by omega) k2
  obtain ⟨p1, p2⟩ := pc (by omega) hne (by omega) hU (fun k k1 k2 => hD k k1 (by omega)) (hU2 (by omega)) (hD2 (by omega))
  refine wc_mid (fun l d h2 => ∃ i j g, i = j + 1 ∧ a + 1 ≤ i ∧ j < b ∧ d = [] ∧ l.get 0 = some (.sl id o n cap) ∧ l.get 1 = some (.int .i64 (a : Int)) ∧ l.get 4 = some (.int .i64 (i : Int)) ∧ l.get 5 = some (.int .i64 (j : Int)) ∧
    Seg h id o n s p c h2 g ∧ PermOn a b f g ∧ (∀ k, a + 1 ≤ k → k < i → ltZ (g k) (g a) = true) ∧ (∀ k, j < k → k < b → ltZ (g k) (g a) = false)) ?_ ?_
  · refine wc_block ?_
    refine wc_while (fun k l d h2 => ∃ i j g, k = j + 1 - i ∧ i ≤ j + 1 ∧ a + 1 ≤ i ∧ j < b ∧ d = [] ∧ l.get 0 = some (.sl id o n cap) ∧ l.get 1 = some (.int .i64 (a : Int)) ∧ l.get 4 = some (.int .i64 (i : Int)) ∧ l.get 5 = some (.int .i64 (j : Int)) ∧
      Seg h id o n s p c h2 g ∧ PermOn a b f g ∧ (∀ k, a + 1 ≤ k → k < i → ltZ (g k) (g a) = true) ∧ (∀ k, j < k → k < b → ltZ (g k) (g a) = false)) ?_ (j - 1 + 1 - (i + 1)) ?_
    · have sw := sg.swap (X := (AObj.cells (T.put (some (AV.int IntKind.i64 (g j))) c1 (o + i)) s p false)) hc1 ho1 (i := i) (j := j) (by omega) (by omega)
      clear g0 g1 g4 g5 hg1 hc1 ho1 r1 r2 hU hD hU2 hD2 hi1 hi2 hj1 hj2 hge hne p1 p2 sg pm
      rintro k l d h1 ⟨i, j, g, hk, hij, hai, hjb, rfl, g0, g1, g4, g5, sg, pm, hU, hD⟩
      obtain ⟨c1, hg1, hc1, ho1⟩ := sg.row
      refine wc_block ?_
      refine wc_mid (fun l d h2 => ∃ i', i ≤ i' ∧ i' ≤ j + 1 ∧ h1 = h2 ∧ d = [] ∧ l.get 0 = some (.sl id o n cap) ∧ l.get 1 = some (.int .i64 (a : Int)) ∧ l.get 4 = some (.int .i64 (i' : Int)) ∧ l.get 5 = some (.int .i64 (j : Int)) ∧
        (∀ k, i ≤ k → k < i' → ltZ (g k) (g a) = true) ∧ (i' ≤ j → ltZ (g i') (g a) = false)) ?_ ?_
      · have hi0 := i
        generalize hii : i = ii at *
        refine wc_block ?_
        refine wc_while (fun k l d h2 => ∃ i, k = j + 1 - i ∧ ii ≤ i ∧ i ≤ j + 1 ∧ h1 = h2 ∧ d = [] ∧ l.get 0 = some (.sl id o n cap) ∧ l.get 1 = some (.int .i64 (a : Int)) ∧ l.get 4 = some (.int .i64 (i : Int)) ∧ l.get 5 = some (.int .i64 ((j : Nat) : Int)) ∧ ∀ k, ii ≤ k → k < i → (fun k => ltZ (g k) (g a) = true) k) ?_ (j + 1 - ii) ?_
        · rintro k l d h2 ⟨i, hk, hi1, hi2, rfl, rfl, g0, g1, g4, g5, hE⟩
          refine wc_seq ?_
          by_cases hij : i ≤ j
          · have r1 := hc1 i (by omega)
            have r2 := hc1 a (by omega)
            refine wc_seq (wc_opq fun Q1 hQ => ?_)
            simp (disch := omega) only [ER, reduceIte, Nat.reduceEqDiff, Nat.reduceAdd, g0, g1, g4, g5, hij, hg1, r1, r2, less_rw t1 t2]
            refine hQ _ ?_
            clear hQ Q1
            refine wc_cond (q := ltZ (g i) (g a)) (by simp (disch := omega) only [ER, reduceIte, Nat.reduceEqDiff, Nat.reduceAdd]) (fun hl => ?_) (fun hl => ?_)
            · refine wc_skip (wc_block ?_)
              refine wc_opq fun Q1 hQ => ?_
              simp (disch := omega) only [ER, reduceIte, Nat.reduceEqDiff, Nat.reduceAdd, g4]
              refine hQ _ ?_
              clear hQ Q1
              refine ⟨j + 1 - (i + 1), by omega, i + 1, rfl, by omega, by omega, rfl, rfl, ?_, ?_, ?_, ?_, fun x x1 x2 => ?_⟩
              · simp (disch := omega) only [ER, reduceIte, Nat.reduceEqDiff, Nat.reduceAdd, g0]
              · simp (disch := omega) only [ER, reduceIte, Nat.reduceEqDiff, Nat.reduceAdd, g1]
              · simp (disch := omega) only [ER, reduceIte, Nat.reduceEqDiff, Nat.reduceAdd]
              · simp (disch := omega) only [ER, reduceIte, Nat.reduceEqDiff, Nat.reduceAdd, g5]
              · by_cases hx : x = i
                · subst hx; simpa using hl
                · exact hE x x1 (by omega)
            · refine wc_exit ⟨i, hi1, hi2, rfl, rfl, ?_, ?_, ?_, ?_, hE, fun _ => by simpa using hl⟩
              · simp (disch := omega) only [ER, reduceIte, Nat.reduceEqDiff, Nat.reduceAdd, g0]
              · simp (disch := omega) only [ER, reduceIte, Nat.reduceEqDiff, Nat.reduceAdd, g1]
              · simp (disch := omega) only [ER, reduceIte, Nat.reduceEqDiff, Nat.reduceAdd, g4]
              · simp (disch := omega) only [ER, reduceIte, Nat.reduceEqDiff, Nat.reduceAdd, g5]
          · refine wc_seq (wc_opq fun Q1 hQ => ?_)
            simp (disch := omega) only [ER, reduceIte, Nat.reduceEqDiff, Nat.reduceAdd, g0, g1, g4, g5, hij]
            refine hQ _ ?_
            clear hQ Q1
            refine wc_no (by simp (disch := omega) only [ER, reduceIte, Nat.reduceEqDiff, Nat.reduceAdd]) (wc_exit ⟨i, hi1, hi2, rfl, rfl, ?_, ?_, ?_, ?_, hE, fun h => absurd h hij⟩)
            · simp (disch := omega) only [ER, reduceIte, Nat.reduceEqDiff, Nat.reduceAdd, g0]
            · simp (disch := omega) only [ER, reduceIte, Nat.reduceEqDiff, Nat.reduceAdd, g1]
            · simp (disch := omega) only [ER, reduceIte, Nat.reduceEqDiff, Nat.reduceAdd, g4]
            · simp (disch := omega) only [ER, reduceIte, Nat.reduceEqDiff, Nat.reduceAdd, g5]
        · refine ⟨ii, rfl, Nat.le_refl _, by omega, rfl, rfl, ?_, ?_, ?_, ?_, fun k h1 h2 => by omega⟩
          · simp (disch := omega) only [ER, reduceIte, Nat.reduceEqDiff, Nat.reduceAdd, g0]
          · simp (disch := omega) only [ER, reduceIte, Nat.reduceEqDiff, Nat.reduceAdd, g1]
          · simp (disch := omega) only [ER, reduceIte, Nat.reduceEqDiff, Nat.reduceAdd, g4]
          · simp (disch := omega) only [ER, reduceIte, Nat.reduceEqDiff, Nat.reduceAdd, g5]
      clear g0 g1 g4 g5
      rintro l d h2 ⟨i', hi1, hi2, rfl, rfl, g0, g1, g4, g5, hU1, hU2⟩
      have hU' : ∀ k, a + 1 ≤ k → k < i' → ltZ (g k) (g a) = true := fun k k1 k2 => by
        by_cases hk : k < i
        · exact hU k k1 hk
        · exact hU1 k (by omega) k2
      refine wc_mid (fun l d h2 => ∃ j', j' ≤ j ∧ i' ≤ j' + 1 ∧ h1 = h2 ∧ d = [] ∧ l.get 0 = some (.sl id o n cap) ∧ l.get 1 = some (.int .i64 (a : Int)) ∧ l.get 4 = some (.int .i64 (i' : Int)) ∧ l.get 5 = some (.int .i64 (j' : Int)) ∧
        (∀ k, j' < k → k ≤ j → ltZ (g k) (g a) = false) ∧ (i' ≤ j' → ltZ (g j') (g a) = true)) ?_ ?_
      · generalize hjj : j = jj at *
        refine wc_block ?_
        refine wc_while (fun k l d h2 => ∃ j, k = j + 1 - i' ∧ j ≤ jj ∧ i' ≤ j + 1 ∧ h1 = h2 ∧ d = [] ∧ l.get 0 = some (.sl id o n cap) ∧ l.get 1 = some (.int .i64 (a : Int)) ∧ l.get 4 = some (.int .i64 ((i' : Nat) : Int)) ∧ l.get 5 = some (.int .i64 (j : Int)) ∧ ∀ k, j < k → k ≤ jj → (fun k => ltZ (g k) (g a) = false) k) ?_ (jj + 1 - i') ?_
        · rintro k l d h2 ⟨j, hk, hi1, hi2, rfl, rfl, g0, g1, g4, g5, hE⟩
          refine wc_seq ?_
          by_cases hij : i' ≤ j
          · have r1 := hc1 j (by omega)
            have r2 := hc1 a (by omega)
            refine wc_seq (wc_opq fun Q1 hQ => ?_)
            simp (disch := omega) only [ER, reduceIte, Nat.reduceEqDiff, Nat.reduceAdd, g0, g1, g4, g5, hij, hg1, r1, r2, less_rw t1 t2]
            refine hQ _ ?_
            clear hQ Q1
            refine wc_cond (q := !ltZ (g j) (g a)) (by simp (disch := omega) only [ER, reduceIte, Nat.reduceEqDiff, Nat.reduceAdd]) (fun hl => ?_) (fun hl => ?_)
            · refine wc_skip (wc_block ?_)
              refine wc_opq fun Q1 hQ => ?_
              simp (disch := omega) only [ER, reduceIte, Nat.reduceEqDiff, Nat.reduceAdd, g5]
              refine hQ _ ?_
              clear hQ Q1
              refine ⟨j - 1 + 1 - i', by omega, j - 1, rfl, by omega, by omega, rfl, rfl, ?_, ?_, ?_, ?_, fun x x1 x2 => ?_⟩
              · simp (disch := omega) only [ER, reduceIte, Nat.reduceEqDiff, Nat.reduceAdd, g0]
              · simp (disch := omega) only [ER, reduceIte, Nat.reduceEqDiff, Nat.reduceAdd, g1]
              · simp (disch := omega) only [ER, reduceIte, Nat.reduceEqDiff, Nat.reduceAdd, g4]
              · simp (disch := omega) only [ER, reduceIte, Nat.reduceEqDiff, Nat.reduceAdd]
              · by_cases hx : x = j
                · subst hx; simpa using hl
                · exact hE x (by omega) x2
            · refine wc_exit ⟨j, hi1, hi2, rfl, rfl, ?_, ?_, ?_, ?_, hE, fun _ => by simpa using hl⟩
              · simp (disch := omega) only [ER, reduceIte, Nat.reduceEqDiff, Nat.reduceAdd, g0]
              · simp (disch := omega) only [ER, reduceIte, Nat.reduceEqDiff, Nat.reduceAdd, g1]
              · simp (disch := omega) only [ER, reduceIte, Nat.reduceEqDiff, Nat.reduceAdd, g4]
              · simp (disch := omega) only [ER, reduceIte, Nat.reduceEqDiff, Nat.reduceAdd, g5]
          · refine wc_seq (wc_opq fun Q1 hQ => ?_)
            simp (disch := omega) only [ER, reduceIte, Nat.reduceEqDiff, Nat.reduceAdd, g0, g1, g4, g5, hij]
            refine hQ _ ?_
            clear hQ Q1
            refine wc_no (by simp (disch := omega) only [ER, reduceIte, Nat.reduceEqDiff, Nat.reduceAdd]) (wc_exit ⟨j, hi1, hi2, rfl, rfl, ?_, ?_, ?_, ?_, hE, fun h => absurd h hij⟩)
            · simp (disch := omega) only [ER, reduceIte, Nat.reduceEqDiff, Nat.reduceAdd, g0]
            · simp (disch := omega) only [ER, reduceIte, Nat.reduceEqDiff, Nat.reduceAdd, g1]
            · simp (disch := omega) only [ER, reduceIte, Nat.reduceEqDiff, Nat.reduceAdd, g4]
            · simp (disch := omega) only [ER, reduceIte, Nat.reduceEqDiff, Nat.reduceAdd, g5]
        · refine ⟨jj, rfl, Nat.le_refl _, by omega, rfl, rfl, ?_, ?_, ?_, ?_, fun k h1 h2 => by omega⟩
          · simp (disch := omega) only [ER, reduceIte, Nat.reduceEqDiff, Nat.reduceAdd, g0]
          · simp (disch := omega) only [ER, reduceIte, Nat.reduceEqDiff, Nat.reduceAdd, g1]
          · simp (disch := omega) only [ER, reduceIte, Nat.reduceEqDiff, Nat.reduceAdd, g4]
          · simp (disch := omega) only [ER, reduceIte, Nat.reduceEqDiff, Nat.reduceAdd, g5]
      clear g0 g1 g4 g5
      rintro l d h2 ⟨j', hj1, hj2, rfl, rfl, g0, g1, g4, g5, hD1, hD2⟩
      have hD' : ∀ k, j' < k → k < b → ltZ (g k) (g a) = false := fun k k1 k2 => by
        by_cases hk : j < k
        · exact hD k hk k2
        · exact hD1 k k1 (by omega)
      refine wc_seq ?_
      refine wc_seq (wc_opq fun Q1 hQ => ?_)
      simp (disch := omega) only [ER, reduceIte, Nat.reduceEqDiff, Nat.reduceAdd, g4, g5]
      refine hQ _ ?_
      clear hQ Q1
      refine wc_if (j' < i') (by simp (disch := omega) only [ER, reduceIte, Nat.reduceEqDiff, Nat.reduceAdd]) (fun hlt => ?_) (fun hge => ?_)
      · refine wc_exit ⟨i', j', g, by omega, by omega, by omega, rfl, ?_, ?_, ?_, ?_, sg, pm, hU', hD'⟩
        · simp (disch := omega) only [ER, reduceIte, Nat.reduceEqDiff, Nat.reduceAdd, g0]
        · simp (disch := omega) only [ER, reduceIte, Nat.reduceEqDiff, Nat.reduceAdd, g1]
        · simp (disch := omega) only [ER, reduceIte, Nat.reduceEqDiff, Nat.reduceAdd, g4]
        · simp (disch := omega) only [ER, reduceIte, Nat.reduceEqDiff, Nat.reduceAdd, g5]
      · refine wc_skip ?_
        have hne : i' < j' := by
          rcases Nat.lt_or_ge i' j' with h | h
          · exact h
          · obtain rfl : i' = j' := by omega
            have := hU2 (by omega); rw [hD2 (by omega)] at this; cases this
        have r1 := hc1 i' (by omega)
        have r2 := hc1 j' (by omega)
        refine wc_seq (wc_opq fun Q1 hQ => ?_)
        simp (disch := omega) only [ER, reduceIte, Nat.reduceEqDiff, Nat.reduceAdd, g0, g4, g5, hg1, r1, r2]
        refine hQ _ ?_
        clear hQ Q1
        refine wc_seq (wc_opq fun Q1 hQ => ?_)
        simp (disch := omega) only [ER, reduceIte, Nat.reduceEqDiff, Nat.reduceAdd, g4]
        refine hQ _ ?_
        clear hQ Q1
        refine wc_opq fun Q1 hQ => ?_
        simp (disch := omega) only [ER, reduceIte, Nat.reduceEqDiff, Nat.reduceAdd, g5]
        refine hQ _ ?_
        clear hQ Q1
        obtain ⟨p1, p2⟩ := pc (by omega) hne (by omega) hU' hD' (hU2 (by omega)) (hD2 (by omega))
        refine ⟨j' - 1 + 1 - (i' + 1), by omega, i' + 1, j' - 1, _, rfl, by omega, by omega, by omega, rfl, ?_, ?_, ?_, ?_, sg.swap hc1 ho1 (by omega) (by omega), pm.trans (PermOn.swap (by omega) (by omega)), p1, p2⟩
        · simp (disch := omega) only [ER, reduceIte, Nat.reduceEqDiff, Nat.reduceAdd, g0]
        · simp (disch := omega) only [ER, reduceIte, Nat.reduceEqDiff, Nat.reduceAdd, g1]
        · simp (disch := omega) only [ER, reduceIte, Nat.reduceEqDiff, Nat.reduceAdd]
        · simp (disch := omega) only [ER, reduceIte, Nat.reduceEqDiff, Nat.reduceAdd]
    · refine ⟨i + 1, j - 1, _, rfl, by omega, by omega, by omega, rfl, ?_, ?_, ?_, ?_, sg.swap hc1 ho1 (by omega) (by omega), pm.trans (PermOn.swap (by omega) (by omega)), p1, p2⟩
      · simp (disch := omega) only [ER, reduceIte, Nat.reduceEqDiff, Nat.reduceAdd, g0]
      · simp (disch := omega) only [ER, reduceIte, Nat.reduceEqDiff, Nat.reduceAdd, g1]
      · simp (disch := omega) only [ER, reduceIte, Nat.reduceEqDiff, Nat.reduceAdd]
      · simp (disch := omega) only [ER, reduceIte, Nat.reduceEqDiff, Nat.reduceAdd]
  · clear g0 g1 g4 g5 hg1 hc1 ho1 r1 r2 hU hD hU2 hD2 hi1 hi2 hj1 hj2 hge hne p1 p2 sg pm
    rintro l d h1 ⟨i, j, g, e, hai, hjb, rfl, g0, g1, g4, g5, sg, pm, hU, hD⟩
    obtain ⟨c1, hg1, hc1, ho1⟩ := sg.row
    have r1 := hc1 a (by omega)
    have r2 := hc1 j (by omega)
    refine wc_seq (wc_opq fun Q1 hQ => ?_)
    simp (disch := omega) only [ER, reduceIte, Nat.reduceEqDiff, Nat.reduceAdd, g0, g1, g5, hg1, r1, r2]
    refine hQ _ ?_
    clear hQ Q1
    refine wc_seq (wc_opq fun Q1 hQ => ?_)
    simp (disch := omega) only [ER, reduceIte, Nat.reduceEqDiff, Nat.reduceAdd, g5]
    refine hQ _ ?_
    clear hQ Q1
    obtain ⟨f1, f2⟩ := fin e hai hjb hU hD
    refine wc_ret ⟨_, results_val (results_val results_nil), j, false, _, ?_, by omega, by omega, sg.swap hc1 ho1 (by omega) (by omega), pm.trans (PermOn.swap (by omega) (by omega)), f1, f2⟩
    simp (disch := omega) only [ER, reduceIte, Nat.reduceEqDiff, Nat.reduceAdd, one_more]
end
end Go.Ev
