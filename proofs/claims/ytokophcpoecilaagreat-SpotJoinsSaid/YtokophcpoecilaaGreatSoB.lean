/- Sorting of records: partitions. Sorting of records: partitions of rows with the pivot as the least; rows that are sorted but for a few. Sorting of records: the whole. Own rows of records; maps from pairs to places. -/
import Derived.Test.YtokophcpoecilaaGreatSoA
import Derived.Test.YtokophcpoecilaaGreatEvH
set_option linter.unusedSimpArgs false
set_option linter.unusedVariables false
namespace Go.Ev
open Go
set_option linter.unusedSimpArgs false
set_option linter.unusedVariables false
set_option maxRecDepth 100000
set_option maxHeartbeats 4000000
section
variable {tab : Nat → Option AFunc} {h : AH} {id o n s a b : Nat} {p : Bool} {cap : ACap} {c : T AV} {f : Nat → Rw}
theorem partition_gp (t65 : tab 49 = some af49) (tc : CmpT tab)
    (hi : id < h.next) (hg : h.mem.get id = some (.cells c s p false)) (hc : RArr4 c o n f) {pv : Nat} (hab : a + 2 ≤ b) (hpa : a ≤ pv) (hpb : pv < b) (hbn : b ≤ n) (hn : n < 2305843009213693952) :
    GP tab 49 [.sl id o n cap, .int .i64 (a : Int), .int .i64 (b : Int), .int .i64 (pv : Int), .fn 13 [] []] h fun v h1 => ∃ (m : Nat) (q : Bool) (g : Nat → Rw), v = .tup [.int .i64 (m : Int), .bool q] ∧ a ≤ m ∧ m < b ∧ SegR h id o n s p c h1 g ∧ PermOn a b f g ∧
      (∀ k, a ≤ k → k < m → ltR (g k) (g m) = true) ∧ ∀ k, m < k → k < b → ltR (g k) (g m) = false := by
  have i0 : initLoc [.sl id o n cap, .int .i64 (a : Int), .int .i64 (b : Int), .int .i64 (pv : Int), .fn 13 [] []] = ofList [.sl id o n cap, .int .i64 (a : Int), .int .i64 (b : Int), .int .i64 (pv : Int), .fn 13 [] []] := rfl
  refine gp_of t65 rfl ?_
  refine wc_seq (wc_opq fun Q1 hQ => ?_)
  simp (disch := omega) only [ER4, reduceIte, Nat.reduceEqDiff, Nat.reduceAdd, i0]
  refine hQ _ ?_
  clear hQ Q1
  have q1 := hc.arr a (by omega)
  have q2 := hc.arr pv (by omega)
  refine wc_seq (wc_opq fun Q1 hQ => ?_)
  simp (disch := omega) only [ER4, reduceIte, Nat.reduceEqDiff, Nat.reduceAdd, i0, hg, q1, q2]
  refine hQ _ ?_
  clear hQ Q1
  have sg := (SegR.start hi hg hc).swap (X := (AObj.cells (putR (f pv) c (o + a * 4)) s p false)) hc (fun _ _ => rfl) (i := a) (j := pv) (by omega) (by omega)
  have pm : PermOn a b f (swp f a pv) := PermOn.swap (by omega) (by omega)
  generalize swp f a pv = g at *
  generalize ((h.set id (AObj.cells (putR (f pv) c (o + a * 4)) s p false)).set id (AObj.cells (putR (f a) (putR (f pv) c (o + a * 4)) (o + pv * 4)) s p false)) = h1 at *
  refine wc_seq (wc_opq fun Q1 hQ => ?_)
  simp (disch := omega) only [ER4, reduceIte, Nat.reduceEqDiff, Nat.reduceAdd, i0]
  refine hQ _ ?_
  clear hQ Q1
  obtain ⟨c1, hg1, hd1, ho1, hc1⟩ := sg.row
  refine wc_mid (fun l d h2 => ∃ i, a + 1 ≤ i ∧ i ≤ b - 1 + 1 ∧ SegR h id o n s p c h2 g ∧ d = [] ∧ (l.get 0 = some (.sl id o n cap) ∧ l.get 4 = some (.fn 13 [] [])) ∧ l.get 1 = some (.int .i64 (a : Int)) ∧ l.get 5 = some (.int .i64 (i : Int)) ∧ l.get 6 = some (.int .i64 ((b - 1 : Nat) : Int)) ∧
    (∀ k, a + 1 ≤ k → k < i → ltR (g k) (g a) = true) ∧ (i ≤ b - 1 → ltR (g i) (g a) = false)) ?_ ?_
  · have g0 : (1 : Nat) = 1 := rfl
    have g1 : (1 : Nat) = 1 := rfl
    have g4 : (1 : Nat) = 1 := rfl
    have g5 : (1 : Nat) = 1 := rfl
    refine wc_block ?_
    refine wc_while (fun k l d h2 => ∃ i, k = (b - 1) + 1 - i ∧ (a + 1) ≤ i ∧ i ≤ (b - 1) + 1 ∧ SegR h id o n s p c h2 g ∧ d = [] ∧ (l.get 0 = some (.sl id o n cap) ∧ l.get 4 = some (.fn 13 [] [])) ∧ l.get 1 = some (.int .i64 (a : Int)) ∧ l.get 5 = some (.int .i64 (i : Int)) ∧ l.get 6 = some (.int .i64 (((b - 1) : Nat) : Int)) ∧ ∀ k, (a + 1) ≤ k → k < i → (fun k => ltR (g k) (g a) = true) k) ?_ ((b - 1) + 1 - (a + 1)) ?_
    · rintro k l d h2 ⟨i, hk, hi1, hi2, sg, rfl, g0, g1, g4, g5, hE⟩
      obtain ⟨c1, hg1, hd1, ho1, hc1⟩ := sg.row
      refine wc_seq ?_
      by_cases hij : i ≤ (b - 1)
      · have r1 := hc1 i (by omega)
        have r2 := hc1 a (by omega)
        refine wc_seq (wc_opq fun Q1 hQ => ?_)
        simp (disch := omega) only [ER4, reduceIte, Nat.reduceEqDiff, Nat.reduceAdd, g0, g1, g4, g5, hij, hg1, r1, r2, cmp_rw tc, cmp_lt]
        refine hQ _ ?_
        clear hQ Q1
        have sg := sg.cmp (x := (g i)) (y := (g a))
        generalize hcm (g i) (g a) _ = h9 at sg ⊢
        obtain ⟨c1, hg1, hd1, ho1, hc1⟩ := sg.row
        refine wc_cond (q := ltR (g i) (g a)) (by simp (disch := omega) only [ER4, reduceIte, Nat.reduceEqDiff, Nat.reduceAdd]) (fun hl => ?_) (fun hl => ?_)
        · refine wc_skip (wc_block ?_)
          refine wc_opq fun Q1 hQ => ?_
          simp (disch := omega) only [ER4, reduceIte, Nat.reduceEqDiff, Nat.reduceAdd, g4]
          refine hQ _ ?_
          clear hQ Q1
          refine ⟨(b - 1) + 1 - (i + 1), by omega, i + 1, rfl, by omega, by omega, sg, rfl, ?_, ?_, ?_, ?_, fun x x1 x2 => ?_⟩
          · simp (disch := omega) only [ER4, reduceIte, Nat.reduceEqDiff, Nat.reduceAdd, g0]
          · simp (disch := omega) only [ER4, reduceIte, Nat.reduceEqDiff, Nat.reduceAdd, g1]
          · simp (disch := omega) only [ER4, reduceIte, Nat.reduceEqDiff, Nat.reduceAdd]
          · simp (disch := omega) only [ER4, reduceIte, Nat.reduceEqDiff, Nat.reduceAdd, g5]
          · by_cases hx : x = i
            · subst hx; simpa using hl
            · exact hE x x1 (by omega)
        · refine wc_exit ⟨i, hi1, hi2, sg, rfl, ?_, ?_, ?_, ?_, hE, fun _ => by simpa using hl⟩
          · simp (disch := omega) only [ER4, reduceIte, Nat.reduceEqDiff, Nat.reduceAdd, g0]
          · simp (disch := omega) only [ER4, reduceIte, Nat.reduceEqDiff, Nat.reduceAdd, g1]
          · simp (disch := omega) only [ER4, reduceIte, Nat.reduceEqDiff, Nat.reduceAdd, g4]
          · simp (disch := omega) only [ER4, reduceIte, Nat.reduceEqDiff, Nat.reduceAdd, g5]
      · refine wc_seq (wc_opq fun Q1 hQ => ?_)
        simp (disch := omega) only [ER4, reduceIte, Nat.reduceEqDiff, Nat.reduceAdd, g0, g1, g4, g5, hij]
        refine hQ _ ?_
        clear hQ Q1
        refine wc_no (by simp (disch := omega) only [ER4, reduceIte, Nat.reduceEqDiff, Nat.reduceAdd]) (wc_exit ⟨i, hi1, hi2, sg, rfl, ?_, ?_, ?_, ?_, hE, fun h => absurd h hij⟩)
        · simp (disch := omega) only [ER4, reduceIte, Nat.reduceEqDiff, Nat.reduceAdd, g0]
        · simp (disch := omega) only [ER4, reduceIte, Nat.reduceEqDiff, Nat.reduceAdd, g1]
        · simp (disch := omega) only [ER4, reduceIte, Nat.reduceEqDiff, Nat.reduceAdd, g4]
        · simp (disch := omega) only [ER4, reduceIte, Nat.reduceEqDiff, Nat.reduceAdd, g5]
    · refine ⟨(a + 1), rfl, Nat.le_refl _, by omega, sg, rfl, ?_, ?_, ?_, ?_, fun k h1 h2 => by omega⟩
      · simp (disch := omega) only [ER4, reduceIte, Nat.reduceEqDiff, Nat.reduceAdd, g0]
      · simp (disch := omega) only [ER4, reduceIte, Nat.reduceEqDiff, Nat.reduceAdd, g1]
      · simp (disch := omega) only [ER4, reduceIte, Nat.reduceEqDiff, Nat.reduceAdd, g4]
      · simp (disch := omega) only [ER4, reduceIte, Nat.reduceEqDiff, Nat.reduceAdd, g5]
  rintro l d h2 ⟨i, hi1, hi2, sg, rfl, g0, g1, g4, g5, hU, hU2⟩
  obtain ⟨c1, hg1, hd1, ho1, hc1⟩ := sg.row
  refine wc_mid (fun l d h2 => ∃ j, j ≤ b - 1 ∧ i ≤ j + 1 ∧ SegR h id o n s p c h2 g ∧ d = [] ∧ (l.get 0 = some (.sl id o n cap) ∧ l.get 4 = some (.fn 13 [] [])) ∧ l.get 1 = some (.int .i64 (a : Int)) ∧ l.get 5 = some (.int .i64 (i : Int)) ∧ l.get 6 = some (.int .i64 (j : Int)) ∧
    (∀ k, j < k → k ≤ b - 1 → ltR (g k) (g a) = false) ∧ (i ≤ j → ltR (g j) (g a) = true)) ?_ ?_
  · refine wc_block ?_
    refine wc_while (fun k l d h2 => ∃ j, k = j + 1 - i ∧ j ≤ (b - 1) ∧ i ≤ j + 1 ∧ SegR h id o n s p c h2 g ∧ d = [] ∧ (l.get 0 = some (.sl id o n cap) ∧ l.get 4 = some (.fn 13 [] [])) ∧ l.get 1 = some (.int .i64 (a : Int)) ∧ l.get 5 = some (.int .i64 ((i : Nat) : Int)) ∧ l.get 6 = some (.int .i64 (j : Int)) ∧ ∀ k, j < k → k ≤ (b - 1) → (fun k => ltR (g k) (g a) = false) k) ?_ ((b - 1) + 1 - i) ?_
    · rintro k l d h2 ⟨j, hk, hi1, hi2, sg, rfl, g0, g1, g4, g5, hE⟩
      obtain ⟨c1, hg1, hd1, ho1, hc1⟩ := sg.row
      refine wc_seq ?_
      by_cases hij : i ≤ j
      · have r1 := hc1 j (by omega)
        have r2 := hc1 a (by omega)
        refine wc_seq (wc_opq fun Q1 hQ => ?_)
        simp (disch := omega) only [ER4, reduceIte, Nat.reduceEqDiff, Nat.reduceAdd, g0, g1, g4, g5, hij, hg1, r1, r2, cmp_rw tc, cmp_lt]
        refine hQ _ ?_
        clear hQ Q1
        have sg := sg.cmp (x := (g j)) (y := (g a))
        generalize hcm (g j) (g a) _ = h9 at sg ⊢
        obtain ⟨c1, hg1, hd1, ho1, hc1⟩ := sg.row
        refine wc_cond (q := !ltR (g j) (g a)) (by simp (disch := omega) only [ER4, reduceIte, Nat.reduceEqDiff, Nat.reduceAdd]) (fun hl => ?_) (fun hl => ?_)
        · refine wc_skip (wc_block ?_)
          refine wc_opq fun Q1 hQ => ?_
          simp (disch := omega) only [ER4, reduceIte, Nat.reduceEqDiff, Nat.reduceAdd, g5]
          refine hQ _ ?_
          clear hQ Q1
          refine ⟨j - 1 + 1 - i, by omega, j - 1, rfl, by omega, by omega, sg, rfl, ?_, ?_, ?_, ?_, fun x x1 x2 => ?_⟩
          · simp (disch := omega) only [ER4, reduceIte, Nat.reduceEqDiff, Nat.reduceAdd, g0]
          · simp (disch := omega) only [ER4, reduceIte, Nat.reduceEqDiff, Nat.reduceAdd, g1]
          · simp (disch := omega) only [ER4, reduceIte, Nat.reduceEqDiff, Nat.reduceAdd, g4]
          · simp (disch := omega) only [ER4, reduceIte, Nat.reduceEqDiff, Nat.reduceAdd]
          · by_cases hx : x = j
            · subst hx; simpa using hl
            · exact hE x (by omega) x2
        · refine wc_exit ⟨j, hi1, hi2, sg, rfl, ?_, ?_, ?_, ?_, hE, fun _ => by simpa using hl⟩
          · simp (disch := omega) only [ER4, reduceIte, Nat.reduceEqDiff, Nat.reduceAdd, g0]
          · simp (disch := omega) only [ER4, reduceIte, Nat.reduceEqDiff, Nat.reduceAdd, g1]
          · simp (disch := omega) only [ER4, reduceIte, Nat.reduceEqDiff, Nat.reduceAdd, g4]
          · simp (disch := omega) only [ER4, reduceIte, Nat.reduceEqDiff, Nat.reduceAdd, g5]
      · refine wc_seq (wc_opq fun Q1 hQ => ?_)
        simp (disch := omega) only [ER4, reduceIte, Nat.reduceEqDiff, Nat.reduceAdd, g0, g1, g4, g5, hij]
        refine hQ _ ?_
        clear hQ Q1
        refine wc_no (by simp (disch := omega) only [ER4, reduceIte, Nat.reduceEqDiff, Nat.reduceAdd]) (wc_exit ⟨j, hi1, hi2, sg, rfl, ?_, ?_, ?_, ?_, hE, fun h => absurd h hij⟩)
        · simp (disch := omega) only [ER4, reduceIte, Nat.reduceEqDiff, Nat.reduceAdd, g0]
        · simp (disch := omega) only [ER4, reduceIte, Nat.reduceEqDiff, Nat.reduceAdd, g1]
        · simp (disch := omega) only [ER4, reduceIte, Nat.reduceEqDiff, Nat.reduceAdd, g4]
        · simp (disch := omega) only [ER4, reduceIte, Nat.reduceEqDiff, Nat.reduceAdd, g5]
    · refine ⟨(b - 1), rfl, Nat.le_refl _, by omega, sg, rfl, ?_, ?_, ?_, ?_, fun k h1 h2 => by omega⟩
      · simp (disch := omega) only [ER4, reduceIte, Nat.reduceEqDiff, Nat.reduceAdd, g0]
      · simp (disch := omega) only [ER4, reduceIte, Nat.reduceEqDiff, Nat.reduceAdd, g1]
      · simp (disch := omega) only [ER4, reduceIte, Nat.reduceEqDiff, Nat.reduceAdd, g4]
      · simp (disch := omega) only [ER4, reduceIte, Nat.reduceEqDiff, Nat.reduceAdd, g5]
  clear g0 g1 g4 g5
  rintro l d h2 ⟨j, hj1, hj2, sg, rfl, g0, g1, g4, g5, hD, hD2⟩
  obtain ⟨c1, hg1, hd1, ho1, hc1⟩ := sg.row
  have fin : ∀ {g : Nat → Rw} {i j : Nat}, i = j + 1 → a + 1 ≤ i → j < b → (∀ k, a + 1 ≤ k → k < i → ltR (g k) (g a) = true) → (∀ k, j < k → k < b → ltR (g k) (g a) = false) → (∀ k, a ≤ k → k < j → ltR (swp g j a k) (swp g j a j) = true) ∧ ∀ k, j < k → k < b → ltR (swp g j a k) (swp g j a j) = false := by
    intro g i j e e1 e2 h1 h2
    refine ⟨fun k k1 k2 => ?_, fun k k1 k2 => ?_⟩
    · rw [swp_l]
      by_cases hk : k = a
      · subst hk; rw [swp_r]; exact h1 j (by omega) (by omega)
      · rw [swp_o (by omega) hk]; exact h1 k (by omega) (by omega)
    · rw [swp_l, swp_o (by omega) (by omega)]; exact h2 k k1 k2
  refine wc_seq ?_
  refine wc_seq (wc_opq fun Q1 hQ => ?_)
  simp (disch := omega) only [ER4, reduceIte, Nat.reduceEqDiff, Nat.reduceAdd, g4, g5]
  refine hQ _ ?_
  clear hQ Q1
  refine wc_if (j < i) (by simp (disch := omega) only [ER4, reduceIte, Nat.reduceEqDiff, Nat.reduceAdd]) (fun hlt => ?_) (fun hge => ?_)
  · have r1 := hc1 a (by omega)
    have r2 := hc1 j (by omega)
    refine wc_seq (wc_opq fun Q1 hQ => ?_)
    simp (disch := omega) only [ER4, reduceIte, Nat.reduceEqDiff, Nat.reduceAdd, g0, g1, g5, hg1, r1, r2]
    refine hQ _ ?_
    clear hQ Q1
    refine wc_seq (wc_opq fun Q1 hQ => ?_)
    simp (disch := omega) only [ER4, reduceIte, Nat.reduceEqDiff, Nat.reduceAdd, g5]
    refine hQ _ ?_
    clear hQ Q1
    obtain ⟨f1, f2⟩ := fin (show i = j + 1 by omega) hi1 (by omega) hU (fun k k1 k2 => hD k k1 (by omega))
    refine wc_ret ⟨_, results_val (results_val results_nil), j, true, _, ?_, by omega, by omega, sg.swap hd1 ho1 (by omega) (by omega), pm.trans (PermOn.swap (by omega) (by omega)), f1, f2⟩
    simp (disch := omega) only [ER4, reduceIte, Nat.reduceEqDiff, Nat.reduceAdd, one_more]
  refine wc_skip ?_
  have hne : i < j := by
    rcases Nat.lt_or_ge i j with h | h
    · exact h
    · obtain rfl : i = j := by omega
      have := hU2 (by omega); rw [hD2 (by omega)] at this; cases this
  have r1 := hc1 i (by omega)
  have r2 := hc1 j (by omega)
  refine wc_seq (wc_opq fun Q1 hQ => ?_)
  simp (disch := omega) only [ER4, reduceIte, Nat.reduceEqDiff, Nat.reduceAdd, g0, g4, g5, hg1, r1, r2]
  refine hQ _ ?_
  clear hQ Q1
  refine wc_seq (wc_opq fun Q1 hQ => ?_)
  simp (disch := omega) only [ER4, reduceIte, Nat.reduceEqDiff, Nat.reduceAdd, g4]
  refine hQ _ ?_
  clear hQ Q1
  refine wc_seq (wc_opq fun Q1 hQ => ?_)
  simp (disch := omega) only [ER4, reduceIte, Nat.reduceEqDiff, Nat.reduceAdd, g5]
  refine hQ _ ?_
  clear hQ Q1
  have pc : ∀ {g : Nat → Rw} {i j : Nat}, a + 1 ≤ i → i < j → j < b → (∀ k, a + 1 ≤ k → k < i → ltR (g k) (g a) = true) → (∀ k, j < k → k < b → ltR (g k) (g a) = false) → ltR (g i) (g a) = false → ltR (g j) (g a) = true →
      (∀ k, a + 1 ≤ k → k < i + 1 → ltR (swp g i j k) (swp g i j a) = true) ∧ (∀ k, j - 1 < k → k < b → ltR (swp g i j k) (swp g i j a) = false) := by
    intro g i j e1 e2 e3 h1 h2 h3 h4
    have ea : swp g i j a = g a := swp_o (by omega) (by omega)
    refine ⟨fun k k1 k2 => ?_, fun k k1 k2 => ?_⟩
    · rw [ea]
      by_cases hk : k = i
      · subst hk; rw [swp_l]; exact h4
      · rw [swp_o hk (by omega)]; exact h1 k k1 (by omega)
    · rw [ea]
      by_cases hk : k = j
      · subst hk; rw [swp_r]; exact h3
      · rw [swp_o (by omega) hk]; exact h2 k (by omega) k2
  obtain ⟨p1, p2⟩ := pc (by omega) hne (by omega) hU (fun k k1 k2 => hD k k1 (by omega)) (hU2 (by omega)) (hD2 (by omega))
  refine wc_mid (fun l d h2 => ∃ i j g, i = j + 1 ∧ a + 1 ≤ i ∧ j < b ∧ d = [] ∧ (l.get 0 = some (.sl id o n cap) ∧ l.get 4 = some (.fn 13 [] [])) ∧ l.get 1 = some (.int .i64 (a : Int)) ∧ l.get 5 = some (.int .i64 (i : Int)) ∧ l.get 6 = some (.int .i64 (j : Int)) ∧
    SegR h id o n s p c h2 g ∧ PermOn a b f g ∧ (∀ k, a + 1 ≤ k → k < i → ltR (g k) (g a) = true) ∧ (∀ k, j < k → k < b → ltR (g k) (g a) = false)) ?_ ?_
  · refine wc_block ?_
    refine wc_while (fun k l d h2 => ∃ i j g, k = j + 1 - i ∧ i ≤ j + 1 ∧ a + 1 ≤ i ∧ j < b ∧ d = [] ∧ (l.get 0 = some (.sl id o n cap) ∧ l.get 4 = some (.fn 13 [] [])) ∧ l.get 1 = some (.int .i64 (a : Int)) ∧ l.get 5 = some (.int .i64 (i : Int)) ∧ l.get 6 = some (.int .i64 (j : Int)) ∧
      SegR h id o n s p c h2 g ∧ PermOn a b f g ∧ (∀ k, a + 1 ≤ k → k < i → ltR (g k) (g a) = true) ∧ (∀ k, j < k → k < b → ltR (g k) (g a) = false)) ?_ (j - 1 + 1 - (i + 1)) ?_
    · have sw := sg.swap (X := (AObj.cells (putR (g j) c1 (o + i * 4)) s p false)) hd1 ho1 (i := i) (j := j) (by omega) (by omega)
      clear g0 g1 g4 g5 hg1 hd1 ho1 r1 r2 hU hD hU2 hD2 hi1 hi2 hj1 hj2 hge hne p1 p2 sg pm
      rintro k l d h1 ⟨i, j, g, hk, hij, hai, hjb, rfl, g0, g1, g4, g5, sg, pm, hU, hD⟩
      obtain ⟨c1, hg1, hd1, ho1, hc1⟩ := sg.row
      refine wc_block ?_
      refine wc_mid (fun l d h2 => ∃ i', i ≤ i' ∧ i' ≤ j + 1 ∧ SegR h id o n s p c h2 g ∧ d = [] ∧ (l.get 0 = some (.sl id o n cap) ∧ l.get 4 = some (.fn 13 [] [])) ∧ l.get 1 = some (.int .i64 (a : Int)) ∧ l.get 5 = some (.int .i64 (i' : Int)) ∧ l.get 6 = some (.int .i64 (j : Int)) ∧
        (∀ k, i ≤ k → k < i' → ltR (g k) (g a) = true) ∧ (i' ≤ j → ltR (g i') (g a) = false)) ?_ ?_
      · have hi0 := i
        generalize hii : i = ii at *
        refine wc_block ?_
        refine wc_while (fun k l d h2 => ∃ i, k = j + 1 - i ∧ ii ≤ i ∧ i ≤ j + 1 ∧ SegR h id o n s p c h2 g ∧ d = [] ∧ (l.get 0 = some (.sl id o n cap) ∧ l.get 4 = some (.fn 13 [] [])) ∧ l.get 1 = some (.int .i64 (a : Int)) ∧ l.get 5 = some (.int .i64 (i : Int)) ∧ l.get 6 = some (.int .i64 ((j : Nat) : Int)) ∧ ∀ k, ii ≤ k → k < i → (fun k => ltR (g k) (g a) = true) k) ?_ (j + 1 - ii) ?_
        · rintro k l d h2 ⟨i, hk, hi1, hi2, sg, rfl, g0, g1, g4, g5, hE⟩
          obtain ⟨c1, hg1, hd1, ho1, hc1⟩ := sg.row
          refine wc_seq ?_
          by_cases hij : i ≤ j
          · have r1 := hc1 i (by omega)
            have r2 := hc1 a (by omega)
            refine wc_seq (wc_opq fun Q1 hQ => ?_)
            simp (disch := omega) only [ER4, reduceIte, Nat.reduceEqDiff, Nat.reduceAdd, g0, g1, g4, g5, hij, hg1, r1, r2, cmp_rw tc, cmp_lt]
            refine hQ _ ?_
            clear hQ Q1
            have sg := sg.cmp (x := (g i)) (y := (g a))
            generalize hcm (g i) (g a) _ = h9 at sg ⊢
            obtain ⟨c1, hg1, hd1, ho1, hc1⟩ := sg.row
            refine wc_cond (q := ltR (g i) (g a)) (by simp (disch := omega) only [ER4, reduceIte, Nat.reduceEqDiff, Nat.reduceAdd]) (fun hl => ?_) (fun hl => ?_)
            · refine wc_skip (wc_block ?_)
              refine wc_opq fun Q1 hQ => ?_
              simp (disch := omega) only [ER4, reduceIte, Nat.reduceEqDiff, Nat.reduceAdd, g4]
              refine hQ _ ?_
              clear hQ Q1
              refine ⟨j + 1 - (i + 1), by omega, i + 1, rfl, by omega, by omega, sg, rfl, ?_, ?_, ?_, ?_, fun x x1 x2 => ?_⟩
              · simp (disch := omega) only [ER4, reduceIte, Nat.reduceEqDiff, Nat.reduceAdd, g0]
              · simp (disch := omega) only [ER4, reduceIte, Nat.reduceEqDiff, Nat.reduceAdd, g1]
              · simp (disch := omega) only [ER4, reduceIte, Nat.reduceEqDiff, Nat.reduceAdd]
              · simp (disch := omega) only [ER4, reduceIte, Nat.reduceEqDiff, Nat.reduceAdd, g5]
              · by_cases hx : x = i
                · subst hx; simpa using hl
                · exact hE x x1 (by omega)
            · refine wc_exit ⟨i, hi1, hi2, sg, rfl, ?_, ?_, ?_, ?_, hE, fun _ => by simpa using hl⟩
              · simp (disch := omega) only [ER4, reduceIte, Nat.reduceEqDiff, Nat.reduceAdd, g0]
              · simp (disch := omega) only [ER4, reduceIte, Nat.reduceEqDiff, Nat.reduceAdd, g1]
              · simp (disch := omega) only [ER4, reduceIte, Nat.reduceEqDiff, Nat.reduceAdd, g4]
              · simp (disch := omega) only [ER4, reduceIte, Nat.reduceEqDiff, Nat.reduceAdd, g5]
          · refine wc_seq (wc_opq fun Q1 hQ => ?_)
            simp (disch := omega) only [ER4, reduceIte, Nat.reduceEqDiff, Nat.reduceAdd, g0, g1, g4, g5, hij]
            refine hQ _ ?_
            clear hQ Q1
            refine wc_no (by simp (disch := omega) only [ER4, reduceIte, Nat.reduceEqDiff, Nat.reduceAdd]) (wc_exit ⟨i, hi1, hi2, sg, rfl, ?_, ?_, ?_, ?_, hE, fun h => absurd h hij⟩)
            · simp (disch := omega) only [ER4, reduceIte, Nat.reduceEqDiff, Nat.reduceAdd, g0]
            · simp (disch := omega) only [ER4, reduceIte, Nat.reduceEqDiff, Nat.reduceAdd, g1]
            · simp (disch := omega) only [ER4, reduceIte, Nat.reduceEqDiff, Nat.reduceAdd, g4]
            · simp (disch := omega) only [ER4, reduceIte, Nat.reduceEqDiff, Nat.reduceAdd, g5]
        · refine ⟨ii, rfl, Nat.le_refl _, by omega, sg, rfl, ?_, ?_, ?_, ?_, fun k h1 h2 => by omega⟩
          · simp (disch := omega) only [ER4, reduceIte, Nat.reduceEqDiff, Nat.reduceAdd, g0]
          · simp (disch := omega) only [ER4, reduceIte, Nat.reduceEqDiff, Nat.reduceAdd, g1]
          · simp (disch := omega) only [ER4, reduceIte, Nat.reduceEqDiff, Nat.reduceAdd, g4]
          · simp (disch := omega) only [ER4, reduceIte, Nat.reduceEqDiff, Nat.reduceAdd, g5]
      clear g0 g1 g4 g5
      rintro l d h2 ⟨i', hi1, hi2, sg, rfl, g0, g1, g4, g5, hU1, hU2⟩
      obtain ⟨c1, hg1, hd1, ho1, hc1⟩ := sg.row
      have hU' : ∀ k, a + 1 ≤ k → k < i' → ltR (g k) (g a) = true := fun k k1 k2 => by
        by_cases hk : k < i
        · exact hU k k1 hk
        · exact hU1 k (by omega) k2
      refine wc_mid (fun l d h2 => ∃ j', j' ≤ j ∧ i' ≤ j' + 1 ∧ SegR h id o n s p c h2 g ∧ d = [] ∧ (l.get 0 = some (.sl id o n cap) ∧ l.get 4 = some (.fn 13 [] [])) ∧ l.get 1 = some (.int .i64 (a : Int)) ∧ l.get 5 = some (.int .i64 (i' : Int)) ∧ l.get 6 = some (.int .i64 (j' : Int)) ∧
        (∀ k, j' < k → k ≤ j → ltR (g k) (g a) = false) ∧ (i' ≤ j' → ltR (g j') (g a) = true)) ?_ ?_
      · generalize hjj : j = jj at *
        refine wc_block ?_
        refine wc_while (fun k l d h2 => ∃ j, k = j + 1 - i' ∧ j ≤ jj ∧ i' ≤ j + 1 ∧ SegR h id o n s p c h2 g ∧ d = [] ∧ (l.get 0 = some (.sl id o n cap) ∧ l.get 4 = some (.fn 13 [] [])) ∧ l.get 1 = some (.int .i64 (a : Int)) ∧ l.get 5 = some (.int .i64 ((i' : Nat) : Int)) ∧ l.get 6 = some (.int .i64 (j : Int)) ∧ ∀ k, j < k → k ≤ jj → (fun k => ltR (g k) (g a) = false) k) ?_ (jj + 1 - i') ?_
        · rintro k l d h2 ⟨j, hk, hi1, hi2, sg, rfl, g0, g1, g4, g5, hE⟩
          obtain ⟨c1, hg1, hd1, ho1, hc1⟩ := sg.row
          refine wc_seq ?_
          by_cases hij : i' ≤ j
          · have r1 := hc1 j (by omega)
            have r2 := hc1 a (by omega)
            refine wc_seq (wc_opq fun Q1 hQ => ?_)
            simp (disch := omega) only [ER4, reduceIte, Nat.reduceEqDiff, Nat.reduceAdd, g0, g1, g4, g5, hij, hg1, r1, r2, cmp_rw tc, cmp_lt]
            refine hQ _ ?_
            clear hQ Q1
            have sg := sg.cmp (x := (g j)) (y := (g a))
            generalize hcm (g j) (g a) _ = h9 at sg ⊢
            obtain ⟨c1, hg1, hd1, ho1, hc1⟩ := sg.row
            refine wc_cond (q := !ltR (g j) (g a)) (by simp (disch := omega) only [ER4, reduceIte, Nat.reduceEqDiff, Nat.reduceAdd]) (fun hl => ?_) (fun hl => ?_)
            · refine wc_skip (wc_block ?_)
              refine wc_opq fun Q1 hQ => ?_
              simp (disch := omega) only [ER4, reduceIte, Nat.reduceEqDiff, Nat.reduceAdd, g5]
              refine hQ _ ?_
              clear hQ Q1
              refine ⟨j - 1 + 1 - i', by omega, j - 1, rfl, by omega, by omega, sg, rfl, ?_, ?_, ?_, ?_, fun x x1 x2 => ?_⟩
              · simp (disch := omega) only [ER4, reduceIte, Nat.reduceEqDiff, Nat.reduceAdd, g0]
              · simp (disch := omega) only [ER4, reduceIte, Nat.reduceEqDiff, Nat.reduceAdd, g1]
              · simp (disch := omega) only [ER4, reduceIte, Nat.reduceEqDiff, Nat.reduceAdd, g4]
              · simp (disch := omega) only [ER4, reduceIte, Nat.reduceEqDiff, Nat.reduceAdd]
              · by_cases hx : x = j
                · subst hx; simpa using hl
                · exact hE x (by omega) x2
            · refine wc_exit ⟨j, hi1, hi2, sg, rfl, ?_, ?_, ?_, ?_, hE, fun _ => by simpa using hl⟩
              · simp (disch := omega) only [ER4, reduceIte, Nat.reduceEqDiff, Nat.reduceAdd, g0]
              · simp (disch := omega) only [ER4, reduceIte, Nat.reduceEqDiff, Nat.reduceAdd, g1]
              · simp (disch := omega) only [ER4, reduceIte, Nat.reduceEqDiff, Nat.reduceAdd, g4]
              · simp (disch := omega) only [ER4, reduceIte, Nat.reduceEqDiff, Nat.reduceAdd, g5]
          · refine wc_seq (wc_opq fun Q1 hQ => ?_)
            simp (disch := omega) only [ER4, reduceIte, Nat.reduceEqDiff, Nat.reduceAdd, g0, g1, g4, g5, hij]
            refine hQ _ ?_
            clear hQ Q1
            refine wc_no (by simp (disch := omega) only [ER4, reduceIte, Nat.reduceEqDiff, Nat.reduceAdd]) (wc_exit ⟨j, hi1, hi2, sg, rfl, ?_, ?_, ?_, ?_, hE, fun h => absurd h hij⟩)
            · simp (disch := omega) only [ER4, reduceIte, Nat.reduceEqDiff, Nat.reduceAdd, g0]
            · simp (disch := omega) only [ER4, reduceIte, Nat.reduceEqDiff, Nat.reduceAdd, g1]
            · simp (disch := omega) only [ER4, reduceIte, Nat.reduceEqDiff, Nat.reduceAdd, g4]
            · simp (disch := omega) only [ER4, reduceIte, Nat.reduceEqDiff, Nat.reduceAdd, g5]
        · refine ⟨jj, rfl, Nat.le_refl _, by omega, sg, rfl, ?_, ?_, ?_, ?_, fun k h1 h2 => by omega⟩
          · simp (disch := omega) only [ER4, reduceIte, Nat.reduceEqDiff, Nat.reduceAdd, g0]
          · simp (disch := omega) only [ER4, reduceIte, Nat.reduceEqDiff, Nat.reduceAdd, g1]
          · simp (disch := omega) only [ER4, reduceIte, Nat.reduceEqDiff, Nat.reduceAdd, g4]
          · simp (disch := omega) only [ER4, reduceIte, Nat.reduceEqDiff, Nat.reduceAdd, g5]
      clear g0 g1 g4 g5
      rintro l d h2 ⟨j', hj1, hj2, sg, rfl, g0, g1, g4, g5, hD1, hD2⟩
      obtain ⟨c1, hg1, hd1, ho1, hc1⟩ := sg.row
      have hD' : ∀ k, j' < k → k < b → ltR (g k) (g a) = false := fun k k1 k2 => by
        by_cases hk : j < k
        · exact hD k hk k2
        · exact hD1 k k1 (by omega)
      refine wc_seq ?_
      refine wc_seq (wc_opq fun Q1 hQ => ?_)
      simp (disch := omega) only [ER4, reduceIte, Nat.reduceEqDiff, Nat.reduceAdd, g4, g5]
      refine hQ _ ?_
      clear hQ Q1
      refine wc_if (j' < i') (by simp (disch := omega) only [ER4, reduceIte, Nat.reduceEqDiff, Nat.reduceAdd]) (fun hlt => ?_) (fun hge => ?_)
      · refine wc_exit ⟨i', j', g, by omega, by omega, by omega, rfl, ?_, ?_, ?_, ?_, sg, pm, hU', hD'⟩
        · simp (disch := omega) only [ER4, reduceIte, Nat.reduceEqDiff, Nat.reduceAdd, g0]
        · simp (disch := omega) only [ER4, reduceIte, Nat.reduceEqDiff, Nat.reduceAdd, g1]
        · simp (disch := omega) only [ER4, reduceIte, Nat.reduceEqDiff, Nat.reduceAdd, g4]
        · simp (disch := omega) only [ER4, reduceIte, Nat.reduceEqDiff, Nat.reduceAdd, g5]
      · refine wc_skip ?_
        have hne : i' < j' := by
          rcases Nat.lt_or_ge i' j' with h | h
          · exact h
          · obtain rfl : i' = j' := by omega
            have := hU2 (by omega); rw [hD2 (by omega)] at this; cases this
        have r1 := hc1 i' (by omega)
        have r2 := hc1 j' (by omega)
        refine wc_seq (wc_opq fun Q1 hQ => ?_)
        simp (disch := omega) only [ER4, reduceIte, Nat.reduceEqDiff, Nat.reduceAdd, g0, g4, g5, hg1, r1, r2]
        refine hQ _ ?_
        clear hQ Q1
        refine wc_seq (wc_opq fun Q1 hQ => ?_)
        simp (disch := omega) only [ER4, reduceIte, Nat.reduceEqDiff, Nat.reduceAdd, g4]
        refine hQ _ ?_
        clear hQ Q1
        refine wc_opq fun Q1 hQ => ?_
        simp (disch := omega) only [ER4, reduceIte, Nat.reduceEqDiff, Nat.reduceAdd, g5]
        refine hQ _ ?_
        clear hQ Q1
        obtain ⟨p1, p2⟩ := pc (by omega) hne (by omega) hU' hD' (hU2 (by omega)) (hD2 (by omega))
        refine ⟨j' - 1 + 1 - (i' + 1), by omega, i' + 1, j' - 1, _, rfl, by omega, by omega, by omega, rfl, ?_, ?_, ?_, ?_, sg.swap hd1 ho1 (by omega) (by omega), pm.trans (PermOn.swap (by omega) (by omega)), p1, p2⟩
        · simp (disch := omega) only [ER4, reduceIte, Nat.reduceEqDiff, Nat.reduceAdd, g0]
        · simp (disch := omega) only [ER4, reduceIte, Nat.reduceEqDiff, Nat.reduceAdd, g1]
        · simp (disch := omega) only [ER4, reduceIte, Nat.reduceEqDiff, Nat.reduceAdd]
        · simp (disch := omega) only [ER4, reduceIte, Nat.reduceEqDiff, Nat.reduceAdd]
    · refine ⟨i + 1, j - 1, _, rfl, by omega, by omega, by omega, rfl, ?_, ?_, ?_, ?_, sg.swap hd1 ho1 (by omega) (by omega), pm.trans (PermOn.swap (by omega) (by omega)), p1, p2⟩
      · simp (disch := omega) only [ER4, reduceIte, Nat.reduceEqDiff, Nat.reduceAdd, g0]
      · simp (disch := omega) only [ER4, reduceIte, Nat.reduceEqDiff, Nat.reduceAdd, g1]
      · simp (disch := omega) only [ER4, reduceIte, Nat.reduceEqDiff, Nat.reduceAdd]
      · simp (disch := omega) only [ER4, reduceIte, Nat.reduceEqDiff, Nat.reduceAdd]
  · clear g0 g1 g4 g5 hg1 hd1 ho1 r1 r2 hU hD hU2 hD2 hi1 hi2 hj1 hj2 hge hne p1 p2 sg pm
    rintro l d h1 ⟨i, j, g, e, hai, hjb, rfl, g0, g1, g4, g5, sg, pm, hU, hD⟩
    obtain ⟨c1, hg1, hd1, ho1, hc1⟩ := sg.row
    have r1 := hc1 a (by omega)
    have r2 := hc1 j (by omega)
    refine wc_seq (wc_opq fun Q1 hQ => ?_)
    simp (disch := omega) only [ER4, reduceIte, Nat.reduceEqDiff, Nat.reduceAdd, g0, g1, g5, hg1, r1, r2]
    refine hQ _ ?_
    clear hQ Q1
    refine wc_seq (wc_opq fun Q1 hQ => ?_)
    simp (disch := omega) only [ER4, reduceIte, Nat.reduceEqDiff, Nat.reduceAdd, g5]
    refine hQ _ ?_
    clear hQ Q1
    obtain ⟨f1, f2⟩ := fin e hai hjb hU hD
    refine wc_ret ⟨_, results_val (results_val results_nil), j, false, _, ?_, by omega, by omega, sg.swap hd1 ho1 (by omega) (by omega), pm.trans (PermOn.swap (by omega) (by omega)), f1, f2⟩
    simp (disch := omega) only [ER4, reduceIte, Nat.reduceEqDiff, Nat.reduceAdd, one_more]
end
end Go.Ev

namespace Go.Ev
open Go
set_option linter.unusedSimpArgs false
set_option linter.unusedVariables false
set_option maxRecDepth 100000
set_option maxHeartbeats 4000000
theorem rises_swp {α : Type} {lt : α → α → Bool} {a i u v : Nat} {g : Nat → α} (h : Rises lt a i g) (hu : i ≤ u) (hv : i ≤ v) : Rises lt a i (swp g u v) := fun x y h1 h2 h3 => by
  rw [swp_o (by omega) (by omega), swp_o (by omega) (by omega)]; exact h x y h1 h2 h3
section
variable {tab : Nat → Option AFunc} {h : AH} {id o n s a b : Nat} {p : Bool} {cap : ACap} {c : T AV} {f : Nat → Rw}
theorem partEq_gp (t64 : tab 48 = some af48) (tc : CmpT tab)
    (hi : id < h.next) (hg : h.mem.get id = some (.cells c s p false)) (hc : RArr4 c o n f) {pv : Nat} (hab : a + 2 ≤ b) (hpa : a ≤ pv) (hpb : pv < b) (hbn : b ≤ n) (hn : n < 2305843009213693952) (hmin : ∀ k, a ≤ k → k < b → ltR (f k) (f pv) = false) :
    GP tab 48 [.sl id o n cap, .int .i64 (a : Int), .int .i64 (b : Int), .int .i64 (pv : Int), .fn 13 [] []] h fun v h1 => ∃ (m : Nat) (g : Nat → Rw), v = .int .i64 (m : Int) ∧ a < m ∧ m ≤ b ∧ SegR h id o n s p c h1 g ∧ PermOn a b f g ∧
      Rises ltR a m g ∧ ∀ x y, a ≤ x → x < m → m ≤ y → y < b → ltR (g y) (g x) = false := by
  have i0 : initLoc [.sl id o n cap, .int .i64 (a : Int), .int .i64 (b : Int), .int .i64 (pv : Int), .fn 13 [] []] = ofList [.sl id o n cap, .int .i64 (a : Int), .int .i64 (b : Int), .int .i64 (pv : Int), .fn 13 [] []] := rfl
  refine gp_of t64 rfl ?_
  refine wc_seq (wc_opq fun Q1 hQ => ?_)
  simp (disch := omega) only [ER4, reduceIte, Nat.reduceEqDiff, Nat.reduceAdd, i0]
  refine hQ _ ?_
  clear hQ Q1
  have q1 := hc.arr a (by omega)
  have q2 := hc.arr pv (by omega)
  refine wc_seq (wc_opq fun Q1 hQ => ?_)
  simp (disch := omega) only [ER4, reduceIte, Nat.reduceEqDiff, Nat.reduceAdd, i0, hg, q1, q2]
  refine hQ _ ?_
  clear hQ Q1
  have sg := (SegR.start hi hg hc).swap (X := (AObj.cells (putR (f pv) c (o + a * 4)) s p false)) hc (fun _ _ => rfl) (i := a) (j := pv) (by omega) (by omega)
  have pm : PermOn a b f (swp f a pv) := PermOn.swap (by omega) (by omega)
  have mn : ∀ k, a ≤ k → k < b → ltR (swp f a pv k) (swp f a pv a) = false := by rw [swp_l]; exact pm.all (Q := fun z => ltR z (f pv) = false) hmin
  generalize swp f a pv = g at *
  generalize ((h.set id (AObj.cells (putR (f pv) c (o + a * 4)) s p false)).set id (AObj.cells (putR (f a) (putR (f pv) c (o + a * 4)) (o + pv * 4)) s p false)) = h1 at *
  refine wc_seq (wc_opq fun Q1 hQ => ?_)
  simp (disch := omega) only [ER4, reduceIte, Nat.reduceEqDiff, Nat.reduceAdd, i0]
  refine hQ _ ?_
  clear hQ Q1
  refine wc_mid (fun l d h2 => ∃ i j g, i = j + 1 ∧ a + 1 ≤ i ∧ j < b ∧ d = [] ∧ (l.get 0 = some (.sl id o n cap) ∧ l.get 4 = some (.fn 13 [] [])) ∧ l.get 1 = some (.int .i64 (a : Int)) ∧ l.get 5 = some (.int .i64 (i : Int)) ∧ l.get 6 = some (.int .i64 (j : Int)) ∧
    SegR h id o n s p c h2 g ∧ PermOn a b f g ∧ (∀ k, a ≤ k → k < b → ltR (g k) (g a) = false) ∧ (∀ k, a + 1 ≤ k → k < i → ltR (g a) (g k) = false) ∧ (∀ k, j < k → k < b → ltR (g a) (g k) = true)) ?_ ?_
  · refine wc_block ?_
    refine wc_while (fun k l d h2 => ∃ i j g, k = j + 1 - i ∧ i ≤ j + 1 ∧ a + 1 ≤ i ∧ j < b ∧ d = [] ∧ (l.get 0 = some (.sl id o n cap) ∧ l.get 4 = some (.fn 13 [] [])) ∧ l.get 1 = some (.int .i64 (a : Int)) ∧ l.get 5 = some (.int .i64 (i : Int)) ∧ l.get 6 = some (.int .i64 (j : Int)) ∧
      SegR h id o n s p c h2 g ∧ PermOn a b f g ∧ (∀ k, a ≤ k → k < b → ltR (g k) (g a) = false) ∧ (∀ k, a + 1 ≤ k → k < i → ltR (g a) (g k) = false) ∧ (∀ k, j < k → k < b → ltR (g a) (g k) = true)) ?_ (b - 1 + 1 - (a + 1)) ?_
    · clear sg pm mn
      rintro k l d h1 ⟨i, j, g, hk, hij, hai, hjb, rfl, g0, g1, g4, g5, sg, pm, mn, hU, hD⟩
      obtain ⟨c1, hg1, hd1, ho1, hc1⟩ := sg.row
      refine wc_block ?_
      refine wc_mid (fun l d h2 => ∃ i', i ≤ i' ∧ i' ≤ j + 1 ∧ SegR h id o n s p c h2 g ∧ d = [] ∧ (l.get 0 = some (.sl id o n cap) ∧ l.get 4 = some (.fn 13 [] [])) ∧ l.get 1 = some (.int .i64 (a : Int)) ∧ l.get 5 = some (.int .i64 (i' : Int)) ∧ l.get 6 = some (.int .i64 (j : Int)) ∧
        (∀ k, i ≤ k → k < i' → ltR (g a) (g k) = false) ∧ (i' ≤ j → ltR (g a) (g i') = true)) ?_ ?_
      · generalize hii : i = ii at *
        refine wc_block ?_
        refine wc_while (fun k l d h2 => ∃ i, k = j + 1 - i ∧ ii ≤ i ∧ i ≤ j + 1 ∧ SegR h id o n s p c h2 g ∧ d = [] ∧ (l.get 0 = some (.sl id o n cap) ∧ l.get 4 = some (.fn 13 [] [])) ∧ l.get 1 = some (.int .i64 (a : Int)) ∧ l.get 5 = some (.int .i64 (i : Int)) ∧ l.get 6 = some (.int .i64 ((j : Nat) : Int)) ∧ ∀ k, ii ≤ k → k < i → (fun k => ltR (g a) (g k) = false) k) ?_ (j + 1 - ii) ?_
        · rintro k l d h2 ⟨i, hk, hi1, hi2, sg, rfl, g0, g1, g4, g5, hE⟩
          obtain ⟨c1, hg1, hd1, ho1, hc1⟩ := sg.row
          refine wc_seq ?_
          by_cases hij : i ≤ j
          · have r1 := hc1 i (by omega)
            have r2 := hc1 a (by omega)
            refine wc_seq (wc_opq fun Q1 hQ => ?_)
            simp (disch := omega) only [ER4, reduceIte, Nat.reduceEqDiff, Nat.reduceAdd, g0, g1, g4, g5, hij, hg1, r1, r2, cmp_rw tc, cmp_lt]
            refine hQ _ ?_
            clear hQ Q1
            have sg := sg.cmp (x := (g a)) (y := (g i))
            generalize hcm (g a) (g i) _ = h9 at sg ⊢
            obtain ⟨c1, hg1, hd1, ho1, hc1⟩ := sg.row
            refine wc_cond (q := !ltR (g a) (g i)) (by simp (disch := omega) only [ER4, reduceIte, Nat.reduceEqDiff, Nat.reduceAdd]) (fun hl => ?_) (fun hl => ?_)
            · refine wc_skip (wc_block ?_)
              refine wc_opq fun Q1 hQ => ?_
              simp (disch := omega) only [ER4, reduceIte, Nat.reduceEqDiff, Nat.reduceAdd, g4]
              refine hQ _ ?_
              clear hQ Q1
              refine ⟨j + 1 - (i + 1), by omega, i + 1, rfl, by omega, by omega, sg, rfl, ?_, ?_, ?_, ?_, fun x x1 x2 => ?_⟩
              · simp (disch := omega) only [ER4, reduceIte, Nat.reduceEqDiff, Nat.reduceAdd, g0]
              · simp (disch := omega) only [ER4, reduceIte, Nat.reduceEqDiff, Nat.reduceAdd, g1]
              · simp (disch := omega) only [ER4, reduceIte, Nat.reduceEqDiff, Nat.reduceAdd]
              · simp (disch := omega) only [ER4, reduceIte, Nat.reduceEqDiff, Nat.reduceAdd, g5]
              · by_cases hx : x = i
                · subst hx; simpa using hl
                · exact hE x x1 (by omega)
            · refine wc_exit ⟨i, hi1, hi2, sg, rfl, ?_, ?_, ?_, ?_, hE, fun _ => by simpa using hl⟩
              · simp (disch := omega) only [ER4, reduceIte, Nat.reduceEqDiff, Nat.reduceAdd, g0]
              · simp (disch := omega) only [ER4, reduceIte, Nat.reduceEqDiff, Nat.reduceAdd, g1]
              · simp (disch := omega) only [ER4, reduceIte, Nat.reduceEqDiff, Nat.reduceAdd, g4]
              · simp (disch := omega) only [ER4, reduceIte, Nat.reduceEqDiff, Nat.reduceAdd, g5]
          · refine wc_seq (wc_opq fun Q1 hQ => ?_)
            simp (disch := omega) only [ER4, reduceIte, Nat.reduceEqDiff, Nat.reduceAdd, g0, g1, g4, g5, hij]
            refine hQ _ ?_
            clear hQ Q1
            refine wc_no (by simp (disch := omega) only [ER4, reduceIte, Nat.reduceEqDiff, Nat.reduceAdd]) (wc_exit ⟨i, hi1, hi2, sg, rfl, ?_, ?_, ?_, ?_, hE, fun h => absurd h hij⟩)
            · simp (disch := omega) only [ER4, reduceIte, Nat.reduceEqDiff, Nat.reduceAdd, g0]
            · simp (disch := omega) only [ER4, reduceIte, Nat.reduceEqDiff, Nat.reduceAdd, g1]
            · simp (disch := omega) only [ER4, reduceIte, Nat.reduceEqDiff, Nat.reduceAdd, g4]
            · simp (disch := omega) only [ER4, reduceIte, Nat.reduceEqDiff, Nat.reduceAdd, g5]
        · refine ⟨ii, rfl, Nat.le_refl _, by omega, sg, rfl, ?_, ?_, ?_, ?_, fun k h1 h2 => by omega⟩
          · simp (disch := omega) only [ER4, reduceIte, Nat.reduceEqDiff, Nat.reduceAdd, g0]
          · simp (disch := omega) only [ER4, reduceIte, Nat.reduceEqDiff, Nat.reduceAdd, g1]
          · simp (disch := omega) only [ER4, reduceIte, Nat.reduceEqDiff, Nat.reduceAdd, g4]
          · simp (disch := omega) only [ER4, reduceIte, Nat.reduceEqDiff, Nat.reduceAdd, g5]
      clear g0 g1 g4 g5
      rintro l d h2 ⟨i', hi1, hi2, sg, rfl, g0, g1, g4, g5, hU1, hU2⟩
      obtain ⟨c1, hg1, hd1, ho1, hc1⟩ := sg.row
      have hU' : ∀ k, a + 1 ≤ k → k < i' → ltR (g a) (g k) = false := fun k k1 k2 => by
        by_cases hk : k < i
        · exact hU k k1 hk
        · exact hU1 k (by omega) k2
      refine wc_mid (fun l d h2 => ∃ j', j' ≤ j ∧ i' ≤ j' + 1 ∧ SegR h id o n s p c h2 g ∧ d = [] ∧ (l.get 0 = some (.sl id o n cap) ∧ l.get 4 = some (.fn 13 [] [])) ∧ l.get 1 = some (.int .i64 (a : Int)) ∧ l.get 5 = some (.int .i64 (i' : Int)) ∧ l.get 6 = some (.int .i64 (j' : Int)) ∧
        (∀ k, j' < k → k ≤ j → ltR (g a) (g k) = true) ∧ (i' ≤ j' → ltR (g a) (g j') = false)) ?_ ?_
      · generalize hjj : j = jj at *
        refine wc_block ?_
        refine wc_while (fun k l d h2 => ∃ j, k = j + 1 - i' ∧ j ≤ jj ∧ i' ≤ j + 1 ∧ SegR h id o n s p c h2 g ∧ d = [] ∧ (l.get 0 = some (.sl id o n cap) ∧ l.get 4 = some (.fn 13 [] [])) ∧ l.get 1 = some (.int .i64 (a : Int)) ∧ l.get 5 = some (.int .i64 ((i' : Nat) : Int)) ∧ l.get 6 = some (.int .i64 (j : Int)) ∧ ∀ k, j < k → k ≤ jj → (fun k => ltR (g a) (g k) = true) k) ?_ (jj + 1 - i') ?_
        · rintro k l d h2 ⟨j, hk, hi1, hi2, sg, rfl, g0, g1, g4, g5, hE⟩
          obtain ⟨c1, hg1, hd1, ho1, hc1⟩ := sg.row
          refine wc_seq ?_
          by_cases hij : i' ≤ j
          · have r1 := hc1 j (by omega)
            have r2 := hc1 a (by omega)
            refine wc_seq (wc_opq fun Q1 hQ => ?_)
            simp (disch := omega) only [ER4, reduceIte, Nat.reduceEqDiff, Nat.reduceAdd, g0, g1, g4, g5, hij, hg1, r1, r2, cmp_rw tc, cmp_lt]
            refine hQ _ ?_
            clear hQ Q1
            have sg := sg.cmp (x := (g a)) (y := (g j))
            generalize hcm (g a) (g j) _ = h9 at sg ⊢
            obtain ⟨c1, hg1, hd1, ho1, hc1⟩ := sg.row
            refine wc_cond (q := ltR (g a) (g j)) (by simp (disch := omega) only [ER4, reduceIte, Nat.reduceEqDiff, Nat.reduceAdd]) (fun hl => ?_) (fun hl => ?_)
            · refine wc_skip (wc_block ?_)
              refine wc_opq fun Q1 hQ => ?_
              simp (disch := omega) only [ER4, reduceIte, Nat.reduceEqDiff, Nat.reduceAdd, g5]
              refine hQ _ ?_
              clear hQ Q1
              refine ⟨j - 1 + 1 - i', by omega, j - 1, rfl, by omega, by omega, sg, rfl, ?_, ?_, ?_, ?_, fun x x1 x2 => ?_⟩
              · simp (disch := omega) only [ER4, reduceIte, Nat.reduceEqDiff, Nat.reduceAdd, g0]
              · simp (disch := omega) only [ER4, reduceIte, Nat.reduceEqDiff, Nat.reduceAdd, g1]
              · simp (disch := omega) only [ER4, reduceIte, Nat.reduceEqDiff, Nat.reduceAdd, g4]
              · simp (disch := omega) only [ER4, reduceIte, Nat.reduceEqDiff, Nat.reduceAdd]
              · by_cases hx : x = j
                · subst hx; simpa using hl
                · exact hE x (by omega) x2
            · refine wc_exit ⟨j, hi1, hi2, sg, rfl, ?_, ?_, ?_, ?_, hE, fun _ => by simpa using hl⟩
              · simp (disch := omega) only [ER4, reduceIte, Nat.reduceEqDiff, Nat.reduceAdd, g0]
              · simp (disch := omega) only [ER4, reduceIte, Nat.reduceEqDiff, Nat.reduceAdd, g1]
              · simp (disch := omega) only [ER4, reduceIte, Nat.reduceEqDiff, Nat.reduceAdd, g4]
              · simp (disch := omega) only [ER4, reduceIte, Nat.reduceEqDiff, Nat.reduceAdd, g5]
          · refine wc_seq (wc_opq fun Q1 hQ => ?_)
            simp (disch := omega) only [ER4, reduceIte, Nat.reduceEqDiff, Nat.reduceAdd, g0, g1, g4, g5, hij]
            refine hQ _ ?_
            clear hQ Q1
            refine wc_no (by simp (disch := omega) only [ER4, reduceIte, Nat.reduceEqDiff, Nat.reduceAdd]) (wc_exit ⟨j, hi1, hi2, sg, rfl, ?_, ?_, ?_, ?_, hE, fun h => absurd h hij⟩)
            · simp (disch := omega) only [ER4, reduceIte, Nat.reduceEqDiff, Nat.reduceAdd, g0]
            · simp (disch := omega) only [ER4, reduceIte, Nat.reduceEqDiff, Nat.reduceAdd, g1]
            · simp (disch := omega) only [ER4, reduceIte, Nat.reduceEqDiff, Nat.reduceAdd, g4]
            · simp (disch := omega) only [ER4, reduceIte, Nat.reduceEqDiff, Nat.reduceAdd, g5]
        · refine ⟨jj, rfl, Nat.le_refl _, by omega, sg, rfl, ?_, ?_, ?_, ?_, fun k h1 h2 => by omega⟩
          · simp (disch := omega) only [ER4, reduceIte, Nat.reduceEqDiff, Nat.reduceAdd, g0]
          · simp (disch := omega) only [ER4, reduceIte, Nat.reduceEqDiff, Nat.reduceAdd, g1]
          · simp (disch := omega) only [ER4, reduceIte, Nat.reduceEqDiff, Nat.reduceAdd, g4]
          · simp (disch := omega) only [ER4, reduceIte, Nat.reduceEqDiff, Nat.reduceAdd, g5]
      clear g0 g1 g4 g5
      rintro l d h2 ⟨j', hj1, hj2, sg, rfl, g0, g1, g4, g5, hD1, hD2⟩
      obtain ⟨c1, hg1, hd1, ho1, hc1⟩ := sg.row
      have hD' : ∀ k, j' < k → k < b → ltR (g a) (g k) = true := fun k k1 k2 => by
        by_cases hk : j < k
        · exact hD k hk k2
        · exact hD1 k k1 (by omega)
      refine wc_seq ?_
      refine wc_seq (wc_opq fun Q1 hQ => ?_)
      simp (disch := omega) only [ER4, reduceIte, Nat.reduceEqDiff, Nat.reduceAdd, g4, g5]
      refine hQ _ ?_
      clear hQ Q1
      refine wc_if (j' < i') (by simp (disch := omega) only [ER4, reduceIte, Nat.reduceEqDiff, Nat.reduceAdd]) (fun hlt => ?_) (fun hge => ?_)
      · refine wc_exit ⟨i', j', g, by omega, by omega, by omega, rfl, ?_, ?_, ?_, ?_, sg, pm, mn, hU', hD'⟩
        · simp (disch := omega) only [ER4, reduceIte, Nat.reduceEqDiff, Nat.reduceAdd, g0]
        · simp (disch := omega) only [ER4, reduceIte, Nat.reduceEqDiff, Nat.reduceAdd, g1]
        · simp (disch := omega) only [ER4, reduceIte, Nat.reduceEqDiff, Nat.reduceAdd, g4]
        · simp (disch := omega) only [ER4, reduceIte, Nat.reduceEqDiff, Nat.reduceAdd, g5]
      · refine wc_skip ?_
        have hne : i' < j' := by
          rcases Nat.lt_or_ge i' j' with h | h
          · exact h
          · obtain rfl : i' = j' := by omega
            have := hU2 (by omega); rw [hD2 (by omega)] at this; cases this
        have r1 := hc1 i' (by omega)
        have r2 := hc1 j' (by omega)
        refine wc_seq (wc_opq fun Q1 hQ => ?_)
        simp (disch := omega) only [ER4, reduceIte, Nat.reduceEqDiff, Nat.reduceAdd, g0, g4, g5, hg1, r1, r2]
        refine hQ _ ?_
        clear hQ Q1
        refine wc_seq (wc_opq fun Q1 hQ => ?_)
        simp (disch := omega) only [ER4, reduceIte, Nat.reduceEqDiff, Nat.reduceAdd, g4]
        refine hQ _ ?_
        clear hQ Q1
        refine wc_opq fun Q1 hQ => ?_
        simp (disch := omega) only [ER4, reduceIte, Nat.reduceEqDiff, Nat.reduceAdd, g5]
        refine hQ _ ?_
        clear hQ Q1
        have ea : swp g i' j' a = g a := swp_o (by omega) (by omega)
        refine ⟨j' - 1 + 1 - (i' + 1), by omega, i' + 1, j' - 1, _, rfl, by omega, by omega, by omega, rfl, ?_, ?_, ?_, ?_, sg.swap hd1 ho1 (by omega) (by omega), pm.trans (PermOn.swap (by omega) (by omega)), ?_, fun k k1 k2 => ?_, fun k k1 k2 => ?_⟩
        · simp (disch := omega) only [ER4, reduceIte, Nat.reduceEqDiff, Nat.reduceAdd, g0]
        · simp (disch := omega) only [ER4, reduceIte, Nat.reduceEqDiff, Nat.reduceAdd, g1]
        · simp (disch := omega) only [ER4, reduceIte, Nat.reduceEqDiff, Nat.reduceAdd]
        · simp (disch := omega) only [ER4, reduceIte, Nat.reduceEqDiff, Nat.reduceAdd]
        · rw [ea]; exact (PermOn.swap (by omega) (by omega)).all (Q := fun z => ltR z (g a) = false) mn
        · rw [ea]
          by_cases hk : k = i'
          · subst hk; rw [swp_l]; exact hD2 (by omega)
          · rw [swp_o hk (by omega)]; exact hU' k k1 (by omega)
        · rw [ea]
          by_cases hk : k = j'
          · subst hk; rw [swp_r]; exact hU2 (by omega)
          · rw [swp_o (by omega) hk]; exact hD' k (by omega) k2
    · refine ⟨a + 1, b - 1, g, rfl, by omega, by omega, by omega, rfl, ?_, ?_, ?_, ?_, sg, pm, mn, fun k h1 h2 => by omega, fun k h1 h2 => by omega⟩
      all_goals simp (disch := omega) only [ER4, reduceIte, Nat.reduceEqDiff, Nat.reduceAdd, i0]
  · clear sg pm mn
    rintro l d h1 ⟨i, j, g, e, hai, hjb, rfl, g0, g1, g4, g5, sg, pm, mn, hU, hD⟩
    refine wc_seq (wc_opq fun Q1 hQ => ?_)
    simp (disch := omega) only [ER4, reduceIte, Nat.reduceEqDiff, Nat.reduceAdd, g4]
    refine hQ _ ?_
    clear hQ Q1
    have lo : ∀ x, a ≤ x → x < i → ltR (g a) (g x) = false := fun x x1 x2 => by
      by_cases hx : x = a
      · subst hx; exact ordR.irrefl _
      · exact hU x (by omega) x2
    refine wc_ret ⟨_, results_val results_nil, i, g, ?_, by omega, by omega, sg, pm, fun x y h1 h2 h3 => ordR.trans _ _ _ (lo x h1 (by omega)) (mn y (by omega) (by omega)), fun x y h1 h2 h3 h4 => ordR.trans _ _ _ (lo x h1 h2) (mn y (by omega) h4)⟩
    simp (disch := omega) only [ER4, reduceIte, Nat.reduceEqDiff, Nat.reduceAdd, one_one]
/-- a row that may be sorted already: where it says so, it is; whatever it does, it turns the row round -/
theorem partial_gp (t62 : tab 47 = some af47) (tc : CmpT tab)
    (hi : id < h.next) (hg : h.mem.get id = some (.cells c s p false)) (hc : RArr4 c o n f) (hab : a + 2 ≤ b) (hbn : b ≤ n) (hn : n < 2305843009213693952) (hlow : 0 < a → ∀ k, a ≤ k → k < b → ltR (f k) (f (a - 1)) = false) :
    GP tab 47 [.sl id o n cap, .int .i64 (a : Int), .int .i64 (b : Int), .fn 13 [] []] h fun v h1 => ∃ (q : Bool) (g : Nat → Rw), v = .bool q ∧ SegR h id o n s p c h1 g ∧ PermOn a b f g ∧ (q = true → Rises ltR a b g) := by
  have i0 : initLoc [.sl id o n cap, .int .i64 (a : Int), .int .i64 (b : Int), .fn 13 [] []] = ofList [.sl id o n cap, .int .i64 (a : Int), .int .i64 (b : Int), .fn 13 [] []] := rfl
  have low : ∀ {g : Nat → Rw}, PermOn a b f g → 0 < a → ltR (g a) (g (a - 1)) = false := fun pm h0 => by
    rw [pm.out (i := a - 1) (by omega)]
    exact pm.all (Q := fun z => ltR z (f (a - 1)) = false) (hlow h0) a (Nat.le_refl _) (by omega)
  refine gp_of t62 rfl ?_
  refine wc_seq (wc_opq fun Q1 hQ => ?_)
  simp (disch := omega) only [ER4, reduceIte, Nat.reduceEqDiff, Nat.reduceAdd, i0]
  refine hQ _ ?_
  clear hQ Q1
  refine wc_seq (wc_opq fun Q1 hQ => ?_)
  simp (disch := omega) only [ER4, reduceIte, Nat.reduceEqDiff, Nat.reduceAdd, i0]
  refine hQ _ ?_
  clear hQ Q1
  refine wc_mid (fun l d h1 => ∃ g, d = [] ∧ SegR h id o n s p c h1 g ∧ PermOn a b f g) ?_ ?_
  · refine wc_seq (wc_opq fun Q1 hQ => ?_)
    simp (disch := omega) only [ER4, reduceIte, Nat.reduceEqDiff, Nat.reduceAdd]
    refine hQ _ ?_
    clear hQ Q1
    refine wc_block ?_
    refine wc_while (fun k l d h1 => ∃ (t i : Nat) (g : Nat → Rw), k = 5 - t ∧ a < i ∧ i ≤ b ∧ d = [] ∧ (l.get 0 = some (.sl id o n cap) ∧ l.get 3 = some (.fn 13 [] [])) ∧ l.get 1 = some (.int .i64 (a : Int)) ∧ l.get 2 = some (.int .i64 (b : Int)) ∧ l.get 4 = some (.int .i64 (t : Int)) ∧ l.get 6 = some (.int .i64 (i : Int)) ∧
      SegR h id o n s p c h1 g ∧ PermOn a b f g ∧ Rises ltR a i g) ?_ (5 - 0) ?_
    · rintro k l d h1 ⟨t, i, g, hk, hai, hib, rfl, g0, g1, g2, g3, g5, sg, pm, ri⟩
      refine wc_seq ?_
      refine wc_seq (wc_opq fun Q1 hQ => ?_)
      simp (disch := omega) only [ER4, reduceIte, Nat.reduceEqDiff, Nat.reduceAdd, g3]
      refine hQ _ ?_
      clear hQ Q1
      refine wc_if (t < 5) (by simp (disch := omega) only [ER4, reduceIte, Nat.reduceEqDiff, Nat.reduceAdd]) (fun hlt => ?_) (fun hge => ?_)
      · refine wc_skip ?_
        refine wc_mid (fun l d h1 => ∃ (i : Nat) (g : Nat → Rw), a < i ∧ i ≤ b ∧ d = [] ∧ (l.get 0 = some (.sl id o n cap) ∧ l.get 3 = some (.fn 13 [] [])) ∧ l.get 1 = some (.int .i64 (a : Int)) ∧ l.get 2 = some (.int .i64 (b : Int)) ∧ l.get 4 = some (.int .i64 (t : Int)) ∧ l.get 6 = some (.int .i64 (i : Int)) ∧ SegR h id o n s p c h1 g ∧ PermOn a b f g ∧ Rises ltR a i g) ?_ ?_
        · refine wc_block ?_
          refine wc_mid (fun l d h2 => ∃ i : Nat, a < i ∧ i ≤ b ∧ SegR h id o n s p c h2 g ∧ d = [] ∧ (l.get 0 = some (.sl id o n cap) ∧ l.get 3 = some (.fn 13 [] [])) ∧ l.get 1 = some (.int .i64 (a : Int)) ∧ l.get 2 = some (.int .i64 (b : Int)) ∧ l.get 4 = some (.int .i64 (t : Int)) ∧ l.get 6 = some (.int .i64 (i : Int)) ∧ Rises ltR a i g ∧ (i < b → ltR (g i) (g (i - 1)) = true)) ?_ ?_
          · refine wc_block ?_
            refine wc_while (fun k l d h2 => ∃ i : Nat, k = b - i ∧ a < i ∧ i ≤ b ∧ SegR h id o n s p c h2 g ∧ d = [] ∧ (l.get 0 = some (.sl id o n cap) ∧ l.get 3 = some (.fn 13 [] [])) ∧ l.get 1 = some (.int .i64 (a : Int)) ∧ l.get 2 = some (.int .i64 (b : Int)) ∧ l.get 4 = some (.int .i64 (t : Int)) ∧ l.get 6 = some (.int .i64 (i : Int)) ∧ Rises ltR a i g) ?_ (b - i) ?_
            · obtain ⟨c1, hg1, hd1, ho1, hc1⟩ := sg.row
              clear ri g0 g1 g2 g3 g5 hai hib
              rintro k l d h2 ⟨i, hk, hai, hib, sg, rfl, g0, g1, g2, g3, g5, ri⟩
              obtain ⟨c1, hg1, hd1, ho1, hc1⟩ := sg.row
              refine wc_seq ?_
              by_cases hlb : i < b
              · have r1 := hc1 i (by omega)
                have r2 := hc1 (i - 1) (by omega)
                refine wc_seq (wc_opq fun Q1 hQ => ?_)
                simp (disch := omega) only [ER4, reduceIte, Nat.reduceEqDiff, Nat.reduceAdd, g0, g2, g5, hlb, hg1, r1, r2, cmp_rw tc, cmp_lt]
                refine hQ _ ?_
                clear hQ Q1
                have sg := sg.cmp (x := (g i)) (y := (g (i - 1)))
                generalize hcm (g i) (g (i - 1)) _ = h9 at sg ⊢
                obtain ⟨c1, hg1, hd1, ho1, hc1⟩ := sg.row
                have r1 := hc1 i (by omega)
                have r2 := hc1 (i - 1) (by omega)
                refine wc_cond (q := !ltR (g i) (g (i - 1))) (by simp (disch := omega) only [ER4, reduceIte, Nat.reduceEqDiff, Nat.reduceAdd]) (fun hl => ?_) (fun hl => ?_)
                · refine wc_skip (wc_block ?_)
                  refine wc_opq fun Q1 hQ => ?_
                  simp (disch := omega) only [ER4, reduceIte, Nat.reduceEqDiff, Nat.reduceAdd, g5]
                  refine hQ _ ?_
                  clear hQ Q1
                  refine ⟨b - (i + 1), by omega, i + 1, rfl, by omega, by omega, sg, rfl, ?_, ?_, ?_, ?_, ?_, ?_⟩
                  · simp (disch := omega) only [ER4, reduceIte, Nat.reduceEqDiff, Nat.reduceAdd, g0]
                  · simp (disch := omega) only [ER4, reduceIte, Nat.reduceEqDiff, Nat.reduceAdd, g1]
                  · simp (disch := omega) only [ER4, reduceIte, Nat.reduceEqDiff, Nat.reduceAdd, g2]
                  · simp (disch := omega) only [ER4, reduceIte, Nat.reduceEqDiff, Nat.reduceAdd, g3]
                  · simp (disch := omega) only [ER4, reduceIte, Nat.reduceEqDiff, Nat.reduceAdd]
                  · refine rises_of_step ordR fun x x1 x2 => ?_
                    by_cases hx : x = i
                    · subst hx; simpa using hl
                    · exact ri (x - 1) x (by omega) (by omega) (by omega)
                · refine wc_exit ⟨i, hai, hib, sg, rfl, ?_, ?_, ?_, ?_, ?_, ri, fun _ => by simpa using hl⟩
                  · simp (disch := omega) only [ER4, reduceIte, Nat.reduceEqDiff, Nat.reduceAdd, g0]
                  · simp (disch := omega) only [ER4, reduceIte, Nat.reduceEqDiff, Nat.reduceAdd, g1]
                  · simp (disch := omega) only [ER4, reduceIte, Nat.reduceEqDiff, Nat.reduceAdd, g2]
                  · simp (disch := omega) only [ER4, reduceIte, Nat.reduceEqDiff, Nat.reduceAdd, g3]
                  · simp (disch := omega) only [ER4, reduceIte, Nat.reduceEqDiff, Nat.reduceAdd, g5]
              · refine wc_seq (wc_opq fun Q1 hQ => ?_)
                simp (disch := omega) only [ER4, reduceIte, Nat.reduceEqDiff, Nat.reduceAdd, g0, g2, g5, hlb]
                refine hQ _ ?_
                clear hQ Q1
                refine wc_no (by simp (disch := omega) only [ER4, reduceIte, Nat.reduceEqDiff, Nat.reduceAdd]) (wc_exit ⟨i, hai, hib, sg, rfl, ?_, ?_, ?_, ?_, ?_, ri, fun h => absurd h hlb⟩)
                · simp (disch := omega) only [ER4, reduceIte, Nat.reduceEqDiff, Nat.reduceAdd, g0]
                · simp (disch := omega) only [ER4, reduceIte, Nat.reduceEqDiff, Nat.reduceAdd, g1]
                · simp (disch := omega) only [ER4, reduceIte, Nat.reduceEqDiff, Nat.reduceAdd, g2]
                · simp (disch := omega) only [ER4, reduceIte, Nat.reduceEqDiff, Nat.reduceAdd, g3]
                · simp (disch := omega) only [ER4, reduceIte, Nat.reduceEqDiff, Nat.reduceAdd, g5]
            · refine ⟨i, rfl, hai, hib, sg, rfl, ?_, ?_, ?_, ?_, ?_, ri⟩
              · simp (disch := omega) only [ER4, reduceIte, Nat.reduceEqDiff, Nat.reduceAdd, g0]
              · simp (disch := omega) only [ER4, reduceIte, Nat.reduceEqDiff, Nat.reduceAdd, g1]
              · simp (disch := omega) only [ER4, reduceIte, Nat.reduceEqDiff, Nat.reduceAdd, g2]
              · simp (disch := omega) only [ER4, reduceIte, Nat.reduceEqDiff, Nat.reduceAdd, g3]
              · simp (disch := omega) only [ER4, reduceIte, Nat.reduceEqDiff, Nat.reduceAdd, g5]
          clear ri g0 g1 g2 g3 g5 hai hib
          rintro l d h2 ⟨i, hai, hib, sg, rfl, g0, g1, g2, g3, g5, ri, hls⟩
          obtain ⟨c1, hg1, hd1, ho1, hc1⟩ := sg.row
          refine wc_seq ?_
          refine wc_seq (wc_opq fun Q1 hQ => ?_)
          simp (disch := omega) only [ER4, reduceIte, Nat.reduceEqDiff, Nat.reduceAdd, g2, g5]
          refine hQ _ ?_
          clear hQ Q1
          refine wc_if (i = b) (by simp (disch := omega) only [ER4, reduceIte, Nat.reduceEqDiff, Nat.reduceAdd]) (fun e => ?_) (fun hne => ?_)
          · refine wc_seq (wc_opq fun Q1 hQ => ?_)
            simp (disch := omega) only [ER4, reduceIte, Nat.reduceEqDiff, Nat.reduceAdd]
            refine hQ _ ?_
            clear hQ Q1
            refine wc_ret ⟨_, results_val results_nil, true, g, ?_, sg, pm, fun _ => by subst e; exact ri⟩
            simp (disch := omega) only [ER4, reduceIte, Nat.reduceEqDiff, Nat.reduceAdd, one_one]
          refine wc_skip (wc_seq ?_)
          refine wc_seq (wc_opq fun Q1 hQ => ?_)
          simp (disch := omega) only [ER4, reduceIte, Nat.reduceEqDiff, Nat.reduceAdd, g1, g2]
          refine hQ _ ?_
          clear hQ Q1
          refine wc_if (b - a < 50) (by simp (disch := omega) only [ER4, reduceIte, Nat.reduceEqDiff, Nat.reduceAdd]) (fun e => ?_) (fun h50 => ?_)
          · refine wc_seq (wc_opq fun Q1 hQ => ?_)
            simp (disch := omega) only [ER4, reduceIte, Nat.reduceEqDiff, Nat.reduceAdd]
            refine hQ _ ?_
            clear hQ Q1
            refine wc_ret ⟨_, results_val results_nil, false, g, ?_, sg, pm, fun h => by cases h⟩
            simp (disch := omega) only [ER4, reduceIte, Nat.reduceEqDiff, Nat.reduceAdd, one_one]
          refine wc_skip ?_
          have hl := hls (by omega)
          clear hls
          obtain ⟨c1, hg1, hd1, ho1, hc1⟩ := sg.row
          have r1 := hc1 i (by omega)
          have r2 := hc1 (i - 1) (by omega)
          refine wc_seq (wc_opq fun Q1 hQ => ?_)
          simp (disch := omega) only [ER4, reduceIte, Nat.reduceEqDiff, Nat.reduceAdd, g0, g5, hg1, r1, r2]
          refine hQ _ ?_
          clear hQ Q1
          have sw := sg.swap (X := (AObj.cells (putR (g (i - 1)) c1 (o + i * 4)) s p false)) hd1 ho1 (i := i) (j := i - 1) (by omega) (by omega)
          have pm2 : PermOn a b f (swp g i (i - 1)) := pm.trans (PermOn.swap (by omega) (by omega))
          have ri2 : Rises ltR a (i - 1) (swp g i (i - 1)) := rises_swp (fun x y h1 h2 h3 => ri x y h1 h2 (by omega)) (by omega) (by omega)
          generalize swp g i (i - 1) = g' at *
          generalize ((AH.set _ id (AObj.cells (putR (g (i - 1)) c1 (o + i * 4)) s p false)).set id _) = h2 at *
          clear hg1 hd1 ho1 r1 r2 sg pm ri hl
          refine wc_mid (fun l d h3 => ∃ g : Nat → Rw, d = [] ∧ (l.get 0 = some (.sl id o n cap) ∧ l.get 3 = some (.fn 13 [] [])) ∧ l.get 1 = some (.int .i64 (a : Int)) ∧ l.get 2 = some (.int .i64 (b : Int)) ∧ l.get 4 = some (.int .i64 (t : Int)) ∧ l.get 6 = some (.int .i64 (i : Int)) ∧ SegR h id o n s p c h3 g ∧ PermOn a b f g ∧ Rises ltR a i g) ?_ ?_
          · refine wc_seq (wc_opq fun Q1 hQ => ?_)
            simp (disch := omega) only [ER4, reduceIte, Nat.reduceEqDiff, Nat.reduceAdd, g1, g5]
            refine hQ _ ?_
            clear hQ Q1
            refine wc_if (2 ≤ i - a) (by simp (disch := omega) only [ER4, reduceIte, Nat.reduceEqDiff, Nat.reduceAdd]) (fun h2a => ?_) (fun h2a => ?_)
            · refine wc_seq (wc_opq fun Q1 hQ => ?_)
              simp (disch := omega) only [ER4, reduceIte, Nat.reduceEqDiff, Nat.reduceAdd, g5]
              refine hQ _ ?_
              clear hQ Q1
              refine wc_block ?_
              refine wc_while (fun k l d h3 => ∃ (j : Nat) (g : Nat → Rw), k = j ∧ a ≤ j ∧ j ≤ i - 1 ∧ d = [] ∧ (l.get 0 = some (.sl id o n cap) ∧ l.get 3 = some (.fn 13 [] [])) ∧ l.get 1 = some (.int .i64 (a : Int)) ∧ l.get 2 = some (.int .i64 (b : Int)) ∧ l.get 4 = some (.int .i64 (t : Int)) ∧ l.get 6 = some (.int .i64 (i : Int)) ∧ l.get 11 = some (.int .i64 (j : Int)) ∧ SegR h id o n s p c h3 g ∧ PermOn a b f g ∧ InsInv ltR a (i - 1) j g) ?_ (i - 1) ?_
              · clear g0 g1 g2 g3 g5
                rintro k l d h3 ⟨j, g, rfl, haj, hji, rfl, g0, g1, g2, g3, g5, g10, sg, pm, iv⟩
                obtain ⟨c1, hg1, hd1, ho1, hc1⟩ := sg.row
                refine wc_seq ?_
                refine wc_seq (wc_opq fun Q1 hQ => ?_)
                simp (disch := omega) only [ER4, reduceIte, Nat.reduceEqDiff, Nat.reduceAdd, g10]
                refine hQ _ ?_
                clear hQ Q1
                refine wc_if (1 ≤ k) (by simp (disch := omega) only [ER4, reduceIte, Nat.reduceEqDiff, Nat.reduceAdd]) (fun hk1 => ?_) (fun hk1 => ?_)
                · refine wc_skip ?_
                  have r1 := hc1 k (by omega)
                  have r2 := hc1 (k - 1) (by omega)
                  refine wc_seq (wc_block (wc_seq ?_))
                  refine wc_seq (wc_opq fun Q1 hQ => ?_)
                  simp (disch := omega) only [ER4, reduceIte, Nat.reduceEqDiff, Nat.reduceAdd, g0, g10, hg1, r1, r2, cmp_rw tc, cmp_lt]
                  refine hQ _ ?_
                  clear hQ Q1
                  have sg := sg.cmp (x := (g k)) (y := (g (k - 1)))
                  generalize hcm (g k) (g (k - 1)) _ = h9 at sg ⊢
                  obtain ⟨c1, hg1, hd1, ho1, hc1⟩ := sg.row
                  have r1 := hc1 k (by omega)
                  have r2 := hc1 (k - 1) (by omega)
                  refine wc_cond (q := !ltR (g k) (g (k - 1))) (by simp (disch := omega) only [ER4, reduceIte, Nat.reduceEqDiff, Nat.reduceAdd]) (fun hl => ?_) (fun hl => ?_)
                  · refine wc_exit ⟨g, rfl, ?_, ?_, ?_, ?_, ?_, sg, pm, ?_⟩
                    · simp (disch := omega) only [ER4, reduceIte, Nat.reduceEqDiff, Nat.reduceAdd, g0]
                    · simp (disch := omega) only [ER4, reduceIte, Nat.reduceEqDiff, Nat.reduceAdd, g1]
                    · simp (disch := omega) only [ER4, reduceIte, Nat.reduceEqDiff, Nat.reduceAdd, g2]
                    · simp (disch := omega) only [ER4, reduceIte, Nat.reduceEqDiff, Nat.reduceAdd, g3]
                    · simp (disch := omega) only [ER4, reduceIte, Nat.reduceEqDiff, Nat.reduceAdd, g5]
                    · have := ins_stop ordR iv (.inr (by simpa using hl))
                      rwa [show i - 1 + 1 = i by omega] at this
                  · refine wc_skip ?_
                    have hl : ltR (g k) (g (k - 1)) = true := by simpa using hl
                    have hak : a < k := by
                      rcases Nat.lt_or_ge a k with h | h
                      · exact h
                      · obtain rfl : a = k := by omega
                        rw [low pm hk1] at hl; cases hl
                    refine wc_opq fun Q1 hQ => ?_
                    simp (disch := omega) only [ER4, reduceIte, Nat.reduceEqDiff, Nat.reduceAdd, g0, g10, hg1, r1, r2]
                    refine hQ _ ?_
                    clear hQ Q1
                    refine wc_opq fun Q1 hQ => ?_
                    simp (disch := omega) only [ER4, reduceIte, Nat.reduceEqDiff, Nat.reduceAdd, g10]
                    refine hQ _ ?_
                    clear hQ Q1
                    refine ⟨k - 1, by omega, k - 1, _, rfl, by omega, by omega, rfl, ?_, ?_, ?_, ?_, ?_, ?_, sg.swap hd1 ho1 (by omega) (by omega), pm.trans (PermOn.swap (by omega) (by omega)), ins_step ordR hak hji iv hl⟩
                    · simp (disch := omega) only [ER4, reduceIte, Nat.reduceEqDiff, Nat.reduceAdd, g0]
                    · simp (disch := omega) only [ER4, reduceIte, Nat.reduceEqDiff, Nat.reduceAdd, g1]
                    · simp (disch := omega) only [ER4, reduceIte, Nat.reduceEqDiff, Nat.reduceAdd, g2]
                    · simp (disch := omega) only [ER4, reduceIte, Nat.reduceEqDiff, Nat.reduceAdd, g3]
                    · simp (disch := omega) only [ER4, reduceIte, Nat.reduceEqDiff, Nat.reduceAdd, g5]
                    · simp (disch := omega) only [ER4, reduceIte, Nat.reduceEqDiff, Nat.reduceAdd]
                · refine wc_exit ⟨g, rfl, ?_, ?_, ?_, ?_, ?_, sg, pm, ?_⟩
                  · simp (disch := omega) only [ER4, reduceIte, Nat.reduceEqDiff, Nat.reduceAdd, g0]
                  · simp (disch := omega) only [ER4, reduceIte, Nat.reduceEqDiff, Nat.reduceAdd, g1]
                  · simp (disch := omega) only [ER4, reduceIte, Nat.reduceEqDiff, Nat.reduceAdd, g2]
                  · simp (disch := omega) only [ER4, reduceIte, Nat.reduceEqDiff, Nat.reduceAdd, g3]
                  · simp (disch := omega) only [ER4, reduceIte, Nat.reduceEqDiff, Nat.reduceAdd, g5]
                  · have := ins_stop ordR iv (.inl (by omega))
                    rwa [show i - 1 + 1 = i by omega] at this
              · refine ⟨i - 1, g', rfl, by omega, by omega, rfl, ?_, ?_, ?_, ?_, ?_, ?_, sw, pm2, ins_start ri2⟩
                · simp (disch := omega) only [ER4, reduceIte, Nat.reduceEqDiff, Nat.reduceAdd, g0]
                · simp (disch := omega) only [ER4, reduceIte, Nat.reduceEqDiff, Nat.reduceAdd, g1]
                · simp (disch := omega) only [ER4, reduceIte, Nat.reduceEqDiff, Nat.reduceAdd, g2]
                · simp (disch := omega) only [ER4, reduceIte, Nat.reduceEqDiff, Nat.reduceAdd, g3]
                · simp (disch := omega) only [ER4, reduceIte, Nat.reduceEqDiff, Nat.reduceAdd, g5]
                · simp (disch := omega) only [ER4, reduceIte, Nat.reduceEqDiff, Nat.reduceAdd]
            · refine wc_skip ⟨g', rfl, ?_, ?_, ?_, ?_, ?_, sw, pm2, rises_short ordR (by omega)⟩
              · simp (disch := omega) only [ER4, reduceIte, Nat.reduceEqDiff, Nat.reduceAdd, g0]
              · simp (disch := omega) only [ER4, reduceIte, Nat.reduceEqDiff, Nat.reduceAdd, g1]
              · simp (disch := omega) only [ER4, reduceIte, Nat.reduceEqDiff, Nat.reduceAdd, g2]
              · simp (disch := omega) only [ER4, reduceIte, Nat.reduceEqDiff, Nat.reduceAdd, g3]
              · simp (disch := omega) only [ER4, reduceIte, Nat.reduceEqDiff, Nat.reduceAdd, g5]
          · clear g0 g1 g2 g3 g5 sw pm2 ri2
            rintro l d h3 ⟨g, rfl, g0, g1, g2, g3, g5, sg, pm, ri⟩
            refine wc_seq (wc_opq fun Q1 hQ => ?_)
            simp (disch := omega) only [ER4, reduceIte, Nat.reduceEqDiff, Nat.reduceAdd, g2, g5]
            refine hQ _ ?_
            clear hQ Q1
            refine wc_if (2 ≤ b - i) (by simp (disch := omega) only [ER4, reduceIte, Nat.reduceEqDiff, Nat.reduceAdd]) (fun h2b => ?_) (fun h2b => ?_)
            · refine wc_seq (wc_opq fun Q1 hQ => ?_)
              simp (disch := omega) only [ER4, reduceIte, Nat.reduceEqDiff, Nat.reduceAdd, g5]
              refine hQ _ ?_
              clear hQ Q1
              refine wc_block ?_
              refine wc_while (fun k l d h3 => ∃ (j : Nat) (g : Nat → Rw), k = b - j ∧ i < j ∧ j ≤ b ∧ d = [] ∧ (l.get 0 = some (.sl id o n cap) ∧ l.get 3 = some (.fn 13 [] [])) ∧ l.get 1 = some (.int .i64 (a : Int)) ∧ l.get 2 = some (.int .i64 (b : Int)) ∧ l.get 4 = some (.int .i64 (t : Int)) ∧ l.get 6 = some (.int .i64 (i : Int)) ∧ l.get 15 = some (.int .i64 (j : Int)) ∧ SegR h id o n s p c h3 g ∧ PermOn a b f g ∧ Rises ltR a i g) ?_ (b - (i + 1)) ?_
              · clear g0 g1 g2 g3 g5 sg pm ri
                rintro k l d h3 ⟨j, g, hk, haj, hji, rfl, g0, g1, g2, g3, g5, g14, sg, pm, ri⟩
                obtain ⟨c1, hg1, hd1, ho1, hc1⟩ := sg.row
                refine wc_seq ?_
                refine wc_seq (wc_opq fun Q1 hQ => ?_)
                simp (disch := omega) only [ER4, reduceIte, Nat.reduceEqDiff, Nat.reduceAdd, g14, g2]
                refine hQ _ ?_
                clear hQ Q1
                refine wc_if (j < b) (by simp (disch := omega) only [ER4, reduceIte, Nat.reduceEqDiff, Nat.reduceAdd]) (fun hk1 => ?_) (fun hk1 => ?_)
                · refine wc_skip ?_
                  have r1 := hc1 j (by omega)
                  have r2 := hc1 (j - 1) (by omega)
                  refine wc_seq (wc_block (wc_seq ?_))
                  refine wc_seq (wc_opq fun Q1 hQ => ?_)
                  simp (disch := omega) only [ER4, reduceIte, Nat.reduceEqDiff, Nat.reduceAdd, g0, g14, hg1, r1, r2, cmp_rw tc, cmp_lt]
                  refine hQ _ ?_
                  clear hQ Q1
                  have sg := sg.cmp (x := (g j)) (y := (g (j - 1)))
                  generalize hcm (g j) (g (j - 1)) _ = h9 at sg ⊢
                  obtain ⟨c1, hg1, hd1, ho1, hc1⟩ := sg.row
                  have r1 := hc1 j (by omega)
                  have r2 := hc1 (j - 1) (by omega)
                  refine wc_cond (q := !ltR (g j) (g (j - 1))) (by simp (disch := omega) only [ER4, reduceIte, Nat.reduceEqDiff, Nat.reduceAdd]) (fun hl => ?_) (fun hl => ?_)
                  · refine wc_exit ⟨i, g, hai, hib, rfl, ?_, ?_, ?_, ?_, ?_, sg, pm, ri⟩
                    · simp (disch := omega) only [ER4, reduceIte, Nat.reduceEqDiff, Nat.reduceAdd, g0]
                    · simp (disch := omega) only [ER4, reduceIte, Nat.reduceEqDiff, Nat.reduceAdd, g1]
                    · simp (disch := omega) only [ER4, reduceIte, Nat.reduceEqDiff, Nat.reduceAdd, g2]
                    · simp (disch := omega) only [ER4, reduceIte, Nat.reduceEqDiff, Nat.reduceAdd, g3]
                    · simp (disch := omega) only [ER4, reduceIte, Nat.reduceEqDiff, Nat.reduceAdd, g5]
                  · refine wc_skip ?_
                    refine wc_opq fun Q1 hQ => ?_
                    simp (disch := omega) only [ER4, reduceIte, Nat.reduceEqDiff, Nat.reduceAdd, g0, g14, hg1, r1, r2]
                    refine hQ _ ?_
                    clear hQ Q1
                    refine wc_opq fun Q1 hQ => ?_
                    simp (disch := omega) only [ER4, reduceIte, Nat.reduceEqDiff, Nat.reduceAdd, g14]
                    refine hQ _ ?_
                    clear hQ Q1
                    refine ⟨b - (j + 1), by omega, j + 1, _, rfl, by omega, by omega, rfl, ?_, ?_, ?_, ?_, ?_, ?_, sg.swap hd1 ho1 (by omega) (by omega), pm.trans (PermOn.swap (by omega) (by omega)), rises_swp ri (by omega) (by omega)⟩
                    · simp (disch := omega) only [ER4, reduceIte, Nat.reduceEqDiff, Nat.reduceAdd, g0]
                    · simp (disch := omega) only [ER4, reduceIte, Nat.reduceEqDiff, Nat.reduceAdd, g1]
                    · simp (disch := omega) only [ER4, reduceIte, Nat.reduceEqDiff, Nat.reduceAdd, g2]
                    · simp (disch := omega) only [ER4, reduceIte, Nat.reduceEqDiff, Nat.reduceAdd, g3]
                    · simp (disch := omega) only [ER4, reduceIte, Nat.reduceEqDiff, Nat.reduceAdd, g5]
                    · simp (disch := omega) only [ER4, reduceIte, Nat.reduceEqDiff, Nat.reduceAdd]
                · refine wc_exit ⟨i, g, hai, hib, rfl, ?_, ?_, ?_, ?_, ?_, sg, pm, ri⟩
                  · simp (disch := omega) only [ER4, reduceIte, Nat.reduceEqDiff, Nat.reduceAdd, g0]
                  · simp (disch := omega) only [ER4, reduceIte, Nat.reduceEqDiff, Nat.reduceAdd, g1]
                  · simp (disch := omega) only [ER4, reduceIte, Nat.reduceEqDiff, Nat.reduceAdd, g2]
                  · simp (disch := omega) only [ER4, reduceIte, Nat.reduceEqDiff, Nat.reduceAdd, g3]
                  · simp (disch := omega) only [ER4, reduceIte, Nat.reduceEqDiff, Nat.reduceAdd, g5]
              · refine ⟨i + 1, g, rfl, by omega, by omega, rfl, ?_, ?_, ?_, ?_, ?_, ?_, sg, pm, ri⟩
                · simp (disch := omega) only [ER4, reduceIte, Nat.reduceEqDiff, Nat.reduceAdd, g0]
                · simp (disch := omega) only [ER4, reduceIte, Nat.reduceEqDiff, Nat.reduceAdd, g1]
                · simp (disch := omega) only [ER4, reduceIte, Nat.reduceEqDiff, Nat.reduceAdd, g2]
                · simp (disch := omega) only [ER4, reduceIte, Nat.reduceEqDiff, Nat.reduceAdd, g3]
                · simp (disch := omega) only [ER4, reduceIte, Nat.reduceEqDiff, Nat.reduceAdd, g5]
                · simp (disch := omega) only [ER4, reduceIte, Nat.reduceEqDiff, Nat.reduceAdd]
            · refine wc_skip ⟨i, g, hai, hib, rfl, ?_, ?_, ?_, ?_, ?_, sg, pm, ri⟩
              · simp (disch := omega) only [ER4, reduceIte, Nat.reduceEqDiff, Nat.reduceAdd, g0]
              · simp (disch := omega) only [ER4, reduceIte, Nat.reduceEqDiff, Nat.reduceAdd, g1]
              · simp (disch := omega) only [ER4, reduceIte, Nat.reduceEqDiff, Nat.reduceAdd, g2]
              · simp (disch := omega) only [ER4, reduceIte, Nat.reduceEqDiff, Nat.reduceAdd, g3]
              · simp (disch := omega) only [ER4, reduceIte, Nat.reduceEqDiff, Nat.reduceAdd, g5]
        · clear g0 g1 g2 g3 g5 sg pm ri hai hib
          rintro l d h2 ⟨i, g, hai, hib, rfl, g0, g1, g2, g3, g5, sg, pm, ri⟩
          refine wc_opq fun Q1 hQ => ?_
          simp (disch := omega) only [ER4, reduceIte, Nat.reduceEqDiff, Nat.reduceAdd, g3]
          refine hQ _ ?_
          clear hQ Q1
          refine ⟨5 - (t + 1), by omega, t + 1, i, g, rfl, hai, hib, rfl, ?_, ?_, ?_, ?_, ?_, sg, pm, ri⟩
          · simp (disch := omega) only [ER4, reduceIte, Nat.reduceEqDiff, Nat.reduceAdd, g0]
          · simp (disch := omega) only [ER4, reduceIte, Nat.reduceEqDiff, Nat.reduceAdd, g1]
          · simp (disch := omega) only [ER4, reduceIte, Nat.reduceEqDiff, Nat.reduceAdd, g2]
          · simp (disch := omega) only [ER4, reduceIte, Nat.reduceEqDiff, Nat.reduceAdd]
          · simp (disch := omega) only [ER4, reduceIte, Nat.reduceEqDiff, Nat.reduceAdd, g5]
      · exact wc_exit ⟨g, rfl, sg, pm⟩
    · refine ⟨0, a + 1, f, rfl, by omega, by omega, rfl, ?_, ?_, ?_, ?_, ?_, SegR.start hi hg hc, PermOn.refl, rises_short ordR (by omega)⟩
      all_goals simp (disch := omega) only [ER4, reduceIte, Nat.reduceEqDiff, Nat.reduceAdd, i0]
  · rintro l d h1 ⟨g, rfl, sg, pm⟩
    refine wc_seq (wc_opq fun Q1 hQ => ?_)
    simp (disch := omega) only [ER4, reduceIte, Nat.reduceEqDiff, Nat.reduceAdd]
    refine hQ _ ?_
    clear hQ Q1
    refine wc_ret ⟨_, results_val results_nil, false, g, ?_, sg, pm, fun h => by cases h⟩
    simp (disch := omega) only [ER4, reduceIte, Nat.reduceEqDiff, Nat.reduceAdd, one_one]
end
end Go.Ev

namespace Go.Ev
open Go
set_option linter.unusedSimpArgs false
set_option linter.unusedVariables false
set_option maxRecDepth 100000
set_option maxHeartbeats 4000000
/-- the table holds the functions of sorting -/
structure SortT (tab : Nat → Option AFunc) : Prop where
  cmp : CmpT tab
  ins : tab 42 = some af42
  ord2 : tab 100 = some af100
  med : tab 68 = some af68
  adj : tab 67 = some af67
  piv : tab 45 = some af45
  rev : tab 46 = some af46
  sift : tab 64 = some af64
  heap : tab 43 = some af43
  brk : tab 44 = some af44
  pow2 : tab 65 = some af65
  next : tab 66 = some af66
  len : tab 27 = some af27
  len64 : tab 51 = some af51
  part : tab 49 = some af49
  partE : tab 48 = some af48
  pins : tab 47 = some af47
  pdq : tab 26 = some af26
  sort : tab 12 = some af12
section
variable {tab : Nat → Option AFunc} {h : AH} {id o n s a b : Nat} {p : Bool} {cap : ACap} {c : T AV} {f : Nat → Rw}
/-- what is left to sort: a' .. b' of a .. b -/
structure Left (a b a' b' : Nat) (g : Nat → Rw) : Prop where
  lo : a ≤ a'
  mid : a' ≤ b'
  hi : b' ≤ b
  low : Rises ltR a a' g
  top : Rises ltR b' b g
  cutA : ∀ x y, a ≤ x → x < a' → a' ≤ y → y < b → ltR (g y) (g x) = false
  cutB : ∀ x y, a ≤ x → x < b' → b' ≤ y → y < b → ltR (g y) (g x) = false
  base : 0 < a → ∀ k, a ≤ k → k < b → ltR (g k) (g (a - 1)) = false
theorem Left.perm {a' b' : Nat} {g g' : Nat → Rw} (x : Left a b a' b' g) (pm : PermOn a' b' g g') : Left a b a' b' g' := by
  obtain ⟨x1, x2, x3, x4, x5, x6, x7, x8⟩ := x
  have w : PermOn a b g g' := pm.wider x1 x3
  refine ⟨x1, x2, x3, fun i j h1 h2 h3 => ?_, fun i j h1 h2 h3 => ?_, fun i j h1 h2 h3 h4 => ?_, fun i j h1 h2 h3 h4 => ?_, fun h0 k h1 h2 => ?_⟩
  · rw [pm.out (i := i) (by omega), pm.out (i := j) (by omega)]; exact x4 i j h1 h2 h3
  · rw [pm.out (i := i) (by omega), pm.out (i := j) (by omega)]; exact x5 i j h1 h2 h3
  · rw [pm.out (i := i) (by omega)]
    by_cases hj : j < b'
    · exact pm.all (Q := fun z => ltR z (g i) = false) (fun y y1 y2 => x6 i y h1 h2 y1 (by omega)) j h3 hj
    · rw [pm.out (i := j) (by omega)]; exact x6 i j h1 h2 h3 h4
  · rw [pm.out (i := j) (by omega)]
    by_cases hi : a' ≤ i
    · exact pm.all (Q := fun z => ltR (g j) z = false) (fun y y1 y2 => x7 y j (by omega) y2 h3 h4) i hi h2
    · rw [pm.out (i := i) (by omega)]; exact x7 i j h1 h2 h3 h4
  · rw [w.out (i := a - 1) (by omega)]
    exact w.all (Q := fun z => ltR z (g (a - 1)) = false) (x8 h0) k h1 h2
theorem Left.done {a' b' : Nat} {g : Nat → Rw} (x : Left a b a' b' g) (r : Rises ltR a' b' g) : Rises ltR a b g := by
  obtain ⟨x1, x2, x3, x4, x5, x6, x7, x8⟩ := x
  intro i j h1 h2 h3
  by_cases hj : j < a'
  · exact x4 i j h1 h2 hj
  by_cases hi : i < a'
  · exact x6 i j h1 hi (by omega) h3
  by_cases hj2 : j < b'
  · exact r i j (by omega) h2 hj2
  by_cases hi2 : i < b'
  · exact x7 i j h1 hi2 (by omega) h3
  · exact x5 i j (by omega) h2 h3
/-- all ahead of a' are no more than those from a' on -/
theorem Left.under {a' b' : Nat} {g : Nat → Rw} (x : Left a b a' b' g) (h0 : 0 < a') : ∀ k, a' ≤ k → k < b' → ltR (g k) (g (a' - 1)) = false := fun k h1 h2 => by
  have := x.lo
  have := x.hi
  by_cases h : a = a'
  · subst h; exact x.base h0 k h1 (by omega)
  · exact x.cutA (a' - 1) k (by omega) (by omega) h1 (by omega)
theorem pdq_gp (t : SortT tab) (hn : n < 2305843009213693952) : ∀ (m : Nat) {h : AH} {a b : Nat} {c : T AV} {f : Nat → Rw} {z : Int}, b - a ≤ m → id < h.next → h.mem.get id = some (.cells c s p false) → RArr4 c o n f → a ≤ b → b ≤ n → (0 < a → ∀ k, a ≤ k → k < b → ltR (f k) (f (a - 1)) = false) →
    GP tab 26 [.sl id o n cap, .int .i64 (a : Int), .int .i64 (b : Int), .int .i64 z, .fn 13 [] []] h fun _ h1 => ∃ g, SegR h id o n s p c h1 g ∧ PermOn a b f g ∧ Rises ltR a b g := by
  intro m
  induction m using Nat.strongRecOn with
  | ind m ih =>
  intro h a b c f z hm hi hg hc hab hbn hlow
  have i0 : initLoc [.sl id o n cap, .int .i64 (a : Int), .int .i64 (b : Int), .int .i64 z, .fn 13 [] []] = ofList [.sl id o n cap, .int .i64 (a : Int), .int .i64 (b : Int), .int .i64 z, .fn 13 [] []] := rfl
  refine gp_of t.pdq rfl ?_
  refine wc_seq (wc_opq fun Q1 hQ => ?_)
  simp (disch := omega) only [ER4, reduceIte, Nat.reduceEqDiff, Nat.reduceAdd, i0]
  refine hQ _ ?_
  clear hQ Q1
  refine wc_seq (wc_opq fun Q1 hQ => ?_)
  simp (disch := omega) only [ER4, reduceIte, Nat.reduceEqDiff, Nat.reduceAdd, i0]
  refine hQ _ ?_
  clear hQ Q1
  refine wc_block ?_
  refine wc_while (fun k l d h1 => ∃ (a' b' : Nat) (g : Nat → Rw), k = b' - a' ∧ d = [] ∧ (l.get 0 = some (.sl id o n cap) ∧ l.get 4 = some (.fn 13 [] [])) ∧ l.get 1 = some (.int .i64 (a' : Int)) ∧ l.get 2 = some (.int .i64 (b' : Int)) ∧ (∃ z : Int, l.get 3 = some (.int .i64 z)) ∧ (∃ q : Bool, l.get 8 = some (.bool q)) ∧ (∃ q : Bool, l.get 13 = some (.bool q)) ∧ SegR h id o n s p c h1 g ∧ PermOn a b f g ∧ Left a b a' b' g) ?_ (b - a) ?_
  · rintro k l d h1 ⟨a', b', g, hk, rfl, g0, g1, g2, ⟨z3, g3⟩, ⟨q7, g7⟩, ⟨q12, g12⟩, sg, pm, lf⟩
    have la := lf.lo
    have lm := lf.mid
    have lb := lf.hi
    refine wc_block ?_
    refine wc_seq (wc_opq fun Q1 hQ => ?_)
    simp (disch := omega) only [ER4, reduceIte, Nat.reduceEqDiff, Nat.reduceAdd, g1, g2]
    refine hQ _ ?_
    clear hQ Q1
    refine wc_seq ?_
    refine wc_seq (wc_opq fun Q1 hQ => ?_)
    simp (disch := omega) only [ER4, reduceIte, Nat.reduceEqDiff, Nat.reduceAdd]
    refine hQ _ ?_
    clear hQ Q1
    refine wc_if (b' - a' ≤ 12) (by simp (disch := omega) only [ER4, reduceIte, Nat.reduceEqDiff, Nat.reduceAdd]) (fun hle => ?_) (fun hgt => ?_)
    · obtain ⟨c1, hg1, hd1, ho1, hc1⟩ := sg.row
      refine wc_seq (wc_opq fun Q1 hQ => ?_)
      simp (disch := omega) only [ER4, reduceIte, Nat.reduceEqDiff, Nat.reduceAdd, g0, g1, g2]
      refine (insertion_gp t.ins t.cmp (Nat.lt_of_lt_of_le hi sg.more.next) hg1 hd1 lm (by omega) (by omega)).mono ?_
      rintro v h2 ⟨g', sg', pm', ri⟩
      refine hQ _ ?_
      clear hQ Q1
      exact wc_ret ⟨[], rfl, g', sg.on ho1 sg', pm.trans (pm'.wider la lb), (lf.perm pm').done ri⟩
    refine wc_skip (wc_seq ?_)
    refine wc_seq (wc_opq fun Q1 hQ => ?_)
    simp (disch := omega) only [ER4, reduceIte, Nat.reduceEqDiff, Nat.reduceAdd, g3]
    refine hQ _ ?_
    clear hQ Q1
    refine wc_if (z3 = ((0 : Nat) : Int)) (by simp (disch := omega) only [ER4, reduceIte, Nat.reduceEqDiff, Nat.reduceAdd]) (fun hz => ?_) (fun hz => ?_)
    · obtain ⟨c1, hg1, hd1, ho1, hc1⟩ := sg.row
      refine wc_seq (wc_opq fun Q1 hQ => ?_)
      simp (disch := omega) only [ER4, reduceIte, Nat.reduceEqDiff, Nat.reduceAdd, g0, g1, g2]
      refine (heapsort_gp t.heap t.sift t.cmp (Nat.lt_of_lt_of_le hi sg.more.next) hg1 hd1 (by omega) (by omega) hn).mono ?_
      rintro v h2 ⟨g', sg', pm', ri⟩
      refine hQ _ ?_
      clear hQ Q1
      exact wc_ret ⟨[], rfl, g', sg.on ho1 sg', pm.trans (pm'.wider la lb), (lf.perm pm').done ri⟩
    refine wc_skip ?_
    refine wc_mid (fun l d h2 => ∃ (g : Nat → Rw), d = [] ∧ (l.get 0 = some (.sl id o n cap) ∧ l.get 4 = some (.fn 13 [] [])) ∧ l.get 1 = some (.int .i64 (a' : Int)) ∧ l.get 2 = some (.int .i64 (b' : Int)) ∧ (∃ z : Int, l.get 3 = some (.int .i64 z)) ∧ (∃ q : Bool, l.get 8 = some (.bool q)) ∧ (∃ q : Bool, l.get 13 = some (.bool q)) ∧ l.get 5 = some (.int .i64 ((b' - a' : Nat) : Int)) ∧ SegR h id o n s p c h2 g ∧ PermOn a b f g ∧ Left a b a' b' g) ?_ ?_
    · refine wc_seq (wc_opq fun Q1 hQ => ?_)
      simp (disch := omega) only [ER4, reduceIte, Nat.reduceEqDiff, Nat.reduceAdd, g7]
      refine hQ _ ?_
      clear hQ Q1
      refine wc_cond (q := !q7) (by simp (disch := omega) only [ER4, reduceIte, Nat.reduceEqDiff, Nat.reduceAdd]) (fun hq => ?_) (fun hq => ?_)
      · obtain ⟨c1, hg1, hd1, ho1, hc1⟩ := sg.row
        refine wc_seq (wc_opq fun Q1 hQ => ?_)
        simp (disch := omega) only [ER4, reduceIte, Nat.reduceEqDiff, Nat.reduceAdd, g0, g1, g2]
        refine (break_gp t.brk t.pow2 t.next t.len t.len64 (Nat.lt_of_lt_of_le hi sg.more.next) hg1 hd1 (by omega) (by omega) hn).mono ?_
        rintro v h2 ⟨g', sg', pm'⟩
        refine hQ _ ?_
        clear hQ Q1
        refine wc_opq fun Q1 hQ => ?_
        simp (disch := omega) only [ER4, reduceIte, Nat.reduceEqDiff, Nat.reduceAdd, g3]
        refine hQ _ ?_
        clear hQ Q1
        refine ⟨g', rfl, ?_, ?_, ?_, ⟨IntKind.i64.wrap (z3 - ((1 : Nat) : Int)), ?_⟩, ⟨q7, ?_⟩, ⟨q12, ?_⟩, ?_, sg.on ho1 sg', pm.trans (pm'.wider la lb), lf.perm pm'⟩
        · simp (disch := omega) only [ER4, reduceIte, Nat.reduceEqDiff, Nat.reduceAdd, g0]
        · simp (disch := omega) only [ER4, reduceIte, Nat.reduceEqDiff, Nat.reduceAdd, g1]
        · simp (disch := omega) only [ER4, reduceIte, Nat.reduceEqDiff, Nat.reduceAdd, g2]
        · simp (disch := omega) only [ER4, reduceIte, Nat.reduceEqDiff, Nat.reduceAdd]
        · simp (disch := omega) only [ER4, reduceIte, Nat.reduceEqDiff, Nat.reduceAdd, g7]
        · simp (disch := omega) only [ER4, reduceIte, Nat.reduceEqDiff, Nat.reduceAdd, g12]
        · simp (disch := omega) only [ER4, reduceIte, Nat.reduceEqDiff, Nat.reduceAdd]
      · refine wc_skip ⟨g, rfl, ?_, ?_, ?_, ⟨z3, ?_⟩, ⟨q7, ?_⟩, ⟨q12, ?_⟩, ?_, sg, pm, lf⟩
        · simp (disch := omega) only [ER4, reduceIte, Nat.reduceEqDiff, Nat.reduceAdd, g0]
        · simp (disch := omega) only [ER4, reduceIte, Nat.reduceEqDiff, Nat.reduceAdd, g1]
        · simp (disch := omega) only [ER4, reduceIte, Nat.reduceEqDiff, Nat.reduceAdd, g2]
        · simp (disch := omega) only [ER4, reduceIte, Nat.reduceEqDiff, Nat.reduceAdd, g3]
        · simp (disch := omega) only [ER4, reduceIte, Nat.reduceEqDiff, Nat.reduceAdd, g7]
        · simp (disch := omega) only [ER4, reduceIte, Nat.reduceEqDiff, Nat.reduceAdd, g12]
        · simp (disch := omega) only [ER4, reduceIte, Nat.reduceEqDiff, Nat.reduceAdd]
    clear g0 g1 g2 g3 g7 g12 sg pm lf
    rintro l d h1 ⟨g, rfl, g0, g1, g2, ⟨z3, g3⟩, ⟨q7, g7⟩, ⟨q12, g12⟩, g4, sg, pm, lf⟩
    refine wc_mid (fun l d h2 => ∃ (pv t : Nat), a' ≤ pv ∧ pv < b' ∧ d = [] ∧ (l.get 0 = some (.sl id o n cap) ∧ l.get 4 = some (.fn 13 [] [])) ∧ l.get 1 = some (.int .i64 (a' : Int)) ∧ l.get 2 = some (.int .i64 (b' : Int)) ∧ (∃ z : Int, l.get 3 = some (.int .i64 z)) ∧ (∃ q : Bool, l.get 8 = some (.bool q)) ∧ (∃ q : Bool, l.get 13 = some (.bool q)) ∧ l.get 5 = some (.int .i64 ((b' - a' : Nat) : Int)) ∧ l.get 12 = some (.int .i64 (pv : Int)) ∧ l.get 10 = some (.int .i64 (t : Int)) ∧ SegR h id o n s p c h2 g) ?_ ?_
    · obtain ⟨c1, hg1, hd1, ho1, hc1⟩ := sg.row
      refine wc_opq fun Q1 hQ => ?_
      simp (disch := omega) only [ER4, reduceIte, Nat.reduceEqDiff, Nat.reduceAdd, g0, g1, g2]
      refine (pivot_gp t.piv t.adj t.med t.ord2 t.cmp (Nat.lt_of_lt_of_le hi sg.more.next) hg1 hd1 (by omega) (by omega) (by omega)).mono ?_
      rintro v h2 ⟨pv, w, rfl, v1, v2, mo⟩
      have sg2 : SegR h id o n s p c h2 g := ⟨hi, sg.more.trans (mo.but id), c1, by rw [mo.keep _ (Nat.lt_of_lt_of_le hi sg.more.next)]; exact hg1, hd1, ho1⟩
      simp (disch := omega) only [ER4, reduceIte, Nat.reduceEqDiff, Nat.reduceAdd, mvt, xt0 mvi, xt1 mvi]
      refine hQ _ ?_
      clear hQ Q1
      refine ⟨pv, w, v1, v2, rfl, ?_, ?_, ?_, ⟨z3, ?_⟩, ⟨q7, ?_⟩, ⟨q12, ?_⟩, ?_, ?_, ?_, sg2⟩
      · simp (disch := omega) only [ER4, reduceIte, Nat.reduceEqDiff, Nat.reduceAdd, g0]
      · simp (disch := omega) only [ER4, reduceIte, Nat.reduceEqDiff, Nat.reduceAdd, g1]
      · simp (disch := omega) only [ER4, reduceIte, Nat.reduceEqDiff, Nat.reduceAdd, g2]
      · simp (disch := omega) only [ER4, reduceIte, Nat.reduceEqDiff, Nat.reduceAdd, g3]
      · simp (disch := omega) only [ER4, reduceIte, Nat.reduceEqDiff, Nat.reduceAdd, g7]
      · simp (disch := omega) only [ER4, reduceIte, Nat.reduceEqDiff, Nat.reduceAdd, g12]
      · simp (disch := omega) only [ER4, reduceIte, Nat.reduceEqDiff, Nat.reduceAdd, g4]
      · simp (disch := omega) only [ER4, reduceIte, Nat.reduceEqDiff, Nat.reduceAdd]
      · simp (disch := omega) only [ER4, reduceIte, Nat.reduceEqDiff, Nat.reduceAdd]
    clear g0 g1 g2 g3 g7 g12 g4 sg
    rintro l d h1 ⟨pv, t9, v1, v2, rfl, g0, g1, g2, ⟨z3, g3⟩, ⟨q7, g7⟩, ⟨q12, g12⟩, g4, g11, g9, sg⟩
    refine wc_mid (fun l d h2 => ∃ (pv t : Nat) (g : Nat → Rw), a' ≤ pv ∧ pv < b' ∧ d = [] ∧ (l.get 0 = some (.sl id o n cap) ∧ l.get 4 = some (.fn 13 [] [])) ∧ l.get 1 = some (.int .i64 (a' : Int)) ∧ l.get 2 = some (.int .i64 (b' : Int)) ∧ (∃ z : Int, l.get 3 = some (.int .i64 z)) ∧ (∃ q : Bool, l.get 8 = some (.bool q)) ∧ (∃ q : Bool, l.get 13 = some (.bool q)) ∧ l.get 5 = some (.int .i64 ((b' - a' : Nat) : Int)) ∧ l.get 12 = some (.int .i64 (pv : Int)) ∧ l.get 10 = some (.int .i64 (t : Int)) ∧ SegR h id o n s p c h2 g ∧ PermOn a b f g ∧ Left a b a' b' g) ?_ ?_
    · refine wc_seq (wc_opq fun Q1 hQ => ?_)
      simp (disch := omega) only [ER4, reduceIte, Nat.reduceEqDiff, Nat.reduceAdd, g9]
      refine hQ _ ?_
      clear hQ Q1
      refine wc_if (t9 = 2) (by simp (disch := omega) only [ER4, reduceIte, Nat.reduceEqDiff, Nat.reduceAdd]) (fun ht => ?_) (fun ht => ?_)
      · obtain ⟨c1, hg1, hd1, ho1, hc1⟩ := sg.row
        refine wc_seq (wc_opq fun Q1 hQ => ?_)
        simp (disch := omega) only [ER4, reduceIte, Nat.reduceEqDiff, Nat.reduceAdd, g0, g1, g2]
        refine (reverse_gp t.rev (Nat.lt_of_lt_of_le hi sg.more.next) hg1 hd1 (by omega) (by omega) (by omega)).mono ?_
        rintro v h2 ⟨g', sg', pm'⟩
        refine hQ _ ?_
        clear hQ Q1
        refine wc_seq (wc_opq fun Q1 hQ => ?_)
        simp (disch := omega) only [ER4, reduceIte, Nat.reduceEqDiff, Nat.reduceAdd, g1, g2, g11]
        refine hQ _ ?_
        clear hQ Q1
        refine wc_opq fun Q1 hQ => ?_
        simp (disch := omega) only [ER4, reduceIte, Nat.reduceEqDiff, Nat.reduceAdd]
        refine hQ _ ?_
        clear hQ Q1
        refine ⟨b' - 1 - (pv - a'), 1, g', by omega, by omega, rfl, ?_, ?_, ?_, ⟨z3, ?_⟩, ⟨q7, ?_⟩, ⟨q12, ?_⟩, ?_, ?_, ?_, sg.on ho1 sg', pm.trans (pm'.wider la lb), lf.perm pm'⟩
        · simp (disch := omega) only [ER4, reduceIte, Nat.reduceEqDiff, Nat.reduceAdd, g0]
        · simp (disch := omega) only [ER4, reduceIte, Nat.reduceEqDiff, Nat.reduceAdd, g1]
        · simp (disch := omega) only [ER4, reduceIte, Nat.reduceEqDiff, Nat.reduceAdd, g2]
        · simp (disch := omega) only [ER4, reduceIte, Nat.reduceEqDiff, Nat.reduceAdd, g3]
        · simp (disch := omega) only [ER4, reduceIte, Nat.reduceEqDiff, Nat.reduceAdd, g7]
        · simp (disch := omega) only [ER4, reduceIte, Nat.reduceEqDiff, Nat.reduceAdd, g12]
        · simp (disch := omega) only [ER4, reduceIte, Nat.reduceEqDiff, Nat.reduceAdd, g4]
        · simp (disch := omega) only [ER4, reduceIte, Nat.reduceEqDiff, Nat.reduceAdd]
        · simp (disch := omega) only [ER4, reduceIte, Nat.reduceEqDiff, Nat.reduceAdd]
      · refine wc_skip ⟨pv, t9, g, v1, v2, rfl, ?_, ?_, ?_, ⟨z3, ?_⟩, ⟨q7, ?_⟩, ⟨q12, ?_⟩, ?_, ?_, ?_, sg, pm, lf⟩
        · simp (disch := omega) only [ER4, reduceIte, Nat.reduceEqDiff, Nat.reduceAdd, g0]
        · simp (disch := omega) only [ER4, reduceIte, Nat.reduceEqDiff, Nat.reduceAdd, g1]
        · simp (disch := omega) only [ER4, reduceIte, Nat.reduceEqDiff, Nat.reduceAdd, g2]
        · simp (disch := omega) only [ER4, reduceIte, Nat.reduceEqDiff, Nat.reduceAdd, g3]
        · simp (disch := omega) only [ER4, reduceIte, Nat.reduceEqDiff, Nat.reduceAdd, g7]
        · simp (disch := omega) only [ER4, reduceIte, Nat.reduceEqDiff, Nat.reduceAdd, g12]
        · simp (disch := omega) only [ER4, reduceIte, Nat.reduceEqDiff, Nat.reduceAdd, g4]
        · simp (disch := omega) only [ER4, reduceIte, Nat.reduceEqDiff, Nat.reduceAdd, g11]
        · simp (disch := omega) only [ER4, reduceIte, Nat.reduceEqDiff, Nat.reduceAdd, g9]
    clear g0 g1 g2 g3 g7 g12 g4 g11 g9 sg pm lf v1 v2
    rintro l d h1 ⟨pv, t9, g, v1, v2, rfl, g0, g1, g2, ⟨z3, g3⟩, ⟨q7, g7⟩, ⟨q12, g12⟩, g4, g11, g9, sg, pm, lf⟩
    refine wc_mid (fun l d h2 => ∃ (g : Nat → Rw), d = [] ∧ (l.get 0 = some (.sl id o n cap) ∧ l.get 4 = some (.fn 13 [] [])) ∧ l.get 1 = some (.int .i64 (a' : Int)) ∧ l.get 2 = some (.int .i64 (b' : Int)) ∧ (∃ z : Int, l.get 3 = some (.int .i64 z)) ∧ (∃ q : Bool, l.get 8 = some (.bool q)) ∧ (∃ q : Bool, l.get 13 = some (.bool q)) ∧ l.get 5 = some (.int .i64 ((b' - a' : Nat) : Int)) ∧ l.get 12 = some (.int .i64 (pv : Int)) ∧ SegR h id o n s p c h2 g ∧ PermOn a b f g ∧ Left a b a' b' g) ?_ ?_
    · refine wc_mid (fun l d h2 => h1 = h2 ∧ d = [] ∧ (l.get 0 = some (.sl id o n cap) ∧ l.get 4 = some (.fn 13 [] [])) ∧ l.get 1 = some (.int .i64 (a' : Int)) ∧ l.get 2 = some (.int .i64 (b' : Int)) ∧ l.get 3 = some (.int .i64 z3) ∧ l.get 8 = some (.bool q7) ∧ l.get 13 = some (.bool q12) ∧ l.get 5 = some (.int .i64 ((b' - a' : Nat) : Int)) ∧ l.get 12 = some (.int .i64 (pv : Int)) ∧ l.get 14 = some (.bool (if q7 then (if q12 then decide (t9 = 1) else false) else false))) ?_ ?_
      · cases q7 <;> cases q12
        all_goals (refine wc_opq fun Q1 hQ => ?_)
        all_goals (simp (disch := omega) only [ER4, reduceIte, Nat.reduceEqDiff, Nat.reduceAdd, g7, g9, g12])
        all_goals (refine hQ _ ?_)
        all_goals (clear hQ Q1)
        all_goals (refine ⟨rfl, rfl, ?_, ?_, ?_, ?_, ?_, ?_, ?_, ?_, ?_⟩)
        all_goals (simp (disch := omega) only [ER4, reduceIte, Nat.reduceEqDiff, Nat.reduceAdd, g0, g1, g2, g3, g7, g12, g4, g11])
      clear g0 g1 g2 g3 g7 g12 g4 g11 g9
      rintro l d h2 ⟨rfl, rfl, g0, g1, g2, g3, g7, g12, g4, g11, g13⟩
      generalize (if q7 then (if q12 then decide (t9 = 1) else false) else false) = q13 at *
      refine wc_cond (q := q13) (by simp (disch := omega) only [ER4, reduceIte, Nat.reduceEqDiff, Nat.reduceAdd, g13]) (fun hq => ?_) (fun hq => ?_)
      · obtain ⟨c1, hg1, hd1, ho1, hc1⟩ := sg.row
        refine wc_seq (wc_opq fun Q1 hQ => ?_)
        simp (disch := omega) only [ER4, reduceIte, Nat.reduceEqDiff, Nat.reduceAdd, g0, g1, g2]
        refine (partial_gp t.pins t.cmp (Nat.lt_of_lt_of_le hi sg.more.next) hg1 hd1 (by omega) (by omega) hn lf.under).mono ?_
        rintro v h2 ⟨q, g', rfl, sg', pm', ri⟩
        refine hQ _ ?_
        clear hQ Q1
        refine wc_cond (q := q) (by simp (disch := omega) only [ER4, reduceIte, Nat.reduceEqDiff, Nat.reduceAdd]) (fun hq => ?_) (fun hq => ?_)
        · exact wc_ret ⟨[], rfl, g', sg.on ho1 sg', pm.trans (pm'.wider la lb), (lf.perm pm').done (ri hq)⟩
        · refine wc_skip ⟨g', rfl, ?_, ?_, ?_, ⟨z3, ?_⟩, ⟨q7, ?_⟩, ⟨q12, ?_⟩, ?_, ?_, sg.on ho1 sg', pm.trans (pm'.wider la lb), lf.perm pm'⟩
          · simp (disch := omega) only [ER4, reduceIte, Nat.reduceEqDiff, Nat.reduceAdd, g0]
          · simp (disch := omega) only [ER4, reduceIte, Nat.reduceEqDiff, Nat.reduceAdd, g1]
          · simp (disch := omega) only [ER4, reduceIte, Nat.reduceEqDiff, Nat.reduceAdd, g2]
          · simp (disch := omega) only [ER4, reduceIte, Nat.reduceEqDiff, Nat.reduceAdd, g3]
          · simp (disch := omega) only [ER4, reduceIte, Nat.reduceEqDiff, Nat.reduceAdd, g7]
          · simp (disch := omega) only [ER4, reduceIte, Nat.reduceEqDiff, Nat.reduceAdd, g12]
          · simp (disch := omega) only [ER4, reduceIte, Nat.reduceEqDiff, Nat.reduceAdd, g4]
          · simp (disch := omega) only [ER4, reduceIte, Nat.reduceEqDiff, Nat.reduceAdd, g11]
      · exact wc_skip ⟨g, rfl, g0, g1, g2, ⟨z3, g3⟩, ⟨q7, g7⟩, ⟨q12, g12⟩, g4, g11, sg, pm, lf⟩
    clear g0 g1 g2 g3 g7 g12 g4 g11 g9 sg pm lf
    rintro l d h1 ⟨g, rfl, g0, g1, g2, ⟨z3, g3⟩, ⟨q7, g7⟩, ⟨q12, g12⟩, g4, g11, sg, pm, lf⟩
    refine wc_mid (fun l d h2 => SegR h id o n s p c h2 g ∧ d = [] ∧ (l.get 0 = some (.sl id o n cap) ∧ l.get 4 = some (.fn 13 [] [])) ∧ l.get 1 = some (.int .i64 (a' : Int)) ∧ l.get 2 = some (.int .i64 (b' : Int)) ∧ (∃ z : Int, l.get 3 = some (.int .i64 z)) ∧ (∃ q : Bool, l.get 8 = some (.bool q)) ∧ (∃ q : Bool, l.get 13 = some (.bool q)) ∧ l.get 5 = some (.int .i64 ((b' - a' : Nat) : Int)) ∧ l.get 12 = some (.int .i64 (pv : Int))) ?_ ?_
    · obtain ⟨c1, hg1, hd1, ho1, hc1⟩ := sg.row
      refine wc_mid (fun l d h2 => SegR h id o n s p c h2 g ∧ d = [] ∧ (l.get 0 = some (.sl id o n cap) ∧ l.get 4 = some (.fn 13 [] [])) ∧ l.get 1 = some (.int .i64 (a' : Int)) ∧ l.get 2 = some (.int .i64 (b' : Int)) ∧ (∃ z : Int, l.get 3 = some (.int .i64 z)) ∧ (∃ q : Bool, l.get 8 = some (.bool q)) ∧ (∃ q : Bool, l.get 13 = some (.bool q)) ∧ l.get 5 = some (.int .i64 ((b' - a' : Nat) : Int)) ∧ l.get 12 = some (.int .i64 (pv : Int)) ∧ l.get 16 = some (.bool (if 0 < a' then !ltR (g (a' - 1)) (g pv) else false))) ?_ ?_
      · by_cases h0 : 0 < a'
        · have r1 := hc1 (a' - 1) (by omega)
          have r2 := hc1 pv (by omega)
          refine wc_opq fun Q1 hQ => ?_
          simp (disch := omega) only [ER4, reduceIte, Nat.reduceEqDiff, Nat.reduceAdd, g0, g1, g11, h0, hg1, r1, r2, cmp_rw t.cmp, cmp_lt]
          refine hQ _ ?_
          clear hQ Q1
          refine ⟨sg.cmp, rfl, ?_, ?_, ?_, ⟨z3, ?_⟩, ⟨q7, ?_⟩, ⟨q12, ?_⟩, ?_, ?_, ?_⟩
          all_goals (simp (disch := omega) only [ER4, reduceIte, Nat.reduceEqDiff, Nat.reduceAdd, g0, g1, g2, g3, g7, g12, g4, g11, h0])
        · refine wc_opq fun Q1 hQ => ?_
          simp (disch := omega) only [ER4, reduceIte, Nat.reduceEqDiff, Nat.reduceAdd, g0, g1, g11, h0]
          refine hQ _ ?_
          clear hQ Q1
          refine ⟨sg, rfl, ?_, ?_, ?_, ⟨z3, ?_⟩, ⟨q7, ?_⟩, ⟨q12, ?_⟩, ?_, ?_, ?_⟩
          all_goals (simp (disch := omega) only [ER4, reduceIte, Nat.reduceEqDiff, Nat.reduceAdd, g0, g1, g2, g3, g7, g12, g4, g11, h0])
      clear g0 g1 g2 g3 g7 g12 g4 g11
      rintro l d h2 ⟨sg, rfl, g0, g1, g2, ⟨z3, g3⟩, ⟨q7, g7⟩, ⟨q12, g12⟩, g4, g11, g15⟩
      obtain ⟨c1, hg1, hd1, ho1, hc1⟩ := sg.row
      refine wc_cond (q := if 0 < a' then !ltR (g (a' - 1)) (g pv) else false) (by simp (disch := omega) only [ER4, reduceIte, Nat.reduceEqDiff, Nat.reduceAdd, g15]) (fun hq => ?_) (fun hq => ?_)
      · have h0 : 0 < a' := by
          rcases Nat.eq_zero_or_pos a' with h | h
          · subst h; simp at hq
          · exact h
        rw [if_pos h0] at hq
        have hq : ltR (g (a' - 1)) (g pv) = false := by simpa using hq
        have und := lf.under h0
        refine wc_seq (wc_opq fun Q1 hQ => ?_)
        simp (disch := omega) only [ER4, reduceIte, Nat.reduceEqDiff, Nat.reduceAdd, g0, g1, g2, g11]
        refine (partEq_gp t.partE t.cmp (Nat.lt_of_lt_of_le hi sg.more.next) hg1 hd1 (by omega) v1 v2 (by omega) hn (fun k k1 k2 => ordR.trans _ _ _ hq (und k k1 k2))).mono ?_
        rintro v h2 ⟨mm, g', rfl, m1, m2, sg', pm', ri, cut⟩
        simp (disch := omega) only [ER4, reduceIte, Nat.reduceEqDiff, Nat.reduceAdd]
        refine hQ _ ?_
        clear hQ Q1
        refine wc_seq (wc_opq fun Q1 hQ => ?_)
        simp (disch := omega) only [ER4, reduceIte, Nat.reduceEqDiff, Nat.reduceAdd]
        refine hQ _ ?_
        clear hQ Q1
        have lf' := lf.perm pm'
        refine wc_exit ⟨b' - mm, by omega, mm, b', g', rfl, rfl, ?_, ?_, ?_, ⟨z3, ?_⟩, ⟨q7, ?_⟩, ⟨q12, ?_⟩, sg.on ho1 sg', pm.trans (pm'.wider la lb), ⟨by omega, m2, lb, ?_, lf'.top, ?_, lf'.cutB, lf'.base⟩⟩
        · simp (disch := omega) only [ER4, reduceIte, Nat.reduceEqDiff, Nat.reduceAdd, g0]
        · simp (disch := omega) only [ER4, reduceIte, Nat.reduceEqDiff, Nat.reduceAdd]
        · simp (disch := omega) only [ER4, reduceIte, Nat.reduceEqDiff, Nat.reduceAdd, g2]
        · simp (disch := omega) only [ER4, reduceIte, Nat.reduceEqDiff, Nat.reduceAdd, g3]
        · simp (disch := omega) only [ER4, reduceIte, Nat.reduceEqDiff, Nat.reduceAdd, g7]
        · simp (disch := omega) only [ER4, reduceIte, Nat.reduceEqDiff, Nat.reduceAdd, g12]
        · intro x y h1 h2 h3
          by_cases hy : y < a'
          · exact lf'.low x y h1 h2 hy
          · by_cases hx : x < a'
            · exact lf'.cutA x y h1 hx (by omega) (by omega)
            · exact ri x y (by omega) h2 h3
        · intro x y h1 h2 h3 h4
          by_cases hx : x < a'
          · exact lf'.cutA x y h1 hx (by omega) h4
          · by_cases hy : y < b'
            · exact cut x y (by omega) h2 h3 hy
            · exact lf'.cutB x y h1 (by omega) (by omega) h4
      · exact wc_skip ⟨sg, rfl, g0, g1, g2, ⟨z3, g3⟩, ⟨q7, g7⟩, ⟨q12, g12⟩, g4, g11⟩
    clear g0 g1 g2 g3 g7 g12 g4 g11
    rintro l d h2 ⟨sg, rfl, g0, g1, g2, ⟨z3, g3⟩, ⟨q7, g7⟩, ⟨q12, g12⟩, g4, g11⟩
    obtain ⟨c1, hg1, hd1, ho1, hc1⟩ := sg.row
    refine wc_seq (wc_opq fun Q1 hQ => ?_)
    simp (disch := omega) only [ER4, reduceIte, Nat.reduceEqDiff, Nat.reduceAdd, g0, g1, g2, g11]
    refine (partition_gp t.part t.cmp (Nat.lt_of_lt_of_le hi sg.more.next) hg1 hd1 (by omega) v1 v2 (by omega) hn).mono ?_
    rintro v h2 ⟨mm, q, g', rfl, m1, m2, sg', pm', cl, cr⟩
    simp (disch := omega) only [ER4, reduceIte, Nat.reduceEqDiff, Nat.reduceAdd, mvt, xt0 mvi, xt1 mvb]
    refine hQ _ ?_
    clear hQ Q1
    have lf' := lf.perm pm'
    have sgn := sg.on ho1 sg'
    have pmn := pm.trans (pm'.wider la lb)
    clear hg1 hd1 ho1 sg pm lf sg' pm'
    obtain ⟨c1, hg1, hd1, ho1, hc1⟩ := sgn.row
    have hin := Nat.lt_of_lt_of_le hi sgn.more.next
    refine wc_seq (wc_opq fun Q1 hQ => ?_)
    simp (disch := omega) only [ER4, reduceIte, Nat.reduceEqDiff, Nat.reduceAdd]
    refine hQ _ ?_
    clear hQ Q1
    refine wc_seq (wc_opq fun Q1 hQ => ?_)
    simp (disch := omega) only [ER4, reduceIte, Nat.reduceEqDiff, Nat.reduceAdd, g1, g2]
    refine hQ _ ?_
    clear hQ Q1
    refine wc_seq (wc_opq fun Q1 hQ => ?_)
    simp (disch := omega) only [ER4, reduceIte, Nat.reduceEqDiff, Nat.reduceAdd, g4]
    refine hQ _ ?_
    clear hQ Q1
    refine wc_seq (wc_opq fun Q1 hQ => ?_)
    simp (disch := omega) only [ER4, reduceIte, Nat.reduceEqDiff, Nat.reduceAdd]
    refine hQ _ ?_
    clear hQ Q1
    refine wc_if (mm - a' < b' - mm) (by simp (disch := omega) only [ER4, reduceIte, Nat.reduceEqDiff, Nat.reduceAdd]) (fun hlt => ?_) (fun hge => ?_)
    · refine wc_seq (wc_opq fun Q1 hQ => ?_)
      simp (disch := omega) only [ER4, reduceIte, Nat.reduceEqDiff, Nat.reduceAdd]
      refine hQ _ ?_
      clear hQ Q1
      refine wc_seq (wc_opq fun Q1 hQ => ?_)
      simp (disch := omega) only [ER4, reduceIte, Nat.reduceEqDiff, Nat.reduceAdd, g0, g1, g3]
      refine (ih (mm - a') (by omega) (Nat.le_refl _) hin hg1 hd1 m1 (by omega) (fun h0 k k1 k2 => lf'.under h0 k k1 (by omega))).mono ?_
      rintro v h3 ⟨g3', sg3, pm3, ri3⟩
      refine hQ _ ?_
      clear hQ Q1
      refine wc_opq fun Q1 hQ => ?_
      simp (disch := omega) only [ER4, reduceIte, Nat.reduceEqDiff, Nat.reduceAdd]
      refine hQ _ ?_
      clear hQ Q1
      have lf3 := lf'.perm (pm3.wider (Nat.le_refl _) (Nat.le_of_lt m2))
      have eo : ∀ k, mm ≤ k → g3' k = g' k := fun k hk => pm3.out (by omega)
      refine ⟨b' - (mm + 1), by omega, mm + 1, b', g3', rfl, rfl, ?_, ?_, ?_, ⟨z3, ?_⟩, ⟨decide ((b' - a') / 8 ≤ mm - a'), ?_⟩, ⟨q, ?_⟩, sgn.on ho1 sg3, pmn.trans (pm3.wider (by omega) (by omega)), ⟨by omega, by omega, lb, ?_, lf3.top, ?_, lf3.cutB, lf3.base⟩⟩
      · simp (disch := omega) only [ER4, reduceIte, Nat.reduceEqDiff, Nat.reduceAdd, g0]
      · simp (disch := omega) only [ER4, reduceIte, Nat.reduceEqDiff, Nat.reduceAdd]
      · simp (disch := omega) only [ER4, reduceIte, Nat.reduceEqDiff, Nat.reduceAdd, g2]
      · simp (disch := omega) only [ER4, reduceIte, Nat.reduceEqDiff, Nat.reduceAdd, g3]
      · simp (disch := omega) only [ER4, reduceIte, Nat.reduceEqDiff, Nat.reduceAdd]
      · simp (disch := omega) only [ER4, reduceIte, Nat.reduceEqDiff, Nat.reduceAdd]
      · intro x y h1 h2 h3
        by_cases hy : y < a'
        · exact lf3.low x y h1 h2 hy
        by_cases hx : x < a'
        · exact lf3.cutA x y h1 hx (by omega) (by omega)
        by_cases hym : y = mm
        · subst hym
          by_cases hxm : x = y
          · subst hxm; exact ordR.irrefl _
          · rw [eo y (Nat.le_refl _)]
            exact pm3.all (Q := fun w => ltR (g' y) w = false) (fun k k1 k2 => ordR.asym _ _ (cl k k1 k2)) x (by omega) (by omega)
        · exact ri3 x y (by omega) h2 (by omega)
      · intro x y h1 h2 h3 h4
        by_cases hx : x < a'
        · exact lf3.cutA x y h1 hx (by omega) h4
        by_cases hy : y < b'
        · have c2 : ltR (g3' y) (g' mm) = false := by rw [eo y (by omega)]; exact cr y (by omega) hy
          by_cases hxm : x = mm
          · subst hxm; rw [eo x (Nat.le_refl _)]; exact c2
          · have := pm3.all (Q := fun w => ltR (g' mm) w = false) (fun k k1 k2 => ordR.asym _ _ (cl k k1 k2)) x (by omega) (by omega)
            exact ordR.trans _ _ _ this c2
        · exact lf3.cutB x y h1 (by omega) (by omega) h4
    · refine wc_seq (wc_opq fun Q1 hQ => ?_)
      simp (disch := omega) only [ER4, reduceIte, Nat.reduceEqDiff, Nat.reduceAdd]
      refine hQ _ ?_
      clear hQ Q1
      refine wc_seq (wc_opq fun Q1 hQ => ?_)
      simp (disch := omega) only [ER4, reduceIte, Nat.reduceEqDiff, Nat.reduceAdd, g0, g2, g3]
      refine (ih (b' - (mm + 1)) (by omega) (Nat.le_refl _) hin hg1 hd1 (by omega) (by omega) (fun _ k k1 k2 => by rw [Nat.add_sub_cancel]; exact cr k (by omega) k2)).mono ?_
      rintro v h3 ⟨g3', sg3, pm3, ri3⟩
      refine hQ _ ?_
      clear hQ Q1
      refine wc_opq fun Q1 hQ => ?_
      simp (disch := omega) only [ER4, reduceIte, Nat.reduceEqDiff, Nat.reduceAdd]
      refine hQ _ ?_
      clear hQ Q1
      have lf3 := lf'.perm (pm3.wider (by omega) (Nat.le_refl _))
      have eo : ∀ k, k ≤ mm → g3' k = g' k := fun k hk => pm3.out (by omega)
      refine ⟨mm - a', by omega, a', mm, g3', rfl, rfl, ?_, ?_, ?_, ⟨z3, ?_⟩, ⟨decide ((b' - a') / 8 ≤ b' - mm), ?_⟩, ⟨q, ?_⟩, sgn.on ho1 sg3, pmn.trans (pm3.wider (by omega) (by omega)), ⟨la, m1, by omega, lf3.low, ?_, lf3.cutA, ?_, lf3.base⟩⟩
      · simp (disch := omega) only [ER4, reduceIte, Nat.reduceEqDiff, Nat.reduceAdd, g0]
      · simp (disch := omega) only [ER4, reduceIte, Nat.reduceEqDiff, Nat.reduceAdd, g1]
      · simp (disch := omega) only [ER4, reduceIte, Nat.reduceEqDiff, Nat.reduceAdd]
      · simp (disch := omega) only [ER4, reduceIte, Nat.reduceEqDiff, Nat.reduceAdd, g3]
      · simp (disch := omega) only [ER4, reduceIte, Nat.reduceEqDiff, Nat.reduceAdd]
      · simp (disch := omega) only [ER4, reduceIte, Nat.reduceEqDiff, Nat.reduceAdd]
      · intro x y h1 h2 h3
        by_cases hy : b' ≤ y
        · by_cases hx : b' ≤ x
          · exact lf3.top x y hx h2 h3
          · exact lf3.cutB x y (by omega) (by omega) hy h3
        by_cases hxm : x = mm
        · subst hxm
          by_cases hym : y = x
          · subst hym; exact ordR.irrefl _
          · rw [eo x (Nat.le_refl _)]
            exact pm3.all (Q := fun w => ltR w (g' x) = false) (fun k k1 k2 => cr k (by omega) k2) y (by omega) (by omega)
        · exact ri3 x y (by omega) h2 (by omega)
      · intro x y h1 h2 h3 h4
        by_cases hy : b' ≤ y
        · exact lf3.cutB x y h1 (by omega) hy h4
        by_cases hx : x < a'
        · exact lf3.cutA x y h1 hx (by omega) h4
        have c2 : ltR (g' mm) (g3' x) = false := by rw [eo x (by omega)]; exact ordR.asym _ _ (cl x (by omega) h2)
        by_cases hym : y = mm
        · subst hym; rw [eo y (Nat.le_refl _)]; exact c2
        · have := pm3.all (Q := fun w => ltR w (g' mm) = false) (fun k k1 k2 => cr k (by omega) k2) y (by omega) (by omega)
          exact ordR.trans _ _ _ c2 this
  · refine ⟨a, b, f, rfl, rfl, ?_, ?_, ?_, ⟨z, ?_⟩, ⟨true, ?_⟩, ⟨true, ?_⟩, SegR.start hi hg hc, PermOn.refl, ⟨Nat.le_refl _, hab, Nat.le_refl _, rises_short ordR (by omega), rises_short ordR (by omega), fun x y h1 h2 => by omega, fun x y h1 h2 h3 => by omega, hlow⟩⟩
    all_goals simp (disch := omega) only [ER4, reduceIte, Nat.reduceEqDiff, Nat.reduceAdd, i0]
theorem sort_gp (t : SortT tab) (hn : n < 2305843009213693952) (hi : id < h.next) (hg : h.mem.get id = some (.cells c s p false)) (hc : RArr4 c o n f) :
    GP tab 12 [.sl id o n cap, .fn 13 [] []] h fun _ h1 => ∃ g, SegR h id o n s p c h1 g ∧ PermOn 0 n f g ∧ Rises ltR 0 n g := by
  have i0 : initLoc [.sl id o n cap, .fn 13 [] []] = ofList [.sl id o n cap, .fn 13 [] []] := rfl
  refine gp_of t.sort rfl ?_
  refine wc_seq (wc_opq fun Q1 hQ => ?_)
  simp (disch := omega) only [ER4, reduceIte, Nat.reduceEqDiff, Nat.reduceAdd, i0]
  refine hQ _ ?_
  clear hQ Q1
  refine wc_opq fun Q1 hQ => ?_
  simp (disch := omega) only [ER4, reduceIte, Nat.reduceEqDiff, Nat.reduceAdd, i0, wrap_u64n]
  refine (len_gp t.len t.len64 (by omega)).mono ?_
  rintro v h1 ⟨L, rfl, b1, b2, b3, rfl⟩
  refine (pdq_gp (cap := cap) t hn n (a := 0) (b := n) (by omega) hi hg hc (Nat.zero_le _) (Nat.le_refl _) (fun h => by omega)).mono ?_
  rintro v h2 ⟨g, sg, pm, ri⟩
  refine hQ _ ?_
  exact ⟨[], rfl, g, sg, pm, ri⟩
end
end Go.Ev

namespace Go.Ev
open Go
/-- the rows' cells -/
def rls (l : List Rw) : List AV := l.flatMap rl
theorem rls_len (l : List Rw) : (rls l).length = l.length * 4 := by
  induction l with
  | nil => rfl
  | cons x l ih => rw [rls, List.flatMap_cons, List.length_append]; rw [rls] at ih; rw [ih, List.length_cons, Nat.succ_mul, Nat.add_comm]; rfl
theorem rls_app (a b : List Rw) : rls (a ++ b) = rls a ++ rls b := by simp [rls]
theorem R4.get {c : T AV} {k : Nat} {r : Rw} (x : R4 c k r) {j : Nat} (hj : j < 4) : c.get (k + j) = (rl r)[j]? := by
  rcases (show j = 0 ∨ j = 1 ∨ j = 2 ∨ j = 3 by omega) with rfl | rfl | rfl | rfl
  · exact x.a
  · exact x.b
  · exact x.c
  · exact x.d
theorem R4.of {c : T AV} {k : Nat} {r : Rw} (h : ∀ j, j < 4 → c.get (k + j) = (rl r)[j]?) : R4 c k r := ⟨h 0 (by omega), h 1 (by omega), h 2 (by omega), h 3 (by omega)⟩
theorem rls_get {l : List Rw} {i j : Nat} (hi : i < l.length) (hj : j < 4) : (rls l)[i * 4 + j]? = (rl l[i])[j]? := by
  induction l generalizing i with
  | nil => cases hi
  | cons x l ih =>
    rw [show rls (x :: l) = rl x ++ rls l from by simp [rls]]
    cases i with
    | zero => rw [Nat.zero_mul, Nat.zero_add, List.getElem?_append_left (by show j < 4; exact hj)]; rfl
    | succ i =>
      rw [List.getElem?_append_right (by show 4 ≤ _; omega), show (i + 1) * 4 + j - (rl x).length = i * 4 + j by show (i + 1) * 4 + j - 4 = _; omega]
      exact ih (by simpa using hi)
theorem loadL_row : ∀ {l : List AV} {c : T AV} {off : Nat}, (∀ j, j < l.length → c.get (off + j) = l[j]?) → loadL c l.length off = some l
  | [], _, _, _ => rfl
  | v :: l, c, off, h => loadL_succ (by have := h 0 (by simp); simpa using this) (loadL_row fun j hj => by have := h (j + 1) (by simpa using hj); rw [show off + 1 + j = off + (j + 1) by omega]; simpa using this)
theorem loadL_rls {l : List Rw} {c : T AV} {off : Nat} (h : ∀ i (hi : i < l.length), R4 c (off + i * 4) l[i]) : loadL c (l.length * 4) off = some (rls l) := by
  rw [← rls_len]
  refine loadL_row fun j hj => ?_
  rw [rls_len] at hj
  have e : j = j / 4 * 4 + j % 4 := by omega
  have hi : j / 4 < l.length := by omega
  have := rls_get hi (Nat.mod_lt j (by omega))
  rw [← e] at this
  rw [this, ← (h (j / 4) hi).get (Nat.mod_lt j (by omega))]
  congr 1; omega
theorem storeL_has : ∀ {l : List AV} {c : T AV} {off : Nat}, (∀ i, off ≤ i → i < off + l.length → c.get i ≠ none) → storeL l c off = some (putL l c off)
  | [], c, off, _ => rfl
  | v :: l, c, off, hx => by
    cases hw : c.get off with
    | none => exact absurd hw (hx off (Nat.le_refl _) (by simp))
    | some w =>
    rw [storeL_cons, hw, obind_some, storeL_has (l := l) fun i h1 h2 => ?_]
    · rfl
    · rw [T.get_put]
      split
      · exact fun h => by cases h
      · exact hx i (by omega) (by simp; omega)
theorem putL_rls {l : List Rw} {c : T AV} {off : Nat} {i : Nat} (hi : i < l.length) : R4 (putL (rls l) c off) (off + i * 4) l[i] := by
  refine .of fun j hj => ?_
  rw [get_putL, if_pos (by rw [rls_len]; omega), show off + i * 4 + j - off = i * 4 + j by omega]
  exact rls_get hi hj
theorem ofList_rls {l : List Rw} {i : Nat} (hi : i < l.length) : R4 (ofList (rls l)) (i * 4) l[i] := by
  refine .of fun j hj => ?_
  rw [get_ofList]
  exact rls_get hi hj
theorem R4.putL_out {l : List AV} {c : T AV} {off k : Nat} {r : Rw} (x : R4 c k r) (h : k + 4 ≤ off ∨ off + l.length ≤ k) : R4 (putL l c off) k r := by
  refine .of fun j hj => ?_
  rw [get_putL, if_neg (by omega)]
  exact x.get hj
/-- a slice of records from b on -/
inductive OwnR (h : AH) (b : Nat) : AV → List Rw → Prop
  | nils : OwnR h b .nils []
  | emp {id off : Nat} : OwnR h b (.sl id off 0 (.known 0)) []
  | sl {id : Nat} {c : T AV} {xs : List Rw} : xs ≠ [] → b ≤ id → id < h.next → h.mem.get id = some (.cells c (xs.length * 4) true false) →
      (∀ (i : Nat) (hi : i < xs.length), R4 c (i * 4) xs[i]) → OwnR h b (.sl id 0 xs.length (.rest 4)) xs
section
variable {h h' : AH} {b : Nat} {v : AV} {xs ys : List Rw}
theorem OwnR.len (x : OwnR h b v xs) : ∀ h', oLen .sl (.c v) .leaf [] h' = .val (.int .i64 (xs.length : Int)) h' := by
  cases x with
  | nils => intro h'; rfl
  | emp => intro h'; rfl
  | sl => intro h'; exact len_sl
theorem OwnR.mv (x : OwnR h b v xs) : v.mv = true := by cases x <;> rfl
theorem OwnR.cells (x : OwnR h b v xs) : cellsOf v = some [v] := by cases x <;> rfl
theorem OwnR.more (x : OwnR h b v xs) (m : More h h') : OwnR h' b v xs := by
  cases x with
  | nils => exact .nils
  | emp => exact .emp
  | sl a1 a2 a3 a4 a5 => exact .sl a1 a2 (Nat.lt_of_lt_of_le a3 m.next) (by rw [m.keep _ a3]; exact a4) a5
theorem OwnR.less {b' : Nat} (x : OwnR h b v xs) (hb : b' ≤ b) : OwnR h b' v xs := by
  cases x with
  | nils => exact .nils
  | emp => exact .emp
  | sl a1 a2 a3 a4 a5 => exact .sl a1 (by omega) a3 a4 a5
theorem OwnR.open (x : OwnR h b v xs) (hn : 0 < xs.length) : ∃ (id : Nat) (c : T AV), v = .sl id 0 xs.length (.rest 4) ∧ b ≤ id ∧ id < h.next ∧ h.mem.get id = some (.cells c (xs.length * 4) true false) ∧ ∀ (i : Nat) (hi : i < xs.length), R4 c (i * 4) xs[i] := by
  cases x with
  | nils => simp at hn
  | emp => simp at hn
  | sl a1 a2 a3 a4 a5 => exact ⟨_, _, rfl, a2, a3, a4, a5⟩
/-- cells to be read: n records -/
def SrcR (h : AH) (v : AV) (xs : List Rw) : Prop := ∀ k, srcCells 4 v h k = k xs.length (rls xs)
theorem src0 {h : AH} {id off : Nat} {cap : ACap} : SrcR h (.sl id off 0 cap) [] := fun _ => rfl
theorem srcn {h : AH} : SrcR h .nils [] := fun _ => rfl
theorem srcs {h : AH} {id off s : Nat} {c : T AV} {p r : Bool} {cap : ACap} (hg : h.mem.get id = some (.cells c s p r)) (hx : ∀ i (hi : i < xs.length), R4 c (off + i * 4) xs[i]) : SrcR h (.sl id off xs.length cap) xs := by
  rcases Nat.eq_zero_or_pos xs.length with h0 | h0
  · obtain rfl := List.length_eq_zero_iff.1 h0; exact src0
  · exact fun k => src_sl (by omega) hg (loadL_rls hx) k
theorem OwnR.src (x : OwnR h b v xs) : SrcR h v xs := by
  cases x with
  | nils => exact srcn
  | emp => exact src0
  | sl a1 a2 a3 a4 a5 => exact srcs a4 fun i hi => by rw [Nat.zero_add]; exact a5 i hi
theorem OwnR.appendN {src : AV} (x : OwnR h b v xs) (hs : SrcR h src ys) (hb : b ≤ h.next) (hx : xs.length + ys.length < 1000000) :
    ∃ v' h', oAppend 4 32 (.c v) (.c src) .leaf [] h = .val v' h' ∧ OwnR h' b v' (xs ++ ys) ∧ Keep b h h' ∧ (∀ k, k < h.next → (∀ o n e, v ≠ .sl k o n (.rest e)) → h'.mem.get k = h.mem.get k) ∧ (∀ k o n e, v' = .sl k o n (.rest e) → h.next ≤ k ∨ v' = v) := by
  rcases Nat.eq_zero_or_pos ys.length with h0 | h0
  · obtain rfl := List.length_eq_zero_iff.1 h0
    refine ⟨v, h, ?_, by rw [List.append_nil]; exact x, Keep.refl _ _, fun _ _ _ => rfl, fun _ _ _ _ _ => .inr rfl⟩
    show srcCells 4 src h _ = _
    rw [hs]
    cases x <;> rfl
  have hne : ys ≠ [] := fun e => by subst e; cases h0
  have one : OwnR (h.add (.cells (ofList (rls ys)) (ys.length * 4) true false)) b (.sl h.next 0 ys.length (.rest 4)) ys :=
    .sl hne hb (Nat.lt_succ_self _) (by rw [AH.add_mem, T.get_put_self]) fun i hi => ofList_rls hi
  cases x with
  | nils => exact ⟨_, _, append_nils hs (by omega) (room_small (by omega) (by decide)), one, (Keep.refl b h).add hb _, fun k hk _ => by rw [AH.add_mem, T.get_put_ne _ _ _ _ (by omega)], fun k o n e he => by injection he with he; exact .inl (by omega)⟩
  | emp => exact ⟨_, _, append_emp hs (by omega) (room_small (by omega) (by decide)), one, (Keep.refl b h).add hb _, fun k hk _ => by rw [AH.add_mem, T.get_put_ne _ _ _ _ (by omega)], fun k o n e he => by injection he with he; exact .inl (by omega)⟩
  | sl a1 a2 a3 a4 a5 =>
    rename_i id c
    refine ⟨_, _, append_own (p := true) hs a4 rfl (by omega) (by omega) (room_small (by omega) (by decide)), ?_, ((Keep.refl b h).kill a2).add hb _, fun k hk hn => ?_, fun k o n e he => by injection he with he; exact .inl (by omega)⟩
    · have e : xs.length + ys.length = (xs ++ ys).length := by simp
      rw [e]
      refine .sl (by simp [hne]) hb (by rw [AH.add_next, AH.kill_next]; exact Nat.lt_succ_self _) (by rw [AH.add_mem, AH.kill_next, T.get_put_self]) fun i hi => ?_
      by_cases h1 : i < xs.length
      · rw [List.getElem_append_left h1]
        exact (a5 i h1).putL_out (.inl (by omega))
      · rw [List.getElem_append_right (by omega)]
        have := putL_rls (l := ys) (c := c) (off := xs.length * 4) (i := i - xs.length) (by simp at hi; omega)
        rwa [show xs.length * 4 + (i - xs.length) * 4 = i * 4 by omega] at this
    · rw [AH.add_mem, AH.kill_next, T.get_put_ne _ _ _ _ (by omega), AH.kill_mem, T.get_put_ne _ _ _ _ (fun e => hn 0 xs.length 4 (by rw [e]))]
/-- a record is changed in place -/
theorem OwnR.upd {id i : Nat} {c : T AV} {X : AObj} {y z : Int} (hi : i < xs.length) (hb : b ≤ id) (hl : id < h.next) (hx : ∀ (i : Nat) (hi : i < xs.length), R4 c (i * 4) xs[i]) :
    OwnR ((h.set id X).set id (.cells (T.put (some (.int .i64 z)) (T.put (some (.int .i64 y)) c (i * 4 + 2)) (i * 4 + 3)) (xs.length * 4) true false)) b (.sl id 0 xs.length (.rest 4)) (xs.set i ⟨xs[i].a, xs[i].b, y, z⟩) := by
  have e : xs.length = (xs.set i ⟨xs[i].a, xs[i].b, y, z⟩).length := by simp
  have key : ∀ v, v = AV.sl id 0 xs.length (.rest 4) → v = AV.sl id 0 (xs.set i ⟨xs[i].a, xs[i].b, y, z⟩).length (.rest 4) := fun v hv => by rw [hv, ← e]
  rw [key _ rfl]
  refine .sl (fun h0 => by have e2 := e; rw [h0] at e2; have e3 : xs.length = 0 := e2; omega) hb (by rw [AH.set_next, AH.set_next]; exact hl) (by rw [AH.get_set, ← e]) fun j hj => ?_
  have hj' : j < xs.length := by rw [e]; exact hj
  have q := hx j hj'
  by_cases hij : i = j
  · subst hij
    rw [List.getElem_set_self]
    refine ⟨?_, ?_, ?_, ?_⟩
    · rw [T.get_put_ne _ _ _ _ (by omega), T.get_put_ne _ _ _ _ (by omega)]; exact q.a
    · rw [T.get_put_ne _ _ _ _ (by omega), T.get_put_ne _ _ _ _ (by omega)]; exact q.b
    · rw [T.get_put_ne _ _ _ _ (by omega)]; exact T.get_put_self _ _ _
    · exact T.get_put_self _ _ _
  · rw [List.getElem_set_ne hij]
    refine .of fun t ht => ?_
    rw [T.get_put_ne _ _ _ _ (by omega), T.get_put_ne _ _ _ _ (by omega)]
    exact q.get ht
/-! ### Parts of a slice -/
theorem sliceV_nils {kill : Bool} {h : AH} {lo hi : Option Nat} (hl : lo = none ∨ lo = some 0) (hh : hi = none ∨ hi = some 0) : oSliceV kill 4 (.c .nils) (lo.map fun n => .c (.int .i64 (n : Int))) (hi.map fun n => .c (.int .i64 (n : Int))) none .leaf [] h = .val .nils h := by
  rcases hl with rfl | rfl <;> rcases hh with rfl | rfl <;> rfl
theorem OwnR.hi (x : OwnR h b v xs) {i : Nat} (hi : i ≤ xs.length) : ∃ v', (∀ kill h', More h h' → oSliceV kill 4 (.c v) none (some (.c (.int .i64 (i : Int)))) none .leaf [] h' = .val v' h') ∧ (∀ h', More h h' → SrcR h' v' (xs.take i)) ∧ v'.mv = true := by
  cases x with
  | nils =>
    obtain rfl : i = 0 := by simpa using hi
    exact ⟨.nils, fun kill h' m => rfl, fun h' m => srcn, rfl⟩
  | emp =>
    obtain rfl : i = 0 := by simpa using hi
    exact ⟨_, fun kill h' m => rfl, fun h' m => src0, rfl⟩
  | sl a1 a2 a3 a4 a5 =>
    rename_i id c
    refine ⟨.sl id 0 i (.rest 4), fun kill h' m => ?_, fun h' m => ?_, rfl⟩
    · have hg : h'.mem.get id = some (.cells c (xs.length * 4) true false) := by rw [m.keep _ a3]; exact a4
      show bi (Nat.beq 4 4) (bi (Nat.ble 1 4) (onCells (AH.get h' id) fun _ s _ r => bi (Nat.ble (Nat.add 0 (Nat.mul i 4)) s) (bi (Nat.ble 0 i) (bi (Nat.beq 0 0) (OR.val (AV.sl id 0 i (ACap.rest 4)) h') _) (F 36)) (F 36)) (F 38)) (F 38) = _
      rw [AH.get_eq, hg, onCells_some, show Nat.ble (Nat.add 0 (Nat.mul i 4)) (xs.length * 4) = true from Nat.ble_eq.mpr (by show 0 + i * 4 ≤ _; omega)]
      rfl
    · have hg : h'.mem.get id = some (.cells c (xs.length * 4) true false) := by rw [m.keep _ a3]; exact a4
      have := srcs (xs := xs.take i) (off := 0) (cap := .rest 4) hg fun j hj => by
        have hj' : j < xs.length := by simp at hj; omega
        rw [Nat.zero_add, List.getElem_take]; exact a5 j hj'
      rwa [List.length_take, Nat.min_eq_left hi] at this
theorem OwnR.lo (x : OwnR h b v xs) {i : Nat} (hi : i ≤ xs.length) : ∃ v', oSliceV false 4 (.c v) (some (.c (.int .i64 (i : Int)))) none none .leaf [] h = .val v' h ∧ SrcR h v' (xs.drop i) ∧ v'.mv = true := by
  cases x with
  | nils =>
    obtain rfl : i = 0 := by simpa using hi
    exact ⟨.nils, rfl, srcn, rfl⟩
  | emp =>
    obtain rfl : i = 0 := by simpa using hi
    exact ⟨_, rfl, src0, rfl⟩
  | sl a1 a2 a3 a4 a5 =>
    rename_i id c
    have key : oSliceV false 4 (.c (.sl id 0 xs.length (.rest 4))) (some (.c (.int .i64 (i : Int)))) none none .leaf [] h = (bi (Nat.beq i 0) (OR.val (AV.sl id 0 xs.length (ACap.rest 4)) h)
          (fN (Nat.sub xs.length i) fun n => bi (Nat.beq n 0) (OR.val (AV.sl id 0 0 (ACap.rest 0)) h)
            (fN (Nat.add 0 (Nat.mul i 4)) fun off => OR.val (AV.sl id off n (ACap.rest 4)) h))) := by
      show bi (Nat.beq 4 4) (bi (Nat.ble 1 4) (onCells (AH.get h id) fun _ s _ r => bi (Nat.ble (Nat.add 0 (Nat.mul xs.length 4)) s) (bi (Nat.ble i xs.length) _ (F 36)) (F 36)) (F 38)) (F 38) = _
      rw [AH.get_eq, a4, onCells_some, show Nat.ble (Nat.add 0 (Nat.mul xs.length 4)) (xs.length * 4) = true from Nat.ble_eq.mpr (by show 0 + xs.length * 4 ≤ _; omega), show Nat.ble i xs.length = true from Nat.ble_eq.mpr hi]
      rfl
    rw [key]
    by_cases h0 : i = 0
    · subst h0
      exact ⟨_, rfl, srcs a4 fun i hi => by rw [Nat.zero_add]; exact a5 i hi, rfl⟩
    rw [beq_nat, decide_eq_false h0, bi_false, fN_eq, beq_nat]
    by_cases h1 : xs.length - i = 0
    · rw [decide_eq_true (show Nat.sub xs.length i = 0 from h1), bi_true]
      obtain rfl : i = xs.length := by omega
      rw [List.drop_length]
      exact ⟨_, rfl, src0, rfl⟩
    · rw [decide_eq_false (show ¬ Nat.sub xs.length i = 0 from h1), bi_false, fN_eq]
      refine ⟨_, rfl, ?_, rfl⟩
      have := srcs (xs := xs.drop i) (off := i * 4) (cap := .rest 4) a4 fun j hj => by
        have hj' : i + j < xs.length := by simp at hj; omega
        rw [List.getElem_drop, ← Nat.add_mul]; exact a5 (i + j) hj'
      rw [List.length_drop] at this
      rw [show Nat.add 0 (Nat.mul i 4) = i * 4 from Nat.zero_add _]
      exact this
end
/-! ### Maps from pairs to places -/
def kv (a b : Int) : AV := .agg [.int .i64 a, .int .i64 b]
def ents : List Rw → Nat → List (AV × AV × Nat)
  | [], _ => []
  | x :: l, i => (kv x.a x.b, .int .i64 (i : Int), i) :: ents l (i + 1)
theorem keyEq_kv {a b c d : Int} : keyEq (.agg [.int, .int]) (kv a b) (kv c d) = some (decide (a = c ∧ b = d)) := by
  show eqL [.int, .int] [.int .i64 a, .int .i64 b] [.int .i64 c, .int .i64 d] = _
  rw [eqLs, eqS_int, obind_some, eqLs, eqS_int, obind_some, eqLz]
  by_cases h1 : a = c <;> by_cases h2 : b = d <;> simp [h1, h2, bi_true, bi_false, obind_some]
theorem find_ents : ∀ {l : List Rw} {i : Nat} {a b : Int}, find (.agg [.int, .int]) (kv a b) (ents l i) = some (if pos l a b < l.length then some (.int .i64 ((i + pos l a b : Nat) : Int)) else none)
  | [], _, _, _ => rfl
  | x :: l, i, a, b => by
    show obind (keyEq (.agg [.int, .int]) (kv a b) (kv x.a x.b)) none (fun q => bi q (some (some (.int .i64 (i : Int)))) (find (.agg [.int, .int]) (kv a b) (ents l (i + 1)))) = _
    rw [keyEq_kv, obind_some, find_ents (l := l)]
    by_cases hx : same2 x a b
    · have : a = x.a ∧ b = x.b := ⟨hx.1.symm, hx.2.symm⟩
      rw [decide_eq_true this, bi_true]
      simp [pos, hx]
    · have : ¬ (a = x.a ∧ b = x.b) := fun e => hx ⟨e.1.symm, e.2.symm⟩
      rw [decide_eq_false this, bi_false]
      simp only [pos, hx, if_false, List.length_cons, Nat.add_lt_add_iff_right]
      rw [show i + 1 + pos l a b = i + (pos l a b + 1) by omega]
theorem put_ents : ∀ {l : List Rw} {i : Nat} {s : Rw}, pos l s.a s.b = l.length → putE (.agg [.int, .int]) (kv s.a s.b) (.int .i64 ((i + l.length : Nat) : Int)) (i + l.length) (ents l i) = some (ents (l ++ [s]) i, true)
  | [], _, _, _ => rfl
  | x :: l, i, s, h => by
    have hx : ¬ same2 x s.a s.b := fun hx => by simp [pos, hx] at h
    have hl : pos l s.a s.b = l.length := by simp only [pos, hx, if_false, List.length_cons] at h; omega
    show obind (keyEq (.agg [.int, .int]) (kv s.a s.b) (kv x.a x.b)) none (fun q => bi q (some (_ :: ents l (i + 1), false)) (obind (putE (.agg [.int, .int]) (kv s.a s.b) (.int .i64 ((i + (x :: l).length : Nat) : Int)) (i + (x :: l).length) (ents l (i + 1))) none fun p => Prod.rec (motive := fun _ => Option (List (AV × AV × Nat) × Bool)) (fun l b => some ((kv x.a x.b, .int .i64 (i : Int), i) :: l, b)) p)) = _
    rw [keyEq_kv, decide_eq_false (fun e => hx ⟨e.1.symm, e.2.symm⟩), obind_some, bi_false, List.length_cons, show i + (l.length + 1) = i + 1 + l.length by omega, put_ents hl, obind_some]
    rfl
theorem ents_keys : ∀ {l l' : List Rw} {i : Nat}, (l.map fun x => (x.a, x.b)) = l'.map (fun x => (x.a, x.b)) → ents l i = ents l' i
  | [], [], _, _ => rfl
  | [], _ :: _, _, h => by simp at h
  | _ :: _, [], _, h => by simp at h
  | x :: l, y :: l', i, h => by
    simp only [List.map_cons, List.cons.injEq, Prod.mk.injEq] at h
    simp only [ents, h.1.1, h.1.2]
    rw [ents_keys h.2]
theorem ents_set {l : List Rw} {j : Nat} {x : Rw} {i : Nat} (hj : j < l.length) (ha : x.a = l[j].a) (hb : x.b = l[j].b) : ents (l.set j x) i = ents l i := by
  refine ents_keys (List.ext_getElem (by simp) fun k h1 h2 => ?_)
  simp only [List.length_map, List.length_set] at h1
  simp only [List.getElem_map, List.getElem_set]
  split
  · rename_i e; subst e; rw [ha, hb]
  · rfl
end Go.Ev
