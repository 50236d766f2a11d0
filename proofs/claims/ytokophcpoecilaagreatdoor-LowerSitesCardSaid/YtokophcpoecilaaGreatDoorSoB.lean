/- Sorting of integers: partitions of rows with the pivot as the least; rows that are sorted but for a few. Sorting of integers: the whole. Sorting of integers: each number once. Sorting of integers: what stands twice is struck. -/
import Derived.Test.YtokophcpoecilaaGreatDoorSoA
import Derived.Test.YtokophcpoecilaaGreatDoorEvH
set_option linter.unusedSimpArgs false
set_option linter.unusedVariables false
namespace Go.Ev
open Go
set_option maxRecDepth 100000
set_option maxHeartbeats 4000000
theorem rises_swp {α : Type} {lt : α → α → Bool} {a i u v : Nat} {g : Nat → α} (h : Rises lt a i g) (hu : i ≤ u) (hv : i ≤ v) : Rises lt a i (swp g u v) := fun x y h1 h2 h3 => by
  rw [swp_o (by omega) (by omega), swp_o (by omega) (by omega)]; exact h x y h1 h2 h3
section
variable {tab : Nat → Option AFunc} {h : AH} {id o n s a b : Nat} {p : Bool} {cap : ACap} {c : T AV} {f : Nat → Int}
theorem partEq_gp (t64 : tab 64 = some af64) (t1 : tab 63 = some af63) (t2 : tab 110 = some af110)
    (hi : id < h.next) (hg : h.mem.get id = some (.cells c s p false)) (hc : IArr c o n f) {pv : Nat} (hab : a + 2 ≤ b) (hpa : a ≤ pv) (hpb : pv < b) (hbn : b ≤ n) (hn : n < 2305843009213693952) (hmin : ∀ k, a ≤ k → k < b → ltZ (f k) (f pv) = false) :
    GP tab 64 [.sl id o n cap, .int .i64 (a : Int), .int .i64 (b : Int), .int .i64 (pv : Int)] h fun v h1 => ∃ (m : Nat) (g : Nat → Int), v = .int .i64 (m : Int) ∧ a < m ∧ m ≤ b ∧ Seg h id o n s p c h1 g ∧ PermOn a b f g ∧
      Rises ltZ a m g ∧ ∀ x y, a ≤ x → x < m → m ≤ y → y < b → ltZ (g y) (g x) = false := by
  have i0 : initLoc [.sl id o n cap, .int .i64 (a : Int), .int .i64 (b : Int), .int .i64 (pv : Int)] = ofList [.sl id o n cap, .int .i64 (a : Int), .int .i64 (b : Int), .int .i64 (pv : Int)] := rfl
  refine gp_of t64 rfl ?_
  refine wc_seq (wc_opq fun Q1 hQ => ?_)
  simp (disch := omega) only [ER, reduceIte, Nat.reduceEqDiff, Nat.reduceAdd, i0]
  refine hQ _ ?_
  clear hQ Q1
  have q1 := hc a (by omega)
  have q2 := hc pv (by omega)
  refine wc_seq (wc_opq fun Q1 hQ => ?_)
  simp (disch := omega) only [ER, reduceIte, Nat.reduceEqDiff, Nat.reduceAdd, i0, hg, q1, q2]
  refine hQ _ ?_
  clear hQ Q1
  have sg := (Seg.start hi hg hc).swap (X := (AObj.cells (T.put (some (AV.int IntKind.i64 (f pv))) c (o + a)) s p false)) hc (fun _ _ => rfl) (i := a) (j := pv) (by omega) (by omega)
  have pm : PermOn a b f (swp f a pv) := PermOn.swap (by omega) (by omega)
  have mn : ∀ k, a ≤ k → k < b → ltZ (swp f a pv k) (swp f a pv a) = false := by rw [swp_l]; exact pm.all (Q := fun z => ltZ z (f pv) = false) hmin
  generalize swp f a pv = g at *
  generalize ((h.set id (AObj.cells (T.put (some (AV.int IntKind.i64 (f pv))) c (o + a)) s p false)).set id (AObj.cells (T.put (some (AV.int IntKind.i64 (f a))) (T.put (some (AV.int IntKind.i64 (f pv))) c (o + a)) (o + pv)) s p false)) = h1 at *
  refine wc_seq (wc_opq fun Q1 hQ => ?_)
  simp (disch := omega) only [ER, reduceIte, Nat.reduceEqDiff, Nat.reduceAdd, i0]
  refine hQ _ ?_
  clear hQ Q1
  refine wc_mid (fun l d h2 => ∃ i j g, i = j + 1 ∧ a + 1 ≤ i ∧ j < b ∧ d = [] ∧ l.get 0 = some (.sl id o n cap) ∧ l.get 1 = some (.int .i64 (a : Int)) ∧ l.get 4 = some (.int .i64 (i : Int)) ∧ l.get 5 = some (.int .i64 (j : Int)) ∧
    Seg h id o n s p c h2 g ∧ PermOn a b f g ∧ (∀ k, a ≤ k → k < b → ltZ (g k) (g a) = false) ∧ (∀ k, a + 1 ≤ k → k < i → ltZ (g a) (g k) = false) ∧ (∀ k, j < k → k < b → ltZ (g a) (g k) = true)) ?_ ?_
  · refine wc_block ?_
    refine wc_while (fun k l d h2 => ∃ i j g, k = j + 1 - i ∧ i ≤ j + 1 ∧ a + 1 ≤ i ∧ j < b ∧ d = [] ∧ l.get 0 = some (.sl id o n cap) ∧ l.get 1 = some (.int .i64 (a : Int)) ∧ l.get 4 = some (.int .i64 (i : Int)) ∧ l.get 5 = some (.int .i64 (j : Int)) ∧
      Seg h id o n s p c h2 g ∧ PermOn a b f g ∧ (∀ k, a ≤ k → k < b → ltZ (g k) (g a) = false) ∧ (∀ k, a + 1 ≤ k → k < i → ltZ (g a) (g k) = false) ∧ (∀ k, j < k → k < b → ltZ (g a) (g k) = true)) ?_ (b - 1 + 1 - (a + 1)) ?_
    · clear sg pm mn
      rintro k l d h1 ⟨i, j, g, hk, hij, hai, hjb, rfl, g0, g1, g4, g5, sg, pm, mn, hU, hD⟩
      obtain ⟨c1, hg1, hc1, ho1⟩ := sg.row
      refine wc_block ?_
      refine wc_mid (fun l d h2 => ∃ i', i ≤ i' ∧ i' ≤ j + 1 ∧ h1 = h2 ∧ d = [] ∧ l.get 0 = some (.sl id o n cap) ∧ l.get 1 = some (.int .i64 (a : Int)) ∧ l.get 4 = some (.int .i64 (i' : Int)) ∧ l.get 5 = some (.int .i64 (j : Int)) ∧
        (∀ k, i ≤ k → k < i' → ltZ (g a) (g k) = false) ∧ (i' ≤ j → ltZ (g a) (g i') = true)) ?_ ?_
      · generalize hii : i = ii at *
        refine wc_block ?_
        refine wc_while (fun k l d h2 => ∃ i, k = j + 1 - i ∧ ii ≤ i ∧ i ≤ j + 1 ∧ h1 = h2 ∧ d = [] ∧ l.get 0 = some (.sl id o n cap) ∧ l.get 1 = some (.int .i64 (a : Int)) ∧ l.get 4 = some (.int .i64 (i : Int)) ∧ l.get 5 = some (.int .i64 ((j : Nat) : Int)) ∧ ∀ k, ii ≤ k → k < i → (fun k => ltZ (g a) (g k) = false) k) ?_ (j + 1 - ii) ?_
        · rintro k l d h2 ⟨i, hk, hi1, hi2, rfl, rfl, g0, g1, g4, g5, hE⟩
          refine wc_seq ?_
          by_cases hij : i ≤ j
          · have r1 := hc1 i (by omega)
            have r2 := hc1 a (by omega)
            refine wc_seq (wc_opq fun Q1 hQ => ?_)
            simp (disch := omega) only [ER, reduceIte, Nat.reduceEqDiff, Nat.reduceAdd, g0, g1, g4, g5, hij, hg1, r1, r2, less_rw t1 t2]
            refine hQ _ ?_
            clear hQ Q1
            refine wc_cond (q := !ltZ (g a) (g i)) (by simp (disch := omega) only [ER, reduceIte, Nat.reduceEqDiff, Nat.reduceAdd]) (fun hl => ?_) (fun hl => ?_)
            · refine wc_skip (wc_block ?_)
              refine wc_opq fun Q1 hQ => ?_
              simp (disch := omega) only [ER, reduceIte, Nat.reduceEqDiff, Nat.reduceAdd, g4]
              refine hQ _ ?_
              clear hQ Q1
              refine ⟨j + 1 - (i + 1), by omega, i + 1, rfl, by omega, by omega, rfl, rfl, ?_, ?_, ?_, ?_, fun x x1 x2 => ?_⟩
              · simp (disch := omega) only [ER, reduceIte, Nat.reduceEqDiff, Nat.reduceAdd, g0]
              · simp (disch := omega) only [ER, reduceIte, Nat.reduceEqDiff, Nat.reduceAdd, g1]
              · simp (disch := omega) only [ER, reduceIte, Nat.reduceEqDiff, Nat.reduceAdd]
              · simp (disch := omega) only [ER, reduceIte, Nat.reduceEqDiff, Nat.reduceAdd, g5]
              · by_cases hx : x = i
                · subst hx; simpa using hl
                · exact hE x x1 (by omega)
            · refine wc_exit ⟨i, hi1, hi2, rfl, rfl, ?_, ?_, ?_, ?_, hE, fun _ => by simpa using hl⟩
              · simp (disch := omega) only [ER, reduceIte, Nat.reduceEqDiff, Nat.reduceAdd, g0]
              · simp (disch := omega) only [ER, reduceIte, Nat.reduceEqDiff, Nat.reduceAdd, g1]
              · simp (disch := omega) only [ER, reduceIte, Nat.reduceEqDiff, Nat.reduceAdd, g4]
              · simp (disch := omega) only [ER, reduceIte, Nat.reduceEqDiff, Nat.reduceAdd, g5]
          · refine wc_seq (wc_opq fun Q1 hQ => ?_)
            simp (disch := omega) only [ER, reduceIte, Nat.reduceEqDiff, Nat.reduceAdd, g0, g1, g4, g5, hij]
            refine hQ _ ?_
            clear hQ Q1
            refine wc_no (by simp (disch := omega) only [ER, reduceIte, Nat.reduceEqDiff, Nat.reduceAdd]) (wc_exit ⟨i, hi1, hi2, rfl, rfl, ?_, ?_, ?_, ?_, hE, fun h => absurd h hij⟩)
            · simp (disch := omega) only [ER, reduceIte, Nat.reduceEqDiff, Nat.reduceAdd, g0]
            · simp (disch := omega) only [ER, reduceIte, Nat.reduceEqDiff, Nat.reduceAdd, g1]
            · simp (disch := omega) only [ER, reduceIte, Nat.reduceEqDiff, Nat.reduceAdd, g4]
            · simp (disch := omega) only [ER, reduceIte, Nat.reduceEqDiff, Nat.reduceAdd, g5]
        · refine ⟨ii, rfl, Nat.le_refl _, by omega, rfl, rfl, ?_, ?_, ?_, ?_, fun k h1 h2 => by omega⟩
          · simp (disch := omega) only [ER, reduceIte, Nat.reduceEqDiff, Nat.reduceAdd, g0]
          · simp (disch := omega) only [ER, reduceIte, Nat.reduceEqDiff, Nat.reduceAdd, g1]
          · simp (disch := omega) only [ER, reduceIte, Nat.reduceEqDiff, Nat.reduceAdd, g4]
          · simp (disch := omega) only [ER, reduceIte, Nat.reduceEqDiff, Nat.reduceAdd, g5]
      clear g0 g1 g4 g5
      rintro l d h2 ⟨i', hi1, hi2, rfl, rfl, g0, g1, g4, g5, hU1, hU2⟩
      have hU' : ∀ k, a + 1 ≤ k → k < i' → ltZ (g a) (g k) = false := fun k k1 k2 => by
        by_cases hk : k < i
        · exact hU k k1 hk
        · exact hU1 k (by omega) k2
      refine wc_mid (fun l d h2 => ∃ j', j' ≤ j ∧ i' ≤ j' + 1 ∧ h1 = h2 ∧ d = [] ∧ l.get 0 = some (.sl id o n cap) ∧ l.get 1 = some (.int .i64 (a : Int)) ∧ l.get 4 = some (.int .i64 (i' : Int)) ∧ l.get 5 = some (.int .i64 (j' : Int)) ∧
        (∀ k, j' < k → k ≤ j → ltZ (g a) (g k) = true) ∧ (i' ≤ j' → ltZ (g a) (g j') = false)) ?_ ?_
      · generalize hjj : j = jj at *
        refine wc_block ?_
        refine wc_while (fun k l d h2 => ∃ j, k = j + 1 - i' ∧ j ≤ jj ∧ i' ≤ j + 1 ∧ h1 = h2 ∧ d = [] ∧ l.get 0 = some (.sl id o n cap) ∧ l.get 1 = some (.int .i64 (a : Int)) ∧ l.get 4 = some (.int .i64 ((i' : Nat) : Int)) ∧ l.get 5 = some (.int .i64 (j : Int)) ∧ ∀ k, j < k → k ≤ jj → (fun k => ltZ (g a) (g k) = true) k) ?_ (jj + 1 - i') ?_
        · rintro k l d h2 ⟨j, hk, hi1, hi2, rfl, rfl, g0, g1, g4, g5, hE⟩
          refine wc_seq ?_
          by_cases hij : i' ≤ j
          · have r1 := hc1 j (by omega)
            have r2 := hc1 a (by omega)
            refine wc_seq (wc_opq fun Q1 hQ => ?_)
            simp (disch := omega) only [ER, reduceIte, Nat.reduceEqDiff, Nat.reduceAdd, g0, g1, g4, g5, hij, hg1, r1, r2, less_rw t1 t2]
            refine hQ _ ?_
            clear hQ Q1
            refine wc_cond (q := ltZ (g a) (g j)) (by simp (disch := omega) only [ER, reduceIte, Nat.reduceEqDiff, Nat.reduceAdd]) (fun hl => ?_) (fun hl => ?_)
            · refine wc_skip (wc_block ?_)
              refine wc_opq fun Q1 hQ => ?_
              simp (disch := omega) only [ER, reduceIte, Nat.reduceEqDiff, Nat.reduceAdd, g5]
              refine hQ _ ?_
              clear hQ Q1
              refine ⟨j - 1 + 1 - i', by omega, j - 1, rfl, by omega, by omega, rfl, rfl, ?_, ?_, ?_, ?_, fun x x1 x2 => ?_⟩
              · simp (disch := omega) only [ER, reduceIte, Nat.reduceEqDiff, Nat.reduceAdd, g0]
              · simp (disch := omega) only [ER, reduceIte, Nat.reduceEqDiff, Nat.reduceAdd, g1]
              · simp (disch := omega) only [ER, reduceIte, Nat.reduceEqDiff, Nat.reduceAdd, g4]
              · simp (disch := omega) only [ER, reduceIte, Nat.reduceEqDiff, Nat.reduceAdd]
              · by_cases hx : x = j
                · subst hx; simpa using hl
                · exact hE x (by omega) x2
            · refine wc_exit ⟨j, hi1, hi2, rfl, rfl, ?_, ?_, ?_, ?_, hE, fun _ => by simpa using hl⟩
              · simp (disch := omega) only [ER, reduceIte, Nat.reduceEqDiff, Nat.reduceAdd, g0]
              · simp (disch := omega) only [ER, reduceIte, Nat.reduceEqDiff, Nat.reduceAdd, g1]
              · simp (disch := omega) only [ER, reduceIte, Nat.reduceEqDiff, Nat.reduceAdd, g4]
              · simp (disch := omega) only [ER, reduceIte, Nat.reduceEqDiff, Nat.reduceAdd, g5]
          · refine wc_seq (wc_opq fun Q1 hQ => ?_)
            simp (disch := omega) only [ER, reduceIte, Nat.reduceEqDiff, Nat.reduceAdd, g0, g1, g4, g5, hij]
            refine hQ _ ?_
            clear hQ Q1
            refine wc_no (by simp (disch := omega) only [ER, reduceIte, Nat.reduceEqDiff, Nat.reduceAdd]) (wc_exit ⟨j, hi1, hi2, rfl, rfl, ?_, ?_, ?_, ?_, hE, fun h => absurd h hij⟩)
            · simp (disch := omega) only [ER, reduceIte, Nat.reduceEqDiff, Nat.reduceAdd, g0]
            · simp (disch := omega) only [ER, reduceIte, Nat.reduceEqDiff, Nat.reduceAdd, g1]
            · simp (disch := omega) only [ER, reduceIte, Nat.reduceEqDiff, Nat.reduceAdd, g4]
            · simp (disch := omega) only [ER, reduceIte, Nat.reduceEqDiff, Nat.reduceAdd, g5]
        · refine ⟨jj, rfl, Nat.le_refl _, by omega, rfl, rfl, ?_, ?_, ?_, ?_, fun k h1 h2 => by omega⟩
          · simp (disch := omega) only [ER, reduceIte, Nat.reduceEqDiff, Nat.reduceAdd, g0]
          · simp (disch := omega) only [ER, reduceIte, Nat.reduceEqDiff, Nat.reduceAdd, g1]
          · simp (disch := omega) only [ER, reduceIte, Nat.reduceEqDiff, Nat.reduceAdd, g4]
          · simp (disch := omega) only [ER, reduceIte, Nat.reduceEqDiff, Nat.reduceAdd, g5]
      clear g0 g1 g4 g5
      rintro l d h2 ⟨j', hj1, hj2, rfl, rfl, g0, g1, g4, g5, hD1, hD2⟩
      have hD' : ∀ k, j' < k → k < b → ltZ (g a) (g k) = true := fun k k1 k2 => by
        by_cases hk : j < k
        · exact hD k hk k2
        · exact hD1 k k1 (by omega)
      refine wc_seq ?_
      refine wc_seq (wc_opq fun Q1 hQ => ?_)
      simp (disch := omega) only [ER, reduceIte, Nat.reduceEqDiff, Nat.reduceAdd, g4, g5]
      refine hQ _ ?_
      clear hQ Q1
      refine wc_if (j' < i') (by simp (disch := omega) only [ER, reduceIte, Nat.reduceEqDiff, Nat.reduceAdd]) (fun hlt => ?_) (fun hge => ?_)
      · refine wc_exit ⟨i', j', g, by omega, by omega, by omega, rfl, ?_, ?_, ?_, ?_, sg, pm, mn, hU', hD'⟩
        · simp (disch := omega) only [ER, reduceIte, Nat.reduceEqDiff, Nat.reduceAdd, g0]
        · simp (disch := omega) only [ER, reduceIte, Nat.reduceEqDiff, Nat.reduceAdd, g1]
        · simp (disch := omega) only [ER, reduceIte, Nat.reduceEqDiff, Nat.reduceAdd, g4]
        · simp (disch := omega) only [ER, reduceIte, Nat.reduceEqDiff, Nat.reduceAdd, g5]
      · refine wc_skip ?_
        have hne : i' < j' := by
          rcases Nat.lt_or_ge i' j' with h | h
          · exact h
          · obtain rfl : i' = j' := by omega
            have := hU2 (by omega); rw [hD2 (by omega)] at this; cases this
        have r1 := hc1 i' (by omega)
        have r2 := hc1 j' (by omega)
        refine wc_seq (wc_opq fun Q1 hQ => ?_)
        simp (disch := omega) only [ER, reduceIte, Nat.reduceEqDiff, Nat.reduceAdd, g0, g4, g5, hg1, r1, r2]
        refine hQ _ ?_
        clear hQ Q1
        refine wc_seq (wc_opq fun Q1 hQ => ?_)
        simp (disch := omega) only [ER, reduceIte, Nat.reduceEqDiff, Nat.reduceAdd, g4]
        refine hQ _ ?_
        clear hQ Q1
        refine wc_opq fun Q1 hQ => ?_
        simp (disch := omega) only [ER, reduceIte, Nat.reduceEqDiff, Nat.reduceAdd, g5]
        refine hQ _ ?_
        clear hQ Q1
        have ea : swp g i' j' a = g a := swp_o (by omega) (by omega)
        refine ⟨j' - 1 + 1 - (i' + 1), by omega, i' + 1, j' - 1, _, rfl, by omega, by omega, by omega, rfl, ?_, ?_, ?_, ?_, sg.swap hc1 ho1 (by omega) (by omega), pm.trans (PermOn.swap (by omega) (by omega)), ?_, fun k k1 k2 => ?_, fun k k1 k2 => ?_⟩
        · simp (disch := omega) only [ER, reduceIte, Nat.reduceEqDiff, Nat.reduceAdd, g0]
        · simp (disch := omega) only [ER, reduceIte, Nat.reduceEqDiff, Nat.reduceAdd, g1]
        · simp (disch := omega) only [ER, reduceIte, Nat.reduceEqDiff, Nat.reduceAdd]
        · simp (disch := omega) only [ER, reduceIte, Nat.reduceEqDiff, Nat.reduceAdd]
        · rw [ea]; exact (PermOn.swap (by omega) (by omega)).all (Q := fun z => ltZ z (g a) = false) mn
        · rw [ea]
          by_cases hk : k = i'
          · subst hk; rw [swp_l]; exact hD2 (by omega)
          · rw [swp_o hk (by omega)]; exact hU' k k1 (by omega)
        · rw [ea]
          by_cases hk : k = j'
          · subst hk; rw [swp_r]; exact hU2 (by omega)
          · rw [swp_o (by omega) hk]; exact hD' k (by omega) k2
    · refine ⟨a + 1, b - 1, g, rfl, by omega, by omega, by omega, rfl, ?_, ?_, ?_, ?_, sg, pm, mn, fun k h1 h2 => by omega, fun k h1 h2 => by omega⟩
      all_goals simp (disch := omega) only [ER, reduceIte, Nat.reduceEqDiff, Nat.reduceAdd, i0]
  · clear sg pm mn
    rintro l d h1 ⟨i, j, g, e, hai, hjb, rfl, g0, g1, g4, g5, sg, pm, mn, hU, hD⟩
    refine wc_seq (wc_opq fun Q1 hQ => ?_)
    simp (disch := omega) only [ER, reduceIte, Nat.reduceEqDiff, Nat.reduceAdd, g4]
    refine hQ _ ?_
    clear hQ Q1
    have lo : ∀ x, a ≤ x → x < i → ltZ (g a) (g x) = false := fun x x1 x2 => by
      by_cases hx : x = a
      · subst hx; exact ordZ.irrefl _
      · exact hU x (by omega) x2
    refine wc_ret ⟨_, results_val results_nil, i, g, ?_, by omega, by omega, sg, pm, fun x y h1 h2 h3 => ordZ.trans _ _ _ (lo x h1 (by omega)) (mn y (by omega) (by omega)), fun x y h1 h2 h3 h4 => ordZ.trans _ _ _ (lo x h1 h2) (mn y (by omega) h4)⟩
    simp (disch := omega) only [ER, reduceIte, Nat.reduceEqDiff, Nat.reduceAdd, one_one]
/-- a row that may be sorted already: where it says so, it is; whatever it does, it turns the row round -/
theorem partial_gp (t62 : tab 62 = some af62) (t1 : tab 63 = some af63) (t2 : tab 110 = some af110)
    (hi : id < h.next) (hg : h.mem.get id = some (.cells c s p false)) (hc : IArr c o n f) (hab : a + 2 ≤ b) (hbn : b ≤ n) (hn : n < 2305843009213693952) (hlow : 0 < a → ∀ k, a ≤ k → k < b → ltZ (f k) (f (a - 1)) = false) :
    GP tab 62 [.sl id o n cap, .int .i64 (a : Int), .int .i64 (b : Int)] h fun v h1 => ∃ (q : Bool) (g : Nat → Int), v = .bool q ∧ Seg h id o n s p c h1 g ∧ PermOn a b f g ∧ (q = true → Rises ltZ a b g) := by
  have i0 : initLoc [.sl id o n cap, .int .i64 (a : Int), .int .i64 (b : Int)] = ofList [.sl id o n cap, .int .i64 (a : Int), .int .i64 (b : Int)] := rfl
  have low : ∀ {g : Nat → Int}, PermOn a b f g → 0 < a → ltZ (g a) (g (a - 1)) = false := fun pm h0 => by
    rw [pm.out (i := a - 1) (by omega)]
    exact pm.all (Q := fun z => ltZ z (f (a - 1)) = false) (hlow h0) a (Nat.le_refl _) (by omega)
  refine gp_of t62 rfl ?_
  refine wc_seq (wc_opq fun Q1 hQ => ?_)
  simp (disch := omega) only [ER, reduceIte, Nat.reduceEqDiff, Nat.reduceAdd, i0]
  refine hQ _ ?_
  clear hQ Q1
  refine wc_seq (wc_opq fun Q1 hQ => ?_)
  simp (disch := omega) only [ER, reduceIte, Nat.reduceEqDiff, Nat.reduceAdd, i0]
  refine hQ _ ?_
  clear hQ Q1
  refine wc_mid (fun l d h1 => ∃ g, d = [] ∧ Seg h id o n s p c h1 g ∧ PermOn a b f g) ?_ ?_
  · refine wc_seq (wc_opq fun Q1 hQ => ?_)
    simp (disch := omega) only [ER, reduceIte, Nat.reduceEqDiff, Nat.reduceAdd]
    refine hQ _ ?_
    clear hQ Q1
    refine wc_block ?_
    refine wc_while (fun k l d h1 => ∃ (t i : Nat) (g : Nat → Int), k = 5 - t ∧ a < i ∧ i ≤ b ∧ d = [] ∧ l.get 0 = some (.sl id o n cap) ∧ l.get 1 = some (.int .i64 (a : Int)) ∧ l.get 2 = some (.int .i64 (b : Int)) ∧ l.get 3 = some (.int .i64 (t : Int)) ∧ l.get 5 = some (.int .i64 (i : Int)) ∧
      Seg h id o n s p c h1 g ∧ PermOn a b f g ∧ Rises ltZ a i g) ?_ (5 - 0) ?_
    · rintro k l d h1 ⟨t, i, g, hk, hai, hib, rfl, g0, g1, g2, g3, g5, sg, pm, ri⟩
      refine wc_seq ?_
      refine wc_seq (wc_opq fun Q1 hQ => ?_)
      simp (disch := omega) only [ER, reduceIte, Nat.reduceEqDiff, Nat.reduceAdd, g3]
      refine hQ _ ?_
      clear hQ Q1
      refine wc_if (t < 5) (by simp (disch := omega) only [ER, reduceIte, Nat.reduceEqDiff, Nat.reduceAdd]) (fun hlt => ?_) (fun hge => ?_)
      · refine wc_skip ?_
        refine wc_mid (fun l d h1 => ∃ (i : Nat) (g : Nat → Int), a < i ∧ i ≤ b ∧ d = [] ∧ l.get 0 = some (.sl id o n cap) ∧ l.get 1 = some (.int .i64 (a : Int)) ∧ l.get 2 = some (.int .i64 (b : Int)) ∧ l.get 3 = some (.int .i64 (t : Int)) ∧ l.get 5 = some (.int .i64 (i : Int)) ∧ Seg h id o n s p c h1 g ∧ PermOn a b f g ∧ Rises ltZ a i g) ?_ ?_
        · refine wc_block ?_
          refine wc_mid (fun l d h2 => ∃ i : Nat, a < i ∧ i ≤ b ∧ h1 = h2 ∧ d = [] ∧ l.get 0 = some (.sl id o n cap) ∧ l.get 1 = some (.int .i64 (a : Int)) ∧ l.get 2 = some (.int .i64 (b : Int)) ∧ l.get 3 = some (.int .i64 (t : Int)) ∧ l.get 5 = some (.int .i64 (i : Int)) ∧ Rises ltZ a i g ∧ (i < b → ltZ (g i) (g (i - 1)) = true)) ?_ ?_
          · refine wc_block ?_
            refine wc_while (fun k l d h2 => ∃ i : Nat, k = b - i ∧ a < i ∧ i ≤ b ∧ h1 = h2 ∧ d = [] ∧ l.get 0 = some (.sl id o n cap) ∧ l.get 1 = some (.int .i64 (a : Int)) ∧ l.get 2 = some (.int .i64 (b : Int)) ∧ l.get 3 = some (.int .i64 (t : Int)) ∧ l.get 5 = some (.int .i64 (i : Int)) ∧ Rises ltZ a i g) ?_ (b - i) ?_
            · obtain ⟨c1, hg1, hc1, ho1⟩ := sg.row
              clear ri g0 g1 g2 g3 g5 hai hib
              rintro k l d h2 ⟨i, hk, hai, hib, rfl, rfl, g0, g1, g2, g3, g5, ri⟩
              refine wc_seq ?_
              by_cases hlb : i < b
              · have r1 := hc1 i (by omega)
                have r2 := hc1 (i - 1) (by omega)
                refine wc_seq (wc_opq fun Q1 hQ => ?_)
                simp (disch := omega) only [ER, reduceIte, Nat.reduceEqDiff, Nat.reduceAdd, g0, g2, g5, hlb, hg1, r1, r2, less_rw t1 t2]
                refine hQ _ ?_
                clear hQ Q1
                refine wc_cond (q := !ltZ (g i) (g (i - 1))) (by simp (disch := omega) only [ER, reduceIte, Nat.reduceEqDiff, Nat.reduceAdd]) (fun hl => ?_) (fun hl => ?_)
                · refine wc_skip (wc_block ?_)
                  refine wc_opq fun Q1 hQ => ?_
                  simp (disch := omega) only [ER, reduceIte, Nat.reduceEqDiff, Nat.reduceAdd, g5]
                  refine hQ _ ?_
                  clear hQ Q1
                  refine ⟨b - (i + 1), by omega, i + 1, rfl, by omega, by omega, rfl, rfl, ?_, ?_, ?_, ?_, ?_, ?_⟩
                  · simp (disch := omega) only [ER, reduceIte, Nat.reduceEqDiff, Nat.reduceAdd, g0]
                  · simp (disch := omega) only [ER, reduceIte, Nat.reduceEqDiff, Nat.reduceAdd, g1]
                  · simp (disch := omega) only [ER, reduceIte, Nat.reduceEqDiff, Nat.reduceAdd, g2]
                  · simp (disch := omega) only [ER, reduceIte, Nat.reduceEqDiff, Nat.reduceAdd, g3]
                  · simp (disch := omega) only [ER, reduceIte, Nat.reduceEqDiff, Nat.reduceAdd]
                  · refine rises_of_step ordZ fun x x1 x2 => ?_
                    by_cases hx : x = i
                    · subst hx; simpa using hl
                    · exact ri (x - 1) x (by omega) (by omega) (by omega)
                · refine wc_exit ⟨i, hai, hib, rfl, rfl, ?_, ?_, ?_, ?_, ?_, ri, fun _ => by simpa using hl⟩
                  · simp (disch := omega) only [ER, reduceIte, Nat.reduceEqDiff, Nat.reduceAdd, g0]
                  · simp (disch := omega) only [ER, reduceIte, Nat.reduceEqDiff, Nat.reduceAdd, g1]
                  · simp (disch := omega) only [ER, reduceIte, Nat.reduceEqDiff, Nat.reduceAdd, g2]
                  · simp (disch := omega) only [ER, reduceIte, Nat.reduceEqDiff, Nat.reduceAdd, g3]
                  · simp (disch := omega) only [ER, reduceIte, Nat.reduceEqDiff, Nat.reduceAdd, g5]
              · refine wc_seq (wc_opq fun Q1 hQ => ?_)
                simp (disch := omega) only [ER, reduceIte, Nat.reduceEqDiff, Nat.reduceAdd, g0, g2, g5, hlb]
                refine hQ _ ?_
                clear hQ Q1
                refine wc_no (by simp (disch := omega) only [ER, reduceIte, Nat.reduceEqDiff, Nat.reduceAdd]) (wc_exit ⟨i, hai, hib, rfl, rfl, ?_, ?_, ?_, ?_, ?_, ri, fun h => absurd h hlb⟩)
                · simp (disch := omega) only [ER, reduceIte, Nat.reduceEqDiff, Nat.reduceAdd, g0]
                · simp (disch := omega) only [ER, reduceIte, Nat.reduceEqDiff, Nat.reduceAdd, g1]
                · simp (disch := omega) only [ER, reduceIte, Nat.reduceEqDiff, Nat.reduceAdd, g2]
                · simp (disch := omega) only [ER, reduceIte, Nat.reduceEqDiff, Nat.reduceAdd, g3]
                · simp (disch := omega) only [ER, reduceIte, Nat.reduceEqDiff, Nat.reduceAdd, g5]
            · refine ⟨i, rfl, hai, hib, rfl, rfl, ?_, ?_, ?_, ?_, ?_, ri⟩
              · simp (disch := omega) only [ER, reduceIte, Nat.reduceEqDiff, Nat.reduceAdd, g0]
              · simp (disch := omega) only [ER, reduceIte, Nat.reduceEqDiff, Nat.reduceAdd, g1]
              · simp (disch := omega) only [ER, reduceIte, Nat.reduceEqDiff, Nat.reduceAdd, g2]
              · simp (disch := omega) only [ER, reduceIte, Nat.reduceEqDiff, Nat.reduceAdd, g3]
              · simp (disch := omega) only [ER, reduceIte, Nat.reduceEqDiff, Nat.reduceAdd, g5]
          clear ri g0 g1 g2 g3 g5 hai hib
          rintro l d h2 ⟨i, hai, hib, rfl, rfl, g0, g1, g2, g3, g5, ri, hls⟩
          refine wc_seq ?_
          refine wc_seq (wc_opq fun Q1 hQ => ?_)
          simp (disch := omega) only [ER, reduceIte, Nat.reduceEqDiff, Nat.reduceAdd, g2, g5]
          refine hQ _ ?_
          clear hQ Q1
          refine wc_if (i = b) (by simp (disch := omega) only [ER, reduceIte, Nat.reduceEqDiff, Nat.reduceAdd]) (fun e => ?_) (fun hne => ?_)
          · refine wc_seq (wc_opq fun Q1 hQ => ?_)
            simp (disch := omega) only [ER, reduceIte, Nat.reduceEqDiff, Nat.reduceAdd]
            refine hQ _ ?_
            clear hQ Q1
            refine wc_ret ⟨_, results_val results_nil, true, g, ?_, sg, pm, fun _ => by subst e; exact ri⟩
            simp (disch := omega) only [ER, reduceIte, Nat.reduceEqDiff, Nat.reduceAdd, one_one]
          refine wc_skip (wc_seq ?_)
          refine wc_seq (wc_opq fun Q1 hQ => ?_)
          simp (disch := omega) only [ER, reduceIte, Nat.reduceEqDiff, Nat.reduceAdd, g1, g2]
          refine hQ _ ?_
          clear hQ Q1
          refine wc_if (b - a < 50) (by simp (disch := omega) only [ER, reduceIte, Nat.reduceEqDiff, Nat.reduceAdd]) (fun e => ?_) (fun h50 => ?_)
          · refine wc_seq (wc_opq fun Q1 hQ => ?_)
            simp (disch := omega) only [ER, reduceIte, Nat.reduceEqDiff, Nat.reduceAdd]
            refine hQ _ ?_
            clear hQ Q1
            refine wc_ret ⟨_, results_val results_nil, false, g, ?_, sg, pm, fun h => by cases h⟩
            simp (disch := omega) only [ER, reduceIte, Nat.reduceEqDiff, Nat.reduceAdd, one_one]
          refine wc_skip ?_
          have hl := hls (by omega)
          clear hls
          obtain ⟨c1, hg1, hc1, ho1⟩ := sg.row
          have r1 := hc1 i (by omega)
          have r2 := hc1 (i - 1) (by omega)
          refine wc_seq (wc_opq fun Q1 hQ => ?_)
          simp (disch := omega) only [ER, reduceIte, Nat.reduceEqDiff, Nat.reduceAdd, g0, g5, hg1, r1, r2]
          refine hQ _ ?_
          clear hQ Q1
          have sw := sg.swap (X := (AObj.cells (T.put (some (AV.int IntKind.i64 (g (i - 1)))) c1 (o + i)) s p false)) hc1 ho1 (i := i) (j := i - 1) (by omega) (by omega)
          have pm2 : PermOn a b f (swp g i (i - 1)) := pm.trans (PermOn.swap (by omega) (by omega))
          have ri2 : Rises ltZ a (i - 1) (swp g i (i - 1)) := rises_swp (fun x y h1 h2 h3 => ri x y h1 h2 (by omega)) (by omega) (by omega)
          generalize swp g i (i - 1) = g' at *
          generalize ((h1.set id (AObj.cells (T.put (some (AV.int IntKind.i64 (g (i - 1)))) c1 (o + i)) s p false)).set id _) = h2 at *
          clear hg1 hc1 ho1 r1 r2 sg pm ri hl
          refine wc_mid (fun l d h3 => ∃ g : Nat → Int, d = [] ∧ l.get 0 = some (.sl id o n cap) ∧ l.get 1 = some (.int .i64 (a : Int)) ∧ l.get 2 = some (.int .i64 (b : Int)) ∧ l.get 3 = some (.int .i64 (t : Int)) ∧ l.get 5 = some (.int .i64 (i : Int)) ∧ Seg h id o n s p c h3 g ∧ PermOn a b f g ∧ Rises ltZ a i g) ?_ ?_
          · refine wc_seq (wc_opq fun Q1 hQ => ?_)
            simp (disch := omega) only [ER, reduceIte, Nat.reduceEqDiff, Nat.reduceAdd, g1, g5]
            refine hQ _ ?_
            clear hQ Q1
            refine wc_if (2 ≤ i - a) (by simp (disch := omega) only [ER, reduceIte, Nat.reduceEqDiff, Nat.reduceAdd]) (fun h2a => ?_) (fun h2a => ?_)
            · refine wc_seq (wc_opq fun Q1 hQ => ?_)
              simp (disch := omega) only [ER, reduceIte, Nat.reduceEqDiff, Nat.reduceAdd, g5]
              refine hQ _ ?_
              clear hQ Q1
              refine wc_block ?_
              refine wc_while (fun k l d h3 => ∃ (j : Nat) (g : Nat → Int), k = j ∧ a ≤ j ∧ j ≤ i - 1 ∧ d = [] ∧ l.get 0 = some (.sl id o n cap) ∧ l.get 1 = some (.int .i64 (a : Int)) ∧ l.get 2 = some (.int .i64 (b : Int)) ∧ l.get 3 = some (.int .i64 (t : Int)) ∧ l.get 5 = some (.int .i64 (i : Int)) ∧ l.get 10 = some (.int .i64 (j : Int)) ∧ Seg h id o n s p c h3 g ∧ PermOn a b f g ∧ InsInv ltZ a (i - 1) j g) ?_ (i - 1) ?_
              · clear g0 g1 g2 g3 g5
                rintro k l d h3 ⟨j, g, rfl, haj, hji, rfl, g0, g1, g2, g3, g5, g10, sg, pm, iv⟩
                obtain ⟨c1, hg1, hc1, ho1⟩ := sg.row
                refine wc_seq ?_
                refine wc_seq (wc_opq fun Q1 hQ => ?_)
                simp (disch := omega) only [ER, reduceIte, Nat.reduceEqDiff, Nat.reduceAdd, g10]
                refine hQ _ ?_
                clear hQ Q1
                refine wc_if (1 ≤ k) (by simp (disch := omega) only [ER, reduceIte, Nat.reduceEqDiff, Nat.reduceAdd]) (fun hk1 => ?_) (fun hk1 => ?_)
                · refine wc_skip ?_
                  have r1 := hc1 k (by omega)
                  have r2 := hc1 (k - 1) (by omega)
                  refine wc_seq (wc_block (wc_seq ?_))
                  refine wc_seq (wc_opq fun Q1 hQ => ?_)
                  simp (disch := omega) only [ER, reduceIte, Nat.reduceEqDiff, Nat.reduceAdd, g0, g10, hg1, r1, r2, less_rw t1 t2]
                  refine hQ _ ?_
                  clear hQ Q1
                  refine wc_cond (q := !ltZ (g k) (g (k - 1))) (by simp (disch := omega) only [ER, reduceIte, Nat.reduceEqDiff, Nat.reduceAdd]) (fun hl => ?_) (fun hl => ?_)
                  · refine wc_exit ⟨g, rfl, ?_, ?_, ?_, ?_, ?_, sg, pm, ?_⟩
                    · simp (disch := omega) only [ER, reduceIte, Nat.reduceEqDiff, Nat.reduceAdd, g0]
                    · simp (disch := omega) only [ER, reduceIte, Nat.reduceEqDiff, Nat.reduceAdd, g1]
                    · simp (disch := omega) only [ER, reduceIte, Nat.reduceEqDiff, Nat.reduceAdd, g2]
                    · simp (disch := omega) only [ER, reduceIte, Nat.reduceEqDiff, Nat.reduceAdd, g3]
                    · simp (disch := omega) only [ER, reduceIte, Nat.reduceEqDiff, Nat.reduceAdd, g5]
                    · have := ins_stop ordZ iv (.inr (by simpa using hl))
                      rwa [show i - 1 + 1 = i by omega] at this
                  · refine wc_skip ?_
                    have hl : ltZ (g k) (g (k - 1)) = true := by simpa using hl
                    have hak : a < k := by
                      rcases Nat.lt_or_ge a k with h | h
                      · exact h
                      · obtain rfl : a = k := by omega
                        rw [low pm hk1] at hl; cases hl
                    refine wc_opq fun Q1 hQ => ?_
                    simp (disch := omega) only [ER, reduceIte, Nat.reduceEqDiff, Nat.reduceAdd, g0, g10, hg1, r1, r2]
                    refine hQ _ ?_
                    clear hQ Q1
                    refine wc_opq fun Q1 hQ => ?_
                    simp (disch := omega) only [ER, reduceIte, Nat.reduceEqDiff, Nat.reduceAdd, g10]
                    refine hQ _ ?_
                    clear hQ Q1
                    refine ⟨k - 1, by omega, k - 1, _, rfl, by omega, by omega, rfl, ?_, ?_, ?_, ?_, ?_, ?_, sg.swap hc1 ho1 (by omega) (by omega), pm.trans (PermOn.swap (by omega) (by omega)), ins_step ordZ hak hji iv hl⟩
                    · simp (disch := omega) only [ER, reduceIte, Nat.reduceEqDiff, Nat.reduceAdd, g0]
                    · simp (disch := omega) only [ER, reduceIte, Nat.reduceEqDiff, Nat.reduceAdd, g1]
                    · simp (disch := omega) only [ER, reduceIte, Nat.reduceEqDiff, Nat.reduceAdd, g2]
                    · simp (disch := omega) only [ER, reduceIte, Nat.reduceEqDiff, Nat.reduceAdd, g3]
                    · simp (disch := omega) only [ER, reduceIte, Nat.reduceEqDiff, Nat.reduceAdd, g5]
                    · simp (disch := omega) only [ER, reduceIte, Nat.reduceEqDiff, Nat.reduceAdd]
                · refine wc_exit ⟨g, rfl, ?_, ?_, ?_, ?_, ?_, sg, pm, ?_⟩
                  · simp (disch := omega) only [ER, reduceIte, Nat.reduceEqDiff, Nat.reduceAdd, g0]
                  · simp (disch := omega) only [ER, reduceIte, Nat.reduceEqDiff, Nat.reduceAdd, g1]
                  · simp (disch := omega) only [ER, reduceIte, Nat.reduceEqDiff, Nat.reduceAdd, g2]
                  · simp (disch := omega) only [ER, reduceIte, Nat.reduceEqDiff, Nat.reduceAdd, g3]
                  · simp (disch := omega) only [ER, reduceIte, Nat.reduceEqDiff, Nat.reduceAdd, g5]
                  · have := ins_stop ordZ iv (.inl (by omega))
                    rwa [show i - 1 + 1 = i by omega] at this
              · refine ⟨i - 1, g', rfl, by omega, by omega, rfl, ?_, ?_, ?_, ?_, ?_, ?_, sw, pm2, ins_start ri2⟩
                · simp (disch := omega) only [ER, reduceIte, Nat.reduceEqDiff, Nat.reduceAdd, g0]
                · simp (disch := omega) only [ER, reduceIte, Nat.reduceEqDiff, Nat.reduceAdd, g1]
                · simp (disch := omega) only [ER, reduceIte, Nat.reduceEqDiff, Nat.reduceAdd, g2]
                · simp (disch := omega) only [ER, reduceIte, Nat.reduceEqDiff, Nat.reduceAdd, g3]
                · simp (disch := omega) only [ER, reduceIte, Nat.reduceEqDiff, Nat.reduceAdd, g5]
                · simp (disch := omega) only [ER, reduceIte, Nat.reduceEqDiff, Nat.reduceAdd]
            · refine wc_skip ⟨g', rfl, ?_, ?_, ?_, ?_, ?_, sw, pm2, rises_short ordZ (by omega)⟩
              · simp (disch := omega) only [ER, reduceIte, Nat.reduceEqDiff, Nat.reduceAdd, g0]
              · simp (disch := omega) only [ER, reduceIte, Nat.reduceEqDiff, Nat.reduceAdd, g1]
              · simp (disch := omega) only [ER, reduceIte, Nat.reduceEqDiff, Nat.reduceAdd, g2]
              · simp (disch := omega) only [ER, reduceIte, Nat.reduceEqDiff, Nat.reduceAdd, g3]
              · simp (disch := omega) only [ER, reduceIte, Nat.reduceEqDiff, Nat.reduceAdd, g5]
          · clear g0 g1 g2 g3 g5 sw pm2 ri2
            rintro l d h3 ⟨g, rfl, g0, g1, g2, g3, g5, sg, pm, ri⟩
            refine wc_seq (wc_opq fun Q1 hQ => ?_)
            simp (disch := omega) only [ER, reduceIte, Nat.reduceEqDiff, Nat.reduceAdd, g2, g5]
            refine hQ _ ?_
            clear hQ Q1
            refine wc_if (2 ≤ b - i) (by simp (disch := omega) only [ER, reduceIte, Nat.reduceEqDiff, Nat.reduceAdd]) (fun h2b => ?_) (fun h2b => ?_)
            · refine wc_seq (wc_opq fun Q1 hQ => ?_)
              simp (disch := omega) only [ER, reduceIte, Nat.reduceEqDiff, Nat.reduceAdd, g5]
              refine hQ _ ?_
              clear hQ Q1
              refine wc_block ?_
              refine wc_while (fun k l d h3 => ∃ (j : Nat) (g : Nat → Int), k = b - j ∧ i < j ∧ j ≤ b ∧ d = [] ∧ l.get 0 = some (.sl id o n cap) ∧ l.get 1 = some (.int .i64 (a : Int)) ∧ l.get 2 = some (.int .i64 (b : Int)) ∧ l.get 3 = some (.int .i64 (t : Int)) ∧ l.get 5 = some (.int .i64 (i : Int)) ∧ l.get 14 = some (.int .i64 (j : Int)) ∧ Seg h id o n s p c h3 g ∧ PermOn a b f g ∧ Rises ltZ a i g) ?_ (b - (i + 1)) ?_
              · clear g0 g1 g2 g3 g5 sg pm ri
                rintro k l d h3 ⟨j, g, hk, haj, hji, rfl, g0, g1, g2, g3, g5, g14, sg, pm, ri⟩
                obtain ⟨c1, hg1, hc1, ho1⟩ := sg.row
                refine wc_seq ?_
                refine wc_seq (wc_opq fun Q1 hQ => ?_)
                simp (disch := omega) only [ER, reduceIte, Nat.reduceEqDiff, Nat.reduceAdd, g14, g2]
                refine hQ _ ?_
                clear hQ Q1
                refine wc_if (j < b) (by simp (disch := omega) only [ER, reduceIte, Nat.reduceEqDiff, Nat.reduceAdd]) (fun hk1 => ?_) (fun hk1 => ?_)
                · refine wc_skip ?_
                  have r1 := hc1 j (by omega)
                  have r2 := hc1 (j - 1) (by omega)
                  refine wc_seq (wc_block (wc_seq ?_))
                  refine wc_seq (wc_opq fun Q1 hQ => ?_)
                  simp (disch := omega) only [ER, reduceIte, Nat.reduceEqDiff, Nat.reduceAdd, g0, g14, hg1, r1, r2, less_rw t1 t2]
                  refine hQ _ ?_
                  clear hQ Q1
                  refine wc_cond (q := !ltZ (g j) (g (j - 1))) (by simp (disch := omega) only [ER, reduceIte, Nat.reduceEqDiff, Nat.reduceAdd]) (fun hl => ?_) (fun hl => ?_)
                  · refine wc_exit ⟨i, g, hai, hib, rfl, ?_, ?_, ?_, ?_, ?_, sg, pm, ri⟩
                    · simp (disch := omega) only [ER, reduceIte, Nat.reduceEqDiff, Nat.reduceAdd, g0]
                    · simp (disch := omega) only [ER, reduceIte, Nat.reduceEqDiff, Nat.reduceAdd, g1]
                    · simp (disch := omega) only [ER, reduceIte, Nat.reduceEqDiff, Nat.reduceAdd, g2]
                    · simp (disch := omega) only [ER, reduceIte, Nat.reduceEqDiff, Nat.reduceAdd, g3]
                    · simp (disch := omega) only [ER, reduceIte, Nat.reduceEqDiff, Nat.reduceAdd, g5]
                  · refine wc_skip ?_
                    refine wc_opq fun Q1 hQ => ?_
                    simp (disch := omega) only [ER, reduceIte, Nat.reduceEqDiff, Nat.reduceAdd, g0, g14, hg1, r1, r2]
                    refine hQ _ ?_
                    clear hQ Q1
                    refine wc_opq fun Q1 hQ => ?_
                    simp (disch := omega) only [ER, reduceIte, Nat.reduceEqDiff, Nat.reduceAdd, g14]
                    refine hQ _ ?_
                    clear hQ Q1
                    refine ⟨b - (j + 1), by omega, j + 1, _, rfl, by omega, by omega, rfl, ?_, ?_, ?_, ?_, ?_, ?_, sg.swap hc1 ho1 (by omega) (by omega), pm.trans (PermOn.swap (by omega) (by omega)), rises_swp ri (by omega) (by omega)⟩
                    · simp (disch := omega) only [ER, reduceIte, Nat.reduceEqDiff, Nat.reduceAdd, g0]
                    · simp (disch := omega) only [ER, reduceIte, Nat.reduceEqDiff, Nat.reduceAdd, g1]
                    · simp (disch := omega) only [ER, reduceIte, Nat.reduceEqDiff, Nat.reduceAdd, g2]
                    · simp (disch := omega) only [ER, reduceIte, Nat.reduceEqDiff, Nat.reduceAdd, g3]
                    · simp (disch := omega) only [ER, reduceIte, Nat.reduceEqDiff, Nat.reduceAdd, g5]
                    · simp (disch := omega) only [ER, reduceIte, Nat.reduceEqDiff, Nat.reduceAdd]
                · refine wc_exit ⟨i, g, hai, hib, rfl, ?_, ?_, ?_, ?_, ?_, sg, pm, ri⟩
                  · simp (disch := omega) only [ER, reduceIte, Nat.reduceEqDiff, Nat.reduceAdd, g0]
                  · simp (disch := omega) only [ER, reduceIte, Nat.reduceEqDiff, Nat.reduceAdd, g1]
                  · simp (disch := omega) only [ER, reduceIte, Nat.reduceEqDiff, Nat.reduceAdd, g2]
                  · simp (disch := omega) only [ER, reduceIte, Nat.reduceEqDiff, Nat.reduceAdd, g3]
                  · simp (disch := omega) only [ER, reduceIte, Nat.reduceEqDiff, Nat.reduceAdd, g5]
              · refine ⟨i + 1, g, rfl, by omega, by omega, rfl, ?_, ?_, ?_, ?_, ?_, ?_, sg, pm, ri⟩
                · simp (disch := omega) only [ER, reduceIte, Nat.reduceEqDiff, Nat.reduceAdd, g0]
                · simp (disch := omega) only [ER, reduceIte, Nat.reduceEqDiff, Nat.reduceAdd, g1]
                · simp (disch := omega) only [ER, reduceIte, Nat.reduceEqDiff, Nat.reduceAdd, g2]
                · simp (disch := omega) only [ER, reduceIte, Nat.reduceEqDiff, Nat.reduceAdd, g3]
                · simp (disch := omega) only [ER, reduceIte, Nat.reduceEqDiff, Nat.reduceAdd, g5]
                · simp (disch := omega) only [ER, reduceIte, Nat.reduceEqDiff, Nat.reduceAdd]
            · refine wc_skip ⟨i, g, hai, hib, rfl, ?_, ?_, ?_, ?_, ?_, sg, pm, ri⟩
              · simp (disch := omega) only [ER, reduceIte, Nat.reduceEqDiff, Nat.reduceAdd, g0]
              · simp (disch := omega) only [ER, reduceIte, Nat.reduceEqDiff, Nat.reduceAdd, g1]
              · simp (disch := omega) only [ER, reduceIte, Nat.reduceEqDiff, Nat.reduceAdd, g2]
              · simp (disch := omega) only [ER, reduceIte, Nat.reduceEqDiff, Nat.reduceAdd, g3]
              · simp (disch := omega) only [ER, reduceIte, Nat.reduceEqDiff, Nat.reduceAdd, g5]
        · clear g0 g1 g2 g3 g5 sg pm ri hai hib
          rintro l d h2 ⟨i, g, hai, hib, rfl, g0, g1, g2, g3, g5, sg, pm, ri⟩
          refine wc_opq fun Q1 hQ => ?_
          simp (disch := omega) only [ER, reduceIte, Nat.reduceEqDiff, Nat.reduceAdd, g3]
          refine hQ _ ?_
          clear hQ Q1
          refine ⟨5 - (t + 1), by omega, t + 1, i, g, rfl, hai, hib, rfl, ?_, ?_, ?_, ?_, ?_, sg, pm, ri⟩
          · simp (disch := omega) only [ER, reduceIte, Nat.reduceEqDiff, Nat.reduceAdd, g0]
          · simp (disch := omega) only [ER, reduceIte, Nat.reduceEqDiff, Nat.reduceAdd, g1]
          · simp (disch := omega) only [ER, reduceIte, Nat.reduceEqDiff, Nat.reduceAdd, g2]
          · simp (disch := omega) only [ER, reduceIte, Nat.reduceEqDiff, Nat.reduceAdd]
          · simp (disch := omega) only [ER, reduceIte, Nat.reduceEqDiff, Nat.reduceAdd, g5]
      · exact wc_exit ⟨g, rfl, sg, pm⟩
    · refine ⟨0, a + 1, f, rfl, by omega, by omega, rfl, ?_, ?_, ?_, ?_, ?_, Seg.start hi hg hc, PermOn.refl, rises_short ordZ (by omega)⟩
      all_goals simp (disch := omega) only [ER, reduceIte, Nat.reduceEqDiff, Nat.reduceAdd, i0]
  · rintro l d h1 ⟨g, rfl, sg, pm⟩
    refine wc_seq (wc_opq fun Q1 hQ => ?_)
    simp (disch := omega) only [ER, reduceIte, Nat.reduceEqDiff, Nat.reduceAdd]
    refine hQ _ ?_
    clear hQ Q1
    refine wc_ret ⟨_, results_val results_nil, false, g, ?_, sg, pm, fun h => by cases h⟩
    simp (disch := omega) only [ER, reduceIte, Nat.reduceEqDiff, Nat.reduceAdd, one_one]
end
end Go.Ev

namespace Go.Ev
open Go
set_option maxRecDepth 100000
set_option maxHeartbeats 4000000
/-- the table holds the functions of sorting -/
structure SortT (tab : Nat → Option AFunc) : Prop where
  less : tab 63 = some af63
  nan : tab 110 = some af110
  ins : tab 57 = some af57
  ord2 : tab 134 = some af134
  med : tab 109 = some af109
  adj : tab 108 = some af108
  piv : tab 60 = some af60
  rev : tab 61 = some af61
  sift : tab 105 = some af105
  heap : tab 58 = some af58
  brk : tab 59 = some af59
  pow2 : tab 106 = some af106
  next : tab 107 = some af107
  len : tab 28 = some af28
  len64 : tab 67 = some af67
  part : tab 65 = some af65
  partE : tab 64 = some af64
  pins : tab 62 = some af62
  pdq : tab 27 = some af27
  sort : tab 12 = some af12
section
variable {tab : Nat → Option AFunc} {h : AH} {id o n s a b : Nat} {p : Bool} {cap : ACap} {c : T AV} {f : Nat → Int}
/-- what is left to sort: a' .. b' of a .. b -/
structure Left (a b a' b' : Nat) (g : Nat → Int) : Prop where
  lo : a ≤ a'
  mid : a' ≤ b'
  hi : b' ≤ b
  low : Rises ltZ a a' g
  top : Rises ltZ b' b g
  cutA : ∀ x y, a ≤ x → x < a' → a' ≤ y → y < b → ltZ (g y) (g x) = false
  cutB : ∀ x y, a ≤ x → x < b' → b' ≤ y → y < b → ltZ (g y) (g x) = false
  base : 0 < a → ∀ k, a ≤ k → k < b → ltZ (g k) (g (a - 1)) = false
theorem Left.perm {a' b' : Nat} {g g' : Nat → Int} (x : Left a b a' b' g) (pm : PermOn a' b' g g') : Left a b a' b' g' := by
  obtain ⟨x1, x2, x3, x4, x5, x6, x7, x8⟩ := x
  have w : PermOn a b g g' := pm.wider x1 x3
  refine ⟨x1, x2, x3, fun i j h1 h2 h3 => ?_, fun i j h1 h2 h3 => ?_, fun i j h1 h2 h3 h4 => ?_, fun i j h1 h2 h3 h4 => ?_, fun h0 k h1 h2 => ?_⟩
  · rw [pm.out (i := i) (by omega), pm.out (i := j) (by omega)]; exact x4 i j h1 h2 h3
  · rw [pm.out (i := i) (by omega), pm.out (i := j) (by omega)]; exact x5 i j h1 h2 h3
  · rw [pm.out (i := i) (by omega)]
    by_cases hj : j < b'
    · exact pm.all (Q := fun z => ltZ z (g i) = false) (fun y y1 y2 => x6 i y h1 h2 y1 (by omega)) j h3 hj
    · rw [pm.out (i := j) (by omega)]; exact x6 i j h1 h2 h3 h4
  · rw [pm.out (i := j) (by omega)]
    by_cases hi : a' ≤ i
    · exact pm.all (Q := fun z => ltZ (g j) z = false) (fun y y1 y2 => x7 y j (by omega) y2 h3 h4) i hi h2
    · rw [pm.out (i := i) (by omega)]; exact x7 i j h1 h2 h3 h4
  · rw [w.out (i := a - 1) (by omega)]
    exact w.all (Q := fun z => ltZ z (g (a - 1)) = false) (x8 h0) k h1 h2
theorem Left.done {a' b' : Nat} {g : Nat → Int} (x : Left a b a' b' g) (r : Rises ltZ a' b' g) : Rises ltZ a b g := by
  obtain ⟨x1, x2, x3, x4, x5, x6, x7, x8⟩ := x
  intro i j h1 h2 h3
  by_cases hj : j < a'
  · exact x4 i j h1 h2 hj
  by_cases hi : i < a'
  · exact x6 i j h1 hi (by omega) h3
  by_cases hj2 : j < b'
  · exact r i j (by omega) h2 hj2
  by_cases hi2 : i < b'
  · exact x7 i j h1 hi2 (by omega) h3
  · exact x5 i j (by omega) h2 h3
/-- all ahead of a' are no more than those from a' on -/
theorem Left.under {a' b' : Nat} {g : Nat → Int} (x : Left a b a' b' g) (h0 : 0 < a') : ∀ k, a' ≤ k → k < b' → ltZ (g k) (g (a' - 1)) = false := fun k h1 h2 => by
  have := x.lo
  have := x.hi
  by_cases h : a = a'
  · subst h; exact x.base h0 k h1 (by omega)
  · exact x.cutA (a' - 1) k (by omega) (by omega) h1 (by omega)
theorem pdq_gp (t : SortT tab) (hn : n < 2305843009213693952) : ∀ (m : Nat) {h : AH} {a b : Nat} {c : T AV} {f : Nat → Int} {z : Int}, b - a ≤ m → id < h.next → h.mem.get id = some (.cells c s p false) → IArr c o n f → a ≤ b → b ≤ n → (0 < a → ∀ k, a ≤ k → k < b → ltZ (f k) (f (a - 1)) = false) →
    GP tab 27 [.sl id o n cap, .int .i64 (a : Int), .int .i64 (b : Int), .int .i64 z] h fun _ h1 => ∃ g, Seg h id o n s p c h1 g ∧ PermOn a b f g ∧ Rises ltZ a b g := by
  intro m
  induction m using Nat.strongRecOn with
  | ind m ih =>
  intro h a b c f z hm hi hg hc hab hbn hlow
  have i0 : initLoc [.sl id o n cap, .int .i64 (a : Int), .int .i64 (b : Int), .int .i64 z] = ofList [.sl id o n cap, .int .i64 (a : Int), .int .i64 (b : Int), .int .i64 z] := rfl
  refine gp_of t.pdq rfl ?_
  refine wc_seq (wc_opq fun Q1 hQ => ?_)
  simp (disch := omega) only [ER, reduceIte, Nat.reduceEqDiff, Nat.reduceAdd, i0]
  refine hQ _ ?_
  clear hQ Q1
  refine wc_seq (wc_opq fun Q1 hQ => ?_)
  simp (disch := omega) only [ER, reduceIte, Nat.reduceEqDiff, Nat.reduceAdd, i0]
  refine hQ _ ?_
  clear hQ Q1
  refine wc_block ?_
  refine wc_while (fun k l d h1 => ∃ (a' b' : Nat) (g : Nat → Int), k = b' - a' ∧ d = [] ∧ l.get 0 = some (.sl id o n cap) ∧ l.get 1 = some (.int .i64 (a' : Int)) ∧ l.get 2 = some (.int .i64 (b' : Int)) ∧ (∃ z : Int, l.get 3 = some (.int .i64 z)) ∧ (∃ q : Bool, l.get 7 = some (.bool q)) ∧ (∃ q : Bool, l.get 12 = some (.bool q)) ∧ Seg h id o n s p c h1 g ∧ PermOn a b f g ∧ Left a b a' b' g) ?_ (b - a) ?_
  · rintro k l d h1 ⟨a', b', g, hk, rfl, g0, g1, g2, ⟨z3, g3⟩, ⟨q7, g7⟩, ⟨q12, g12⟩, sg, pm, lf⟩
    have la := lf.lo
    have lm := lf.mid
    have lb := lf.hi
    refine wc_block ?_
    refine wc_seq (wc_opq fun Q1 hQ => ?_)
    simp (disch := omega) only [ER, reduceIte, Nat.reduceEqDiff, Nat.reduceAdd, g1, g2]
    refine hQ _ ?_
    clear hQ Q1
    refine wc_seq ?_
    refine wc_seq (wc_opq fun Q1 hQ => ?_)
    simp (disch := omega) only [ER, reduceIte, Nat.reduceEqDiff, Nat.reduceAdd]
    refine hQ _ ?_
    clear hQ Q1
    refine wc_if (b' - a' ≤ 12) (by simp (disch := omega) only [ER, reduceIte, Nat.reduceEqDiff, Nat.reduceAdd]) (fun hle => ?_) (fun hgt => ?_)
    · obtain ⟨c1, hg1, hc1, ho1⟩ := sg.row
      refine wc_seq (wc_opq fun Q1 hQ => ?_)
      simp (disch := omega) only [ER, reduceIte, Nat.reduceEqDiff, Nat.reduceAdd, g0, g1, g2]
      refine (insertion_gp t.ins t.less t.nan (Nat.lt_of_lt_of_le hi sg.more.next) hg1 hc1 lm (by omega) (by omega)).mono ?_
      rintro v h2 ⟨g', sg', pm', ri⟩
      refine hQ _ ?_
      clear hQ Q1
      exact wc_ret ⟨[], rfl, g', sg.on ho1 sg', pm.trans (pm'.wider la lb), (lf.perm pm').done ri⟩
    refine wc_skip (wc_seq ?_)
    refine wc_seq (wc_opq fun Q1 hQ => ?_)
    simp (disch := omega) only [ER, reduceIte, Nat.reduceEqDiff, Nat.reduceAdd, g3]
    refine hQ _ ?_
    clear hQ Q1
    refine wc_if (z3 = ((0 : Nat) : Int)) (by simp (disch := omega) only [ER, reduceIte, Nat.reduceEqDiff, Nat.reduceAdd]) (fun hz => ?_) (fun hz => ?_)
    · obtain ⟨c1, hg1, hc1, ho1⟩ := sg.row
      refine wc_seq (wc_opq fun Q1 hQ => ?_)
      simp (disch := omega) only [ER, reduceIte, Nat.reduceEqDiff, Nat.reduceAdd, g0, g1, g2]
      refine (heapsort_gp t.heap t.sift t.less t.nan (Nat.lt_of_lt_of_le hi sg.more.next) hg1 hc1 (by omega) (by omega) hn).mono ?_
      rintro v h2 ⟨g', sg', pm', ri⟩
      refine hQ _ ?_
      clear hQ Q1
      exact wc_ret ⟨[], rfl, g', sg.on ho1 sg', pm.trans (pm'.wider la lb), (lf.perm pm').done ri⟩
    refine wc_skip ?_
    refine wc_mid (fun l d h2 => ∃ (g : Nat → Int), d = [] ∧ l.get 0 = some (.sl id o n cap) ∧ l.get 1 = some (.int .i64 (a' : Int)) ∧ l.get 2 = some (.int .i64 (b' : Int)) ∧ (∃ z : Int, l.get 3 = some (.int .i64 z)) ∧ (∃ q : Bool, l.get 7 = some (.bool q)) ∧ (∃ q : Bool, l.get 12 = some (.bool q)) ∧ l.get 4 = some (.int .i64 ((b' - a' : Nat) : Int)) ∧ Seg h id o n s p c h2 g ∧ PermOn a b f g ∧ Left a b a' b' g) ?_ ?_
    · refine wc_seq (wc_opq fun Q1 hQ => ?_)
      simp (disch := omega) only [ER, reduceIte, Nat.reduceEqDiff, Nat.reduceAdd, g7]
      refine hQ _ ?_
      clear hQ Q1
      refine wc_cond (q := !q7) (by simp (disch := omega) only [ER, reduceIte, Nat.reduceEqDiff, Nat.reduceAdd]) (fun hq => ?_) (fun hq => ?_)
      · obtain ⟨c1, hg1, hc1, ho1⟩ := sg.row
        refine wc_seq (wc_opq fun Q1 hQ => ?_)
        simp (disch := omega) only [ER, reduceIte, Nat.reduceEqDiff, Nat.reduceAdd, g0, g1, g2]
        refine (break_gp t.brk t.pow2 t.next t.len t.len64 (Nat.lt_of_lt_of_le hi sg.more.next) hg1 hc1 (by omega) (by omega) hn).mono ?_
        rintro v h2 ⟨g', sg', pm'⟩
        refine hQ _ ?_
        clear hQ Q1
        refine wc_opq fun Q1 hQ => ?_
        simp (disch := omega) only [ER, reduceIte, Nat.reduceEqDiff, Nat.reduceAdd, g3]
        refine hQ _ ?_
        clear hQ Q1
        refine ⟨g', rfl, ?_, ?_, ?_, ⟨IntKind.i64.wrap (z3 - ((1 : Nat) : Int)), ?_⟩, ⟨q7, ?_⟩, ⟨q12, ?_⟩, ?_, sg.on ho1 sg', pm.trans (pm'.wider la lb), lf.perm pm'⟩
        · simp (disch := omega) only [ER, reduceIte, Nat.reduceEqDiff, Nat.reduceAdd, g0]
        · simp (disch := omega) only [ER, reduceIte, Nat.reduceEqDiff, Nat.reduceAdd, g1]
        · simp (disch := omega) only [ER, reduceIte, Nat.reduceEqDiff, Nat.reduceAdd, g2]
        · simp (disch := omega) only [ER, reduceIte, Nat.reduceEqDiff, Nat.reduceAdd]
        · simp (disch := omega) only [ER, reduceIte, Nat.reduceEqDiff, Nat.reduceAdd, g7]
        · simp (disch := omega) only [ER, reduceIte, Nat.reduceEqDiff, Nat.reduceAdd, g12]
        · simp (disch := omega) only [ER, reduceIte, Nat.reduceEqDiff, Nat.reduceAdd]
      · refine wc_skip ⟨g, rfl, ?_, ?_, ?_, ⟨z3, ?_⟩, ⟨q7, ?_⟩, ⟨q12, ?_⟩, ?_, sg, pm, lf⟩
        · simp (disch := omega) only [ER, reduceIte, Nat.reduceEqDiff, Nat.reduceAdd, g0]
        · simp (disch := omega) only [ER, reduceIte, Nat.reduceEqDiff, Nat.reduceAdd, g1]
        · simp (disch := omega) only [ER, reduceIte, Nat.reduceEqDiff, Nat.reduceAdd, g2]
        · simp (disch := omega) only [ER, reduceIte, Nat.reduceEqDiff, Nat.reduceAdd, g3]
        · simp (disch := omega) only [ER, reduceIte, Nat.reduceEqDiff, Nat.reduceAdd, g7]
        · simp (disch := omega) only [ER, reduceIte, Nat.reduceEqDiff, Nat.reduceAdd, g12]
        · simp (disch := omega) only [ER, reduceIte, Nat.reduceEqDiff, Nat.reduceAdd]
    clear g0 g1 g2 g3 g7 g12 sg pm lf
    rintro l d h1 ⟨g, rfl, g0, g1, g2, ⟨z3, g3⟩, ⟨q7, g7⟩, ⟨q12, g12⟩, g4, sg, pm, lf⟩
    refine wc_mid (fun l d h2 => ∃ (pv t : Nat), a' ≤ pv ∧ pv < b' ∧ d = [] ∧ l.get 0 = some (.sl id o n cap) ∧ l.get 1 = some (.int .i64 (a' : Int)) ∧ l.get 2 = some (.int .i64 (b' : Int)) ∧ (∃ z : Int, l.get 3 = some (.int .i64 z)) ∧ (∃ q : Bool, l.get 7 = some (.bool q)) ∧ (∃ q : Bool, l.get 12 = some (.bool q)) ∧ l.get 4 = some (.int .i64 ((b' - a' : Nat) : Int)) ∧ l.get 11 = some (.int .i64 (pv : Int)) ∧ l.get 9 = some (.int .i64 (t : Int)) ∧ Seg h id o n s p c h2 g) ?_ ?_
    · obtain ⟨c1, hg1, hc1, ho1⟩ := sg.row
      refine wc_opq fun Q1 hQ => ?_
      simp (disch := omega) only [ER, reduceIte, Nat.reduceEqDiff, Nat.reduceAdd, g0, g1, g2]
      refine (pivot_gp t.piv t.adj t.med t.ord2 t.less t.nan (Nat.lt_of_lt_of_le hi sg.more.next) hg1 hc1 (by omega) (by omega) (by omega)).mono ?_
      rintro v h2 ⟨pv, w, rfl, v1, v2, mo⟩
      have sg2 : Seg h id o n s p c h2 g := ⟨hi, sg.more.trans (mo.but id), c1, by rw [mo.keep _ (Nat.lt_of_lt_of_le hi sg.more.next)]; exact hg1, hc1, ho1⟩
      simp (disch := omega) only [ER, reduceIte, Nat.reduceEqDiff, Nat.reduceAdd, mvt, xt0 mvi, xt1 mvi]
      refine hQ _ ?_
      clear hQ Q1
      refine ⟨pv, w, v1, v2, rfl, ?_, ?_, ?_, ⟨z3, ?_⟩, ⟨q7, ?_⟩, ⟨q12, ?_⟩, ?_, ?_, ?_, sg2⟩
      · simp (disch := omega) only [ER, reduceIte, Nat.reduceEqDiff, Nat.reduceAdd, g0]
      · simp (disch := omega) only [ER, reduceIte, Nat.reduceEqDiff, Nat.reduceAdd, g1]
      · simp (disch := omega) only [ER, reduceIte, Nat.reduceEqDiff, Nat.reduceAdd, g2]
      · simp (disch := omega) only [ER, reduceIte, Nat.reduceEqDiff, Nat.reduceAdd, g3]
      · simp (disch := omega) only [ER, reduceIte, Nat.reduceEqDiff, Nat.reduceAdd, g7]
      · simp (disch := omega) only [ER, reduceIte, Nat.reduceEqDiff, Nat.reduceAdd, g12]
      · simp (disch := omega) only [ER, reduceIte, Nat.reduceEqDiff, Nat.reduceAdd, g4]
      · simp (disch := omega) only [ER, reduceIte, Nat.reduceEqDiff, Nat.reduceAdd]
      · simp (disch := omega) only [ER, reduceIte, Nat.reduceEqDiff, Nat.reduceAdd]
    clear g0 g1 g2 g3 g7 g12 g4 sg
    rintro l d h1 ⟨pv, t9, v1, v2, rfl, g0, g1, g2, ⟨z3, g3⟩, ⟨q7, g7⟩, ⟨q12, g12⟩, g4, g11, g9, sg⟩
    refine wc_mid (fun l d h2 => ∃ (pv t : Nat) (g : Nat → Int), a' ≤ pv ∧ pv < b' ∧ d = [] ∧ l.get 0 = some (.sl id o n cap) ∧ l.get 1 = some (.int .i64 (a' : Int)) ∧ l.get 2 = some (.int .i64 (b' : Int)) ∧ (∃ z : Int, l.get 3 = some (.int .i64 z)) ∧ (∃ q : Bool, l.get 7 = some (.bool q)) ∧ (∃ q : Bool, l.get 12 = some (.bool q)) ∧ l.get 4 = some (.int .i64 ((b' - a' : Nat) : Int)) ∧ l.get 11 = some (.int .i64 (pv : Int)) ∧ l.get 9 = some (.int .i64 (t : Int)) ∧ Seg h id o n s p c h2 g ∧ PermOn a b f g ∧ Left a b a' b' g) ?_ ?_
    · refine wc_seq (wc_opq fun Q1 hQ => ?_)
      simp (disch := omega) only [ER, reduceIte, Nat.reduceEqDiff, Nat.reduceAdd, g9]
      refine hQ _ ?_
      clear hQ Q1
      refine wc_if (t9 = 2) (by simp (disch := omega) only [ER, reduceIte, Nat.reduceEqDiff, Nat.reduceAdd]) (fun ht => ?_) (fun ht => ?_)
      · obtain ⟨c1, hg1, hc1, ho1⟩ := sg.row
        refine wc_seq (wc_opq fun Q1 hQ => ?_)
        simp (disch := omega) only [ER, reduceIte, Nat.reduceEqDiff, Nat.reduceAdd, g0, g1, g2]
        refine (reverse_gp t.rev (Nat.lt_of_lt_of_le hi sg.more.next) hg1 hc1 (by omega) (by omega) (by omega)).mono ?_
        rintro v h2 ⟨g', sg', pm'⟩
        refine hQ _ ?_
        clear hQ Q1
        refine wc_seq (wc_opq fun Q1 hQ => ?_)
        simp (disch := omega) only [ER, reduceIte, Nat.reduceEqDiff, Nat.reduceAdd, g1, g2, g11]
        refine hQ _ ?_
        clear hQ Q1
        refine wc_opq fun Q1 hQ => ?_
        simp (disch := omega) only [ER, reduceIte, Nat.reduceEqDiff, Nat.reduceAdd]
        refine hQ _ ?_
        clear hQ Q1
        refine ⟨b' - 1 - (pv - a'), 1, g', by omega, by omega, rfl, ?_, ?_, ?_, ⟨z3, ?_⟩, ⟨q7, ?_⟩, ⟨q12, ?_⟩, ?_, ?_, ?_, sg.on ho1 sg', pm.trans (pm'.wider la lb), lf.perm pm'⟩
        · simp (disch := omega) only [ER, reduceIte, Nat.reduceEqDiff, Nat.reduceAdd, g0]
        · simp (disch := omega) only [ER, reduceIte, Nat.reduceEqDiff, Nat.reduceAdd, g1]
        · simp (disch := omega) only [ER, reduceIte, Nat.reduceEqDiff, Nat.reduceAdd, g2]
        · simp (disch := omega) only [ER, reduceIte, Nat.reduceEqDiff, Nat.reduceAdd, g3]
        · simp (disch := omega) only [ER, reduceIte, Nat.reduceEqDiff, Nat.reduceAdd, g7]
        · simp (disch := omega) only [ER, reduceIte, Nat.reduceEqDiff, Nat.reduceAdd, g12]
        · simp (disch := omega) only [ER, reduceIte, Nat.reduceEqDiff, Nat.reduceAdd, g4]
        · simp (disch := omega) only [ER, reduceIte, Nat.reduceEqDiff, Nat.reduceAdd]
        · simp (disch := omega) only [ER, reduceIte, Nat.reduceEqDiff, Nat.reduceAdd]
      · refine wc_skip ⟨pv, t9, g, v1, v2, rfl, ?_, ?_, ?_, ⟨z3, ?_⟩, ⟨q7, ?_⟩, ⟨q12, ?_⟩, ?_, ?_, ?_, sg, pm, lf⟩
        · simp (disch := omega) only [ER, reduceIte, Nat.reduceEqDiff, Nat.reduceAdd, g0]
        · simp (disch := omega) only [ER, reduceIte, Nat.reduceEqDiff, Nat.reduceAdd, g1]
        · simp (disch := omega) only [ER, reduceIte, Nat.reduceEqDiff, Nat.reduceAdd, g2]
        · simp (disch := omega) only [ER, reduceIte, Nat.reduceEqDiff, Nat.reduceAdd, g3]
        · simp (disch := omega) only [ER, reduceIte, Nat.reduceEqDiff, Nat.reduceAdd, g7]
        · simp (disch := omega) only [ER, reduceIte, Nat.reduceEqDiff, Nat.reduceAdd, g12]
        · simp (disch := omega) only [ER, reduceIte, Nat.reduceEqDiff, Nat.reduceAdd, g4]
        · simp (disch := omega) only [ER, reduceIte, Nat.reduceEqDiff, Nat.reduceAdd, g11]
        · simp (disch := omega) only [ER, reduceIte, Nat.reduceEqDiff, Nat.reduceAdd, g9]
    clear g0 g1 g2 g3 g7 g12 g4 g11 g9 sg pm lf v1 v2
    rintro l d h1 ⟨pv, t9, g, v1, v2, rfl, g0, g1, g2, ⟨z3, g3⟩, ⟨q7, g7⟩, ⟨q12, g12⟩, g4, g11, g9, sg, pm, lf⟩
    refine wc_mid (fun l d h2 => ∃ (g : Nat → Int), d = [] ∧ l.get 0 = some (.sl id o n cap) ∧ l.get 1 = some (.int .i64 (a' : Int)) ∧ l.get 2 = some (.int .i64 (b' : Int)) ∧ (∃ z : Int, l.get 3 = some (.int .i64 z)) ∧ (∃ q : Bool, l.get 7 = some (.bool q)) ∧ (∃ q : Bool, l.get 12 = some (.bool q)) ∧ l.get 4 = some (.int .i64 ((b' - a' : Nat) : Int)) ∧ l.get 11 = some (.int .i64 (pv : Int)) ∧ Seg h id o n s p c h2 g ∧ PermOn a b f g ∧ Left a b a' b' g) ?_ ?_
    · refine wc_mid (fun l d h2 => h1 = h2 ∧ d = [] ∧ l.get 0 = some (.sl id o n cap) ∧ l.get 1 = some (.int .i64 (a' : Int)) ∧ l.get 2 = some (.int .i64 (b' : Int)) ∧ l.get 3 = some (.int .i64 z3) ∧ l.get 7 = some (.bool q7) ∧ l.get 12 = some (.bool q12) ∧ l.get 4 = some (.int .i64 ((b' - a' : Nat) : Int)) ∧ l.get 11 = some (.int .i64 (pv : Int)) ∧ l.get 13 = some (.bool (if q7 then (if q12 then decide (t9 = 1) else false) else false))) ?_ ?_
      · cases q7 <;> cases q12
        all_goals (refine wc_opq fun Q1 hQ => ?_)
        all_goals (simp (disch := omega) only [ER, reduceIte, Nat.reduceEqDiff, Nat.reduceAdd, g7, g9, g12])
        all_goals (refine hQ _ ?_)
        all_goals (clear hQ Q1)
        all_goals (refine ⟨rfl, rfl, ?_, ?_, ?_, ?_, ?_, ?_, ?_, ?_, ?_⟩)
        all_goals (simp (disch := omega) only [ER, reduceIte, Nat.reduceEqDiff, Nat.reduceAdd, g0, g1, g2, g3, g7, g12, g4, g11])
      clear g0 g1 g2 g3 g7 g12 g4 g11 g9
      rintro l d h2 ⟨rfl, rfl, g0, g1, g2, g3, g7, g12, g4, g11, g13⟩
      generalize (if q7 then (if q12 then decide (t9 = 1) else false) else false) = q13 at *
      refine wc_cond (q := q13) (by simp (disch := omega) only [ER, reduceIte, Nat.reduceEqDiff, Nat.reduceAdd, g13]) (fun hq => ?_) (fun hq => ?_)
      · obtain ⟨c1, hg1, hc1, ho1⟩ := sg.row
        refine wc_seq (wc_opq fun Q1 hQ => ?_)
        simp (disch := omega) only [ER, reduceIte, Nat.reduceEqDiff, Nat.reduceAdd, g0, g1, g2]
        refine (partial_gp t.pins t.less t.nan (Nat.lt_of_lt_of_le hi sg.more.next) hg1 hc1 (by omega) (by omega) hn lf.under).mono ?_
        rintro v h2 ⟨q, g', rfl, sg', pm', ri⟩
        refine hQ _ ?_
        clear hQ Q1
        refine wc_cond (q := q) (by simp (disch := omega) only [ER, reduceIte, Nat.reduceEqDiff, Nat.reduceAdd]) (fun hq => ?_) (fun hq => ?_)
        · exact wc_ret ⟨[], rfl, g', sg.on ho1 sg', pm.trans (pm'.wider la lb), (lf.perm pm').done (ri hq)⟩
        · refine wc_skip ⟨g', rfl, ?_, ?_, ?_, ⟨z3, ?_⟩, ⟨q7, ?_⟩, ⟨q12, ?_⟩, ?_, ?_, sg.on ho1 sg', pm.trans (pm'.wider la lb), lf.perm pm'⟩
          · simp (disch := omega) only [ER, reduceIte, Nat.reduceEqDiff, Nat.reduceAdd, g0]
          · simp (disch := omega) only [ER, reduceIte, Nat.reduceEqDiff, Nat.reduceAdd, g1]
          · simp (disch := omega) only [ER, reduceIte, Nat.reduceEqDiff, Nat.reduceAdd, g2]
          · simp (disch := omega) only [ER, reduceIte, Nat.reduceEqDiff, Nat.reduceAdd, g3]
          · simp (disch := omega) only [ER, reduceIte, Nat.reduceEqDiff, Nat.reduceAdd, g7]
          · simp (disch := omega) only [ER, reduceIte, Nat.reduceEqDiff, Nat.reduceAdd, g12]
          · simp (disch := omega) only [ER, reduceIte, Nat.reduceEqDiff, Nat.reduceAdd, g4]
          · simp (disch := omega) only [ER, reduceIte, Nat.reduceEqDiff, Nat.reduceAdd, g11]
      · exact wc_skip ⟨g, rfl, g0, g1, g2, ⟨z3, g3⟩, ⟨q7, g7⟩, ⟨q12, g12⟩, g4, g11, sg, pm, lf⟩
    clear g0 g1 g2 g3 g7 g12 g4 g11 g9 sg pm lf
    rintro l d h1 ⟨g, rfl, g0, g1, g2, ⟨z3, g3⟩, ⟨q7, g7⟩, ⟨q12, g12⟩, g4, g11, sg, pm, lf⟩
    refine wc_mid (fun l d h2 => h1 = h2 ∧ d = [] ∧ l.get 0 = some (.sl id o n cap) ∧ l.get 1 = some (.int .i64 (a' : Int)) ∧ l.get 2 = some (.int .i64 (b' : Int)) ∧ (∃ z : Int, l.get 3 = some (.int .i64 z)) ∧ (∃ q : Bool, l.get 7 = some (.bool q)) ∧ (∃ q : Bool, l.get 12 = some (.bool q)) ∧ l.get 4 = some (.int .i64 ((b' - a' : Nat) : Int)) ∧ l.get 11 = some (.int .i64 (pv : Int))) ?_ ?_
    · obtain ⟨c1, hg1, hc1, ho1⟩ := sg.row
      refine wc_mid (fun l d h2 => h1 = h2 ∧ d = [] ∧ l.get 0 = some (.sl id o n cap) ∧ l.get 1 = some (.int .i64 (a' : Int)) ∧ l.get 2 = some (.int .i64 (b' : Int)) ∧ (∃ z : Int, l.get 3 = some (.int .i64 z)) ∧ (∃ q : Bool, l.get 7 = some (.bool q)) ∧ (∃ q : Bool, l.get 12 = some (.bool q)) ∧ l.get 4 = some (.int .i64 ((b' - a' : Nat) : Int)) ∧ l.get 11 = some (.int .i64 (pv : Int)) ∧ l.get 15 = some (.bool (if 0 < a' then !ltZ (g (a' - 1)) (g pv) else false))) ?_ ?_
      · by_cases h0 : 0 < a'
        · have r1 := hc1 (a' - 1) (by omega)
          have r2 := hc1 pv (by omega)
          refine wc_opq fun Q1 hQ => ?_
          simp (disch := omega) only [ER, reduceIte, Nat.reduceEqDiff, Nat.reduceAdd, g0, g1, g11, h0, hg1, r1, r2, less_rw t.less t.nan]
          refine hQ _ ?_
          clear hQ Q1
          refine ⟨rfl, rfl, ?_, ?_, ?_, ⟨z3, ?_⟩, ⟨q7, ?_⟩, ⟨q12, ?_⟩, ?_, ?_, ?_⟩
          all_goals (simp (disch := omega) only [ER, reduceIte, Nat.reduceEqDiff, Nat.reduceAdd, g0, g1, g2, g3, g7, g12, g4, g11, h0])
        · refine wc_opq fun Q1 hQ => ?_
          simp (disch := omega) only [ER, reduceIte, Nat.reduceEqDiff, Nat.reduceAdd, g0, g1, g11, h0]
          refine hQ _ ?_
          clear hQ Q1
          refine ⟨rfl, rfl, ?_, ?_, ?_, ⟨z3, ?_⟩, ⟨q7, ?_⟩, ⟨q12, ?_⟩, ?_, ?_, ?_⟩
          all_goals (simp (disch := omega) only [ER, reduceIte, Nat.reduceEqDiff, Nat.reduceAdd, g0, g1, g2, g3, g7, g12, g4, g11, h0])
      clear g0 g1 g2 g3 g7 g12 g4 g11
      rintro l d h2 ⟨rfl, rfl, g0, g1, g2, ⟨z3, g3⟩, ⟨q7, g7⟩, ⟨q12, g12⟩, g4, g11, g15⟩
      refine wc_cond (q := if 0 < a' then !ltZ (g (a' - 1)) (g pv) else false) (by simp (disch := omega) only [ER, reduceIte, Nat.reduceEqDiff, Nat.reduceAdd, g15]) (fun hq => ?_) (fun hq => ?_)
      · have h0 : 0 < a' := by
          rcases Nat.eq_zero_or_pos a' with h | h
          · subst h; simp at hq
          · exact h
        rw [if_pos h0] at hq
        have hq : ltZ (g (a' - 1)) (g pv) = false := by simpa using hq
        have und := lf.under h0
        refine wc_seq (wc_opq fun Q1 hQ => ?_)
        simp (disch := omega) only [ER, reduceIte, Nat.reduceEqDiff, Nat.reduceAdd, g0, g1, g2, g11]
        refine (partEq_gp t.partE t.less t.nan (Nat.lt_of_lt_of_le hi sg.more.next) hg1 hc1 (by omega) v1 v2 (by omega) hn (fun k k1 k2 => ordZ.trans _ _ _ hq (und k k1 k2))).mono ?_
        rintro v h2 ⟨mm, g', rfl, m1, m2, sg', pm', ri, cut⟩
        simp (disch := omega) only [ER, reduceIte, Nat.reduceEqDiff, Nat.reduceAdd]
        refine hQ _ ?_
        clear hQ Q1
        refine wc_seq (wc_opq fun Q1 hQ => ?_)
        simp (disch := omega) only [ER, reduceIte, Nat.reduceEqDiff, Nat.reduceAdd]
        refine hQ _ ?_
        clear hQ Q1
        have lf' := lf.perm pm'
        refine wc_exit ⟨b' - mm, by omega, mm, b', g', rfl, rfl, ?_, ?_, ?_, ⟨z3, ?_⟩, ⟨q7, ?_⟩, ⟨q12, ?_⟩, sg.on ho1 sg', pm.trans (pm'.wider la lb), ⟨by omega, m2, lb, ?_, lf'.top, ?_, lf'.cutB, lf'.base⟩⟩
        · simp (disch := omega) only [ER, reduceIte, Nat.reduceEqDiff, Nat.reduceAdd, g0]
        · simp (disch := omega) only [ER, reduceIte, Nat.reduceEqDiff, Nat.reduceAdd]
        · simp (disch := omega) only [ER, reduceIte, Nat.reduceEqDiff, Nat.reduceAdd, g2]
        · simp (disch := omega) only [ER, reduceIte, Nat.reduceEqDiff, Nat.reduceAdd, g3]
        · simp (disch := omega) only [ER, reduceIte, Nat.reduceEqDiff, Nat.reduceAdd, g7]
        · simp (disch := omega) only [ER, reduceIte, Nat.reduceEqDiff, Nat.reduceAdd, g12]
        · intro x y h1 h2 h3
          by_cases hy : y < a'
          · exact lf'.low x y h1 h2 hy
          · by_cases hx : x < a'
            · exact lf'.cutA x y h1 hx (by omega) (by omega)
            · exact ri x y (by omega) h2 h3
        · intro x y h1 h2 h3 h4
          by_cases hx : x < a'
          · exact lf'.cutA x y h1 hx (by omega) h4
          · by_cases hy : y < b'
            · exact cut x y (by omega) h2 h3 hy
            · exact lf'.cutB x y h1 (by omega) (by omega) h4
      · exact wc_skip ⟨rfl, rfl, g0, g1, g2, ⟨z3, g3⟩, ⟨q7, g7⟩, ⟨q12, g12⟩, g4, g11⟩
    clear g0 g1 g2 g3 g7 g12 g4 g11
    rintro l d h2 ⟨rfl, rfl, g0, g1, g2, ⟨z3, g3⟩, ⟨q7, g7⟩, ⟨q12, g12⟩, g4, g11⟩
    obtain ⟨c1, hg1, hc1, ho1⟩ := sg.row
    refine wc_seq (wc_opq fun Q1 hQ => ?_)
    simp (disch := omega) only [ER, reduceIte, Nat.reduceEqDiff, Nat.reduceAdd, g0, g1, g2, g11]
    refine (partition_gp t.part t.less t.nan (Nat.lt_of_lt_of_le hi sg.more.next) hg1 hc1 (by omega) v1 v2 (by omega) hn).mono ?_
    rintro v h2 ⟨mm, q, g', rfl, m1, m2, sg', pm', cl, cr⟩
    simp (disch := omega) only [ER, reduceIte, Nat.reduceEqDiff, Nat.reduceAdd, mvt, xt0 mvi, xt1 mvb]
    refine hQ _ ?_
    clear hQ Q1
    have lf' := lf.perm pm'
    have sgn := sg.on ho1 sg'
    have pmn := pm.trans (pm'.wider la lb)
    clear hg1 hc1 ho1 sg pm lf sg' pm'
    obtain ⟨c1, hg1, hc1, ho1⟩ := sgn.row
    have hin := Nat.lt_of_lt_of_le hi sgn.more.next
    refine wc_seq (wc_opq fun Q1 hQ => ?_)
    simp (disch := omega) only [ER, reduceIte, Nat.reduceEqDiff, Nat.reduceAdd]
    refine hQ _ ?_
    clear hQ Q1
    refine wc_seq (wc_opq fun Q1 hQ => ?_)
    simp (disch := omega) only [ER, reduceIte, Nat.reduceEqDiff, Nat.reduceAdd, g1, g2]
    refine hQ _ ?_
    clear hQ Q1
    refine wc_seq (wc_opq fun Q1 hQ => ?_)
    simp (disch := omega) only [ER, reduceIte, Nat.reduceEqDiff, Nat.reduceAdd, g4]
    refine hQ _ ?_
    clear hQ Q1
    refine wc_seq (wc_opq fun Q1 hQ => ?_)
    simp (disch := omega) only [ER, reduceIte, Nat.reduceEqDiff, Nat.reduceAdd]
    refine hQ _ ?_
    clear hQ Q1
    refine wc_if (mm - a' < b' - mm) (by simp (disch := omega) only [ER, reduceIte, Nat.reduceEqDiff, Nat.reduceAdd]) (fun hlt => ?_) (fun hge => ?_)
    · refine wc_seq (wc_opq fun Q1 hQ => ?_)
      simp (disch := omega) only [ER, reduceIte, Nat.reduceEqDiff, Nat.reduceAdd]
      refine hQ _ ?_
      clear hQ Q1
      refine wc_seq (wc_opq fun Q1 hQ => ?_)
      simp (disch := omega) only [ER, reduceIte, Nat.reduceEqDiff, Nat.reduceAdd, g0, g1, g3]
      refine (ih (mm - a') (by omega) (Nat.le_refl _) hin hg1 hc1 m1 (by omega) (fun h0 k k1 k2 => lf'.under h0 k k1 (by omega))).mono ?_
      rintro v h3 ⟨g3', sg3, pm3, ri3⟩
      refine hQ _ ?_
      clear hQ Q1
      refine wc_opq fun Q1 hQ => ?_
      simp (disch := omega) only [ER, reduceIte, Nat.reduceEqDiff, Nat.reduceAdd]
      refine hQ _ ?_
      clear hQ Q1
      have lf3 := lf'.perm (pm3.wider (Nat.le_refl _) (Nat.le_of_lt m2))
      have eo : ∀ k, mm ≤ k → g3' k = g' k := fun k hk => pm3.out (by omega)
      refine ⟨b' - (mm + 1), by omega, mm + 1, b', g3', rfl, rfl, ?_, ?_, ?_, ⟨z3, ?_⟩, ⟨decide ((b' - a') / 8 ≤ mm - a'), ?_⟩, ⟨q, ?_⟩, sgn.on ho1 sg3, pmn.trans (pm3.wider (by omega) (by omega)), ⟨by omega, by omega, lb, ?_, lf3.top, ?_, lf3.cutB, lf3.base⟩⟩
      · simp (disch := omega) only [ER, reduceIte, Nat.reduceEqDiff, Nat.reduceAdd, g0]
      · simp (disch := omega) only [ER, reduceIte, Nat.reduceEqDiff, Nat.reduceAdd]
      · simp (disch := omega) only [ER, reduceIte, Nat.reduceEqDiff, Nat.reduceAdd, g2]
      · simp (disch := omega) only [ER, reduceIte, Nat.reduceEqDiff, Nat.reduceAdd, g3]
      · simp (disch := omega) only [ER, reduceIte, Nat.reduceEqDiff, Nat.reduceAdd]
      · simp (disch := omega) only [ER, reduceIte, Nat.reduceEqDiff, Nat.reduceAdd]
      · intro x y h1 h2 h3
        by_cases hy : y < a'
        · exact lf3.low x y h1 h2 hy
        by_cases hx : x < a'
        · exact lf3.cutA x y h1 hx (by omega) (by omega)
        by_cases hym : y = mm
        · subst hym
          by_cases hxm : x = y
          · subst hxm; exact ordZ.irrefl _
          · rw [eo y (Nat.le_refl _)]
            exact pm3.all (Q := fun w => ltZ (g' y) w = false) (fun k k1 k2 => ordZ.asym _ _ (cl k k1 k2)) x (by omega) (by omega)
        · exact ri3 x y (by omega) h2 (by omega)
      · intro x y h1 h2 h3 h4
        by_cases hx : x < a'
        · exact lf3.cutA x y h1 hx (by omega) h4
        by_cases hy : y < b'
        · have c2 : ltZ (g3' y) (g' mm) = false := by rw [eo y (by omega)]; exact cr y (by omega) hy
          by_cases hxm : x = mm
          · subst hxm; rw [eo x (Nat.le_refl _)]; exact c2
          · have := pm3.all (Q := fun w => ltZ (g' mm) w = false) (fun k k1 k2 => ordZ.asym _ _ (cl k k1 k2)) x (by omega) (by omega)
            exact ordZ.trans _ _ _ this c2
        · exact lf3.cutB x y h1 (by omega) (by omega) h4
    · refine wc_seq (wc_opq fun Q1 hQ => ?_)
      simp (disch := omega) only [ER, reduceIte, Nat.reduceEqDiff, Nat.reduceAdd]
      refine hQ _ ?_
      clear hQ Q1
      refine wc_seq (wc_opq fun Q1 hQ => ?_)
      simp (disch := omega) only [ER, reduceIte, Nat.reduceEqDiff, Nat.reduceAdd, g0, g2, g3]
      refine (ih (b' - (mm + 1)) (by omega) (Nat.le_refl _) hin hg1 hc1 (by omega) (by omega) (fun _ k k1 k2 => by rw [Nat.add_sub_cancel]; exact cr k (by omega) k2)).mono ?_
      rintro v h3 ⟨g3', sg3, pm3, ri3⟩
      refine hQ _ ?_
      clear hQ Q1
      refine wc_opq fun Q1 hQ => ?_
      simp (disch := omega) only [ER, reduceIte, Nat.reduceEqDiff, Nat.reduceAdd]
      refine hQ _ ?_
      clear hQ Q1
      have lf3 := lf'.perm (pm3.wider (by omega) (Nat.le_refl _))
      have eo : ∀ k, k ≤ mm → g3' k = g' k := fun k hk => pm3.out (by omega)
      refine ⟨mm - a', by omega, a', mm, g3', rfl, rfl, ?_, ?_, ?_, ⟨z3, ?_⟩, ⟨decide ((b' - a') / 8 ≤ b' - mm), ?_⟩, ⟨q, ?_⟩, sgn.on ho1 sg3, pmn.trans (pm3.wider (by omega) (by omega)), ⟨la, m1, by omega, lf3.low, ?_, lf3.cutA, ?_, lf3.base⟩⟩
      · simp (disch := omega) only [ER, reduceIte, Nat.reduceEqDiff, Nat.reduceAdd, g0]
      · simp (disch := omega) only [ER, reduceIte, Nat.reduceEqDiff, Nat.reduceAdd, g1]
      · simp (disch := omega) only [ER, reduceIte, Nat.reduceEqDiff, Nat.reduceAdd]
      · simp (disch := omega) only [ER, reduceIte, Nat.reduceEqDiff, Nat.reduceAdd, g3]
      · simp (disch := omega) only [ER, reduceIte, Nat.reduceEqDiff, Nat.reduceAdd]
      · simp (disch := omega) only [ER, reduceIte, Nat.reduceEqDiff, Nat.reduceAdd]
      · intro x y h1 h2 h3
        by_cases hy : b' ≤ y
        · by_cases hx : b' ≤ x
          · exact lf3.top x y hx h2 h3
          · exact lf3.cutB x y (by omega) (by omega) hy h3
        by_cases hxm : x = mm
        · subst hxm
          by_cases hym : y = x
          · subst hym; exact ordZ.irrefl _
          · rw [eo x (Nat.le_refl _)]
            exact pm3.all (Q := fun w => ltZ w (g' x) = false) (fun k k1 k2 => cr k (by omega) k2) y (by omega) (by omega)
        · exact ri3 x y (by omega) h2 (by omega)
      · intro x y h1 h2 h3 h4
        by_cases hy : b' ≤ y
        · exact lf3.cutB x y h1 (by omega) hy h4
        by_cases hx : x < a'
        · exact lf3.cutA x y h1 hx (by omega) h4
        have c2 : ltZ (g' mm) (g3' x) = false := by rw [eo x (by omega)]; exact ordZ.asym _ _ (cl x (by omega) h2)
        by_cases hym : y = mm
        · subst hym; rw [eo y (Nat.le_refl _)]; exact c2
        · have := pm3.all (Q := fun w => ltZ w (g' mm) = false) (fun k k1 k2 => cr k (by omega) k2) y (by omega) (by omega)
          exact ordZ.trans _ _ _ c2 this
  · refine ⟨a, b, f, rfl, rfl, ?_, ?_, ?_, ⟨z, ?_⟩, ⟨true, ?_⟩, ⟨true, ?_⟩, Seg.start hi hg hc, PermOn.refl, ⟨Nat.le_refl _, hab, Nat.le_refl _, rises_short ordZ (by omega), rises_short ordZ (by omega), fun x y h1 h2 => by omega, fun x y h1 h2 h3 => by omega, hlow⟩⟩
    all_goals simp (disch := omega) only [ER, reduceIte, Nat.reduceEqDiff, Nat.reduceAdd, i0]
theorem sort_gp (t : SortT tab) (hn : n < 2305843009213693952) (hi : id < h.next) (hg : h.mem.get id = some (.cells c s p false)) (hc : IArr c o n f) :
    GP tab 12 [.sl id o n cap] h fun _ h1 => ∃ g, Seg h id o n s p c h1 g ∧ PermOn 0 n f g ∧ Rises ltZ 0 n g := by
  have i0 : initLoc [.sl id o n cap] = ofList [.sl id o n cap] := rfl
  refine gp_of t.sort rfl ?_
  refine wc_seq (wc_opq fun Q1 hQ => ?_)
  simp (disch := omega) only [ER, reduceIte, Nat.reduceEqDiff, Nat.reduceAdd, i0]
  refine hQ _ ?_
  clear hQ Q1
  refine wc_opq fun Q1 hQ => ?_
  simp (disch := omega) only [ER, reduceIte, Nat.reduceEqDiff, Nat.reduceAdd, i0, wrap_u64n]
  refine (len_gp t.len t.len64 (by omega)).mono ?_
  rintro v h1 ⟨L, rfl, b1, b2, b3, rfl⟩
  refine (pdq_gp (cap := cap) t hn n (a := 0) (b := n) (by omega) hi hg hc (Nat.zero_le _) (Nat.le_refl _) (fun h => by omega)).mono ?_
  rintro v h2 ⟨g, sg, pm, ri⟩
  refine hQ _ ?_
  exact ⟨[], rfl, g, sg, pm, ri⟩
end
end Go.Ev

namespace Go.Ev
open Go
set_option maxRecDepth 100000
set_option maxHeartbeats 4000000
/-- a row of integers -/
def zs (l : List Int) : List (List AV) := l.map fun z => [.int .i64 z]
theorem zs_len (l : List Int) : (zs l).length = l.length := List.length_map _
theorem zs_get {l : List Int} {i : Nat} (hi : i < l.length) : (zs l)[i]'(by rw [zs_len]; exact hi) = [.int .i64 l[i]] := by simp [zs]
theorem zs_app (l : List Int) (z : Int) : zs (l ++ [z]) = zs l ++ [[.int .i64 z]] := by simp [zs]
/-- a slice of integers that a call has made -/
theorem OwnL.arr {h : AH} {b : Nat} {v : AV} {l : List Int} (x : OwnL h b 1 v (zs l)) (hn : 0 < l.length) : ∃ id c, v = .sl id 0 l.length (.rest 1) ∧ b ≤ id ∧ id < h.next ∧ h.mem.get id = some (.cells c l.length true false) ∧ IArr c 0 l.length (fun i => l.getD i 0) := by
  obtain ⟨id, c, e, h1, h2, h3, h4⟩ := x.open (by rw [zs_len]; exact hn)
  rw [zs_len] at e h3
  rw [Nat.mul_one] at h3
  refine ⟨id, c, e, h1, h2, h3, fun i hi => ?_⟩
  obtain ⟨_, h5⟩ := h4 i (by rw [zs_len]; exact hi)
  have := h5 0 (by omega)
  rw [zs_get hi] at this
  rw [Nat.zero_add]
  simpa [List.getD, List.getElem?_eq_getElem hi] using this
theorem OwnL.of_arr {h : AH} {b id : Nat} {c : T AV} {l : List Int} (hl : 0 < l.length) (h1 : b ≤ id) (h2 : id < h.next) (h3 : h.mem.get id = some (.cells c l.length true false)) (h4 : ∀ (i : Nat) (hi : i < l.length), c.get i = some (.int .i64 l[i])) : OwnL h b 1 (.sl id 0 l.length (.rest 1)) (zs l) := by
  have := OwnL.sl (h := h) (b := b) (es := 1) (id := id) (c := c) (xs := zs l) (by cases l with | nil => simp at hl | cons x y => simp [zs]) h1 h2 (by rw [zs_len, Nat.mul_one]; exact h3) fun i hi => by
    rw [zs_len] at hi
    rw [zs_get hi]
    refine ⟨rfl, fun j hj => ?_⟩
    obtain rfl : j = 0 := by omega
    rw [Nat.mul_one, Nat.add_zero, h4 i hi]; rfl
  rwa [zs_len] at this
section
variable {tab : Nat → Option AFunc} {h : AH}
theorem op_sliceV_lo {loc : T AV} {tmp : List AV} {kill : Bool} {es : Nat} {x lo : Opd} : evOp (.sliceV kill es x (some lo) none none) loc tmp h = oSliceV kill es (.c (ev loc tmp x)) (some (.c (ev loc tmp lo))) none none .leaf [] h := rfl
theorem op_sliceV_hi {loc : T AV} {tmp : List AV} {kill : Bool} {es : Nat} {x hi : Opd} : evOp (.sliceV kill es x none (some hi) none) loc tmp h = oSliceV kill es (.c (ev loc tmp x)) none (some (.c (ev loc tmp hi))) none .leaf [] h := rfl
theorem op_clear {loc : T AV} {tmp : List AV} {z : List AV} {x : Opd} : evOp (.clear z x) loc tmp h = oClear z (.c (ev loc tmp x)) .leaf [] h := rfl
theorem sliceV_lo {kill : Bool} {es id off len lo s : Nat} {c : T AV} {p r : Bool} {k : IntKind} (hg : h.mem.get id = some (.cells c s p r)) (he : 1 ≤ es) (hs : off + len * es ≤ s) (h0 : 0 < lo) (h1 : lo < len) :
    oSliceV kill es (.c (.sl id off len (.rest es))) (some (.c (.int k (lo : Int)))) none none .leaf [] h = .val (.sl id (off + lo * es) (len - lo) (.rest es)) h := by
  show bi (Nat.beq es es) (bi (Nat.ble 1 es) (onCells (AH.get h id) fun _ s _ r => bi (Nat.ble (Nat.add off (Nat.mul len es)) s) (bi (Nat.ble lo len)
        (bi (Nat.beq lo 0) (OR.val (AV.sl id off len (ACap.rest es)) h)
          (fN (Nat.sub len lo) fun n => bi (Nat.beq n 0)
            (bi kill (bi r (F 36) (AH.new (AH.kill h id) (AObj.cells T.leaf 0 true false) fun id h => OR.val (AV.sl id 0 0 (ACap.rest es)) h)) (F 36))
            (fN (Nat.add off (Nat.mul lo es)) fun off => OR.val (AV.sl id off n (ACap.rest es)) h))) (F 36)) (F 36)) (F 38)) (F 38) = _
  rw [Nat.beq_refl, bi_true, show Nat.ble 1 es = true from Nat.ble_eq.mpr he, bi_true, AH.get_eq, hg, onCells_some, show Nat.ble (Nat.add off (Nat.mul len es)) s = true from Nat.ble_eq.mpr hs, bi_true, show Nat.ble lo len = true from Nat.ble_eq.mpr (Nat.le_of_lt h1), bi_true, beq_nat, show decide (lo = 0) = false from decide_eq_false (by omega), bi_false, fN_eq, beq_nat, show decide (Nat.sub len lo = 0) = false from decide_eq_false (by show ¬ (len - lo = 0); omega), bi_false, fN_eq]
  rfl
theorem sliceV_hi {kill : Bool} {es id off len hi s : Nat} {c : T AV} {p r : Bool} {k : IntKind} (hg : h.mem.get id = some (.cells c s p r)) (he : 1 ≤ es) (hs : off + hi * es ≤ s) :
    oSliceV kill es (.c (.sl id off len (.rest es))) none (some (.c (.int k (hi : Int)))) none .leaf [] h = .val (.sl id off hi (.rest es)) h := by
  show bi (Nat.beq es es) (bi (Nat.ble 1 es) (onCells (AH.get h id) fun _ s _ r => bi (Nat.ble (Nat.add off (Nat.mul hi es)) s) (bi (Nat.ble 0 hi)
        (bi (Nat.beq 0 0) (OR.val (AV.sl id off hi (ACap.rest es)) h) _) (F 36)) (F 36)) (F 38)) (F 38) = _
  rw [Nat.beq_refl, bi_true, show Nat.ble 1 es = true from Nat.ble_eq.mpr he, bi_true, AH.get_eq, hg, onCells_some, show Nat.ble (Nat.add off (Nat.mul hi es)) s = true from Nat.ble_eq.mpr hs, bi_true]
  rfl
theorem storeL_row : ∀ {l : List AV} {c : T AV} {off : Nat}, (∀ i, off ≤ i → i < off + l.length → ∃ v, c.get i = some v) → storeL l c off = some (putL l c off)
  | [], c, off, _ => rfl
  | v :: l, c, off, hx => by
    obtain ⟨w, hw⟩ := hx off (Nat.le_refl _) (by simp)
    rw [storeL_cons, hw, obind_some, storeL_row (l := l) fun i h1 h2 => ?_]
    · rfl
    · rw [T.get_put]
      split
      · exact ⟨_, rfl⟩
      · exact hx i (by omega) (by simp; omega)
theorem clear_own {id off len s : Nat} {z : AV} {c : T AV} {p : Bool} {k : ACap} (hg : h.mem.get id = some (.cells c s p false)) (hl : 0 < len) (hx : ∀ i, off ≤ i → i < off + len → ∃ v, c.get i = some v) :
    oClear [z] (.c (.sl id off len k)) .leaf [] h = .val (.tup []) (h.set id (.cells (putL (List.replicate len z) c off) s p false)) := by
  have e : lrep [z] len = List.replicate len z := by rw [lrep_eq]; induction len with
    | zero => rfl
    | succ n ih => simp [List.replicate_succ]
  show bi (Nat.beq len 0) (OR.val (AV.tup []) h) (onCells (AH.get h id) fun c size o r => bi r (F 54) (obind (storeL (lrep [z] len) c off) (F 54) fun c' => OR.val (AV.tup []) (AH.set h id (AObj.cells c' size o r)))) = _
  rw [beq_nat, show decide (len = 0) = false from decide_eq_false (by omega), bi_false, AH.get_eq, hg, onCells_some, bi_false, e, storeL_row (by simpa using hx), obind_some]
/-- the same numbers, each once, rising -/
structure Once (f g : List Int) : Prop where
  up : ∀ (i j : Nat) (hi : i < j) (hj : j < g.length), g[i] < g[j]
  mem : ∀ x, x ∈ g ↔ x ∈ f
theorem sort_own (t : SortT tab) {b : Nat} {v : AV} {l : List Int} (hb : b ≤ h.next) (hl : l.length < 1000000) (x : OwnL h b 1 v (zs l)) :
    GP tab 12 [v] h fun _ h1 => ∃ l', OwnL h1 b 1 v (zs l') ∧ Keep b h h1 ∧ l'.length = l.length ∧ (∀ x, x ∈ l' ↔ x ∈ l) ∧ ∀ (i j : Nat) (hi : i ≤ j) (hj : j < l'.length), l'[i] ≤ l'[j] := by
  rcases Nat.eq_zero_or_pos l.length with h0 | h0
  · obtain rfl := List.length_eq_zero_iff.1 h0
    have mvv : ∀ h', oMove (.c v) .leaf [] h' = .val v h' := fun h' => move_mv x.mv
    have ml : ∀ h', oLen .sl (.c v) .leaf [] h' = .val (.int .i64 ((0 : Nat) : Int)) h' := x.len
    have i0 : initLoc [v] = ofList [v] := rfl
    refine gp_of t.sort rfl ?_
    refine wc_seq (wc_opq fun Q1 hQ => ?_)
    simp (disch := omega) only [ER, reduceIte, Nat.reduceEqDiff, Nat.reduceAdd, i0, mvv, ml]
    refine hQ _ ?_
    clear hQ Q1
    refine wc_opq fun Q1 hQ => ?_
    simp (disch := omega) only [ER, reduceIte, Nat.reduceEqDiff, Nat.reduceAdd, i0, wrap_u64n, mvv, ml]
    refine (len_gp t.len t.len64 (by omega)).mono ?_
    rintro v' h1 ⟨L, rfl, b1, b2, b3, rfl⟩
    have e : GP tab 27 [v, .int .i64 ((0 : Nat) : Int), .int .i64 ((0 : Nat) : Int), .int .i64 (L : Int)] h1 fun _ h2 => h2 = h1 := by
      have i0 : initLoc [v, .int .i64 ((0 : Nat) : Int), .int .i64 ((0 : Nat) : Int), .int .i64 (L : Int)] = ofList [v, .int .i64 ((0 : Nat) : Int), .int .i64 ((0 : Nat) : Int), .int .i64 (L : Int)] := rfl
      refine gp_of t.pdq rfl ?_
      refine wc_seq (wc_opq fun Q1 hQ => ?_)
      simp (disch := omega) only [ER, reduceIte, Nat.reduceEqDiff, Nat.reduceAdd, i0, mvv, ml]
      refine hQ _ ?_
      clear hQ Q1
      refine wc_seq (wc_opq fun Q1 hQ => ?_)
      simp (disch := omega) only [ER, reduceIte, Nat.reduceEqDiff, Nat.reduceAdd, i0, mvv, ml]
      refine hQ _ ?_
      clear hQ Q1
      refine wc_block (wc_loop (wc_block ?_))
      refine wc_seq (wc_opq fun Q1 hQ => ?_)
      simp (disch := omega) only [ER, reduceIte, Nat.reduceEqDiff, Nat.reduceAdd, i0, mvv, ml]
      refine hQ _ ?_
      clear hQ Q1
      refine wc_seq ?_
      refine wc_seq (wc_opq fun Q1 hQ => ?_)
      simp (disch := omega) only [ER, reduceIte, Nat.reduceEqDiff, Nat.reduceAdd, mvv, ml]
      refine hQ _ ?_
      clear hQ Q1
      refine wc_yes (by simp (disch := omega) only [ER, reduceIte, Nat.reduceEqDiff, Nat.reduceAdd]; rfl) ?_
      refine wc_seq (wc_opq fun Q1 hQ => ?_)
      simp (disch := omega) only [ER, reduceIte, Nat.reduceEqDiff, Nat.reduceAdd, i0, mvv, ml]
      have e2 : GP tab 57 [v, .int .i64 ((0 : Nat) : Int), .int .i64 ((0 : Nat) : Int)] h1 fun _ h2 => h2 = h1 := by
        have i0 : initLoc [v, .int .i64 ((0 : Nat) : Int), .int .i64 ((0 : Nat) : Int)] = ofList [v, .int .i64 ((0 : Nat) : Int), .int .i64 ((0 : Nat) : Int)] := rfl
        refine gp_of t.ins rfl ?_
        refine wc_seq (wc_opq fun Q1 hQ => ?_)
        simp (disch := omega) only [ER, reduceIte, Nat.reduceEqDiff, Nat.reduceAdd, i0, mvv, ml]
        refine hQ _ ?_
        clear hQ Q1
        refine wc_block (wc_loop (wc_seq (wc_seq (wc_opq fun Q1 hQ => ?_))))
        simp (disch := omega) only [ER, reduceIte, Nat.reduceEqDiff, Nat.reduceAdd, i0, mvv, ml]
        refine hQ _ ?_
        clear hQ Q1
        refine wc_no (by simp (disch := omega) only [ER, reduceIte, Nat.reduceEqDiff, Nat.reduceAdd]; rfl) (wc_exit ⟨[], rfl, rfl⟩)
      refine e2.mono ?_
      rintro v' h2 rfl
      refine hQ _ ?_
      exact wc_ret ⟨[], rfl, rfl⟩
    refine e.mono ?_
    rintro v' h2 rfl
    refine hQ _ ?_
    exact ⟨[], rfl, [], x, Keep.refl _ _, rfl, fun x => Iff.rfl, fun i j hi hj => by simp at hj⟩
  · obtain ⟨id, c, rfl, h1, h2, h3, h4⟩ := x.arr h0
    refine (sort_gp t (by omega) h2 h3 h4).mono ?_
    rintro v h5 ⟨g, sg, pm, ri⟩
    obtain ⟨c1, g1, g2, g3⟩ := sg.row
    have el : ((List.range l.length).map g).length = l.length := by simp
    refine ⟨(List.range l.length).map g, ?_, sg.more.keepAt hb h1, el, fun x => ?_, fun i j hi hj => ?_⟩
    · have := OwnL.of_arr (h := h5) (b := b) (id := id) (c := c1) (l := (List.range l.length).map g) (by simpa using h0) h1 (Nat.lt_of_lt_of_le h2 sg.more.next) (by rw [el]; exact g1) (fun i hi => by
        have := g2 i (by simpa using hi)
        rw [Nat.zero_add] at this
        rw [this]; simp)
      rwa [el] at this
    · rw [List.mem_map]
      constructor
      · rintro ⟨i, hi, rfl⟩
        obtain ⟨j, _, hj, e⟩ := pm.inside (i := i) (Nat.zero_le _) (List.mem_range.1 hi)
        rw [e]
        simp [List.getD, List.getElem?_eq_getElem hj]
      · intro hx
        obtain ⟨i, hi, rfl⟩ := List.getElem_of_mem hx
        obtain ⟨j, _, hj, e⟩ := pm.symm.inside (i := i) (Nat.zero_le _) hi
        refine ⟨j, List.mem_range.2 hj, ?_⟩
        rw [← e]
        simp [List.getD, List.getElem?_eq_getElem hi]
    · have := ri i j (Nat.zero_le _) hi (by simpa using hj)
      simp only [ltZ, decide_eq_false_iff_not] at this
      simp only [List.getElem_map, List.getElem_range]
      omega
end
end Go.Ev

namespace Go.Ev
open Go
set_option maxRecDepth 100000
set_option maxHeartbeats 4000000
/-- integers in a row, to be read -/
inductive RowZ (h : AH) (b : Nat) : AV → List Int → Prop
  | nils : RowZ h b .nils []
  | emp {id off : Nat} : RowZ h b (.sl id off 0 (.known 0)) []
  | sl {id s : Nat} {c : T AV} {g : List Int} : b ≤ id → id < h.next → h.mem.get id = some (.cells c s true false) → (∀ (i : Nat) (hi : i < g.length), c.get i = some (.int .i64 g[i])) → RowZ h b (.sl id 0 g.length (.rest 1)) g
theorem RowZ.len {h : AH} {b : Nat} {v : AV} {g : List Int} (x : RowZ h b v g) : ∀ h', oLen .sl (.c v) .leaf [] h' = .val (.int .i64 (g.length : Int)) h' := by
  cases x with
  | nils => intro h'; rfl
  | emp => intro h'; rfl
  | sl => intro h'; exact len_sl
theorem RowZ.open {h : AH} {b : Nat} {v : AV} {g : List Int} (x : RowZ h b v g) (hn : 0 < g.length) : ∃ id s c, v = .sl id 0 g.length (.rest 1) ∧ b ≤ id ∧ id < h.next ∧ h.mem.get id = some (.cells c s true false) ∧ ∀ (i : Nat) (hi : i < g.length), c.get i = some (.int .i64 g[i]) := by
  cases x with
  | nils => simp at hn
  | emp => simp at hn
  | sl a1 a2 a b => exact ⟨_, _, _, rfl, a1, a2, a, b⟩
theorem OwnL.rowZ {h : AH} {b : Nat} {v : AV} {l : List Int} (x : OwnL h b 1 v (zs l)) : RowZ h b v l := by
  rcases Nat.eq_zero_or_pos l.length with h0 | h0
  · obtain rfl := List.length_eq_zero_iff.1 h0
    rcases x with _ | _ | ⟨a1, _, _, _, _⟩
    · exact .nils
    · exact .emp
    · exact absurd rfl a1
  · obtain ⟨id, c, rfl, h1, h2, h3, h4⟩ := x.arr h0
    refine .sl h1 h2 h3 fun i hi => ?_
    have := h4 i hi
    rw [Nat.zero_add] at this
    simpa [List.getD, List.getElem?_eq_getElem hi] using this
section
variable {tab : Nat → Option AFunc} {h : AH}
theorem compact_own (tc : tab 13 = some af13) {b : Nat} {v : AV} {l : List Int} (hb : b ≤ h.next) (hl : l.length < 1000000) (x : OwnL h b 1 v (zs l)) (hs : ∀ (i j : Nat) (hi : i ≤ j) (hj : j < l.length), l[i] ≤ l[j]) :
    GP tab 13 [v] h fun v' h1 => ∃ g, RowZ h1 b v' g ∧ Keep b h h1 ∧ Once l g ∧ v'.mv = true := by
  have i0 : initLoc [v] = ofList [v] := rfl
  have mv := move_mv (h := h) x.mv
  have ml : ∀ h', oLen .sl (.c v) .leaf [] h' = .val (.int .i64 (l.length : Int)) h' := fun h' => by have := x.len h'; rwa [zs_len] at this
  have mvv : ∀ h', oMove (.c v) .leaf [] h' = .val v h' := fun h' => move_mv x.mv
  refine gp_of tc rfl ?_
  refine wc_seq (wc_opq fun Q1 hQ => ?_)
  simp (disch := omega) only [ER, reduceIte, Nat.reduceEqDiff, Nat.reduceAdd, i0]
  refine hQ _ ?_
  clear hQ Q1
  refine wc_seq ?_
  refine wc_seq (wc_opq fun Q1 hQ => ?_)
  simp (disch := omega) only [ER, reduceIte, Nat.reduceEqDiff, Nat.reduceAdd, i0, mvv, ml]
  refine hQ _ ?_
  clear hQ Q1
  refine wc_if (l.length < 2) (by simp (disch := omega) only [ER, reduceIte, Nat.reduceEqDiff, Nat.reduceAdd]) (fun h2 => ?_) (fun h2 => ?_)
  · refine wc_seq (wc_opq fun Q1 hQ => ?_)
    simp (disch := omega) only [ER, reduceIte, Nat.reduceEqDiff, Nat.reduceAdd, i0, mvv]
    refine hQ _ ?_
    clear hQ Q1
    refine wc_ret ⟨_, results_val results_nil, l, ?_, Keep.refl _ _, ⟨fun i j hi hj => by omega, fun x => Iff.rfl⟩, ?_⟩
    · simp (disch := omega) only [ER, reduceIte, Nat.reduceEqDiff, Nat.reduceAdd, one_one]
      exact x.rowZ
    · simp (disch := omega) only [ER, reduceIte, Nat.reduceEqDiff, Nat.reduceAdd, one_one]
      exact x.mv
  refine wc_skip ?_
  obtain ⟨id, c, rfl, h1, h2', h3, h4⟩ := x.arr (by omega)
  clear mv ml mvv
  have sg0 : Seg h id 0 l.length l.length true c h (fun i => l.getD i 0) := Seg.start h2' h3 h4
  have hf : ∀ i j, i ≤ j → j < l.length → l.getD i 0 ≤ l.getD j 0 := fun i j hi hj => by
    have := hs i j hi hj
    simpa [List.getD, List.getElem?_eq_getElem hj, List.getElem?_eq_getElem (Nat.lt_of_le_of_lt hi hj)] using this
  have hfm : ∀ z, z ∈ l ↔ ∃ i, i < l.length ∧ l.getD i 0 = z := fun z => by
    constructor
    · intro hz
      obtain ⟨i, hi, rfl⟩ := List.getElem_of_mem hz
      exact ⟨i, hi, by simp [List.getD, List.getElem?_eq_getElem hi]⟩
    · rintro ⟨i, hi, rfl⟩
      simp [List.getD, List.getElem?_eq_getElem hi]
  have hfe : ∀ (i : Nat) (z : Int), l[i]? = some z → z = l.getD i 0 := fun i z hz => by simp [List.getD, hz]
  clear hs
  generalize hn : l.length = n at *
  generalize hfd : (fun i => l.getD i 0) = f at *
  have hfx : ∀ i, l.getD i 0 = f i := fun i => by rw [← hfd]
  simp only [hfx] at hf hfm hfe
  refine wc_mid (fun l' d h' => d = [] ∧ h = h' ∧ l'.get 0 = some (.sl id 0 n (.rest 1)) ∧ ∀ i j, i < j → j < n → f i < f j) ?_ ?_
  · refine wc_seq (wc_opq fun Q1 hQ => ?_)
    simp (disch := omega) only [ER, reduceIte, Nat.reduceEqDiff, Nat.reduceAdd]
    refine hQ _ ?_
    clear hQ Q1
    refine wc_block ?_
    refine wc_while (fun k l' d h' => ∃ i, k = n - i ∧ 1 ≤ i ∧ i ≤ n ∧ d = [] ∧ h = h' ∧ l'.get 0 = some (.sl id 0 n (.rest 1)) ∧ l'.get 2 = some (.int .i64 (i : Int)) ∧ ∀ x y, x < y → y < i → f x < f y) ?_ (n - 1) ?_
    · rintro k l' d h' ⟨i, hk, hi1, hin, rfl, rfl, g0, g2, up⟩
      refine wc_seq ?_
      refine wc_seq (wc_opq fun Q1 hQ => ?_)
      simp (disch := omega) only [ER, reduceIte, Nat.reduceEqDiff, Nat.reduceAdd, g0, g2]
      refine hQ _ ?_
      clear hQ Q1
      refine wc_if (i < n) (by simp (disch := omega) only [ER, reduceIte, Nat.reduceEqDiff, Nat.reduceAdd]) (fun hlt => ?_) (fun hge => ?_)
      · refine wc_skip ?_
        have r1 := h4 i hlt
        have r2 := h4 (i - 1) (by omega)
        rw [Nat.zero_add] at r1 r2
        refine wc_seq (wc_block ?_)
        refine wc_seq (wc_opq fun Q1 hQ => ?_)
        simp (disch := omega) only [ER, reduceIte, Nat.reduceEqDiff, Nat.reduceAdd, g0, g2, h3, r1, r2]
        refine hQ _ ?_
        clear hQ Q1
        refine wc_if (f i = f (i - 1)) (by simp (disch := omega) only [ER, reduceIte, Nat.reduceEqDiff, Nat.reduceAdd]) (fun heq => ?_) (fun hne => ?_)
        · have es : ∀ h'', oSliceV true 1 (.c (.sl id 0 n (.rest 1))) (some (.c (.int .i64 (i : Int)))) none none .leaf [] h'' = oSliceV true 1 (.c (.sl id 0 n (.rest 1))) (some (.c (.int .i64 (i : Int)))) none none .leaf [] h'' := fun _ => rfl
          have s1 := sliceV_lo (kill := true) (k := .i64) (lo := i) (len := n) (off := 0) h3 (Nat.le_refl 1) (by omega) (by omega) hlt
          refine wc_seq (wc_opq fun Q1 hQ => ?_)
          simp (disch := omega) only [ER, reduceIte, Nat.reduceEqDiff, Nat.reduceAdd, g0, g2, op_sliceV_lo, s1]
          refine hQ _ ?_
          clear hQ Q1
          refine wc_mid (fun l' d h' => ∃ (w : Nat) (g : Nat → Int), d = [] ∧ 1 ≤ w ∧ w < n ∧ l'.get 0 = some (.sl id 0 n (.rest 1)) ∧ l'.get 2 = some (.int .i64 (w : Int)) ∧ Seg h id 0 n n true c h' g ∧ (∀ x y, x < y → y < w → g x < g y) ∧ ∀ z, (∃ x, x < w ∧ g x = z) ↔ ∃ x, x < n ∧ f x = z) ?_ ?_
          · refine wc_seq (wc_opq fun Q1 hQ => ?_)
            simp (disch := omega) only [ER, reduceIte, Nat.reduceEqDiff, Nat.reduceAdd]
            refine hQ _ ?_
            clear hQ Q1
            refine wc_block ?_
            refine wc_while (fun k l' d h' => ∃ (j w : Nat) (g : Nat → Int), k = n - i - j ∧ 1 ≤ j ∧ j ≤ n - i ∧ i ≤ w ∧ w ≤ i + j - 1 ∧ d = [] ∧ l'.get 0 = some (.sl id 0 n (.rest 1)) ∧ l'.get 2 = some (.int .i64 (w : Int)) ∧ l'.get 5 = some (.int .i64 (j : Int)) ∧ l'.get 6 = some (.sl id i (n - i) (.rest 1)) ∧
              Seg h id 0 n n true c h' g ∧ (∀ x, w ≤ x → x < n → g x = f x) ∧ (∀ x y, x < y → y < w → g x < g y) ∧ (∀ z, (∃ x, x < w ∧ g x = z) ↔ ∃ x, x < i + j ∧ f x = z) ∧ g (w - 1) = f (i + j - 1)) ?_ (n - i - 1) ?_
            · clear g0 g2
              rintro k l' d h' ⟨j, w, g, hk, hj1, hjn, hiw, hwj, rfl, g0, g2, g5, g6, sg, same, upg, mem, last⟩
              obtain ⟨c1, hg1, hc1, ho1⟩ := sg.row
              refine wc_seq ?_
              refine wc_seq (wc_opq fun Q1 hQ => ?_)
              simp (disch := omega) only [ER, reduceIte, Nat.reduceEqDiff, Nat.reduceAdd, g5, g6]
              refine hQ _ ?_
              clear hQ Q1
              refine wc_if (j < n - i) (by simp (disch := omega) only [ER, reduceIte, Nat.reduceEqDiff, Nat.reduceAdd]) (fun hlj => ?_) (fun hgj => ?_)
              · refine wc_skip ?_
                have q1 := hc1 (i + j) (by omega)
                have q2 := hc1 (i + (j - 1)) (by omega)
                rw [Nat.zero_add] at q1 q2
                have e1 : g (i + j) = f (i + j) := same _ (by omega) (by omega)
                have e2 : g (i + (j - 1)) = f (i + j - 1) := by rw [same _ (by omega) (by omega)]; congr 1; omega
                rw [e1] at q1
                rw [e2] at q2
                refine wc_mid (fun l' d h' => ∃ (w : Nat) (g : Nat → Int), i ≤ w ∧ w ≤ i + j ∧ d = [] ∧ l'.get 0 = some (.sl id 0 n (.rest 1)) ∧ l'.get 2 = some (.int .i64 (w : Int)) ∧ l'.get 5 = some (.int .i64 (j : Int)) ∧ l'.get 6 = some (.sl id i (n - i) (.rest 1)) ∧
                  Seg h id 0 n n true c h' g ∧ (∀ x, w ≤ x → x < n → g x = f x) ∧ (∀ x y, x < y → y < w → g x < g y) ∧ (∀ z, (∃ x, x < w ∧ g x = z) ↔ ∃ x, x < i + (j + 1) ∧ f x = z) ∧ g (w - 1) = f (i + j)) ?_ ?_
                · refine wc_block ?_
                  refine wc_seq (wc_opq fun Q1 hQ => ?_)
                  simp (disch := omega) only [ER, reduceIte, Nat.reduceEqDiff, Nat.reduceAdd, g5, g6, hg1, q1, q2]
                  refine hQ _ ?_
                  clear hQ Q1
                  refine wc_cond (q := !decide (f (i + j) = f (i + j - 1))) (by simp (disch := omega) only [ER, reduceIte, Nat.reduceEqDiff, Nat.reduceAdd]) (fun hne => ?_) (fun hne => ?_)
                  · have hne : f (i + j) ≠ f (i + j - 1) := by simpa using hne
                    have hlt2 : f (i + j - 1) < f (i + j) := by have := hf (i + j - 1) (i + j) (by omega) (by omega); omega
                    have q3 := hc1 w (by omega)
                    rw [Nat.zero_add] at q3
                    refine wc_seq (wc_opq fun Q1 hQ => ?_)
                    simp (disch := omega) only [ER, reduceIte, Nat.reduceEqDiff, Nat.reduceAdd, g0, g2, g5, g6, hg1, q1, q3]
                    refine hQ _ ?_
                    clear hQ Q1
                    refine wc_opq fun Q1 hQ => ?_
                    simp (disch := omega) only [ER, reduceIte, Nat.reduceEqDiff, Nat.reduceAdd, g2]
                    refine hQ _ ?_
                    clear hQ Q1
                    refine ⟨w + 1, fun x => if x = w then f (i + j) else g x, by omega, by omega, rfl, ?_, ?_, ?_, ?_, ⟨sg.old, sg.more.set _, _, AH.get_set, ?_, fun k hk => ?_⟩, fun x x1 x2 => ?_, fun x y x1 x2 => ?_, fun z => ?_, ?_⟩
                    · simp (disch := omega) only [ER, reduceIte, Nat.reduceEqDiff, Nat.reduceAdd, g0]
                    · simp (disch := omega) only [ER, reduceIte, Nat.reduceEqDiff, Nat.reduceAdd]
                    · simp (disch := omega) only [ER, reduceIte, Nat.reduceEqDiff, Nat.reduceAdd, g5]
                    · simp (disch := omega) only [ER, reduceIte, Nat.reduceEqDiff, Nat.reduceAdd, g6]
                    · have := hc1.put (j := w) (z := f (i + j))
                      rwa [Nat.zero_add] at this
                    · rw [T.get_put_ne _ _ _ _ (by omega)]; exact ho1 k hk
                    · show (if x = w then _ else _) = _
                      rw [if_neg (by omega)]; exact same x (by omega) x2
                    · show (if x = w then _ else _) < (if y = w then _ else _)
                      rw [if_neg (by omega)]
                      by_cases hy : y = w
                      · rw [if_pos hy]
                        have : g x ≤ g (w - 1) := by
                          by_cases hx : x = w - 1
                          · subst hx; exact Int.le_refl _
                          · exact Int.le_of_lt (upg x (w - 1) (by omega) (by omega))
                        omega
                      · rw [if_neg hy]; exact upg x y x1 (by omega)
                    · constructor
                      · rintro ⟨x, hx, e⟩
                        by_cases hxw : x = w
                        · have e : (if x = w then f (i + j) else g x) = z := e
                          rw [if_pos hxw] at e
                          exact ⟨i + j, by omega, e⟩
                        · have e : (if x = w then f (i + j) else g x) = z := e
                          rw [if_neg hxw] at e
                          obtain ⟨y, y1, y2⟩ := (mem z).1 ⟨x, by omega, e⟩
                          exact ⟨y, by omega, y2⟩
                      · rintro ⟨y, y1, y2⟩
                        by_cases hy : y = i + j
                        · refine ⟨w, by omega, ?_⟩
                          show (if w = w then _ else _) = _
                          rw [if_pos rfl, ← y2, hy]
                        · obtain ⟨x, x1, x2⟩ := (mem z).2 ⟨y, by omega, y2⟩
                          refine ⟨x, by omega, ?_⟩
                          show (if x = w then _ else _) = _
                          rw [if_neg (by omega)]; exact x2
                    · show (if w + 1 - 1 = w then _ else _) = _
                      rw [if_pos (by omega)]
                  · have heq : f (i + j) = f (i + j - 1) := by simpa using hne
                    refine wc_skip ⟨w, g, hiw, by omega, rfl, ?_, ?_, ?_, ?_, sg, same, upg, fun z => ?_, by rw [last, heq]⟩
                    · simp (disch := omega) only [ER, reduceIte, Nat.reduceEqDiff, Nat.reduceAdd, g0]
                    · simp (disch := omega) only [ER, reduceIte, Nat.reduceEqDiff, Nat.reduceAdd, g2]
                    · simp (disch := omega) only [ER, reduceIte, Nat.reduceEqDiff, Nat.reduceAdd, g5]
                    · simp (disch := omega) only [ER, reduceIte, Nat.reduceEqDiff, Nat.reduceAdd, g6]
                    · rw [mem z]
                      constructor
                      · rintro ⟨y, y1, y2⟩; exact ⟨y, by omega, y2⟩
                      · rintro ⟨y, y1, y2⟩
                        by_cases hy : y = i + j
                        · exact ⟨i + j - 1, by omega, by rw [← heq, ← hy]; exact y2⟩
                        · exact ⟨y, by omega, y2⟩
                · clear g0 g2 g5 g6 sg same upg mem last hg1 hc1 ho1 q1 q2 e1 e2 hiw hwj w g
                  rintro l' d h' ⟨w, g, w1, w2, rfl, g0, g2, g5, g6, sg, same, upg, mem, last⟩
                  refine wc_opq fun Q1 hQ => ?_
                  simp (disch := omega) only [ER, reduceIte, Nat.reduceEqDiff, Nat.reduceAdd, g5]
                  refine hQ _ ?_
                  clear hQ Q1
                  refine ⟨n - i - (j + 1), by omega, j + 1, w, g, rfl, by omega, by omega, w1, by omega, rfl, ?_, ?_, ?_, ?_, sg, same, upg, mem, by rw [last]; congr 1⟩
                  · simp (disch := omega) only [ER, reduceIte, Nat.reduceEqDiff, Nat.reduceAdd, g0]
                  · simp (disch := omega) only [ER, reduceIte, Nat.reduceEqDiff, Nat.reduceAdd, g2]
                  · simp (disch := omega) only [ER, reduceIte, Nat.reduceEqDiff, Nat.reduceAdd]
                  · simp (disch := omega) only [ER, reduceIte, Nat.reduceEqDiff, Nat.reduceAdd, g6]
              · refine wc_exit ⟨w, g, rfl, by omega, by omega, ?_, ?_, sg, upg, fun z => ?_⟩
                · simp (disch := omega) only [ER, reduceIte, Nat.reduceEqDiff, Nat.reduceAdd, g0]
                · simp (disch := omega) only [ER, reduceIte, Nat.reduceEqDiff, Nat.reduceAdd, g2]
                · rw [mem z, show i + j = n by omega]
            · refine ⟨1, i, f, rfl, Nat.le_refl _, by omega, Nat.le_refl _, by omega, rfl, ?_, ?_, ?_, ?_, sg0, fun x _ _ => rfl, up, fun z => ?_, by rw [Nat.add_sub_cancel]; exact heq.symm⟩
              · simp (disch := omega) only [ER, reduceIte, Nat.reduceEqDiff, Nat.reduceAdd, g0]
              · simp (disch := omega) only [ER, reduceIte, Nat.reduceEqDiff, Nat.reduceAdd, g2]
              · simp (disch := omega) only [ER, reduceIte, Nat.reduceEqDiff, Nat.reduceAdd]
              · simp (disch := omega) only [ER, reduceIte, Nat.reduceEqDiff, Nat.reduceAdd]
              · constructor
                · rintro ⟨y, y1, y2⟩; exact ⟨y, by omega, y2⟩
                · rintro ⟨y, y1, y2⟩
                  by_cases hy : y = i
                  · exact ⟨i - 1, by omega, by rw [← heq, ← hy]; exact y2⟩
                  · exact ⟨y, by omega, y2⟩
          · clear g0 g2
            rintro l' d h' ⟨w, g, rfl, w1, w2, g0, g2, sg, upg, mem⟩
            obtain ⟨c1, hg1, hc1, ho1⟩ := sg.row
            have s2 := sliceV_lo (kill := true) (k := .i64) (lo := w) (len := n) (off := 0) hg1 (Nat.le_refl 1) (by omega) (by omega) w2
            have s3 := clear_own (z := .int .i64 ((0 : Nat) : Int)) (off := w) (len := n - w) (k := .rest 1) hg1 (by omega) (fun k k1 k2 => ⟨_, by have := hc1 k (by omega); rw [Nat.zero_add] at this; exact this⟩)
            rw [Nat.zero_add, Nat.mul_one] at s2
            refine wc_seq (wc_opq fun Q1 hQ => ?_)
            simp (disch := omega) only [ER, reduceIte, Nat.reduceEqDiff, Nat.reduceAdd, g0, g2, op_sliceV_lo, op_clear, s2, s3]
            refine hQ _ ?_
            clear hQ Q1
            have hg2 : (h'.set id (.cells (putL (List.replicate (n - w) (AV.int .i64 ((0 : Nat) : Int))) c1 w) n true false)).mem.get id = some (.cells (putL (List.replicate (n - w) (AV.int .i64 ((0 : Nat) : Int))) c1 w) n true false) := AH.get_set
            have s4 := sliceV_hi (kill := true) (k := .i64) (hi := w) (len := n) (off := 0) hg2 (Nat.le_refl 1) (by omega)
            refine wc_seq (wc_opq fun Q1 hQ => ?_)
            simp (disch := omega) only [ER, reduceIte, Nat.reduceEqDiff, Nat.reduceAdd, g0, g2, op_sliceV_hi, s4]
            refine hQ _ ?_
            clear hQ Q1
            have el : ((List.range w).map g).length = w := by simp
            refine wc_ret ⟨_, results_val results_nil, (List.range w).map g, ?_, (sg.more.set _).keepAt hb h1, ⟨fun x y x1 x2 => ?_, fun z => ?_⟩, ?_⟩
            · simp (disch := omega) only [ER, reduceIte, Nat.reduceEqDiff, Nat.reduceAdd, one_one]
              have := RowZ.sl (h := (h'.set id (.cells (putL (List.replicate (n - w) (AV.int .i64 ((0 : Nat) : Int))) c1 w) n true false))) (g := (List.range w).map g) h1 (by rw [AH.set_next]; exact Nat.lt_of_lt_of_le h2' sg.more.next) hg2 (fun x hx => by
                have hx : x < w := by simpa using hx
                rw [get_putL, if_neg (by omega)]
                have := hc1 x (by omega)
                rw [Nat.zero_add] at this
                rw [this]; simp)
              rwa [el] at this
            · simp only [List.getElem_map, List.getElem_range]
              exact upg x y x1 (by simpa using x2)
            · rw [hfm z, ← mem z, List.mem_map]
              simp only [List.mem_range]
            · simp (disch := omega) only [ER, reduceIte, Nat.reduceEqDiff, Nat.reduceAdd, one_one]
              rfl
        · refine wc_skip ?_
          refine wc_opq fun Q1 hQ => ?_
          simp (disch := omega) only [ER, reduceIte, Nat.reduceEqDiff, Nat.reduceAdd, g2]
          refine hQ _ ?_
          clear hQ Q1
          refine ⟨n - (i + 1), by omega, i + 1, rfl, by omega, by omega, rfl, rfl, ?_, ?_, fun x y x1 x2 => ?_⟩
          · simp (disch := omega) only [ER, reduceIte, Nat.reduceEqDiff, Nat.reduceAdd, g0]
          · simp (disch := omega) only [ER, reduceIte, Nat.reduceEqDiff, Nat.reduceAdd]
          · by_cases hy : y = i
            · subst hy
              have h5 := hf x (y - 1) (by omega) (by omega)
              have h6 := hf (y - 1) y (by omega) hlt
              omega
            · exact up x y x1 (by omega)
      · refine wc_exit ⟨rfl, rfl, ?_, fun x y x1 x2 => up x y x1 (by omega)⟩
        simp (disch := omega) only [ER, reduceIte, Nat.reduceEqDiff, Nat.reduceAdd, g0]
    · refine ⟨1, rfl, Nat.le_refl _, by omega, rfl, rfl, ?_, ?_, fun x y x1 x2 => by omega⟩
      · simp (disch := omega) only [ER, reduceIte, Nat.reduceEqDiff, Nat.reduceAdd, i0]
      · simp (disch := omega) only [ER, reduceIte, Nat.reduceEqDiff, Nat.reduceAdd]
  · rintro l' d h' ⟨rfl, rfl, g0, up⟩
    refine wc_seq (wc_opq fun Q1 hQ => ?_)
    simp (disch := omega) only [ER, reduceIte, Nat.reduceEqDiff, Nat.reduceAdd, g0]
    refine hQ _ ?_
    clear hQ Q1
    refine wc_ret ⟨_, results_val results_nil, l, ?_, Keep.refl _ _, ⟨fun i j hi hj => ?_, fun x => Iff.rfl⟩, ?_⟩
    · simp (disch := omega) only [ER, reduceIte, Nat.reduceEqDiff, Nat.reduceAdd, one_one]
      have := RowZ.sl (h := h) (g := l) h1 h2' h3 (fun x hx => by
        have := h4 x (by omega)
        rw [Nat.zero_add] at this
        rw [this, hfe x _ (List.getElem?_eq_getElem hx)])
      rwa [hn] at this
    · rw [hfe i _ (List.getElem?_eq_getElem (by omega)), hfe j _ (List.getElem?_eq_getElem hj)]; exact up i j hi (by omega)
    · simp (disch := omega) only [ER, reduceIte, Nat.reduceEqDiff, Nat.reduceAdd, one_one]
      rfl
end
end Go.Ev
