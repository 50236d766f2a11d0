/- Where objects are made: the reference's answer. Where objects are made: all sites, by the reference. Where objects are made: all sites, by the program. What the law LowerSites comes to. -/
import Derived.Test.YtokophcpoecilaaGreatDoorSoB
import Derived.Test.YtokophcpoecilaaGreatDoorEvH
set_option linter.unusedSimpArgs false
set_option linter.unusedVariables false
namespace Go.Ev
open Go
set_option maxRecDepth 100000
set_option maxHeartbeats 4000000
/-- whether an instruction of a function makes an object -/
def makes (f : FunD) (z : Int) : Bool := decide (0 ≤ z) && (match f.ins[z.toNat]? with | some x => decide (x.op = 24) | none => false)
def listed (f : FunD) (z : Int) : Bool := f.blocks.any fun b => b.list.contains z
/-- those of a function -/
def funSites (f : FunD) : List Int := ((List.range f.ins.length).map Int.ofNat).filter fun k => makes f k && listed f k
def siteRow (i : Nat) (z : Int) : List AV := [.int .i64 (i : Int), .int .i64 z]
def sitesTo (fs : List FunD) (n : Nat) : List (List AV) := (List.range n).flatMap fun i => match fs[i]? with | some f => (funSites f).map (siteRow i) | none => []
def bnd (n : Int) : Int := if n < 0 ∨ 65536 < n then 0 else 8 * n + 64
theorem take_more {α : Type} {l : List α} {i : Nat} (hi : i < l.length) : l.take (i + 1) = l.take i ++ [l[i]] := by
  rw [List.take_add_one, List.getElem?_eq_getElem hi]; rfl
theorem i64_nat {n : Nat} (h : n ≤ maxLen) : n < 9223372036854775808 := by unfold maxLen at h; omega
section
variable {tab : Nat → Option AFunc} {h : AH}
theorem bound_rw (tb : tab 7 = some af7) {n : Int} {Q : AV → AH → Prop} : GP tab 7 [.int .i64 n] h Q = Q (.int .i64 (bnd n)) h := by
  have i0 : initLoc [.int .i64 n] = ofList [.int .i64 n] := rfl
  refine gp_rw (gp_of tb rfl ?_)
  refine wc_seq (wc_opq fun Q1 hQ => ?_)
  simp (disch := omega) only [ER, reduceIte, Nat.reduceEqDiff, Nat.reduceAdd, i0]
  refine hQ _ ?_
  clear hQ Q1
  by_cases h1 : n < ((0 : Nat) : Int)
  · refine wc_seq ?_
    refine wc_seq (wc_opq fun Q1 hQ => ?_)
    simp (disch := omega) only [ER, reduceIte, Nat.reduceEqDiff, Nat.reduceAdd, i0, h1]
    refine hQ _ ?_
    clear hQ Q1
    refine wc_yes (by simp (disch := omega) only [ER, reduceIte, Nat.reduceEqDiff, Nat.reduceAdd]) ?_
    refine wc_seq (wc_opq fun Q1 hQ => ?_)
    simp (disch := omega) only [ER, reduceIte, Nat.reduceEqDiff, Nat.reduceAdd]
    refine hQ _ ?_
    clear hQ Q1
    refine wc_ret ⟨_, results_val results_nil, ?_, rfl⟩
    simp (disch := omega) only [ER, reduceIte, Nat.reduceEqDiff, Nat.reduceAdd, one_one]
    rw [bnd, if_pos (.inl (by omega))]; rfl
  · by_cases h2 : ((65536 : Nat) : Int) < n
    · refine wc_seq ?_
      refine wc_seq (wc_opq fun Q1 hQ => ?_)
      simp (disch := omega) only [ER, reduceIte, Nat.reduceEqDiff, Nat.reduceAdd, i0, h1, h2]
      refine hQ _ ?_
      clear hQ Q1
      refine wc_yes (by simp (disch := omega) only [ER, reduceIte, Nat.reduceEqDiff, Nat.reduceAdd]) ?_
      refine wc_seq (wc_opq fun Q1 hQ => ?_)
      simp (disch := omega) only [ER, reduceIte, Nat.reduceEqDiff, Nat.reduceAdd]
      refine hQ _ ?_
      clear hQ Q1
      refine wc_ret ⟨_, results_val results_nil, ?_, rfl⟩
      simp (disch := omega) only [ER, reduceIte, Nat.reduceEqDiff, Nat.reduceAdd, one_one]
      rw [bnd, if_pos (.inr (by omega))]; rfl
    · refine wc_seq ?_
      refine wc_seq (wc_opq fun Q1 hQ => ?_)
      simp (disch := omega) only [ER, reduceIte, Nat.reduceEqDiff, Nat.reduceAdd, i0, h1, h2]
      refine hQ _ ?_
      clear hQ Q1
      refine wc_no (by simp (disch := omega) only [ER, reduceIte, Nat.reduceEqDiff, Nat.reduceAdd]) (wc_skip ?_)
      refine wc_seq (wc_opq fun Q1 hQ => ?_)
      simp (disch := omega) only [ER, reduceIte, Nat.reduceEqDiff, Nat.reduceAdd, i0]
      refine hQ _ ?_
      clear hQ Q1
      refine wc_ret ⟨_, results_val results_nil, ?_, rfl⟩
      simp (disch := omega) only [ER, reduceIte, Nat.reduceEqDiff, Nat.reduceAdd, one_one]
      rw [bnd, if_neg (by omega), wrap_i64 (n := ((8 : Nat) : Int) * n) (by omega) (by omega), wrap_i64 (by omega) (by omega)]; rfl
theorem rbound_rw (tb : tab 8 = some af8) {n : Int} {Q : AV → AH → Prop} : GP tab 8 [.int .i64 n] h Q = Q (.int .i64 (bnd n)) h := by
  have i0 : initLoc [.int .i64 n] = ofList [.int .i64 n] := rfl
  refine gp_rw (gp_of tb rfl ?_)
  refine wc_seq (wc_opq fun Q1 hQ => ?_)
  simp (disch := omega) only [ER, reduceIte, Nat.reduceEqDiff, Nat.reduceAdd, i0]
  refine hQ _ ?_
  clear hQ Q1
  by_cases h1 : n < ((0 : Nat) : Int)
  · refine wc_seq ?_
    refine wc_seq (wc_opq fun Q1 hQ => ?_)
    simp (disch := omega) only [ER, reduceIte, Nat.reduceEqDiff, Nat.reduceAdd, i0, h1]
    refine hQ _ ?_
    clear hQ Q1
    refine wc_yes (by simp (disch := omega) only [ER, reduceIte, Nat.reduceEqDiff, Nat.reduceAdd]) ?_
    refine wc_seq (wc_opq fun Q1 hQ => ?_)
    simp (disch := omega) only [ER, reduceIte, Nat.reduceEqDiff, Nat.reduceAdd]
    refine hQ _ ?_
    clear hQ Q1
    refine wc_ret ⟨_, results_val results_nil, ?_, rfl⟩
    simp (disch := omega) only [ER, reduceIte, Nat.reduceEqDiff, Nat.reduceAdd, one_one]
    rw [bnd, if_pos (.inl (by omega))]; rfl
  · by_cases h2 : ((65536 : Nat) : Int) < n
    · refine wc_seq ?_
      refine wc_seq (wc_opq fun Q1 hQ => ?_)
      simp (disch := omega) only [ER, reduceIte, Nat.reduceEqDiff, Nat.reduceAdd, i0, h1, h2]
      refine hQ _ ?_
      clear hQ Q1
      refine wc_yes (by simp (disch := omega) only [ER, reduceIte, Nat.reduceEqDiff, Nat.reduceAdd]) ?_
      refine wc_seq (wc_opq fun Q1 hQ => ?_)
      simp (disch := omega) only [ER, reduceIte, Nat.reduceEqDiff, Nat.reduceAdd]
      refine hQ _ ?_
      clear hQ Q1
      refine wc_ret ⟨_, results_val results_nil, ?_, rfl⟩
      simp (disch := omega) only [ER, reduceIte, Nat.reduceEqDiff, Nat.reduceAdd, one_one]
      rw [bnd, if_pos (.inr (by omega))]; rfl
    · refine wc_seq ?_
      refine wc_seq (wc_opq fun Q1 hQ => ?_)
      simp (disch := omega) only [ER, reduceIte, Nat.reduceEqDiff, Nat.reduceAdd, i0, h1, h2]
      refine hQ _ ?_
      clear hQ Q1
      refine wc_no (by simp (disch := omega) only [ER, reduceIte, Nat.reduceEqDiff, Nat.reduceAdd]) (wc_skip ?_)
      refine wc_seq (wc_opq fun Q1 hQ => ?_)
      simp (disch := omega) only [ER, reduceIte, Nat.reduceEqDiff, Nat.reduceAdd, i0]
      refine hQ _ ?_
      clear hQ Q1
      refine wc_ret ⟨_, results_val results_nil, ?_, rfl⟩
      simp (disch := omega) only [ER, reduceIte, Nat.reduceEqDiff, Nat.reduceAdd, one_one]
      rw [bnd, if_neg (by omega), wrap_i64 (n := ((8 : Nat) : Int) * n) (by omega) (by omega), wrap_i64 (by omega) (by omega)]; rfl
/-- whether a place is listed -/
theorem listed_gp (tl : tab 14 = some af14) {cs : List AV} {f : FunD} {k : Int} (hf : FunR h cs f) : GP tab 14 [.agg cs, .int .i64 k] h fun v h1 => v = .bool (listed f k) ∧ More h h1 := by
  obtain ⟨vp, vs, vi, vb, rfl, r1, r2, r3, r4, _, _⟩ := hf
  have i0 : initLoc [.agg [sv f.name, vp, sv f.result, vs, vi, vb], .int .i64 k] = ofList [.agg [sv f.name, vp, sv f.result, vs, vi, vb], .int .i64 k] := rfl
  have lb := i64_nat r4.bound
  refine gp_of tl rfl ?_
  refine wc_seq (wc_opq fun Q1 hQ => ?_)
  simp (disch := omega) only [ER, reduceIte, Nat.reduceEqDiff, Nat.reduceAdd, i0]
  refine hQ _ ?_
  clear hQ Q1
  have gb : (h.add (.cells (ofList [sv f.name, vp, sv f.result, vs, vi, vb]) 6 false false)).mem.get h.next = some (.cells (ofList [sv f.name, vp, sv f.result, vs, vi, vb]) 6 false false) := by rw [AH.add_mem, T.get_put_self]
  have mo : More h (h.add (.cells (ofList [sv f.name, vp, sv f.result, vs, vi, vb]) 6 false false)) := More.add _ _
  have r4' := r4.more mo fun _ _ h => h.more mo
  generalize (h.add (.cells (ofList [sv f.name, vp, sv f.result, vs, vi, vb]) 6 false false)) = h1 at *
  have lenb := r4.len
  refine wc_mid (fun l d h2 => h1 = h2 ∧ d = [] ∧ listed f k = false) ?_ ?_
  · refine wc_seq (wc_opq fun Q1 hQ => ?_)
    simp (disch := omega) only [ER, reduceIte, Nat.reduceEqDiff, Nat.reduceAdd]
    refine hQ _ ?_
    clear hQ Q1
    refine wc_block ?_
    refine wc_while (fun m l d h2 => ∃ i, m = f.blocks.length - i ∧ i ≤ f.blocks.length ∧ h1 = h2 ∧ d = [] ∧ l.get 1 = some (.int .i64 k) ∧ l.get 2 = some (.int .i64 ((i : Nat) : Int)) ∧ l.get 3 = some (.ptr h.next 0) ∧ ∀ j (hj : j < i) (hl : j < f.blocks.length), f.blocks[j].list.contains k = false) ?_ (f.blocks.length - 0) ?_
    · rintro m l d h2 ⟨i, hm, hi, rfl, rfl, g1, g2, g3, no⟩
      refine wc_seq ?_
      refine wc_seq (wc_opq fun Q1 hQ => ?_)
      simp (disch := omega) only [ER, reduceIte, Nat.reduceEqDiff, Nat.reduceAdd, g2, g3, gb, lenb]
      refine hQ _ ?_
      clear hQ Q1
      refine wc_if (i < f.blocks.length) (by simp (disch := omega) only [ER, reduceIte, Nat.reduceEqDiff, Nat.reduceAdd]) (fun hlt => ?_) (fun hge => ?_)
      · refine wc_skip ?_
        obtain ⟨ib, ob, cb, sb, cc, E, rfl, gB, _, hE⟩ := r4'.open (by omega)
        obtain ⟨el, eg, vl, ee, rl, _, _, _, _⟩ := hE i hlt
        have c0 := eg 0 (by omega)
        rw [ee, Nat.add_zero] at c0
        have c0 : cc.get (ob + i * 5) = some vl := c0
        have lenl := rl.len
        have ll := i64_nat rl.bound
        generalize hbi : f.blocks[i] = bi at *
        refine wc_mid (fun l d h2 => h1 = h2 ∧ d = [] ∧ l.get 1 = some (.int .i64 k) ∧ l.get 2 = some (.int .i64 ((i : Nat) : Int)) ∧ l.get 3 = some (.ptr h.next 0) ∧ bi.list.contains k = false) ?_ ?_
        · refine wc_block ?_
          refine wc_seq (wc_opq fun Q1 hQ => ?_)
          simp (disch := omega) only [ER, reduceIte, Nat.reduceEqDiff, Nat.reduceAdd]
          refine hQ _ ?_
          clear hQ Q1
          refine wc_block ?_
          refine wc_while (fun m l d h2 => ∃ j, m = bi.list.length - j ∧ j ≤ bi.list.length ∧ h1 = h2 ∧ d = [] ∧ l.get 1 = some (.int .i64 k) ∧ l.get 2 = some (.int .i64 ((i : Nat) : Int)) ∧ l.get 3 = some (.ptr h.next 0) ∧ l.get 5 = some (.int .i64 ((j : Nat) : Int)) ∧ ∀ x (hx : x < j) (hl : x < bi.list.length), bi.list[x] ≠ k) ?_ (bi.list.length - 0) ?_
          · clear g1 g2 g3
            rintro m l d h2 ⟨j, hm, hj, rfl, rfl, g1, g2, g3, g5, no2⟩
            refine wc_seq ?_
            refine wc_seq (wc_opq fun Q1 hQ => ?_)
            simp (disch := omega) only [ER, reduceIte, Nat.reduceEqDiff, Nat.reduceAdd, g2, g3, g5, gb, gB, c0, lenl]
            refine hQ _ ?_
            clear hQ Q1
            refine wc_if (j < bi.list.length) (by simp (disch := omega) only [ER, reduceIte, Nat.reduceEqDiff, Nat.reduceAdd]) (fun hlj => ?_) (fun hgj => ?_)
            · refine wc_skip ?_
              obtain ⟨il, ol, cl, sl, cL, EL, rfl, gL, _, hL⟩ := rl.open (by omega)
              obtain ⟨_, eg2, ee2, _⟩ := hL j hlj
              have q0 := eg2 0 (by omega)
              rw [ee2, Nat.add_zero, Nat.mul_one] at q0
              have q0 : cL.get (ol + j) = some (.int .i64 bi.list[j]) := q0
              refine wc_seq (wc_block ?_)
              refine wc_seq (wc_opq fun Q1 hQ => ?_)
              simp (disch := omega) only [ER, reduceIte, Nat.reduceEqDiff, Nat.reduceAdd, g1, g2, g3, g5, gb, gB, c0, gL, q0]
              refine hQ _ ?_
              clear hQ Q1
              refine wc_if (bi.list[j] = k) (by simp (disch := omega) only [ER, reduceIte, Nat.reduceEqDiff, Nat.reduceAdd]) (fun heq => ?_) (fun hne => ?_)
              · refine wc_seq (wc_opq fun Q1 hQ => ?_)
                simp (disch := omega) only [ER, reduceIte, Nat.reduceEqDiff, Nat.reduceAdd]
                refine hQ _ ?_
                clear hQ Q1
                refine wc_ret ⟨_, results_val results_nil, ?_, mo⟩
                simp (disch := omega) only [ER, reduceIte, Nat.reduceEqDiff, Nat.reduceAdd, one_one]
                have : listed f k = true := by
                  rw [listed, List.any_eq_true]
                  refine ⟨f.blocks[i], List.getElem_mem hlt, ?_⟩
                  rw [hbi, List.contains_eq_mem]
                  exact decide_eq_true (heq ▸ List.getElem_mem hlj)
                rw [this]
              · refine wc_skip ?_
                refine wc_opq fun Q1 hQ => ?_
                simp (disch := omega) only [ER, reduceIte, Nat.reduceEqDiff, Nat.reduceAdd, g5]
                refine hQ _ ?_
                clear hQ Q1
                refine ⟨bi.list.length - (j + 1), by omega, j + 1, rfl, by omega, rfl, rfl, ?_, ?_, ?_, ?_, fun x hx hl => ?_⟩
                · simp (disch := omega) only [ER, reduceIte, Nat.reduceEqDiff, Nat.reduceAdd, g1]
                · simp (disch := omega) only [ER, reduceIte, Nat.reduceEqDiff, Nat.reduceAdd, g2]
                · simp (disch := omega) only [ER, reduceIte, Nat.reduceEqDiff, Nat.reduceAdd, g3]
                · simp (disch := omega) only [ER, reduceIte, Nat.reduceEqDiff, Nat.reduceAdd]
                · by_cases hxj : x = j
                  · subst hxj; exact hne
                  · exact no2 x (by omega) hl
            · refine wc_exit ⟨rfl, rfl, ?_, ?_, ?_, ?_⟩
              · simp (disch := omega) only [ER, reduceIte, Nat.reduceEqDiff, Nat.reduceAdd, g1]
              · simp (disch := omega) only [ER, reduceIte, Nat.reduceEqDiff, Nat.reduceAdd, g2]
              · simp (disch := omega) only [ER, reduceIte, Nat.reduceEqDiff, Nat.reduceAdd, g3]
              · rw [List.contains_eq_mem]
                refine decide_eq_false fun hm => ?_
                obtain ⟨x, hx, e⟩ := List.getElem_of_mem hm
                exact no2 x (by omega) hx e
          · refine ⟨0, rfl, by omega, rfl, rfl, ?_, ?_, ?_, ?_, fun x hx => by omega⟩
            · simp (disch := omega) only [ER, reduceIte, Nat.reduceEqDiff, Nat.reduceAdd, g1]
            · simp (disch := omega) only [ER, reduceIte, Nat.reduceEqDiff, Nat.reduceAdd, g2]
            · simp (disch := omega) only [ER, reduceIte, Nat.reduceEqDiff, Nat.reduceAdd, g3]
            · simp (disch := omega) only [ER, reduceIte, Nat.reduceEqDiff, Nat.reduceAdd]
        · clear g1 g2 g3
          rintro l d h2 ⟨rfl, rfl, g1, g2, g3, nb⟩
          refine wc_opq fun Q1 hQ => ?_
          simp (disch := omega) only [ER, reduceIte, Nat.reduceEqDiff, Nat.reduceAdd, g2]
          refine hQ _ ?_
          clear hQ Q1
          refine ⟨f.blocks.length - (i + 1), by omega, i + 1, rfl, by omega, rfl, rfl, ?_, ?_, ?_, fun x hx hl => ?_⟩
          · simp (disch := omega) only [ER, reduceIte, Nat.reduceEqDiff, Nat.reduceAdd, g1]
          · simp (disch := omega) only [ER, reduceIte, Nat.reduceEqDiff, Nat.reduceAdd]
          · simp (disch := omega) only [ER, reduceIte, Nat.reduceEqDiff, Nat.reduceAdd, g3]
          · by_cases hxi : x = i
            · subst hxi; rw [hbi]; exact nb
            · exact no x (by omega) hl
      · refine wc_exit ⟨rfl, rfl, ?_⟩
        rw [listed, List.any_eq_false]
        intro b hb
        obtain ⟨x, hx, e⟩ := List.getElem_of_mem hb
        rw [← e, no x (by omega) hx]
        exact Bool.false_ne_true
    · refine ⟨0, rfl, by omega, rfl, rfl, ?_, ?_, ?_, fun j hj => by omega⟩
      all_goals simp (disch := omega) only [ER, reduceIte, Nat.reduceEqDiff, Nat.reduceAdd, i0]
  · rintro l d h2 ⟨rfl, rfl, no⟩
    refine wc_seq (wc_opq fun Q1 hQ => ?_)
    simp (disch := omega) only [ER, reduceIte, Nat.reduceEqDiff, Nat.reduceAdd]
    refine hQ _ ?_
    clear hQ Q1
    refine wc_ret ⟨_, results_val results_nil, ?_, mo⟩
    simp (disch := omega) only [ER, reduceIte, Nat.reduceEqDiff, Nat.reduceAdd, one_one]
    rw [no]
end
end Go.Ev

namespace Go.Ev
open Go
set_option maxRecDepth 100000
set_option maxHeartbeats 4000000
section
variable {tab : Nat → Option AFunc} {h : AH}
/-- those of the first k instructions -/
def sitesIn (f : FunD) (i k : Nat) : List (List AV) := (((List.range k).map Int.ofNat).filter fun z => makes f z && listed f z).map (siteRow i)
theorem sitesIn_succ (f : FunD) (i k : Nat) : sitesIn f i (k + 1) = sitesIn f i k ++ (if makes f (k : Int) && listed f (k : Int) then [siteRow i k] else []) := by
  unfold sitesIn
  rw [List.range_succ, List.map_append, List.filter_append, List.map_append]
  congr 1
  simp only [List.map_cons, List.map_nil]
  by_cases hc : (makes f (k : Int) && listed f (k : Int)) = true
  · rw [if_pos hc, List.filter_cons_of_pos (by exact hc)]; rfl
  · rw [if_neg hc, List.filter_cons_of_neg (by exact hc)]; rfl
theorem sitesTo_succ {fs : List FunD} {n : Nat} (hn : n < fs.length) : sitesTo fs (n + 1) = sitesTo fs n ++ sitesIn fs[n] n fs[n].ins.length := by
  unfold sitesTo
  rw [List.range_succ, List.flatMap_append]
  congr 1
  simp [List.getElem?_eq_getElem hn, sitesIn, funSites]
theorem sitesIn_len (f : FunD) (i k : Nat) : (sitesIn f i k).length ≤ k := by
  unfold sitesIn
  rw [List.length_map]
  exact Nat.le_trans (List.length_filter_le _ _) (by simp)
theorem sitesTo_len {fs : List FunD} (hb : ∀ f ∈ fs, f.ins.length ≤ 600) : ∀ {n : Nat}, n ≤ fs.length → (sitesTo fs n).length ≤ n * 600
  | 0, _ => by simp [sitesTo]
  | n + 1, hn => by
    rw [sitesTo_succ (by omega), List.length_append]
    have h1 := sitesTo_len hb (n := n) (by omega)
    have h2 := sitesIn_len fs[n] n fs[n].ins.length
    have h3 := hb fs[n] (List.getElem_mem (by omega))
    omega
theorem makes_at {f : FunD} {k : Nat} (hk : k < f.ins.length) : makes f (k : Int) = decide (f.ins[k].op = 24) := by
  unfold makes
  rw [show (k : Int).toNat = k from rfl, List.getElem?_eq_getElem hk]
  simp
theorem site_src {h : AH} {h0 : AH} {i : Nat} {z : Int} (hg : h.mem.get h0.next = some (.cells (ofList [.int .i64 (i : Int), .int .i64 z]) 2 false false)) : ∀ k, srcCells 2 (.sl h0.next 0 1 (.known 1)) h k = k 1 (siteRow i z) := fun k => src_sl (by decide) hg rfl k
theorem site_src' {h : AH} {id : Nat} {i : Nat} {z : Int} (hg : h.mem.get id = some (.cells (ofList [.int .i64 (i : Int), .int .i64 z]) 2 false false)) : ∀ k, srcCells 2 (.sl id 0 1 (.known 1)) h k = k 1 (siteRow i z) := fun k => src_sl (by decide) hg rfl k
theorem rsites_gp (ts : tab 6 = some af6) (tl : tab 14 = some af14) {cs : List AV} {p : ProgD} (hp : ProgR h cs p) (hb : ∀ f ∈ p.funs, f.ins.length ≤ 600) (hf : p.funs.length ≤ 30) :
    GP tab 6 [.agg cs] h fun v h1 => OwnL h1 h.next 2 v (sitesTo p.funs p.funs.length) ∧ More h h1 := by
  obtain ⟨vs, vg, vf, rfl, r1, r2, r3⟩ := hp
  have i0 : initLoc [.agg [vs, vg, vf]] = ofList [.agg [vs, vg, vf]] := rfl
  refine gp_of ts rfl ?_
  refine wc_seq (wc_opq fun Q1 hQ => ?_)
  simp (disch := omega) only [ER, reduceIte, Nat.reduceEqDiff, Nat.reduceAdd, i0]
  refine hQ _ ?_
  clear hQ Q1
  have gb : (h.add (.cells (ofList [vs, vg, vf]) 3 false false)).mem.get h.next = some (.cells (ofList [vs, vg, vf]) 3 false false) := by rw [AH.add_mem, T.get_put_self]
  have mo0 : More h (h.add (.cells (ofList [vs, vg, vf]) 3 false false)) := More.add _ _
  have lt0 : h.next < (h.add (.cells (ofList [vs, vg, vf]) 3 false false)).next := Nat.lt_succ_self _
  generalize (h.add (.cells (ofList [vs, vg, vf]) 3 false false)) = hB at *
  refine wc_seq (wc_opq fun Q1 hQ => ?_)
  simp (disch := omega) only [ER, reduceIte, Nat.reduceEqDiff, Nat.reduceAdd]
  refine hQ _ ?_
  clear hQ Q1
  have own0 : OwnL (hB.add (.cells (ofList []) 0 false false)) hB.next 2 (.sl hB.next 0 0 (.known 0)) [] := .emp
  have mo1 : More hB (hB.add (.cells (ofList []) 0 false false)) := More.add _ _
  generalize (hB.add (.cells (ofList []) 0 false false)) = hC at *
  have lenf := r3.len
  refine wc_mid (fun l d h2 => ∃ vo, d = [] ∧ l.get 7 = some vo ∧ OwnL h2 hB.next 2 vo (sitesTo p.funs p.funs.length) ∧ More hB h2) ?_ ?_
  · refine wc_seq (wc_opq fun Q1 hQ => ?_)
    simp (disch := omega) only [ER, reduceIte, Nat.reduceEqDiff, Nat.reduceAdd]
    refine hQ _ ?_
    clear hQ Q1
    refine wc_block ?_
    refine wc_while (fun m l d h2 => ∃ (i : Nat) (vo : AV), m = p.funs.length - i ∧ i ≤ p.funs.length ∧ d = [] ∧ l.get 1 = some (.int .i64 (i : Int)) ∧ l.get 2 = some (.ptr h.next 0) ∧ l.get 7 = some vo ∧ OwnL h2 hB.next 2 vo (sitesTo p.funs i) ∧ More hB h2) ?_ (p.funs.length - 0) ?_
    · rintro m l d h2 ⟨i, vo, hm, hi, rfl, g1, g2, g7, own, mo⟩
      have gb2 : h2.mem.get h.next = some (.cells (ofList [vs, vg, vf]) 3 false false) := by rw [mo.keep _ lt0]; exact gb
      refine wc_seq ?_
      refine wc_seq (wc_opq fun Q1 hQ => ?_)
      simp (disch := omega) only [ER, reduceIte, Nat.reduceEqDiff, Nat.reduceAdd, g1, g2, gb2, lenf]
      refine hQ _ ?_
      clear hQ Q1
      refine wc_if (i < p.funs.length) (by simp (disch := omega) only [ER, reduceIte, Nat.reduceEqDiff, Nat.reduceAdd]) (fun hlt => ?_) (fun hge => ?_)
      · refine wc_skip ?_
        obtain ⟨idf, of_, capf, szf, cf, E, evf, gF, ltF, hE⟩ := r3.open (by omega)
        obtain ⟨el, eg, fr⟩ := hE i hlt
        have hbi := hb p.funs[i] (List.getElem_mem hlt)
        have hsucc := sitesTo_succ hlt
        have hlen := sitesTo_len hb (n := i) (by omega)
        have hii : i < 30 := by omega
        generalize p.funs[i] = f at *
        have fr0 := fr
        obtain ⟨vp, vsl, vi, vb, ee, f1, f2, f3, f4, _, _⟩ := fr0
        rw [ee] at eg
        have c0 : cf.get (of_ + i * 6) = some (sv f.name) := by have := eg 0 (by omega); rwa [Nat.add_zero] at this
        have c1 : cf.get (of_ + i * 6 + 1) = some vp := eg 1 (by omega)
        have c2 : cf.get (of_ + i * 6 + 1 + 1) = some (sv f.result) := eg 2 (by omega)
        have c3 : cf.get (of_ + i * 6 + 1 + 1 + 1) = some vsl := eg 3 (by omega)
        have c4 : cf.get (of_ + i * 6 + 1 + 1 + 1 + 1) = some vi := eg 4 (by omega)
        have c4' : cf.get (of_ + i * 6 + 4) = some vi := eg 4 (by omega)
        have c5 : cf.get (of_ + i * 6 + 1 + 1 + 1 + 1 + 1) = some vb := eg 5 (by omega)
        have leni := f3.len
        rw [ee] at fr
        clear eg hE ee el
        refine wc_mid (fun l d h3 => ∃ vo, d = [] ∧ l.get 1 = some (.int .i64 (i : Int)) ∧ l.get 2 = some (.ptr h.next 0) ∧ l.get 7 = some vo ∧ OwnL h3 hB.next 2 vo (sitesTo p.funs i ++ sitesIn f i f.ins.length) ∧ More hB h3) ?_ ?_
        · refine wc_block ?_
          refine wc_seq (wc_opq fun Q1 hQ => ?_)
          simp (disch := omega) only [ER, reduceIte, Nat.reduceEqDiff, Nat.reduceAdd]
          refine hQ _ ?_
          clear hQ Q1
          refine wc_block ?_
          refine wc_while (fun m l d h3 => ∃ (k : Nat) (vo : AV), m = f.ins.length - k ∧ k ≤ f.ins.length ∧ d = [] ∧ l.get 1 = some (.int .i64 (i : Int)) ∧ l.get 2 = some (.ptr h.next 0) ∧ l.get 4 = some (.int .i64 (k : Int)) ∧ l.get 7 = some vo ∧ OwnL h3 hB.next 2 vo (sitesTo p.funs i ++ sitesIn f i k) ∧ More hB h3) ?_ (f.ins.length - 0) ?_
          · clear g1 g2 g7 own mo gb2 vo
            rintro m l d h3 ⟨k, vo, hm, hk, rfl, g1, g2, g4, g7, own, mo⟩
            have gb3 : h3.mem.get h.next = some (.cells (ofList [vs, vg, vf]) 3 false false) := by rw [mo.keep _ lt0]; exact gb
            have gF3 : h3.mem.get idf = some (.cells cf szf false true) := by rw [mo.keep _ (Nat.lt_of_lt_of_le ltF mo0.next), mo0.keep _ ltF]; exact gF
            have hk2 := sitesIn_len f i k
            refine wc_seq ?_
            refine wc_seq (wc_opq fun Q1 hQ => ?_)
            simp (disch := omega) only [ER, reduceIte, Nat.reduceEqDiff, Nat.reduceAdd, g1, g2, g4, gb3, evf, gF3, c4', leni]
            refine hQ _ ?_
            clear hQ Q1
            refine wc_if (k < f.ins.length) (by simp (disch := omega) only [ER, reduceIte, Nat.reduceEqDiff, Nat.reduceAdd]) (fun hlk => ?_) (fun hgk => ?_)
            · refine wc_skip ?_
              obtain ⟨idi, oi, capi, szi, ci, EI, evi, gI, ltI, hI⟩ := f3.open (by omega)
              obtain ⟨_, eg, vai, ei, ri⟩ := hI k hlk
              have q0 := eg 0 (by omega)
              rw [ei, Nat.add_zero] at q0
              have q0 : ci.get (oi + k * 5) = some (.int .i64 f.ins[k].op) := q0
              have gI3 : h3.mem.get idi = some (.cells ci szi false true) := by rw [mo.keep _ (Nat.lt_of_lt_of_le ltI mo0.next), mo0.keep _ ltI]; exact gI
              refine wc_mid (fun l d h4 => ∃ vo, d = [] ∧ l.get 1 = some (.int .i64 (i : Int)) ∧ l.get 2 = some (.ptr h.next 0) ∧ l.get 4 = some (.int .i64 (k : Int)) ∧ l.get 7 = some vo ∧ OwnL h4 hB.next 2 vo (sitesTo p.funs i ++ sitesIn f i (k + 1)) ∧ More hB h4) ?_ ?_
              · refine wc_block ?_
                have hmv := own.mv
                refine wc_mid (fun l d h4 => d = [] ∧ More h3 h4 ∧ l.get 1 = some (.int .i64 (i : Int)) ∧ l.get 2 = some (.ptr h.next 0) ∧ l.get 4 = some (.int .i64 (k : Int)) ∧ l.get 7 = some vo ∧ l.get 6 = some (.bool (makes f k && listed f k))) ?_ ?_
                · by_cases hop : f.ins[k].op = ((24 : Nat) : Int)
                  · refine wc_opq fun Q1 hQ => ?_
                    simp (disch := omega) only [ER, reduceIte, Nat.reduceEqDiff, Nat.reduceAdd, g1, g2, g4, gb3, evf, gF3, c4', evi, gI3, q0, hop, c0, c1, c2, c3, c4, c5]
                    have fr3 : FunR h3 [sv f.name, vp, sv f.result, vsl, vi, vb] f := (fr.more mo0).more mo
                    rw [evi] at fr3
                    refine (listed_gp tl fr3).mono ?_
                    rintro v h4 ⟨rfl, mo4⟩
                    simp (disch := omega) only [ER, reduceIte, Nat.reduceEqDiff, Nat.reduceAdd]
                    refine hQ _ ?_
                    clear hQ Q1
                    refine ⟨rfl, mo4, ?_, ?_, ?_, ?_, ?_⟩
                    · simp (disch := omega) only [ER, reduceIte, Nat.reduceEqDiff, Nat.reduceAdd, g1]
                    · simp (disch := omega) only [ER, reduceIte, Nat.reduceEqDiff, Nat.reduceAdd, g2]
                    · simp (disch := omega) only [ER, reduceIte, Nat.reduceEqDiff, Nat.reduceAdd, g4]
                    · simp (disch := omega) only [ER, reduceIte, Nat.reduceEqDiff, Nat.reduceAdd, g7]
                    · simp (disch := omega) only [ER, reduceIte, Nat.reduceEqDiff, Nat.reduceAdd]
                      rw [makes_at hlk, decide_eq_true (show f.ins[k].op = 24 from hop), Bool.true_and]
                  · refine wc_opq fun Q1 hQ => ?_
                    simp (disch := omega) only [ER, reduceIte, Nat.reduceEqDiff, Nat.reduceAdd, g1, g2, g4, gb3, evf, gF3, c4', evi, gI3, q0, hop]
                    refine hQ _ ?_
                    clear hQ Q1
                    refine ⟨rfl, More.refl _, ?_, ?_, ?_, ?_, ?_⟩
                    · simp (disch := omega) only [ER, reduceIte, Nat.reduceEqDiff, Nat.reduceAdd, g1]
                    · simp (disch := omega) only [ER, reduceIte, Nat.reduceEqDiff, Nat.reduceAdd, g2]
                    · simp (disch := omega) only [ER, reduceIte, Nat.reduceEqDiff, Nat.reduceAdd, g4]
                    · simp (disch := omega) only [ER, reduceIte, Nat.reduceEqDiff, Nat.reduceAdd, g7]
                    · simp (disch := omega) only [ER, reduceIte, Nat.reduceEqDiff, Nat.reduceAdd]
                      rw [makes_at hlk, decide_eq_false (show ¬ f.ins[k].op = 24 from hop), Bool.false_and]
                · clear g1 g2 g4 g7 gb3 gF3 gI3
                  rintro l d h4 ⟨rfl, mo4, g1, g2, g4, g7, g6⟩
                  have own4 := own.more mo4
                  refine wc_cond (q := makes f k && listed f k) (by simp (disch := omega) only [ER, reduceIte, Nat.reduceEqDiff, Nat.reduceAdd, g6]) (fun hq => ?_) (fun hq => ?_)
                  · have own5 := own4.more (More.add h4 (.cells (ofList [.int .i64 (i : Int), .int .i64 (k : Int)]) 2 false false))
                    have src := site_src' (h := h4.add (.cells (ofList [.int .i64 (i : Int), .int .i64 (k : Int)]) 2 false false)) (id := h4.next) (i := i) (z := (k : Int)) (by rw [AH.add_mem, T.get_put_self])
                    obtain ⟨v', h', e', own', kp', _, _, _⟩ := own5.append (by' := 16) src rfl (by omega) (by have := mo.next; have := mo4.next; rw [AH.add_next]; omega) (by rw [List.length_append]; omega) (by omega)
                    refine wc_opq fun Q1 hQ => ?_
                    have hmv' := move_mv (h := h4) hmv
                    have hv' : v'.mv = true := own'.mv
                    simp (disch := omega) only [ER, reduceIte, Nat.reduceEqDiff, Nat.reduceAdd, g1, g4, g7, hmv', e', Nat.reduceLeDiff]
                    rw [move_mv hv']
                    simp (disch := omega) only [ER, reduceIte, Nat.reduceEqDiff, Nat.reduceAdd]
                    refine hQ _ ?_
                    clear hQ Q1
                    refine ⟨v', rfl, ?_, ?_, ?_, ?_, ?_, ⟨?_, fun x hx => ?_⟩⟩
                    · simp (disch := omega) only [ER, reduceIte, Nat.reduceEqDiff, Nat.reduceAdd, g1]
                    · simp (disch := omega) only [ER, reduceIte, Nat.reduceEqDiff, Nat.reduceAdd, g2]
                    · simp (disch := omega) only [ER, reduceIte, Nat.reduceEqDiff, Nat.reduceAdd, g4]
                    · simp (disch := omega) only [ER, reduceIte, Nat.reduceEqDiff, Nat.reduceAdd]
                    · rw [sitesIn_succ, if_pos hq, ← List.append_assoc]; exact own'
                    · have := kp'.next; have := mo.next; have := mo4.next; rw [AH.add_next] at *; omega
                    · have := mo.next
                      have := mo4.next
                      rw [kp'.keep x hx, AH.add_mem, T.get_put_ne _ _ _ _ (by omega), mo4.keep x (by omega), mo.keep x hx]
                  · refine wc_skip ⟨vo, rfl, g1, g2, g4, g7, ?_, mo.trans mo4⟩
                    rw [sitesIn_succ, if_neg (by rw [hq]; exact Bool.false_ne_true), List.append_nil]
                    exact own4
              · clear g1 g2 g4 g7 own mo vo gb3 gF3 gI3
                rintro l d h4 ⟨vo, rfl, g1, g2, g4, g7, own, mo⟩
                refine wc_opq fun Q1 hQ => ?_
                simp (disch := omega) only [ER, reduceIte, Nat.reduceEqDiff, Nat.reduceAdd, g4]
                refine hQ _ ?_
                clear hQ Q1
                refine ⟨f.ins.length - (k + 1), by omega, k + 1, vo, rfl, by omega, rfl, ?_, ?_, ?_, ?_, own, mo⟩
                · simp (disch := omega) only [ER, reduceIte, Nat.reduceEqDiff, Nat.reduceAdd, g1]
                · simp (disch := omega) only [ER, reduceIte, Nat.reduceEqDiff, Nat.reduceAdd, g2]
                · simp (disch := omega) only [ER, reduceIte, Nat.reduceEqDiff, Nat.reduceAdd]
                · simp (disch := omega) only [ER, reduceIte, Nat.reduceEqDiff, Nat.reduceAdd, g7]
            · obtain rfl : k = f.ins.length := by omega
              refine wc_exit ⟨vo, rfl, ?_, ?_, ?_, own, mo⟩
              · simp (disch := omega) only [ER, reduceIte, Nat.reduceEqDiff, Nat.reduceAdd, g1]
              · simp (disch := omega) only [ER, reduceIte, Nat.reduceEqDiff, Nat.reduceAdd, g2]
              · simp (disch := omega) only [ER, reduceIte, Nat.reduceEqDiff, Nat.reduceAdd, g7]
          · refine ⟨0, vo, rfl, by omega, rfl, ?_, ?_, ?_, ?_, by simpa [sitesIn] using own, mo⟩
            · simp (disch := omega) only [ER, reduceIte, Nat.reduceEqDiff, Nat.reduceAdd, g1]
            · simp (disch := omega) only [ER, reduceIte, Nat.reduceEqDiff, Nat.reduceAdd, g2]
            · simp (disch := omega) only [ER, reduceIte, Nat.reduceEqDiff, Nat.reduceAdd]
            · simp (disch := omega) only [ER, reduceIte, Nat.reduceEqDiff, Nat.reduceAdd, g7]
        · clear g1 g2 g7 own mo gb2 vo
          rintro l d h3 ⟨vo, rfl, g1, g2, g7, own, mo⟩
          refine wc_opq fun Q1 hQ => ?_
          simp (disch := omega) only [ER, reduceIte, Nat.reduceEqDiff, Nat.reduceAdd, g1]
          refine hQ _ ?_
          clear hQ Q1
          refine ⟨p.funs.length - (i + 1), by omega, i + 1, vo, rfl, by omega, rfl, ?_, ?_, ?_, by rw [hsucc]; exact own, mo⟩
          · simp (disch := omega) only [ER, reduceIte, Nat.reduceEqDiff, Nat.reduceAdd]
          · simp (disch := omega) only [ER, reduceIte, Nat.reduceEqDiff, Nat.reduceAdd, g2]
          · simp (disch := omega) only [ER, reduceIte, Nat.reduceEqDiff, Nat.reduceAdd, g7]
      · obtain rfl : i = p.funs.length := by omega
        refine wc_exit ⟨vo, rfl, ?_, own, mo⟩
        simp (disch := omega) only [ER, reduceIte, Nat.reduceEqDiff, Nat.reduceAdd, g7]
    · refine ⟨0, _, rfl, by omega, rfl, ?_, ?_, ?_, own0, mo1⟩
      · simp (disch := omega) only [ER, reduceIte, Nat.reduceEqDiff, Nat.reduceAdd]
      · simp (disch := omega) only [ER, reduceIte, Nat.reduceEqDiff, Nat.reduceAdd]
      · simp (disch := omega) only [ER, reduceIte, Nat.reduceEqDiff, Nat.reduceAdd]
  · rintro l d h2 ⟨vo, rfl, g7, own, mo⟩
    have hmv := fun h' => move_mv (h := h') own.mv
    refine wc_seq (wc_opq fun Q1 hQ => ?_)
    simp (disch := omega) only [ER, reduceIte, Nat.reduceEqDiff, Nat.reduceAdd, g7, hmv]
    refine hQ _ ?_
    clear hQ Q1
    refine wc_ret ⟨_, results_val results_nil, ?_, mo0.trans mo⟩
    simp (disch := omega) only [ER, reduceIte, Nat.reduceEqDiff, Nat.reduceAdd, one_one]
    generalize sitesTo p.funs p.funs.length = L at own ⊢
    cases own with
    | nils => exact .nils
    | emp => exact .emp
    | sl a1 a2 a3 a4 a5 => exact .sl a1 (by have := mo0.next; omega) a3 a4 a5
end
end Go.Ev

namespace Go.Ev
open Go
set_option maxRecDepth 100000
set_option maxHeartbeats 4000000
theorem pw_unique : ∀ {a b : List Int}, a.Pairwise (· < ·) → b.Pairwise (· < ·) → (∀ x, x ∈ a ↔ x ∈ b) → a = b
  | [], [], _, _, _ => rfl
  | [], y :: b, _, _, h => by have := (h y).2 (by simp); cases this
  | x :: a, [], _, _, h => by have := (h x).1 (by simp); cases this
  | x :: a, y :: b, h1, h2, h => by
    have h1' := List.pairwise_cons.1 h1
    have h2' := List.pairwise_cons.1 h2
    have e : x = y := by
      have hx := (h x).1 (by simp)
      have hy := (h y).2 (by simp)
      rcases List.mem_cons.1 hx with e | hx
      · exact e
      rcases List.mem_cons.1 hy with e | hy
      · exact e.symm
      have := h1'.1 y hy
      have := h2'.1 x hx
      omega
    subst e
    rw [pw_unique h1'.2 h2'.2 fun z => ⟨fun hz => ?_, fun hz => ?_⟩]
    · rcases List.mem_cons.1 ((h z).1 (by simp [hz])) with e | hm
      · subst e; have := h1'.1 z hz; omega
      · exact hm
    · rcases List.mem_cons.1 ((h z).2 (by simp [hz])) with e | hm
      · subst e; have := h2'.1 z hz; omega
      · exact hm
theorem Once.pw {l g : List Int} (o : Once l g) : g.Pairwise (· < ·) := List.pairwise_iff_getElem.2 fun i j hi hj hij => o.up i j hij hj
def places (f : FunD) (j : Nat) : List Int := ((f.blocks.take j).flatMap fun b => b.list).filter (makes f)
theorem mem_places {f : FunD} {z : Int} : z ∈ places f f.blocks.length ↔ (makes f z && listed f z) = true := by
  unfold places listed
  rw [List.take_length, List.mem_filter, List.mem_flatMap, Bool.and_eq_true, List.any_eq_true]
  constructor
  · rintro ⟨⟨b, hb, hz⟩, hm⟩
    exact ⟨hm, b, hb, by rw [List.contains_eq_mem]; exact decide_eq_true hz⟩
  · rintro ⟨hm, b, hb, hz⟩
    rw [List.contains_eq_mem] at hz
    exact ⟨⟨b, hb, of_decide_eq_true hz⟩, hm⟩
theorem makes_range {f : FunD} {z : Int} (h : makes f z = true) : ∃ k, k < f.ins.length ∧ z = Int.ofNat k := by
  unfold makes at h
  rw [Bool.and_eq_true, decide_eq_true_eq] at h
  refine ⟨z.toNat, ?_, by have := h.1; show z = ((z.toNat : Nat) : Int); omega⟩
  rcases Nat.lt_or_ge z.toNat f.ins.length with hlt | hge
  · exact hlt
  · rw [List.getElem?_eq_none hge] at h; exact absurd h.2 (by simp)
theorem once_sites {f : FunD} {g : List Int} (o : Once (places f f.blocks.length) g) : g = funSites f := by
  refine pw_unique o.pw ?_ fun z => ?_
  · unfold funSites
    refine List.Pairwise.filter _ (List.pairwise_map.2 ?_)
    exact List.Pairwise.imp (fun {a b} hab => by show (a : Int) < (b : Int); omega) List.pairwise_lt_range
  · rw [o.mem z, mem_places]
    unfold funSites
    rw [List.mem_filter, List.mem_map]
    constructor
    · intro h
      refine ⟨?_, h⟩
      rw [Bool.and_eq_true] at h
      obtain ⟨k, hk, e⟩ := makes_range h.1
      exact ⟨k, List.mem_range.2 hk, e.symm⟩
    · exact fun h => h.2
theorem funSites_len (f : FunD) : (funSites f).length ≤ f.ins.length := by
  unfold funSites
  exact Nat.le_trans (List.length_filter_le _ _) (by simp)
theorem sitesIn_map (f : FunD) (i : Nat) : sitesIn f i f.ins.length = (funSites f).map (siteRow i) := rfl
theorem places_succ {f : FunD} {j : Nat} (hj : j < f.blocks.length) : places f (j + 1) = places f j ++ f.blocks[j].list.filter (makes f) := by
  unfold places
  rw [take_more hj, List.flatMap_append, List.filter_append]
  simp
theorem places_len {f : FunD} (hb : ∀ b ∈ f.blocks, b.list.length ≤ 100) : ∀ {j : Nat}, j ≤ f.blocks.length → (places f j).length ≤ j * 100
  | 0, _ => by simp [places]
  | j + 1, hj => by
    rw [places_succ (by omega), List.length_append]
    have h1 := places_len hb (j := j) (by omega)
    have h2 := List.length_filter_le (makes f) f.blocks[j].list
    have h3 := hb f.blocks[j] (List.getElem_mem (by omega))
    omega
theorem filter_take {l : List Int} {p : Int → Bool} {k : Nat} (hk : k < l.length) : (l.take (k + 1)).filter p = (l.take k).filter p ++ (if p l[k] then [l[k]] else []) := by
  rw [take_more hk, List.filter_append]
  congr 1
  by_cases h : p l[k] = true
  · rw [if_pos h, List.filter_cons_of_pos h]; rfl
  · rw [if_neg h, List.filter_cons_of_neg h]; rfl
theorem one_src {h : AH} {id : Nat} {z : Int} (hg : h.mem.get id = some (.cells (ofList [.int .i64 z]) 1 false false)) : ∀ k, srcCells 1 (.sl id 0 1 (.known 1)) h k = k 1 [.int .i64 z] := fun k => src_sl (by decide) hg rfl k
/-- what a call has not made stays -/
theorem OwnL.base {h : AH} {b b' es : Nat} {v : AV} {xs : List (List AV)} (x : OwnL h b es v xs) (hb : b' ≤ b) : OwnL h b' es v xs := by
  cases x with
  | nils => exact .nils
  | emp => exact .emp
  | sl a1 a2 a3 a4 a5 => exact .sl a1 (by omega) a3 a4 a5
section
variable {tab : Nat → Option AFunc} {h : AH}
theorem sites_gp (ts : tab 5 = some af5) (t : SortT tab) (tc : tab 13 = some af13) {cs : List AV} {p : ProgD} (hp : ProgR h cs p) (hb : ∀ f ∈ p.funs, f.ins.length ≤ 600 ∧ f.blocks.length ≤ 60 ∧ ∀ b ∈ f.blocks, b.list.length ≤ 100) (hf : p.funs.length ≤ 30) :
    GP tab 5 [.agg cs] h fun v h1 => OwnL h1 h.next 2 v (sitesTo p.funs p.funs.length) ∧ More h h1 := by
  obtain ⟨vs, vg, vf, rfl, r1, r2, r3⟩ := hp
  have i0 : initLoc [.agg [vs, vg, vf]] = ofList [.agg [vs, vg, vf]] := rfl
  refine gp_of ts rfl ?_
  refine wc_seq (wc_opq fun Q1 hQ => ?_)
  simp (disch := omega) only [ER, reduceIte, Nat.reduceEqDiff, Nat.reduceAdd, i0]
  refine hQ _ ?_
  clear hQ Q1
  have gb : (h.add (.cells (ofList [vs, vg, vf]) 3 false false)).mem.get h.next = some (.cells (ofList [vs, vg, vf]) 3 false false) := by rw [AH.add_mem, T.get_put_self]
  have mo0 : More h (h.add (.cells (ofList [vs, vg, vf]) 3 false false)) := More.add _ _
  have lt0 : h.next < (h.add (.cells (ofList [vs, vg, vf]) 3 false false)).next := Nat.lt_succ_self _
  generalize (h.add (.cells (ofList [vs, vg, vf]) 3 false false)) = hB at *
  refine wc_seq (wc_opq fun Q1 hQ => ?_)
  simp (disch := omega) only [ER, reduceIte, Nat.reduceEqDiff, Nat.reduceAdd]
  refine hQ _ ?_
  clear hQ Q1
  have lenf := r3.len
  have mvf : ∀ h', oMove (.c vf) .leaf [] h' = .val vf h' := fun h' => move_mv r3.mv
  refine wc_mid (fun l d h2 => ∃ vo, d = [] ∧ l.get 23 = some vo ∧ OwnL h2 hB.next 2 vo (sitesTo p.funs p.funs.length) ∧ More hB h2) ?_ ?_
  · refine wc_seq (wc_opq fun Q1 hQ => ?_)
    simp (disch := omega) only [ER, reduceIte, Nat.reduceEqDiff, Nat.reduceAdd, gb, lenf]
    refine hQ _ ?_
    clear hQ Q1
    refine wc_block ?_
    refine wc_while (fun m l d h2 => ∃ (i : Nat) (vo : AV), m = p.funs.length - i ∧ i ≤ p.funs.length ∧ d = [] ∧ l.get 2 = some (.int .i64 (i : Int)) ∧ l.get 3 = some (.int .i64 (p.funs.length : Int)) ∧ l.get 5 = some vf ∧ l.get 23 = some vo ∧ OwnL h2 hB.next 2 vo (sitesTo p.funs i) ∧ More hB h2) ?_ (p.funs.length - 0) ?_
    · rintro m l d h2 ⟨i, vo, hm, hi, rfl, g2, g3, g5, g23, own, mo⟩
      refine wc_seq (wc_opq fun Q1 hQ => ?_)
      simp (disch := omega) only [ER, reduceIte, Nat.reduceEqDiff, Nat.reduceAdd, g2, g3]
      refine hQ _ ?_
      clear hQ Q1
      refine wc_seq (wc_if (i < p.funs.length) (by simp (disch := omega) only [ER, reduceIte, Nat.reduceEqDiff, Nat.reduceAdd]) (fun hlt => ?_) (fun hge => ?_))
      · refine wc_skip ?_
        obtain ⟨idf, of_, capf, szf, cf, E, evf, gF, ltF, hE⟩ := r3.open (by omega)
        obtain ⟨el, eg, fr⟩ := hE i hlt
        obtain ⟨hbi, hbk, hbl⟩ := hb p.funs[i] (List.getElem_mem hlt)
        have hsucc := sitesTo_succ hlt
        have hlen := sitesTo_len (fun f hf => (hb f hf).1) (n := i) (by omega)
        have hii : i < 30 := by omega
        generalize p.funs[i] = f at *
        obtain ⟨vp, vsl, vi, vb, ee, f1, f2, f3, f4, _, _⟩ := fr
        rw [ee] at eg
        have c0 : cf.get (of_ + i * 6) = some (sv f.name) := by have := eg 0 (by omega); rwa [Nat.add_zero] at this
        have c1 : cf.get (of_ + i * 6 + 1) = some vp := eg 1 (by omega)
        have c2 : cf.get (of_ + i * 6 + 1 + 1) = some (sv f.result) := eg 2 (by omega)
        have c3 : cf.get (of_ + i * 6 + 1 + 1 + 1) = some vsl := eg 3 (by omega)
        have c4 : cf.get (of_ + i * 6 + 1 + 1 + 1 + 1) = some vi := eg 4 (by omega)
        have c5 : cf.get (of_ + i * 6 + 1 + 1 + 1 + 1 + 1) = some vb := eg 5 (by omega)
        have leni := f3.len
        have lenb := f4.len
        have li := i64_nat f3.bound
        clear eg hE ee el
        have gF2 : h2.mem.get idf = some (.cells cf szf false true) := by rw [mo.keep _ (Nat.lt_of_lt_of_le ltF mo0.next), mo0.keep _ ltF]; exact gF
        refine wc_mid (fun l d h3 => ∃ vo, d = [] ∧ l.get 2 = some (.int .i64 (i : Int)) ∧ l.get 3 = some (.int .i64 (p.funs.length : Int)) ∧ l.get 5 = some vf ∧ l.get 23 = some vo ∧ OwnL h3 hB.next 2 vo (sitesTo p.funs i ++ sitesIn f i f.ins.length) ∧ More hB h3) ?_ ?_
        · refine wc_block ?_
          refine wc_mid (fun l d h3 => ∃ cc, d = [] ∧ l.get 2 = some (.int .i64 (i : Int)) ∧ l.get 3 = some (.int .i64 (p.funs.length : Int)) ∧ l.get 5 = some vf ∧ l.get 23 = some vo ∧ l.get 24 = some (.int .i64 (i : Int)) ∧ l.get 6 = some (.ptr h2.next 0) ∧ h3.mem.get h2.next = some (.cells cc 6 false false) ∧ cc.get 4 = some vi ∧ cc.get 5 = some vb ∧ More h2 h3 ∧ h2.next < h3.next) ?_ ?_
          · refine wc_opq fun Q1 hQ => ?_
            simp (disch := omega) only [ER, reduceIte, Nat.reduceEqDiff, Nat.reduceAdd, g2, g5, evf, gF2, c0, c1, c2, c3, c4, c5, cells_sv]
            refine hQ _ ?_
            clear hQ Q1
            refine ⟨_, rfl, ?_, ?_, ?_, ?_, ?_, ?_, AH.get_set, ?_, ?_, (More.add h2 _).set (Nat.le_refl _) _, by rw [AH.set_next]; exact Nat.lt_succ_self _⟩
            · simp (disch := omega) only [ER, reduceIte, Nat.reduceEqDiff, Nat.reduceAdd, g2]
            · simp (disch := omega) only [ER, reduceIte, Nat.reduceEqDiff, Nat.reduceAdd, g3]
            · simp (disch := omega) only [ER, reduceIte, Nat.reduceEqDiff, Nat.reduceAdd, g5, evf]
            · simp (disch := omega) only [ER, reduceIte, Nat.reduceEqDiff, Nat.reduceAdd, g23]
            · simp (disch := omega) only [ER, reduceIte, Nat.reduceEqDiff, Nat.reduceAdd]
            · simp (disch := omega) only [ER, reduceIte, Nat.reduceEqDiff, Nat.reduceAdd]
            · simp (disch := omega) only [ER, reduceIte, Nat.reduceEqDiff, Nat.reduceAdd]
            · simp (disch := omega) only [ER, reduceIte, Nat.reduceEqDiff, Nat.reduceAdd]
          clear g2 g3 g5 g23 gF2
          rintro l d h3 ⟨cc, rfl, g2, g3, g5, g23, g24, g6, gC, cc4, cc5, mo3, lt3⟩
          have own3 := own.more mo3
          refine wc_seq (wc_opq fun Q1 hQ => ?_)
          simp (disch := omega) only [ER, reduceIte, Nat.reduceEqDiff, Nat.reduceAdd]
          refine hQ _ ?_
          clear hQ Q1
          refine wc_mid (fun l d h4 => ∃ vp, d = [] ∧ l.get 2 = some (.int .i64 (i : Int)) ∧ l.get 3 = some (.int .i64 (p.funs.length : Int)) ∧ l.get 5 = some vf ∧ l.get 23 = some vo ∧ l.get 24 = some (.int .i64 (i : Int)) ∧ l.get 18 = some vp ∧ OwnL h4 h3.next 1 vp (zs (places f f.blocks.length)) ∧ More h3 h4) ?_ ?_
          · refine wc_seq (wc_opq fun Q1 hQ => ?_)
            simp (disch := omega) only [ER, reduceIte, Nat.reduceEqDiff, Nat.reduceAdd, g6, gC, cc5, lenb]
            refine hQ _ ?_
            clear hQ Q1
            refine wc_block ?_
            refine wc_while (fun m l d h4 => ∃ (j : Nat) (vp : AV), m = f.blocks.length - j ∧ j ≤ f.blocks.length ∧ d = [] ∧ l.get 2 = some (.int .i64 (i : Int)) ∧ l.get 3 = some (.int .i64 (p.funs.length : Int)) ∧ l.get 5 = some vf ∧ l.get 23 = some vo ∧ l.get 24 = some (.int .i64 (i : Int)) ∧ l.get 6 = some (.ptr h2.next 0) ∧ l.get 7 = some (.int .i64 (j : Int)) ∧ l.get 8 = some (.int .i64 (f.blocks.length : Int)) ∧ l.get 10 = some vb ∧ l.get 18 = some vp ∧ OwnL h4 h3.next 1 vp (zs (places f j)) ∧ More h3 h4) ?_ (f.blocks.length - 0) ?_
            · clear g2 g3 g5 g23 g24 g6
              rintro m l d h4 ⟨j, vp, hm, hj, rfl, g2, g3, g5, g23, g24, g6, g7, g8, g10, g18, ownp, mo4⟩
              refine wc_seq (wc_opq fun Q1 hQ => ?_)
              simp (disch := omega) only [ER, reduceIte, Nat.reduceEqDiff, Nat.reduceAdd, g7, g8]
              refine hQ _ ?_
              clear hQ Q1
              refine wc_seq (wc_if (j < f.blocks.length) (by simp (disch := omega) only [ER, reduceIte, Nat.reduceEqDiff, Nat.reduceAdd]) (fun hlj => ?_) (fun hgj => ?_))
              · refine wc_skip ?_
                obtain ⟨idb, ob, capb, szb, cb, EB, evb, gB, ltB, hB'⟩ := f4.open (by omega)
                obtain ⟨_, egb, vl, eb, rl, _⟩ := hB' j hlj
                have hbj := hbl f.blocks[j] (List.getElem_mem hlj)
                have psucc := places_succ hlj
                have plen := places_len hbl (j := j) (by omega)
                generalize f.blocks[j] = bk at *
                rw [eb] at egb
                have d0 : cb.get (ob + j * 5) = some vl := by have := egb 0 (by omega); rwa [Nat.add_zero] at this
                have d1 : cb.get (ob + j * 5 + 1) = some (.int .i64 bk.jump) := egb 1 (by omega)
                have d2 : cb.get (ob + j * 5 + 1 + 1) = some (.int .i64 bk.arg) := egb 2 (by omega)
                have d3 : cb.get (ob + j * 5 + 1 + 1 + 1) = some (.int .i64 bk.to0) := egb 3 (by omega)
                have d4 : cb.get (ob + j * 5 + 1 + 1 + 1 + 1) = some (.int .i64 bk.to1) := egb 4 (by omega)
                have ll := rl.len
                have gB4 : h4.mem.get idb = some (.cells cb szb false true) := by
                  rw [mo4.keep _ (Nat.lt_of_lt_of_le ltB (Nat.le_trans mo0.next (Nat.le_trans mo.next mo3.next))), mo3.keep _ (Nat.lt_of_lt_of_le ltB (Nat.le_trans mo0.next mo.next)), mo.keep _ (Nat.lt_of_lt_of_le ltB mo0.next), mo0.keep _ ltB]; exact gB
                refine wc_mid (fun l d h5 => ∃ vp, d = [] ∧ l.get 2 = some (.int .i64 (i : Int)) ∧ l.get 3 = some (.int .i64 (p.funs.length : Int)) ∧ l.get 5 = some vf ∧ l.get 23 = some vo ∧ l.get 24 = some (.int .i64 (i : Int)) ∧ l.get 6 = some (.ptr h2.next 0) ∧ l.get 7 = some (.int .i64 (j : Int)) ∧ l.get 8 = some (.int .i64 (f.blocks.length : Int)) ∧ l.get 10 = some vb ∧ l.get 18 = some vp ∧ OwnL h5 h3.next 1 vp (zs (places f (j + 1))) ∧ More h3 h5) ?_ ?_
                · refine wc_block ?_
                  refine wc_mid (fun l d h5 => d = [] ∧ l.get 2 = some (.int .i64 (i : Int)) ∧ l.get 3 = some (.int .i64 (p.funs.length : Int)) ∧ l.get 5 = some vf ∧ l.get 23 = some vo ∧ l.get 24 = some (.int .i64 (i : Int)) ∧ l.get 6 = some (.ptr h2.next 0) ∧ l.get 7 = some (.int .i64 (j : Int)) ∧ l.get 8 = some (.int .i64 (f.blocks.length : Int)) ∧ l.get 10 = some vb ∧ l.get 18 = some vp ∧ More h4 h5 ∧ ∃ ce, l.get 11 = some (.ptr h4.next 0) ∧ h5.mem.get h4.next = some (.cells ce 5 false false) ∧ ce.get 0 = some vl) ?_ ?_
                  · refine wc_opq fun Q1 hQ => ?_
                    simp (disch := omega) only [ER, reduceIte, Nat.reduceEqDiff, Nat.reduceAdd, g7, g10, evb, gB4, d0, d1, d2, d3, d4]
                    refine hQ _ ?_
                    clear hQ Q1
                    refine ⟨rfl, ?_, ?_, ?_, ?_, ?_, ?_, ?_, ?_, ?_, ?_, (More.add h4 _).set (Nat.le_refl _) _, _, ?_, AH.get_set, ?_⟩
                    · simp (disch := omega) only [ER, reduceIte, Nat.reduceEqDiff, Nat.reduceAdd, g2]
                    · simp (disch := omega) only [ER, reduceIte, Nat.reduceEqDiff, Nat.reduceAdd, g3]
                    · simp (disch := omega) only [ER, reduceIte, Nat.reduceEqDiff, Nat.reduceAdd, g5]
                    · simp (disch := omega) only [ER, reduceIte, Nat.reduceEqDiff, Nat.reduceAdd, g23]
                    · simp (disch := omega) only [ER, reduceIte, Nat.reduceEqDiff, Nat.reduceAdd, g24]
                    · simp (disch := omega) only [ER, reduceIte, Nat.reduceEqDiff, Nat.reduceAdd, g6]
                    · simp (disch := omega) only [ER, reduceIte, Nat.reduceEqDiff, Nat.reduceAdd, g7]
                    · simp (disch := omega) only [ER, reduceIte, Nat.reduceEqDiff, Nat.reduceAdd, g8]
                    · simp (disch := omega) only [ER, reduceIte, Nat.reduceEqDiff, Nat.reduceAdd, g10, evb]
                    · simp (disch := omega) only [ER, reduceIte, Nat.reduceEqDiff, Nat.reduceAdd, g18]
                    · simp (disch := omega) only [ER, reduceIte, Nat.reduceEqDiff, Nat.reduceAdd]
                    · simp (disch := omega) only [ER, reduceIte, Nat.reduceEqDiff, Nat.reduceAdd]
                  clear g2 g3 g5 g23 g24 g6 g7 g8 g10 g18
                  rintro l d h5 ⟨rfl, g2, g3, g5, g23, g24, g6, g7, g8, g10, g18, mo5, ce, g11, gE, ce0⟩
                  have ownp5 := ownp.more mo5
                  have mo35 := mo4.trans mo5
                  refine wc_seq (wc_opq fun Q1 hQ => ?_)
                  simp (disch := omega) only [ER, reduceIte, Nat.reduceEqDiff, Nat.reduceAdd, g11, gE, ce0, ll]
                  refine hQ _ ?_
                  clear hQ Q1
                  refine wc_block ?_
                  refine wc_while (fun m l d h6 => ∃ (k : Nat) (vp : AV), m = bk.list.length - k ∧ k ≤ bk.list.length ∧ d = [] ∧ l.get 2 = some (.int .i64 (i : Int)) ∧ l.get 3 = some (.int .i64 (p.funs.length : Int)) ∧ l.get 5 = some vf ∧ l.get 23 = some vo ∧ l.get 24 = some (.int .i64 (i : Int)) ∧ l.get 6 = some (.ptr h2.next 0) ∧ l.get 7 = some (.int .i64 (j : Int)) ∧ l.get 8 = some (.int .i64 (f.blocks.length : Int)) ∧ l.get 10 = some vb ∧ l.get 12 = some (.int .i64 (k : Int)) ∧ l.get 13 = some (.int .i64 (bk.list.length : Int)) ∧ l.get 15 = some vl ∧ l.get 18 = some vp ∧
                    OwnL h6 h3.next 1 vp (zs (places f j ++ (bk.list.take k).filter (makes f))) ∧ More h3 h6) ?_ (bk.list.length - 0) ?_
                  · clear g2 g3 g5 g23 g24 g6 g7 g8 g10 g18 g11 vp ownp ownp5
                    rintro m l d h6 ⟨k, vp, hm, hk, rfl, g2, g3, g5, g23, g24, g6, g7, g8, g10, g12, g13, g15, g18, ownp, mo6⟩
                    refine wc_seq (wc_opq fun Q1 hQ => ?_)
                    simp (disch := omega) only [ER, reduceIte, Nat.reduceEqDiff, Nat.reduceAdd, g12, g13]
                    refine hQ _ ?_
                    clear hQ Q1
                    refine wc_seq (wc_if (k < bk.list.length) (by simp (disch := omega) only [ER, reduceIte, Nat.reduceEqDiff, Nat.reduceAdd]) (fun hlk => ?_) (fun hgk => ?_))
                    · refine wc_skip ?_
                      obtain ⟨idl, ol, capl, szl, cl, EL, evl, gL, ltL, hL⟩ := rl.open (by omega)
                      obtain ⟨_, egl, el, _⟩ := hL k hlk
                      have fsucc := filter_take (p := makes f) hlk
                      have fl : ((bk.list.take k).filter (makes f)).length ≤ k := Nat.le_trans (List.length_filter_le _ _) (by simp; omega)
                      have e0 := egl 0 (by omega)
                      rw [el, Nat.add_zero, Nat.mul_one] at e0
                      generalize bk.list[k] = z at *
                      have e0 : cl.get (ol + k) = some (.int .i64 z) := e0
                      have gL6 : h6.mem.get idl = some (.cells cl szl false true) := by
                        rw [mo6.keep _ (Nat.lt_of_lt_of_le ltL (Nat.le_trans mo0.next (Nat.le_trans mo.next mo3.next))), mo3.keep _ (Nat.lt_of_lt_of_le ltL (Nat.le_trans mo0.next mo.next)), mo.keep _ (Nat.lt_of_lt_of_le ltL mo0.next), mo0.keep _ ltL]; exact gL
                      have gC6 : h6.mem.get h2.next = some (.cells cc 6 false false) := by rw [mo6.keep _ lt3]; exact gC
                      refine wc_mid (fun l d h7 => ∃ vp, d = [] ∧ l.get 2 = some (.int .i64 (i : Int)) ∧ l.get 3 = some (.int .i64 (p.funs.length : Int)) ∧ l.get 5 = some vf ∧ l.get 23 = some vo ∧ l.get 24 = some (.int .i64 (i : Int)) ∧ l.get 6 = some (.ptr h2.next 0) ∧ l.get 7 = some (.int .i64 (j : Int)) ∧ l.get 8 = some (.int .i64 (f.blocks.length : Int)) ∧ l.get 10 = some vb ∧ l.get 12 = some (.int .i64 (k : Int)) ∧ l.get 13 = some (.int .i64 (bk.list.length : Int)) ∧ l.get 15 = some vl ∧ l.get 18 = some vp ∧
                        OwnL h7 h3.next 1 vp (zs (places f j ++ (bk.list.take (k + 1)).filter (makes f))) ∧ More h3 h7) ?_ ?_
                      · refine wc_block ?_
                        refine wc_seq (wc_opq fun Q1 hQ => ?_)
                        simp (disch := omega) only [ER, reduceIte, Nat.reduceEqDiff, Nat.reduceAdd, g12, g15, evl, gL6, e0]
                        refine hQ _ ?_
                        clear hQ Q1
                        refine wc_mid (fun l d h7 => h6 = h7 ∧ d = [] ∧ l.get 2 = some (.int .i64 (i : Int)) ∧ l.get 3 = some (.int .i64 (p.funs.length : Int)) ∧ l.get 5 = some vf ∧ l.get 23 = some vo ∧ l.get 24 = some (.int .i64 (i : Int)) ∧ l.get 6 = some (.ptr h2.next 0) ∧ l.get 7 = some (.int .i64 (j : Int)) ∧ l.get 8 = some (.int .i64 (f.blocks.length : Int)) ∧ l.get 10 = some vb ∧ l.get 12 = some (.int .i64 (k : Int)) ∧ l.get 13 = some (.int .i64 (bk.list.length : Int)) ∧ l.get 15 = some vl ∧ l.get 16 = some (.int .i64 z) ∧ l.get 18 = some vp ∧ l.get 17 = some (.bool (makes f z))) ?_ ?_
                        · have fin : ∀ {l' : T AV}, l'.get 17 = some (.bool (makes f z)) → (∀ i, i ≠ 17 → l'.get i = (T.put (some (.int .i64 z)) l 16).get i) → True := fun _ _ => trivial
                          by_cases hz : ((0 : Nat) : Int) ≤ z
                          · by_cases hzl : z < (f.ins.length : Int)
                            · obtain ⟨zn, rfl⟩ := Int.eq_ofNat_of_zero_le (show 0 ≤ z from hz)
                              have hzn : zn < f.ins.length := by omega
                              obtain ⟨idi, oi, capi, szi, ci, EI, evi, gI, ltI, hI⟩ := f3.open (by omega)
                              obtain ⟨_, egi, vai, ei, ri⟩ := hI zn hzn
                              have q0 := egi 0 (by omega)
                              rw [ei, Nat.add_zero] at q0
                              have q0 : ci.get (oi + zn * 5) = some (.int .i64 f.ins[zn].op) := q0
                              have gI6 : h6.mem.get idi = some (.cells ci szi false true) := by
                                rw [mo6.keep _ (Nat.lt_of_lt_of_le ltI (Nat.le_trans mo0.next (Nat.le_trans mo.next mo3.next))), mo3.keep _ (Nat.lt_of_lt_of_le ltI (Nat.le_trans mo0.next mo.next)), mo.keep _ (Nat.lt_of_lt_of_le ltI mo0.next), mo0.keep _ ltI]; exact gI
                              have mk := makes_at hzn
                              have z0 : (0 ≤ zn) = True := by simp
                              rw [evi] at leni cc4
                              refine wc_opq fun Q1 hQ => ?_
                              simp (disch := omega) only [ER, reduceIte, Nat.reduceEqDiff, Nat.reduceAdd, g6, gC6, cc4, leni, hzn, gI6, q0, z0]
                              refine hQ _ ?_
                              clear hQ Q1
                              refine ⟨rfl, rfl, ?_, ?_, ?_, ?_, ?_, ?_, ?_, ?_, ?_, ?_, ?_, ?_, ?_, ?_, ?_⟩
                              · simp (disch := omega) only [ER, reduceIte, Nat.reduceEqDiff, Nat.reduceAdd, g2]
                              · simp (disch := omega) only [ER, reduceIte, Nat.reduceEqDiff, Nat.reduceAdd, g3]
                              · simp (disch := omega) only [ER, reduceIte, Nat.reduceEqDiff, Nat.reduceAdd, g5]
                              · simp (disch := omega) only [ER, reduceIte, Nat.reduceEqDiff, Nat.reduceAdd, g23]
                              · simp (disch := omega) only [ER, reduceIte, Nat.reduceEqDiff, Nat.reduceAdd, g24]
                              · simp (disch := omega) only [ER, reduceIte, Nat.reduceEqDiff, Nat.reduceAdd, g6]
                              · simp (disch := omega) only [ER, reduceIte, Nat.reduceEqDiff, Nat.reduceAdd, g7]
                              · simp (disch := omega) only [ER, reduceIte, Nat.reduceEqDiff, Nat.reduceAdd, g8]
                              · simp (disch := omega) only [ER, reduceIte, Nat.reduceEqDiff, Nat.reduceAdd, g10]
                              · simp (disch := omega) only [ER, reduceIte, Nat.reduceEqDiff, Nat.reduceAdd, g12]
                              · simp (disch := omega) only [ER, reduceIte, Nat.reduceEqDiff, Nat.reduceAdd, g13]
                              · simp (disch := omega) only [ER, reduceIte, Nat.reduceEqDiff, Nat.reduceAdd, g15, evl]
                              · simp (disch := omega) only [ER, reduceIte, Nat.reduceEqDiff, Nat.reduceAdd]
                              · simp (disch := omega) only [ER, reduceIte, Nat.reduceEqDiff, Nat.reduceAdd, g18]
                              · simp (disch := omega) only [ER, reduceIte, Nat.reduceEqDiff, Nat.reduceAdd]
                                rw [mk]; rfl
                            · have mk : makes f z = false := by
                                unfold makes
                                rw [List.getElem?_eq_none (by omega)]; simp
                              refine wc_opq fun Q1 hQ => ?_
                              simp (disch := omega) only [ER, reduceIte, Nat.reduceEqDiff, Nat.reduceAdd, g6, gC6, cc4, leni, hz, hzl]
                              refine hQ _ ?_
                              clear hQ Q1
                              refine ⟨rfl, rfl, ?_, ?_, ?_, ?_, ?_, ?_, ?_, ?_, ?_, ?_, ?_, ?_, ?_, ?_, ?_⟩
                              · simp (disch := omega) only [ER, reduceIte, Nat.reduceEqDiff, Nat.reduceAdd, g2]
                              · simp (disch := omega) only [ER, reduceIte, Nat.reduceEqDiff, Nat.reduceAdd, g3]
                              · simp (disch := omega) only [ER, reduceIte, Nat.reduceEqDiff, Nat.reduceAdd, g5]
                              · simp (disch := omega) only [ER, reduceIte, Nat.reduceEqDiff, Nat.reduceAdd, g23]
                              · simp (disch := omega) only [ER, reduceIte, Nat.reduceEqDiff, Nat.reduceAdd, g24]
                              · simp (disch := omega) only [ER, reduceIte, Nat.reduceEqDiff, Nat.reduceAdd, g6]
                              · simp (disch := omega) only [ER, reduceIte, Nat.reduceEqDiff, Nat.reduceAdd, g7]
                              · simp (disch := omega) only [ER, reduceIte, Nat.reduceEqDiff, Nat.reduceAdd, g8]
                              · simp (disch := omega) only [ER, reduceIte, Nat.reduceEqDiff, Nat.reduceAdd, g10]
                              · simp (disch := omega) only [ER, reduceIte, Nat.reduceEqDiff, Nat.reduceAdd, g12]
                              · simp (disch := omega) only [ER, reduceIte, Nat.reduceEqDiff, Nat.reduceAdd, g13]
                              · simp (disch := omega) only [ER, reduceIte, Nat.reduceEqDiff, Nat.reduceAdd, g15, evl]
                              · simp (disch := omega) only [ER, reduceIte, Nat.reduceEqDiff, Nat.reduceAdd]
                              · simp (disch := omega) only [ER, reduceIte, Nat.reduceEqDiff, Nat.reduceAdd, g18]
                              · simp (disch := omega) only [ER, reduceIte, Nat.reduceEqDiff, Nat.reduceAdd, mk]
                          · have mk : makes f z = false := by
                              unfold makes
                              rw [decide_eq_false (by omega), Bool.false_and]
                            refine wc_opq fun Q1 hQ => ?_
                            simp (disch := omega) only [ER, reduceIte, Nat.reduceEqDiff, Nat.reduceAdd, g6, gC6, cc4, leni, hz]
                            refine hQ _ ?_
                            clear hQ Q1
                            refine ⟨rfl, rfl, ?_, ?_, ?_, ?_, ?_, ?_, ?_, ?_, ?_, ?_, ?_, ?_, ?_, ?_, ?_⟩
                            · simp (disch := omega) only [ER, reduceIte, Nat.reduceEqDiff, Nat.reduceAdd, g2]
                            · simp (disch := omega) only [ER, reduceIte, Nat.reduceEqDiff, Nat.reduceAdd, g3]
                            · simp (disch := omega) only [ER, reduceIte, Nat.reduceEqDiff, Nat.reduceAdd, g5]
                            · simp (disch := omega) only [ER, reduceIte, Nat.reduceEqDiff, Nat.reduceAdd, g23]
                            · simp (disch := omega) only [ER, reduceIte, Nat.reduceEqDiff, Nat.reduceAdd, g24]
                            · simp (disch := omega) only [ER, reduceIte, Nat.reduceEqDiff, Nat.reduceAdd, g6]
                            · simp (disch := omega) only [ER, reduceIte, Nat.reduceEqDiff, Nat.reduceAdd, g7]
                            · simp (disch := omega) only [ER, reduceIte, Nat.reduceEqDiff, Nat.reduceAdd, g8]
                            · simp (disch := omega) only [ER, reduceIte, Nat.reduceEqDiff, Nat.reduceAdd, g10]
                            · simp (disch := omega) only [ER, reduceIte, Nat.reduceEqDiff, Nat.reduceAdd, g12]
                            · simp (disch := omega) only [ER, reduceIte, Nat.reduceEqDiff, Nat.reduceAdd, g13]
                            · simp (disch := omega) only [ER, reduceIte, Nat.reduceEqDiff, Nat.reduceAdd, g15, evl]
                            · simp (disch := omega) only [ER, reduceIte, Nat.reduceEqDiff, Nat.reduceAdd]
                            · simp (disch := omega) only [ER, reduceIte, Nat.reduceEqDiff, Nat.reduceAdd, g18]
                            · simp (disch := omega) only [ER, reduceIte, Nat.reduceEqDiff, Nat.reduceAdd, mk]
                        clear g2 g3 g5 g23 g24 g6 g7 g8 g10 g12 g13 g15 g18
                        rintro l d h7 ⟨rfl, rfl, g2, g3, g5, g23, g24, g6, g7, g8, g10, g12, g13, g15, g16, g18, g17⟩
                        refine wc_cond (q := makes f z) (by simp (disch := omega) only [ER, reduceIte, Nat.reduceEqDiff, Nat.reduceAdd, g17]) (fun hq => ?_) (fun hq => ?_)
                        · have own5 := ownp.more (More.add h6 (.cells (ofList [.int .i64 z]) 1 false false))
                          have src := one_src (h := h6.add (.cells (ofList [.int .i64 z]) 1 false false)) (id := h6.next) (z := z) (by rw [AH.add_mem, T.get_put_self])
                          obtain ⟨v', h', e', own', kp', _, _, _⟩ := own5.append (by' := 8) src rfl (by omega) (by have := mo6.next; rw [AH.add_next]; omega) (by rw [zs_len, List.length_append]; omega) (by omega)
                          have hmv' := move_mv (h := h6) ownp.mv
                          have hv' : v'.mv = true := own'.mv
                          refine wc_opq fun Q1 hQ => ?_
                          simp (disch := omega) only [ER, reduceIte, Nat.reduceEqDiff, Nat.reduceAdd, g16, g18, hmv', e', Nat.reduceLeDiff]
                          rw [move_mv hv']
                          simp (disch := omega) only [ER, reduceIte, Nat.reduceEqDiff, Nat.reduceAdd]
                          refine hQ _ ?_
                          clear hQ Q1
                          refine ⟨v', rfl, ?_, ?_, ?_, ?_, ?_, ?_, ?_, ?_, ?_, ?_, ?_, ?_, ?_, ?_, ⟨?_, fun x hx => ?_⟩⟩
                          · simp (disch := omega) only [ER, reduceIte, Nat.reduceEqDiff, Nat.reduceAdd, g2]
                          · simp (disch := omega) only [ER, reduceIte, Nat.reduceEqDiff, Nat.reduceAdd, g3]
                          · simp (disch := omega) only [ER, reduceIte, Nat.reduceEqDiff, Nat.reduceAdd, g5]
                          · simp (disch := omega) only [ER, reduceIte, Nat.reduceEqDiff, Nat.reduceAdd, g23]
                          · simp (disch := omega) only [ER, reduceIte, Nat.reduceEqDiff, Nat.reduceAdd, g24]
                          · simp (disch := omega) only [ER, reduceIte, Nat.reduceEqDiff, Nat.reduceAdd, g6]
                          · simp (disch := omega) only [ER, reduceIte, Nat.reduceEqDiff, Nat.reduceAdd, g7]
                          · simp (disch := omega) only [ER, reduceIte, Nat.reduceEqDiff, Nat.reduceAdd, g8]
                          · simp (disch := omega) only [ER, reduceIte, Nat.reduceEqDiff, Nat.reduceAdd, g10]
                          · simp (disch := omega) only [ER, reduceIte, Nat.reduceEqDiff, Nat.reduceAdd, g12]
                          · simp (disch := omega) only [ER, reduceIte, Nat.reduceEqDiff, Nat.reduceAdd, g13]
                          · simp (disch := omega) only [ER, reduceIte, Nat.reduceEqDiff, Nat.reduceAdd, g15]
                          · simp (disch := omega) only [ER, reduceIte, Nat.reduceEqDiff, Nat.reduceAdd]
                          · rw [fsucc, if_pos hq, ← List.append_assoc, zs_app]; exact own'
                          · have := kp'.next; have := mo6.next; rw [AH.add_next] at *; omega
                          · have := mo6.next
                            rw [kp'.keep x hx, AH.add_mem, T.get_put_ne _ _ _ _ (by omega), mo6.keep x hx]
                        · refine wc_skip ⟨vp, rfl, g2, g3, g5, g23, g24, g6, g7, g8, g10, g12, g13, g15, g18, ?_, mo6⟩
                          rw [fsucc, if_neg (by rw [hq]; exact Bool.false_ne_true), List.append_nil]
                          exact ownp
                      · clear g2 g3 g5 g23 g24 g6 g7 g8 g10 g12 g13 g15 g18 ownp mo6 gL6 gC6 vp
                        rintro l d h7 ⟨vp, rfl, g2, g3, g5, g23, g24, g6, g7, g8, g10, g12, g13, g15, g18, ownp, mo6⟩
                        refine wc_opq fun Q1 hQ => ?_
                        simp (disch := omega) only [ER, reduceIte, Nat.reduceEqDiff, Nat.reduceAdd, g12]
                        refine hQ _ ?_
                        clear hQ Q1
                        refine ⟨bk.list.length - (k + 1), by omega, k + 1, vp, rfl, by omega, rfl, ?_, ?_, ?_, ?_, ?_, ?_, ?_, ?_, ?_, ?_, ?_, ?_, ?_, ownp, mo6⟩
                        · simp (disch := omega) only [ER, reduceIte, Nat.reduceEqDiff, Nat.reduceAdd, g2]
                        · simp (disch := omega) only [ER, reduceIte, Nat.reduceEqDiff, Nat.reduceAdd, g3]
                        · simp (disch := omega) only [ER, reduceIte, Nat.reduceEqDiff, Nat.reduceAdd, g5]
                        · simp (disch := omega) only [ER, reduceIte, Nat.reduceEqDiff, Nat.reduceAdd, g23]
                        · simp (disch := omega) only [ER, reduceIte, Nat.reduceEqDiff, Nat.reduceAdd, g24]
                        · simp (disch := omega) only [ER, reduceIte, Nat.reduceEqDiff, Nat.reduceAdd, g6]
                        · simp (disch := omega) only [ER, reduceIte, Nat.reduceEqDiff, Nat.reduceAdd, g7]
                        · simp (disch := omega) only [ER, reduceIte, Nat.reduceEqDiff, Nat.reduceAdd, g8]
                        · simp (disch := omega) only [ER, reduceIte, Nat.reduceEqDiff, Nat.reduceAdd, g10]
                        · simp (disch := omega) only [ER, reduceIte, Nat.reduceEqDiff, Nat.reduceAdd]
                        · simp (disch := omega) only [ER, reduceIte, Nat.reduceEqDiff, Nat.reduceAdd, g13]
                        · simp (disch := omega) only [ER, reduceIte, Nat.reduceEqDiff, Nat.reduceAdd, g15]
                        · simp (disch := omega) only [ER, reduceIte, Nat.reduceEqDiff, Nat.reduceAdd, g18]
                    · refine wc_exit ⟨vp, rfl, ?_, ?_, ?_, ?_, ?_, ?_, ?_, ?_, ?_, ?_, ?_, mo6⟩
                      · simp (disch := omega) only [ER, reduceIte, Nat.reduceEqDiff, Nat.reduceAdd, g2]
                      · simp (disch := omega) only [ER, reduceIte, Nat.reduceEqDiff, Nat.reduceAdd, g3]
                      · simp (disch := omega) only [ER, reduceIte, Nat.reduceEqDiff, Nat.reduceAdd, g5]
                      · simp (disch := omega) only [ER, reduceIte, Nat.reduceEqDiff, Nat.reduceAdd, g23]
                      · simp (disch := omega) only [ER, reduceIte, Nat.reduceEqDiff, Nat.reduceAdd, g24]
                      · simp (disch := omega) only [ER, reduceIte, Nat.reduceEqDiff, Nat.reduceAdd, g6]
                      · simp (disch := omega) only [ER, reduceIte, Nat.reduceEqDiff, Nat.reduceAdd, g7]
                      · simp (disch := omega) only [ER, reduceIte, Nat.reduceEqDiff, Nat.reduceAdd, g8]
                      · simp (disch := omega) only [ER, reduceIte, Nat.reduceEqDiff, Nat.reduceAdd, g10]
                      · simp (disch := omega) only [ER, reduceIte, Nat.reduceEqDiff, Nat.reduceAdd, g18]
                      · rw [psucc]
                        rwa [List.take_of_length_le (by omega)] at ownp
                  · refine ⟨0, vp, rfl, by omega, rfl, ?_, ?_, ?_, ?_, ?_, ?_, ?_, ?_, ?_, ?_, ?_, ?_, ?_, ?_, mo35⟩
                    · simp (disch := omega) only [ER, reduceIte, Nat.reduceEqDiff, Nat.reduceAdd, g2]
                    · simp (disch := omega) only [ER, reduceIte, Nat.reduceEqDiff, Nat.reduceAdd, g3]
                    · simp (disch := omega) only [ER, reduceIte, Nat.reduceEqDiff, Nat.reduceAdd, g5]
                    · simp (disch := omega) only [ER, reduceIte, Nat.reduceEqDiff, Nat.reduceAdd, g23]
                    · simp (disch := omega) only [ER, reduceIte, Nat.reduceEqDiff, Nat.reduceAdd, g24]
                    · simp (disch := omega) only [ER, reduceIte, Nat.reduceEqDiff, Nat.reduceAdd, g6]
                    · simp (disch := omega) only [ER, reduceIte, Nat.reduceEqDiff, Nat.reduceAdd, g7]
                    · simp (disch := omega) only [ER, reduceIte, Nat.reduceEqDiff, Nat.reduceAdd, g8]
                    · simp (disch := omega) only [ER, reduceIte, Nat.reduceEqDiff, Nat.reduceAdd, g10]
                    · simp (disch := omega) only [ER, reduceIte, Nat.reduceEqDiff, Nat.reduceAdd]
                    · simp (disch := omega) only [ER, reduceIte, Nat.reduceEqDiff, Nat.reduceAdd]
                    · simp (disch := omega) only [ER, reduceIte, Nat.reduceEqDiff, Nat.reduceAdd]
                    · simp (disch := omega) only [ER, reduceIte, Nat.reduceEqDiff, Nat.reduceAdd, g18]
                    · rw [List.take_zero, List.filter_nil, List.append_nil]; exact ownp5
                · clear g2 g3 g5 g23 g24 g6 g7 g8 g10 g18 ownp mo4 gB4 vp
                  rintro l d h5 ⟨vp, rfl, g2, g3, g5, g23, g24, g6, g7, g8, g10, g18, ownp, mo4⟩
                  refine wc_opq fun Q1 hQ => ?_
                  simp (disch := omega) only [ER, reduceIte, Nat.reduceEqDiff, Nat.reduceAdd, g7]
                  refine hQ _ ?_
                  clear hQ Q1
                  refine ⟨f.blocks.length - (j + 1), by omega, j + 1, vp, rfl, by omega, rfl, ?_, ?_, ?_, ?_, ?_, ?_, ?_, ?_, ?_, ?_, ownp, mo4⟩
                  · simp (disch := omega) only [ER, reduceIte, Nat.reduceEqDiff, Nat.reduceAdd, g2]
                  · simp (disch := omega) only [ER, reduceIte, Nat.reduceEqDiff, Nat.reduceAdd, g3]
                  · simp (disch := omega) only [ER, reduceIte, Nat.reduceEqDiff, Nat.reduceAdd, g5]
                  · simp (disch := omega) only [ER, reduceIte, Nat.reduceEqDiff, Nat.reduceAdd, g23]
                  · simp (disch := omega) only [ER, reduceIte, Nat.reduceEqDiff, Nat.reduceAdd, g24]
                  · simp (disch := omega) only [ER, reduceIte, Nat.reduceEqDiff, Nat.reduceAdd, g6]
                  · simp (disch := omega) only [ER, reduceIte, Nat.reduceEqDiff, Nat.reduceAdd]
                  · simp (disch := omega) only [ER, reduceIte, Nat.reduceEqDiff, Nat.reduceAdd, g8]
                  · simp (disch := omega) only [ER, reduceIte, Nat.reduceEqDiff, Nat.reduceAdd, g10]
                  · simp (disch := omega) only [ER, reduceIte, Nat.reduceEqDiff, Nat.reduceAdd, g18]
              · obtain rfl : j = f.blocks.length := by omega
                refine wc_exit ⟨vp, rfl, ?_, ?_, ?_, ?_, ?_, ?_, ownp, mo4⟩
                · simp (disch := omega) only [ER, reduceIte, Nat.reduceEqDiff, Nat.reduceAdd, g2]
                · simp (disch := omega) only [ER, reduceIte, Nat.reduceEqDiff, Nat.reduceAdd, g3]
                · simp (disch := omega) only [ER, reduceIte, Nat.reduceEqDiff, Nat.reduceAdd, g5]
                · simp (disch := omega) only [ER, reduceIte, Nat.reduceEqDiff, Nat.reduceAdd, g23]
                · simp (disch := omega) only [ER, reduceIte, Nat.reduceEqDiff, Nat.reduceAdd, g24]
                · simp (disch := omega) only [ER, reduceIte, Nat.reduceEqDiff, Nat.reduceAdd, g18]
            · refine ⟨0, .nils, rfl, by omega, rfl, ?_, ?_, ?_, ?_, ?_, ?_, ?_, ?_, ?_, ?_, by simpa [places, zs] using OwnL.nils, More.refl _⟩
              · simp (disch := omega) only [ER, reduceIte, Nat.reduceEqDiff, Nat.reduceAdd, g2]
              · simp (disch := omega) only [ER, reduceIte, Nat.reduceEqDiff, Nat.reduceAdd, g3]
              · simp (disch := omega) only [ER, reduceIte, Nat.reduceEqDiff, Nat.reduceAdd, g5]
              · simp (disch := omega) only [ER, reduceIte, Nat.reduceEqDiff, Nat.reduceAdd, g23]
              · simp (disch := omega) only [ER, reduceIte, Nat.reduceEqDiff, Nat.reduceAdd, g24]
              · simp (disch := omega) only [ER, reduceIte, Nat.reduceEqDiff, Nat.reduceAdd, g6]
              · simp (disch := omega) only [ER, reduceIte, Nat.reduceEqDiff, Nat.reduceAdd]
              · simp (disch := omega) only [ER, reduceIte, Nat.reduceEqDiff, Nat.reduceAdd]
              · simp (disch := omega) only [ER, reduceIte, Nat.reduceEqDiff, Nat.reduceAdd]
              · simp (disch := omega) only [ER, reduceIte, Nat.reduceEqDiff, Nat.reduceAdd]
          clear g2 g3 g5 g23 g24 g6
          rintro l d h4 ⟨vp, rfl, g2, g3, g5, g23, g24, g18, ownp, mo4⟩
          have plen := places_len hbl (j := f.blocks.length) (by omega)
          have own4 := own3.more mo4
          have mvp := fun h' => move_mv (h := h') ownp.mv
          refine wc_seq (wc_opq fun Q1 hQ => ?_)
          simp (disch := omega) only [ER, reduceIte, Nat.reduceEqDiff, Nat.reduceAdd, g18, mvp]
          refine (sort_own t mo4.next (by omega) ownp).mono ?_
          rintro v h5 ⟨ls, ownp5, kp5, el5, mem5, ord5⟩
          refine hQ _ ?_
          clear hQ Q1
          clear own4
          refine wc_mid (fun l d h6 => ∃ vg, d = [] ∧ l.get 2 = some (.int .i64 (i : Int)) ∧ l.get 3 = some (.int .i64 (p.funs.length : Int)) ∧ l.get 5 = some vf ∧ l.get 23 = some vo ∧ l.get 24 = some (.int .i64 (i : Int)) ∧ l.get 19 = some (.int .i64 ((0 : Nat) : Int)) ∧ l.get 20 = some (.int .i64 ((funSites f).length : Int)) ∧ l.get 22 = some vg ∧ RowZ h6 h3.next vg (funSites f) ∧ More h3 h6) ?_ ?_
          · refine wc_opq fun Q1 hQ => ?_
            have mvp5 := fun h' => move_mv (h := h') ownp5.mv
            simp (disch := omega) only [ER, reduceIte, Nat.reduceEqDiff, Nat.reduceAdd, g18, mvp5]
            refine (compact_own tc (b := h3.next) (Nat.le_trans mo4.next kp5.next) (by omega) ownp5 ord5).mono ?_
            rintro vg h6 ⟨g, row, kp6, onc, mvg⟩
            have eg : g = funSites f := once_sites ⟨onc.up, fun x => by rw [onc.mem x, mem5 x]⟩
            subst eg
            have mvg' := fun h' => move_mv (h := h') mvg
            have lg := row.len
            simp (disch := omega) only [ER, reduceIte, Nat.reduceEqDiff, Nat.reduceAdd, mvg', lg]
            refine hQ _ ?_
            clear hQ Q1
            refine ⟨vg, rfl, ?_, ?_, ?_, ?_, ?_, ?_, ?_, ?_, row, ⟨Nat.le_trans mo4.next (Nat.le_trans kp5.next kp6.next), fun x hx => by rw [kp6.keep x hx, kp5.keep x hx, mo4.keep x hx]⟩⟩
            · simp (disch := omega) only [ER, reduceIte, Nat.reduceEqDiff, Nat.reduceAdd, g2]
            · simp (disch := omega) only [ER, reduceIte, Nat.reduceEqDiff, Nat.reduceAdd, g3]
            · simp (disch := omega) only [ER, reduceIte, Nat.reduceEqDiff, Nat.reduceAdd, g5]
            · simp (disch := omega) only [ER, reduceIte, Nat.reduceEqDiff, Nat.reduceAdd, g23]
            · simp (disch := omega) only [ER, reduceIte, Nat.reduceEqDiff, Nat.reduceAdd, g24]
            · simp (disch := omega) only [ER, reduceIte, Nat.reduceEqDiff, Nat.reduceAdd]
            · simp (disch := omega) only [ER, reduceIte, Nat.reduceEqDiff, Nat.reduceAdd]
            · simp (disch := omega) only [ER, reduceIte, Nat.reduceEqDiff, Nat.reduceAdd]
          clear g2 g3 g5 g23 g24 g18 ownp ownp5 mem5 ord5 kp5 el5 plen mvp
          rintro l d h6 ⟨vg, rfl, g2, g3, g5, g23, g24, g19, g20, g22, row, mo6⟩
          have fsl := funSites_len f
          have own6 := own3.more mo6
          have start : ∀ x o n e, vo = .sl x o n (.rest e) → x < h3.next ∨ h6.next ≤ x := by
            intro x o n e ev
            clear own6
            generalize sitesTo p.funs i = L at own3
            cases own3 with
            | nils => cases ev
            | emp => injection ev with _ _ _ ev; cases ev
            | sl a1 a2 a3 => injection ev with ev; exact .inl (by omega)
          have hBn : hB.next ≤ h6.next := Nat.le_trans mo.next (Nat.le_trans mo3.next mo6.next)
          have moB6 : More hB h6 := mo.trans (mo3.trans mo6)
          refine wc_block ?_
          refine wc_while (fun m l d h7 => ∃ (k : Nat) (vo : AV), m = (funSites f).length - k ∧ k ≤ (funSites f).length ∧ d = [] ∧ l.get 2 = some (.int .i64 (i : Int)) ∧ l.get 3 = some (.int .i64 (p.funs.length : Int)) ∧ l.get 5 = some vf ∧ l.get 23 = some vo ∧ l.get 24 = some (.int .i64 (i : Int)) ∧ l.get 19 = some (.int .i64 (k : Int)) ∧ l.get 20 = some (.int .i64 ((funSites f).length : Int)) ∧ l.get 22 = some vg ∧
            OwnL h7 hB.next 2 vo (sitesTo p.funs i ++ ((funSites f).take k).map (siteRow i)) ∧ Keep hB.next h6 h7 ∧ (∀ x, h3.next ≤ x → x < h6.next → h7.mem.get x = h6.mem.get x) ∧ (∀ x o n e, vo = .sl x o n (.rest e) → x < h3.next ∨ h6.next ≤ x)) ?_ ((funSites f).length - 0) ?_
          · clear g2 g3 g5 g23 g24 g19 g20 g22 start own6 own3 own
            rintro m l d h7 ⟨k, vo, hm, hk, rfl, g2, g3, g5, g23, g24, g19, g20, g22, own, kp, rk, ap⟩
            refine wc_seq (wc_opq fun Q1 hQ => ?_)
            simp (disch := omega) only [ER, reduceIte, Nat.reduceEqDiff, Nat.reduceAdd, g19, g20]
            refine hQ _ ?_
            clear hQ Q1
            refine wc_seq (wc_if (k < (funSites f).length) (by simp (disch := omega) only [ER, reduceIte, Nat.reduceEqDiff, Nat.reduceAdd]) (fun hlk => ?_) (fun hgk => ?_))
            · refine wc_skip ?_
              obtain ⟨ig, sg, cg, evg, b1, b2, gG, hG⟩ := row.open (by omega)
              have q0 := hG k hlk
              have tk := take_more hlk
              have gG7 : h7.mem.get ig = some (.cells cg sg true false) := by rw [rk ig b1 b2]; exact gG
              generalize (funSites f)[k] = z at *
              have tl : ((funSites f).take k).length ≤ k := by rw [List.length_take]; omega
              refine wc_mid (fun l d h8 => ∃ vo, d = [] ∧ l.get 2 = some (.int .i64 (i : Int)) ∧ l.get 3 = some (.int .i64 (p.funs.length : Int)) ∧ l.get 5 = some vf ∧ l.get 23 = some vo ∧ l.get 24 = some (.int .i64 (i : Int)) ∧ l.get 19 = some (.int .i64 (k : Int)) ∧ l.get 20 = some (.int .i64 ((funSites f).length : Int)) ∧ l.get 22 = some vg ∧
                OwnL h8 hB.next 2 vo (sitesTo p.funs i ++ ((funSites f).take (k + 1)).map (siteRow i)) ∧ Keep hB.next h6 h8 ∧ (∀ x, h3.next ≤ x → x < h6.next → h8.mem.get x = h6.mem.get x) ∧ (∀ x o n e, vo = .sl x o n (.rest e) → x < h3.next ∨ h6.next ≤ x)) ?_ ?_
              · refine wc_block ?_
                refine wc_seq (wc_opq fun Q1 hQ => ?_)
                simp (disch := omega) only [ER, reduceIte, Nat.reduceEqDiff, Nat.reduceAdd, g19, g22, evg, gG7, q0]
                refine hQ _ ?_
                clear hQ Q1
                have kn := kp.next
                have own5 := own.more (More.add h7 (.cells (ofList [.int .i64 (i : Int), .int .i64 z]) 2 false false))
                have src := site_src' (h := h7.add (.cells (ofList [.int .i64 (i : Int), .int .i64 z]) 2 false false)) (id := h7.next) (i := i) (z := z) (by rw [AH.add_mem, T.get_put_self])
                obtain ⟨v', h', e', own', kp', nx', ke', fr'⟩ := own5.append (by' := 16) src rfl (by omega) (by rw [AH.add_next]; omega) (by rw [List.length_append, List.length_map]; omega) (by omega)
                have hmv' := move_mv (h := h7) own.mv
                have hv' : v'.mv = true := own'.mv
                refine wc_opq fun Q1 hQ => ?_
                simp (disch := omega) only [ER, reduceIte, Nat.reduceEqDiff, Nat.reduceAdd, g23, g24, hmv', e', Nat.reduceLeDiff]
                rw [move_mv hv']
                simp (disch := omega) only [ER, reduceIte, Nat.reduceEqDiff, Nat.reduceAdd]
                refine hQ _ ?_
                clear hQ Q1
                refine ⟨v', rfl, ?_, ?_, ?_, ?_, ?_, ?_, ?_, ?_, ?_, ⟨?_, fun x hx => ?_⟩, fun x x1 x2 => ?_, fun x o n e ev => ?_⟩
                · simp (disch := omega) only [ER, reduceIte, Nat.reduceEqDiff, Nat.reduceAdd, g2]
                · simp (disch := omega) only [ER, reduceIte, Nat.reduceEqDiff, Nat.reduceAdd, g3]
                · simp (disch := omega) only [ER, reduceIte, Nat.reduceEqDiff, Nat.reduceAdd, g5]
                · simp (disch := omega) only [ER, reduceIte, Nat.reduceEqDiff, Nat.reduceAdd]
                · simp (disch := omega) only [ER, reduceIte, Nat.reduceEqDiff, Nat.reduceAdd, g24]
                · simp (disch := omega) only [ER, reduceIte, Nat.reduceEqDiff, Nat.reduceAdd, g19]
                · simp (disch := omega) only [ER, reduceIte, Nat.reduceEqDiff, Nat.reduceAdd, g20]
                · simp (disch := omega) only [ER, reduceIte, Nat.reduceEqDiff, Nat.reduceAdd, g22, evg]
                · rw [tk, List.map_append, ← List.append_assoc]; exact own'
                · have := kp'.next; rw [AH.add_next] at this; omega
                · rw [kp'.keep x hx, AH.add_mem, T.get_put_ne _ _ _ _ (by omega), kp.keep x hx]
                · rw [ke' x (by rw [AH.add_next]; omega) (fun o n e ev => by have := ap x o n e ev; omega), AH.add_mem, T.get_put_ne _ _ _ _ (by omega), rk x x1 x2]
                · have := fr' x o n (.rest e) ev
                  rw [AH.add_next] at this
                  exact .inr (by omega)
              · clear g2 g3 g5 g23 g24 g19 g20 g22 own kp rk ap gG7 vo
                rintro l d h8 ⟨vo, rfl, g2, g3, g5, g23, g24, g19, g20, g22, own, kp, rk, ap⟩
                refine wc_opq fun Q1 hQ => ?_
                simp (disch := omega) only [ER, reduceIte, Nat.reduceEqDiff, Nat.reduceAdd, g19]
                refine hQ _ ?_
                clear hQ Q1
                refine ⟨(funSites f).length - (k + 1), by omega, k + 1, vo, rfl, by omega, rfl, ?_, ?_, ?_, ?_, ?_, ?_, ?_, ?_, own, kp, rk, ap⟩
                · simp (disch := omega) only [ER, reduceIte, Nat.reduceEqDiff, Nat.reduceAdd, g2]
                · simp (disch := omega) only [ER, reduceIte, Nat.reduceEqDiff, Nat.reduceAdd, g3]
                · simp (disch := omega) only [ER, reduceIte, Nat.reduceEqDiff, Nat.reduceAdd, g5]
                · simp (disch := omega) only [ER, reduceIte, Nat.reduceEqDiff, Nat.reduceAdd, g23]
                · simp (disch := omega) only [ER, reduceIte, Nat.reduceEqDiff, Nat.reduceAdd, g24]
                · simp (disch := omega) only [ER, reduceIte, Nat.reduceEqDiff, Nat.reduceAdd]
                · simp (disch := omega) only [ER, reduceIte, Nat.reduceEqDiff, Nat.reduceAdd, g20]
                · simp (disch := omega) only [ER, reduceIte, Nat.reduceEqDiff, Nat.reduceAdd, g22]
            · refine wc_exit ⟨vo, rfl, ?_, ?_, ?_, ?_, ?_, Nat.le_trans moB6.next kp.next, fun x hx => ?_⟩
              · simp (disch := omega) only [ER, reduceIte, Nat.reduceEqDiff, Nat.reduceAdd, g2]
              · simp (disch := omega) only [ER, reduceIte, Nat.reduceEqDiff, Nat.reduceAdd, g3]
              · simp (disch := omega) only [ER, reduceIte, Nat.reduceEqDiff, Nat.reduceAdd, g5]
              · simp (disch := omega) only [ER, reduceIte, Nat.reduceEqDiff, Nat.reduceAdd, g23]
              · rw [sitesIn_map]
                rwa [List.take_of_length_le (by omega)] at own
              · rw [kp.keep x hx, moB6.keep x hx]
          · refine ⟨0, vo, rfl, by omega, rfl, g2, g3, g5, g23, g24, g19, g20, g22, by rw [List.take_zero, List.map_nil, List.append_nil]; exact own6, Keep.refl _ _, fun x _ _ => rfl, start⟩
        · clear g2 g3 g5 g23 own mo vo gF2
          rintro l d h3 ⟨vo, rfl, g2, g3, g5, g23, own, mo⟩
          refine wc_opq fun Q1 hQ => ?_
          simp (disch := omega) only [ER, reduceIte, Nat.reduceEqDiff, Nat.reduceAdd, g2]
          refine hQ _ ?_
          clear hQ Q1
          refine ⟨p.funs.length - (i + 1), by omega, i + 1, vo, rfl, by omega, rfl, ?_, ?_, ?_, ?_, by rw [hsucc]; exact own, mo⟩
          · simp (disch := omega) only [ER, reduceIte, Nat.reduceEqDiff, Nat.reduceAdd]
          · simp (disch := omega) only [ER, reduceIte, Nat.reduceEqDiff, Nat.reduceAdd, g3]
          · simp (disch := omega) only [ER, reduceIte, Nat.reduceEqDiff, Nat.reduceAdd, g5]
          · simp (disch := omega) only [ER, reduceIte, Nat.reduceEqDiff, Nat.reduceAdd, g23]
      · obtain rfl : i = p.funs.length := by omega
        refine wc_exit ⟨vo, rfl, ?_, own, mo⟩
        simp (disch := omega) only [ER, reduceIte, Nat.reduceEqDiff, Nat.reduceAdd, g23]
    · refine ⟨0, .nils, rfl, by omega, rfl, ?_, ?_, ?_, ?_, .nils, More.refl _⟩
      all_goals simp (disch := omega) only [ER, reduceIte, Nat.reduceEqDiff, Nat.reduceAdd]
  · rintro l d h2 ⟨vo, rfl, g23, own, mo⟩
    have hmv := fun h' => move_mv (h := h') own.mv
    refine wc_seq (wc_opq fun Q1 hQ => ?_)
    simp (disch := omega) only [ER, reduceIte, Nat.reduceEqDiff, Nat.reduceAdd, g23, hmv]
    refine hQ _ ?_
    clear hQ Q1
    refine wc_ret ⟨_, results_val results_nil, ?_, mo0.trans mo⟩
    simp (disch := omega) only [ER, reduceIte, Nat.reduceEqDiff, Nat.reduceAdd, one_one]
    exact own.base mo0.next
end
end Go.Ev

namespace Go.Ev
open Go
set_option maxRecDepth 100000
set_option maxHeartbeats 4000000
theorem sitesTo_form {fs : List FunD} {n : Nat} {r : List AV} (h : r ∈ sitesTo fs n) : ∃ i z, r = siteRow i z := by
  unfold sitesTo at h
  rw [List.mem_flatMap] at h
  obtain ⟨i, _, h⟩ := h
  split at h
  · rw [List.mem_map] at h
    obtain ⟨z, _, rfl⟩ := h
    exact ⟨i, z, rfl⟩
  · cases h
section
variable {tab : Nat → Option AFunc} {h : AH}
theorem lowersites_gp (t3 : tab 3 = some af3) (t4 : tab 4 = some yesF) (ts : tab 5 = some af5) (trs : tab 6 = some af6) (tl : tab 14 = some af14)
    (tb : tab 7 = some af7) (trb : tab 8 = some af8) (t : SortT tab) (tc : tab 13 = some af13) {cs : List AV} {p : ProgD} {n : Int} (hp : ProgR h cs p) :
    GP tab 3 [.agg cs, .int .i64 n] h fun v _ => v = .bool true := by
  have hp0 := hp
  obtain ⟨vs, vg, vf, rfl, r1, r2, r3⟩ := hp
  have i0 : initLoc [.agg [vs, vg, vf], .int .i64 n] = ofList [.agg [vs, vg, vf], .int .i64 n] := rfl
  refine gp_of t3 rfl ?_
  refine wc_seq (wc_opq fun Q1 hQ => ?_)
  simp (disch := omega) only [ER, reduceIte, Nat.reduceEqDiff, Nat.reduceAdd, i0]
  refine hQ _ ?_
  clear hQ Q1
  have gb : (h.add (.cells (ofList [vs, vg, vf]) 3 false false)).mem.get h.next = some (.cells (ofList [vs, vg, vf]) 3 false false) := by rw [AH.add_mem, T.get_put_self]
  have mo0 : More h (h.add (.cells (ofList [vs, vg, vf]) 3 false false)) := More.add _ _
  have lt0 : h.next < (h.add (.cells (ofList [vs, vg, vf]) 3 false false)).next := Nat.lt_succ_self _
  generalize (h.add (.cells (ofList [vs, vg, vf]) 3 false false)) = hB at *
  have lenf := r3.len
  have lf := i64_nat r3.bound
  have hpB := hp0.more mo0
  refine wc_seq (wc_seq (wc_opq fun Q1 hQ => ?_))
  simp (disch := omega) only [ER, reduceIte, Nat.reduceEqDiff, Nat.reduceAdd, i0]
  refine gp_yes t4 ?_
  simp (disch := omega) only [ER, reduceIte, Nat.reduceEqDiff, Nat.reduceAdd]
  refine hQ _ ?_
  clear hQ Q1
  refine wc_no (by simp (disch := omega) only [ER, reduceIte, Nat.reduceEqDiff, Nat.reduceAdd]) (wc_skip ?_)
  refine wc_seq ?_
  refine wc_seq (wc_opq fun Q1 hQ => ?_)
  simp (disch := omega) only [ER, reduceIte, Nat.reduceEqDiff, Nat.reduceAdd, i0, gb, lenf]
  refine hQ _ ?_
  clear hQ Q1
  refine wc_if (30 < p.funs.length) (by simp (disch := omega) only [ER, reduceIte, Nat.reduceEqDiff, Nat.reduceAdd]) (fun h30 => ?_) (fun h30 => ?_)
  · refine wc_seq (wc_opq fun Q1 hQ => ?_)
    simp (disch := omega) only [ER, reduceIte, Nat.reduceEqDiff, Nat.reduceAdd]
    refine hQ _ ?_
    clear hQ Q1
    refine wc_ret ⟨_, results_val results_nil, ?_⟩
    simp (disch := omega) only [ER, reduceIte, Nat.reduceEqDiff, Nat.reduceAdd, one_one]
  refine wc_skip ?_
  refine wc_mid (fun l d h2 => hB = h2 ∧ d = [] ∧ l.get 1 = some (.int .i64 n) ∧ l.get 3 = some (.ptr h.next 0) ∧ ∀ f ∈ p.funs, f.ins.length ≤ 600 ∧ f.blocks.length ≤ 60 ∧ ∀ b ∈ f.blocks, b.list.length ≤ 100) ?_ ?_
  · refine wc_seq (wc_opq fun Q1 hQ => ?_)
    simp (disch := omega) only [ER, reduceIte, Nat.reduceEqDiff, Nat.reduceAdd]
    refine hQ _ ?_
    clear hQ Q1
    refine wc_block ?_
    refine wc_while (fun m l d h2 => ∃ i : Nat, m = p.funs.length - i ∧ i ≤ p.funs.length ∧ hB = h2 ∧ d = [] ∧ l.get 1 = some (.int .i64 n) ∧ l.get 3 = some (.ptr h.next 0) ∧ l.get 5 = some (.int .i64 (i : Int)) ∧ ∀ (x : Nat) (hx : x < i) (hl : x < p.funs.length), p.funs[x].ins.length ≤ 600 ∧ p.funs[x].blocks.length ≤ 60 ∧ ∀ b ∈ p.funs[x].blocks, b.list.length ≤ 100) ?_ (p.funs.length - 0) ?_
    · rintro m l d h2 ⟨i, hm, hi, rfl, rfl, g1, g3, g5, ok⟩
      refine wc_seq ?_
      refine wc_seq (wc_opq fun Q1 hQ => ?_)
      simp (disch := omega) only [ER, reduceIte, Nat.reduceEqDiff, Nat.reduceAdd, g3, g5, gb, lenf]
      refine hQ _ ?_
      clear hQ Q1
      refine wc_if (i < p.funs.length) (by simp (disch := omega) only [ER, reduceIte, Nat.reduceEqDiff, Nat.reduceAdd]) (fun hlt => ?_) (fun hge => ?_)
      · refine wc_skip ?_
        obtain ⟨idf, of_, capf, szf, cf, E, evf, gF, ltF, hE⟩ := r3.open (by omega)
        obtain ⟨el, eg, fr⟩ := hE i hlt
        have hfi : p.funs[i] = p.funs[i] := rfl
        generalize hff : p.funs[i] = f at *
        obtain ⟨vp, vsl, vi, vb, ee, f1, f2, f3, f4, _, _⟩ := fr
        rw [ee] at eg
        have c4 : cf.get (of_ + i * 6 + 4) = some vi := eg 4 (by omega)
        have c5 : cf.get (of_ + i * 6 + 5) = some vb := eg 5 (by omega)
        have leni := f3.len
        have lenb := f4.len
        have lb := i64_nat f4.bound
        have gF2 : hB.mem.get idf = some (.cells cf szf false true) := by rw [mo0.keep _ ltF]; exact gF
        refine wc_mid (fun l d h2 => hB = h2 ∧ d = [] ∧ l.get 1 = some (.int .i64 n) ∧ l.get 3 = some (.ptr h.next 0) ∧ l.get 5 = some (.int .i64 (i : Int)) ∧ f.ins.length ≤ 600 ∧ f.blocks.length ≤ 60 ∧ ∀ b ∈ f.blocks, b.list.length ≤ 100) ?_ ?_
        · refine wc_block ?_
          refine wc_mid (fun l d h2 => hB = h2 ∧ d = [] ∧ l.get 1 = some (.int .i64 n) ∧ l.get 3 = some (.ptr h.next 0) ∧ l.get 5 = some (.int .i64 (i : Int)) ∧ f.ins.length ≤ 600 ∧ f.blocks.length ≤ 60) ?_ ?_
          · by_cases h600 : 600 < f.ins.length
            · refine wc_seq (wc_opq fun Q1 hQ => ?_)
              simp (disch := omega) only [ER, reduceIte, Nat.reduceEqDiff, Nat.reduceAdd, g3, g5, gb, evf, gF2, c4, c5, leni, lenb, h600]
              refine hQ _ ?_
              clear hQ Q1
              refine wc_yes (by simp (disch := omega) only [ER, reduceIte, Nat.reduceEqDiff, Nat.reduceAdd]) ?_
              refine wc_seq (wc_opq fun Q1 hQ => ?_)
              simp (disch := omega) only [ER, reduceIte, Nat.reduceEqDiff, Nat.reduceAdd]
              refine hQ _ ?_
              clear hQ Q1
              refine wc_ret ⟨_, results_val results_nil, ?_⟩
              simp (disch := omega) only [ER, reduceIte, Nat.reduceEqDiff, Nat.reduceAdd, one_one]
            · refine wc_seq (wc_opq fun Q1 hQ => ?_)
              simp (disch := omega) only [ER, reduceIte, Nat.reduceEqDiff, Nat.reduceAdd, g3, g5, gb, evf, gF2, c4, c5, leni, lenb, h600]
              refine hQ _ ?_
              clear hQ Q1
              refine wc_if (60 < f.blocks.length) (by simp (disch := omega) only [ER, reduceIte, Nat.reduceEqDiff, Nat.reduceAdd]) (fun h60 => ?_) (fun h60 => ?_)
              · refine wc_seq (wc_opq fun Q1 hQ => ?_)
                simp (disch := omega) only [ER, reduceIte, Nat.reduceEqDiff, Nat.reduceAdd]
                refine hQ _ ?_
                clear hQ Q1
                refine wc_ret ⟨_, results_val results_nil, ?_⟩
                simp (disch := omega) only [ER, reduceIte, Nat.reduceEqDiff, Nat.reduceAdd, one_one]
              · refine wc_skip ⟨rfl, rfl, ?_, ?_, ?_, by omega, by omega⟩
                · simp (disch := omega) only [ER, reduceIte, Nat.reduceEqDiff, Nat.reduceAdd, g1]
                · simp (disch := omega) only [ER, reduceIte, Nat.reduceEqDiff, Nat.reduceAdd, g3]
                · simp (disch := omega) only [ER, reduceIte, Nat.reduceEqDiff, Nat.reduceAdd, g5]
          clear g1 g3 g5
          rintro l d h2 ⟨rfl, rfl, g1, g3, g5, hi600, hb60⟩
          refine wc_seq (wc_opq fun Q1 hQ => ?_)
          simp (disch := omega) only [ER, reduceIte, Nat.reduceEqDiff, Nat.reduceAdd]
          refine hQ _ ?_
          clear hQ Q1
          refine wc_block ?_
          refine wc_while (fun m l d h2 => ∃ k : Nat, m = f.blocks.length - k ∧ k ≤ f.blocks.length ∧ hB = h2 ∧ d = [] ∧ l.get 1 = some (.int .i64 n) ∧ l.get 3 = some (.ptr h.next 0) ∧ l.get 5 = some (.int .i64 (i : Int)) ∧ l.get 8 = some (.int .i64 (k : Int)) ∧ ∀ (x : Nat) (hx : x < k) (hl : x < f.blocks.length), f.blocks[x].list.length ≤ 100) ?_ (f.blocks.length - 0) ?_
          · clear g1 g3 g5
            rintro m l d h2 ⟨k, hm, hk, rfl, rfl, g1, g3, g5, g8, okb⟩
            refine wc_seq ?_
            refine wc_seq (wc_opq fun Q1 hQ => ?_)
            simp (disch := omega) only [ER, reduceIte, Nat.reduceEqDiff, Nat.reduceAdd, g3, g5, g8, gb, evf, gF2, c5, lenb]
            refine hQ _ ?_
            clear hQ Q1
            refine wc_if (k < f.blocks.length) (by simp (disch := omega) only [ER, reduceIte, Nat.reduceEqDiff, Nat.reduceAdd]) (fun hlk => ?_) (fun hgk => ?_)
            · refine wc_skip ?_
              obtain ⟨idb, ob, capb, szb, cb, EB, evb, gB, ltB, hB'⟩ := f4.open (by omega)
              obtain ⟨_, egb, vl, eb, rl, _⟩ := hB' k hlk
              have d0 := egb 0 (by omega)
              rw [eb, Nat.add_zero] at d0
              have d0 : cb.get (ob + k * 5) = some vl := d0
              have ll := rl.len
              have gB4 : hB.mem.get idb = some (.cells cb szb false true) := by rw [mo0.keep _ ltB]; exact gB
              refine wc_seq (wc_block ?_)
              refine wc_seq (wc_opq fun Q1 hQ => ?_)
              simp (disch := omega) only [ER, reduceIte, Nat.reduceEqDiff, Nat.reduceAdd, g3, g5, g8, gb, evf, gF2, c5, evb, gB4, d0, ll]
              refine hQ _ ?_
              clear hQ Q1
              refine wc_if (100 < f.blocks[k].list.length) (by simp (disch := omega) only [ER, reduceIte, Nat.reduceEqDiff, Nat.reduceAdd]) (fun h100 => ?_) (fun h100 => ?_)
              · refine wc_seq (wc_opq fun Q1 hQ => ?_)
                simp (disch := omega) only [ER, reduceIte, Nat.reduceEqDiff, Nat.reduceAdd]
                refine hQ _ ?_
                clear hQ Q1
                refine wc_ret ⟨_, results_val results_nil, ?_⟩
                simp (disch := omega) only [ER, reduceIte, Nat.reduceEqDiff, Nat.reduceAdd, one_one]
              · refine wc_skip ?_
                refine wc_opq fun Q1 hQ => ?_
                simp (disch := omega) only [ER, reduceIte, Nat.reduceEqDiff, Nat.reduceAdd, g8]
                refine hQ _ ?_
                clear hQ Q1
                refine ⟨f.blocks.length - (k + 1), by omega, k + 1, rfl, by omega, rfl, rfl, ?_, ?_, ?_, ?_, fun x hx hl => ?_⟩
                · simp (disch := omega) only [ER, reduceIte, Nat.reduceEqDiff, Nat.reduceAdd, g1]
                · simp (disch := omega) only [ER, reduceIte, Nat.reduceEqDiff, Nat.reduceAdd, g3]
                · simp (disch := omega) only [ER, reduceIte, Nat.reduceEqDiff, Nat.reduceAdd, g5]
                · simp (disch := omega) only [ER, reduceIte, Nat.reduceEqDiff, Nat.reduceAdd]
                · by_cases hxk : x = k
                  · subst hxk; omega
                  · exact okb x (by omega) hl
            · refine wc_exit ⟨rfl, rfl, ?_, ?_, ?_, hi600, hb60, fun b hb => ?_⟩
              · simp (disch := omega) only [ER, reduceIte, Nat.reduceEqDiff, Nat.reduceAdd, g1]
              · simp (disch := omega) only [ER, reduceIte, Nat.reduceEqDiff, Nat.reduceAdd, g3]
              · simp (disch := omega) only [ER, reduceIte, Nat.reduceEqDiff, Nat.reduceAdd, g5]
              · obtain ⟨x, hx, e⟩ := List.getElem_of_mem hb
                rw [← e]; exact okb x (by omega) hx
          · refine ⟨0, rfl, by omega, rfl, rfl, ?_, ?_, ?_, ?_, fun x hx => by omega⟩
            · simp (disch := omega) only [ER, reduceIte, Nat.reduceEqDiff, Nat.reduceAdd, g1]
            · simp (disch := omega) only [ER, reduceIte, Nat.reduceEqDiff, Nat.reduceAdd, g3]
            · simp (disch := omega) only [ER, reduceIte, Nat.reduceEqDiff, Nat.reduceAdd, g5]
            · simp (disch := omega) only [ER, reduceIte, Nat.reduceEqDiff, Nat.reduceAdd]
        · clear g1 g3 g5
          rintro l d h2 ⟨rfl, rfl, g1, g3, g5, o1, o2, o3⟩
          refine wc_opq fun Q1 hQ => ?_
          simp (disch := omega) only [ER, reduceIte, Nat.reduceEqDiff, Nat.reduceAdd, g5]
          refine hQ _ ?_
          clear hQ Q1
          refine ⟨p.funs.length - (i + 1), by omega, i + 1, rfl, by omega, rfl, rfl, ?_, ?_, ?_, fun x hx hl => ?_⟩
          · simp (disch := omega) only [ER, reduceIte, Nat.reduceEqDiff, Nat.reduceAdd, g1]
          · simp (disch := omega) only [ER, reduceIte, Nat.reduceEqDiff, Nat.reduceAdd, g3]
          · simp (disch := omega) only [ER, reduceIte, Nat.reduceEqDiff, Nat.reduceAdd]
          · by_cases hxi : x = i
            · subst hxi; rw [hff]; exact ⟨o1, o2, o3⟩
            · exact ok x (by omega) hl
      · refine wc_exit ⟨rfl, rfl, ?_, ?_, fun f hf => ?_⟩
        · simp (disch := omega) only [ER, reduceIte, Nat.reduceEqDiff, Nat.reduceAdd, g1]
        · simp (disch := omega) only [ER, reduceIte, Nat.reduceEqDiff, Nat.reduceAdd, g3]
        · obtain ⟨x, hx, e⟩ := List.getElem_of_mem hf
          rw [← e]; exact ok x (by omega) hx
    · refine ⟨0, rfl, by omega, rfl, rfl, ?_, ?_, ?_, fun x hx => by omega⟩
      all_goals simp (disch := omega) only [ER, reduceIte, Nat.reduceEqDiff, Nat.reduceAdd, i0]
  · rintro l d h2 ⟨rfl, rfl, g1, g3, ok⟩
    refine wc_seq (wc_opq fun Q1 hQ => ?_)
    simp (disch := omega) only [ER, reduceIte, Nat.reduceEqDiff, Nat.reduceAdd, g3, gb]
    refine (sites_gp ts t tc hpB ok (by omega)).mono ?_
    rintro v1 h1 ⟨own1, mo1⟩
    have mv1 := fun h' => move_mv (h := h') own1.mv
    simp (disch := omega) only [ER, reduceIte, Nat.reduceEqDiff, Nat.reduceAdd, mv1]
    refine hQ _ ?_
    clear hQ Q1
    have gb1 : h1.mem.get h.next = some (.cells (ofList [vs, vg, vf]) 3 false false) := by
      rw [mo1.keep _ lt0]; exact gb
    refine wc_seq (wc_opq fun Q1 hQ => ?_)
    simp (disch := omega) only [ER, reduceIte, Nat.reduceEqDiff, Nat.reduceAdd, g3, gb1]
    refine (rsites_gp trs tl (hpB.more mo1) (fun f hf => (ok f hf).1) (by omega)).mono ?_
    rintro v2 h2 ⟨own2, mo2⟩
    have mv2 := fun h' => move_mv (h := h') own2.mv
    simp (disch := omega) only [ER, reduceIte, Nat.reduceEqDiff, Nat.reduceAdd, mv2]
    refine hQ _ ?_
    clear hQ Q1
    have own12 := own1.more mo2
    have len1 := own1.len
    have len2 := own2.len
    have form : ∀ r ∈ sitesTo p.funs p.funs.length, ∃ i z, r = siteRow i z := fun r hr => sitesTo_form hr
    have slen := sitesTo_len (fun f hf => (ok f hf).1) (n := p.funs.length) (Nat.le_refl _)
    generalize sitesTo p.funs p.funs.length = L at *
    refine wc_seq ?_
    refine wc_seq (wc_opq fun Q1 hQ => ?_)
    simp (disch := omega) only [ER, reduceIte, Nat.reduceEqDiff, Nat.reduceAdd, g1, mv1, mv2, len1, len2, bound_rw tb, rbound_rw trb]
    refine hQ _ ?_
    clear hQ Q1
    refine wc_no (by simp (disch := omega) only [ER, reduceIte, Nat.reduceEqDiff, Nat.reduceAdd]) (wc_skip ?_)
    refine wc_mid (fun l d h3 => d = []) ?_ ?_
    · refine wc_seq (wc_opq fun Q1 hQ => ?_)
      simp (disch := omega) only [ER, reduceIte, Nat.reduceEqDiff, Nat.reduceAdd]
      refine hQ _ ?_
      clear hQ Q1
      refine wc_block ?_
      refine wc_while (fun m l d h3 => ∃ i : Nat, m = L.length - i ∧ i ≤ L.length ∧ h2 = h3 ∧ d = [] ∧ l.get 11 = some v1 ∧ l.get 12 = some v2 ∧ l.get 14 = some (.int .i64 (i : Int))) ?_ (L.length - 0) ?_
      · rintro m l d h3 ⟨i, hm, hi, rfl, rfl, g11, g12, g14⟩
        refine wc_seq ?_
        refine wc_seq (wc_opq fun Q1 hQ => ?_)
        simp (disch := omega) only [ER, reduceIte, Nat.reduceEqDiff, Nat.reduceAdd, g12, g14, mv2, len2]
        refine hQ _ ?_
        clear hQ Q1
        refine wc_if (i < L.length) (by simp (disch := omega) only [ER, reduceIte, Nat.reduceEqDiff, Nat.reduceAdd]) (fun hlt => ?_) (fun hge => ?_)
        · refine wc_skip ?_
          obtain ⟨i1, c1, _, _, ix1, ge1, _, cl1⟩ := own12.idx hlt
          obtain ⟨i2, c2, _, _, ix2, ge2, _, cl2⟩ := own2.idx hlt
          obtain ⟨q, z, e⟩ := form L[i] (List.getElem_mem hlt)
          rw [e] at cl1 cl2
          have a0 := cl1 0 (by omega)
          have a1 := cl1 1 (by omega)
          have b0 := cl2 0 (by omega)
          have b1 := cl2 1 (by omega)
          rw [Nat.add_zero] at a0 b0
          have a0 : c1.get (i * 2) = some (.int .i64 (q : Int)) := a0
          have a1 : c1.get (i * 2 + 1) = some (.int .i64 z) := a1
          have b0 : c2.get (i * 2) = some (.int .i64 (q : Int)) := b0
          have b1 : c2.get (i * 2 + 1) = some (.int .i64 z) := b1
          refine wc_seq (wc_block ?_)
          refine wc_seq (wc_opq fun Q1 hQ => ?_)
          simp (disch := omega) only [ER, reduceIte, Nat.reduceEqDiff, Nat.reduceAdd, g11, g12, g14, mv1, mv2, ix1, ix2, ge1, ge2, a0, a1, b0, b1]
          refine hQ _ ?_
          clear hQ Q1
          refine wc_no (by simp (disch := omega) only [ER, reduceIte, Nat.reduceEqDiff, Nat.reduceAdd]) (wc_skip ?_)
          refine wc_opq fun Q1 hQ => ?_
          simp (disch := omega) only [ER, reduceIte, Nat.reduceEqDiff, Nat.reduceAdd, g14]
          refine hQ _ ?_
          clear hQ Q1
          refine ⟨L.length - (i + 1), by omega, i + 1, rfl, by omega, rfl, rfl, ?_, ?_, ?_⟩
          · simp (disch := omega) only [ER, reduceIte, Nat.reduceEqDiff, Nat.reduceAdd, g11]
          · simp (disch := omega) only [ER, reduceIte, Nat.reduceEqDiff, Nat.reduceAdd, g12]
          · simp (disch := omega) only [ER, reduceIte, Nat.reduceEqDiff, Nat.reduceAdd]
        · exact wc_exit rfl
      · refine ⟨0, rfl, by omega, rfl, rfl, ?_, ?_, ?_⟩
        · simp (disch := omega) only [ER, reduceIte, Nat.reduceEqDiff, Nat.reduceAdd]
        · simp (disch := omega) only [ER, reduceIte, Nat.reduceEqDiff, Nat.reduceAdd]
        · simp (disch := omega) only [ER, reduceIte, Nat.reduceEqDiff, Nat.reduceAdd]
    · rintro l d h3 rfl
      refine wc_seq (wc_opq fun Q1 hQ => ?_)
      simp (disch := omega) only [ER, reduceIte, Nat.reduceEqDiff, Nat.reduceAdd]
      refine hQ _ ?_
      clear hQ Q1
      refine wc_ret ⟨_, results_val results_nil, ?_⟩
      simp (disch := omega) only [ER, reduceIte, Nat.reduceEqDiff, Nat.reduceAdd, one_one]
end
end Go.Ev
