/- Rows of records: slices.Grow, slices.Concat. Rows of records: slices.Concat. Rows of records joined: by a map, then sorted. Rows of records joined: by a map, then sorted. Rows of records joined: put where they belong. The law: both joins are the same. -/
import Derived.Test.YtokophcpoecilaaGreatSoB
set_option linter.unusedSimpArgs false
set_option linter.unusedVariables false
namespace Go.Ev
open Go
set_option linter.unusedSimpArgs false
set_option linter.unusedVariables false
set_option maxRecDepth 100000
set_option maxHeartbeats 4000000
section
variable {h : AH}
theorem op_sliceV_lo {loc : T AV} {tmp : List AV} {kill : Bool} {es : Nat} {x lo : Opd} : evOp (.sliceV kill es x (some lo) none none) loc tmp h = oSliceV kill es (.c (ev loc tmp x)) (some (.c (ev loc tmp lo))) none none .leaf [] h := rfl
theorem op_sliceV_hi {loc : T AV} {tmp : List AV} {kill : Bool} {es : Nat} {x hi : Opd} : evOp (.sliceV kill es x none (some hi) none) loc tmp h = oSliceV kill es (.c (ev loc tmp x)) none (some (.c (ev loc tmp hi))) none .leaf [] h := rfl
theorem op_cap {loc : T AV} {tmp : List AV} {x : Opd} : evOp (.cap x) loc tmp h = oCap (.c (ev loc tmp x)) .leaf [] h := rfl
theorem cap_nils : oCap (.c .nils) .leaf [] h = .val (.int .i64 ((0 : Nat) : Int)) h := rfl
theorem op_appendZ {loc : T AV} {tmp : List AV} {z : List AV} {b : Nat} {x n : Opd} : evOp (.appendZ z b x n) loc tmp h = oAppendZ z b (.c (ev loc tmp x)) (.c (ev loc tmp n)) .leaf [] h := rfl
theorem op_mkMap {loc : T AV} {tmp : List AV} : evOp .mkMap loc tmp h = .val (.mp h.next) (h.add (.map [] 0)) := by
  show AH.new h (AObj.map [] 0) (fun id h => OR.val (AV.mp id) h) = _
  rw [AH.new_eq]
theorem op_lookup {loc : T AV} {tmp : List AV} {kt : KT} {z : AV} {ok : Bool} {m k : Opd} : evOp (.lookup kt z ok m k) loc tmp h = oLookup kt z ok (.c (ev loc tmp m)) (.c (ev loc tmp k)) .leaf [] h := rfl
theorem op_mapUpd {loc : T AV} {tmp : List AV} {kt : KT} {m k x : Opd} : evOp (.mapUpd kt m k x) loc tmp h = oMapUpd kt (.c (ev loc tmp m)) (.c (ev loc tmp k)) (.c (ev loc tmp x)) .leaf [] h := rfl
theorem sliceV_nilh {kill : Bool} {k : IntKind} : oSliceV kill 4 (.c .nils) none (some (.c (.int k ((0 : Nat) : Int)))) none .leaf [] h = .val .nils h := rfl
theorem sliceV_hi {kill : Bool} {es id off len hi s : Nat} {c : T AV} {p r : Bool} {k : IntKind} (hg : h.mem.get id = some (.cells c s p r)) (he : 1 ≤ es) (hs : off + hi * es ≤ s) :
    oSliceV kill es (.c (.sl id off len (.rest es))) none (some (.c (.int k (hi : Int)))) none .leaf [] h = .val (.sl id off hi (.rest es)) h := by
  show bi (Nat.beq es es) (bi (Nat.ble 1 es) (onCells (AH.get h id) fun _ s _ r => bi (Nat.ble (Nat.add off (Nat.mul hi es)) s) (bi (Nat.ble 0 hi)
        (bi (Nat.beq 0 0) (OR.val (AV.sl id off hi (ACap.rest es)) h) _) (F 36)) (F 36)) (F 38)) (F 38) = _
  rw [Nat.beq_refl, bi_true, show Nat.ble 1 es = true from Nat.ble_eq.mpr he, bi_true, AH.get_eq, hg, onCells_some, show Nat.ble (Nat.add off (Nat.mul hi es)) s = true from Nat.ble_eq.mpr hs, bi_true]
  rfl
theorem appendZ_nils {z : List AV} {n : Nat} (hz : z.length = 4) (h0 : 0 < n) (hn : n < 1000000) : oAppendZ z 32 (.c .nils) (.c (.int .i64 (n : Int))) .leaf [] h = .val (.sl h.next 0 n (.rest 4)) (h.add (.cells (ofList (lrep z n)) (n * 4) true false)) := by
  show bi (Nat.beq n 0) (F 68) (bi (Nat.ble 1 (llen z)) (bi (room n 32) (AH.new h (AObj.cells (ofList (lrep z n)) (Nat.mul n (llen z)) true false) fun id h => OR.val (AV.sl id 0 n (ACap.rest (llen z))) h) (F 68)) (F 68)) = _
  rw [beq_nat, decide_eq_false (by omega), bi_false, llen_eq, hz, room_small (by omega) (by decide), bi_true, AH.new_eq]
  rfl
theorem zrow_has {z : List AV} {n j : Nat} (hz : z.length = 4) (hj : j < n * 4) : (ofList (lrep z n)).get j ≠ none := by
  rw [get_ofList, lrep_eq]
  have : j < (List.replicate n z).flatten.length := by rw [flat_len, hz]; exact hj
  rw [List.getElem?_eq_getElem this]
  exact fun h => by cases h
theorem append_grown {id len tot : Nat} {c : T AV} {src : AV} {ys : List Rw} (hs : SrcR h src ys) (hg : h.mem.get id = some (.cells c (tot * 4) true false)) (hx : len + ys.length ≤ tot) (ha : ∀ j, j < tot * 4 → c.get j ≠ none) :
    ∃ h', oAppend 4 32 (.c (.sl id 0 len (.rest 4))) (.c src) .leaf [] h = .val (.sl id 0 (len + ys.length) (.rest 4)) h' ∧ h'.next = h.next ∧ (∀ k, k ≠ id → h'.mem.get k = h.mem.get k) ∧ h'.mem.get id = some (.cells (putL (rls ys) c (len * 4)) (tot * 4) true false) := by
  rcases Nat.eq_zero_or_pos ys.length with h0 | h0
  · obtain rfl := List.length_eq_zero_iff.1 h0
    refine ⟨h, ?_, rfl, fun _ _ => rfl, hg⟩
    show srcCells 4 src h _ = _
    rw [hs]; rfl
  refine ⟨h.set id (.cells (putL (rls ys) c (len * 4)) (tot * 4) true false), ?_, by rw [AH.set_next], fun k hk => by rw [AH.set_mem, T.get_put_ne _ _ _ _ (Ne.symm hk)], AH.get_set⟩
  show srcCells 4 src h _ = _
  rw [hs]
  show bi (Nat.beq ys.length 0) _ (onCells (AH.get h id) fun c size o r => fN (Nat.add len ys.length) fun need => bi (Nat.beq 4 4) (bi r (F 51) (bi (Nat.ble 1 4) (bi (Nat.ble (Nat.add 0 (Nat.mul need 4)) size)
          (obind (storeL (rls ys) c (Nat.add 0 (Nat.mul len 4))) (F 51) fun c' => OR.val (AV.sl id 0 need (.rest 4)) (AH.set h id (AObj.cells c' size o r))) _) (F 52))) (F 52)) = _
  rw [beq_nat, decide_eq_false (by omega), bi_false, AH.get_eq, hg, onCells_some, fN_eq, show Nat.ble (Nat.add 0 (Nat.mul (Nat.add len ys.length) 4)) (tot * 4) = true from Nat.ble_eq.mpr (by show 0 + (len + ys.length) * 4 ≤ _; omega)]
  rw [show Nat.add 0 (Nat.mul len 4) = len * 4 from Nat.zero_add _, storeL_has (fun i h1 h2 => ha i (by rw [rls_len] at h2; omega))]
  rfl
end
section
variable {tab : Nat → Option AFunc} {h : AH}
theorem grow0_rw (t : tab 25 = some af25) {Q : AV → AH → Prop} : GP tab 25 [.nils, .int .i64 ((0 : Nat) : Int)] h Q = Q .nils h := by
  have i0 : initLoc [.nils, .int .i64 ((0 : Nat) : Int)] = ofList [.nils, .int .i64 ((0 : Nat) : Int)] := rfl
  refine gp_rw (gp_of t rfl ?_)
  refine wc_seq (wc_opq fun Q1 hQ => ?_)
  simp (disch := omega) only [ER4, reduceIte, Nat.reduceEqDiff, Nat.reduceAdd]
  refine hQ _ ?_
  clear hQ Q1
  refine wc_seq ?_
  refine wc_seq (wc_opq fun Q1 hQ => ?_)
  simp (disch := omega) only [ER4, reduceIte, Nat.reduceEqDiff, Nat.reduceAdd, i0]
  refine hQ _ ?_
  clear hQ Q1
  refine wc_no (by simp (disch := omega) only [ER4, reduceIte, Nat.reduceEqDiff, Nat.reduceAdd, Nat.lt_irrefl]) (wc_skip ?_)
  refine wc_seq ?_
  refine wc_seq (wc_opq fun Q1 hQ => ?_)
  simp (disch := omega) only [ER4, reduceIte, Nat.reduceEqDiff, Nat.reduceAdd, i0, op_cap, cap_nils, Nat.sub_self]
  refine hQ _ ?_
  clear hQ Q1
  refine wc_seq (wc_opq fun Q1 hQ => ?_)
  simp (disch := omega) only [ER4, reduceIte, Nat.reduceEqDiff, Nat.reduceAdd]
  refine hQ _ ?_
  clear hQ Q1
  refine wc_no (by simp (disch := omega) only [ER4, reduceIte, Nat.reduceEqDiff, Nat.reduceAdd, Nat.lt_irrefl]) (wc_skip ?_)
  refine wc_seq (wc_opq fun Q1 hQ => ?_)
  simp (disch := omega) only [ER4, reduceIte, Nat.reduceEqDiff, Nat.reduceAdd, i0]
  refine hQ _ ?_
  clear hQ Q1
  refine wc_ret ⟨_, results_val results_nil, ?_, rfl⟩
  simp (disch := omega) only [ER4, reduceIte, Nat.reduceEqDiff, Nat.reduceAdd, one_one]
theorem grow_gp (t : tab 25 = some af25) {n : Nat} (h0 : 0 < n) (hn : n < 1000000) : GP tab 25 [.nils, .int .i64 (n : Int)] h fun v h1 => v = .sl h.next 0 0 (.rest 4) ∧ ∃ c, h1 = h.add (.cells c (n * 4) true false) ∧ ∀ j, j < n * 4 → c.get j ≠ none := by
  have i0 : initLoc [.nils, .int .i64 (n : Int)] = ofList [.nils, .int .i64 (n : Int)] := rfl
  refine gp_of t rfl ?_
  refine wc_seq (wc_opq fun Q1 hQ => ?_)
  simp (disch := omega) only [ER4, reduceIte, Nat.reduceEqDiff, Nat.reduceAdd]
  refine hQ _ ?_
  clear hQ Q1
  refine wc_seq ?_
  refine wc_seq (wc_opq fun Q1 hQ => ?_)
  simp (disch := omega) only [ER4, reduceIte, Nat.reduceEqDiff, Nat.reduceAdd, i0]
  refine hQ _ ?_
  clear hQ Q1
  refine wc_no (by simp (disch := omega) only [ER4, reduceIte, Nat.reduceEqDiff, Nat.reduceAdd, Nat.not_lt_zero]) (wc_skip ?_)
  refine wc_seq ?_
  refine wc_seq (wc_opq fun Q1 hQ => ?_)
  simp (disch := omega) only [ER4, reduceIte, Nat.reduceEqDiff, Nat.reduceAdd, i0, op_cap, cap_nils, Nat.sub_self, Nat.sub_zero]
  refine hQ _ ?_
  clear hQ Q1
  refine wc_seq (wc_opq fun Q1 hQ => ?_)
  simp (disch := omega) only [ER4, reduceIte, Nat.reduceEqDiff, Nat.reduceAdd]
  refine hQ _ ?_
  clear hQ Q1
  refine wc_yes (by simp (disch := omega) only [ER4, reduceIte, Nat.reduceEqDiff, Nat.reduceAdd, h0]) ?_
  have hz : (ofList (lrep [.int .i64 ((0 : Nat) : Int), .int .i64 ((0 : Nat) : Int), .int .i64 ((0 : Nat) : Int), .int .i64 ((0 : Nat) : Int)] n)).get = _ := rfl
  refine wc_opq fun Q1 hQ => ?_
  simp (disch := omega) only [ER4, reduceIte, Nat.reduceEqDiff, Nat.reduceAdd, i0, op_cap, cap_nils, op_sliceV_hi, sliceV_nilh, op_appendZ]
  rw [appendZ_nils rfl h0 hn]
  have ga : (h.add (.cells (ofList (lrep [.int .i64 ((0 : Nat) : Int), .int .i64 ((0 : Nat) : Int), .int .i64 ((0 : Nat) : Int), .int .i64 ((0 : Nat) : Int)] n)) (n * 4) true false)).mem.get h.next = some (.cells (ofList (lrep [.int .i64 ((0 : Nat) : Int), .int .i64 ((0 : Nat) : Int), .int .i64 ((0 : Nat) : Int), .int .i64 ((0 : Nat) : Int)] n)) (n * 4) true false) := by rw [AH.add_mem, T.get_put_self]
  have gs := sliceV_hi (kill := true) (es := 4) (off := 0) (len := n) (hi := 0) (k := .i64) ga (by omega) (by omega)
  simp (disch := omega) only [ER4, reduceIte, Nat.reduceEqDiff, Nat.reduceAdd, i0, op_sliceV_hi, gs]
  refine hQ _ ?_
  clear hQ Q1
  refine wc_seq (wc_opq fun Q1 hQ => ?_)
  simp (disch := omega) only [ER4, reduceIte, Nat.reduceEqDiff, Nat.reduceAdd]
  refine hQ _ ?_
  clear hQ Q1
  refine wc_ret ⟨_, results_val results_nil, ?_, _, rfl, fun j hj => zrow_has rfl hj⟩
  simp (disch := omega) only [ER4, reduceIte, Nat.reduceEqDiff, Nat.reduceAdd, one_one]
end
end Go.Ev

namespace Go.Ev
open Go
set_option linter.unusedSimpArgs false
set_option linter.unusedVariables false
set_option maxRecDepth 100000
set_option maxHeartbeats 4000000
/-- a slice that is read -/
structure RdS (h : AH) (v : AV) (xs : List Rw) : Prop where
  len : ∀ h', oLen .sl (.c v) .leaf [] h' = .val (.int .i64 (xs.length : Int)) h'
  mv : v.mv = true
  cells : cellsOf v = some [v]
  src : ∀ h', More h h' → SrcR h' v xs
theorem RdS.mvv {h : AH} {v : AV} {xs : List Rw} (x : RdS h v xs) : ∀ h', oMove (.c v) .leaf [] h' = .val v h' := fun _ => move_mv x.mv
theorem RdS.more {h h1 : AH} {v : AV} {xs : List Rw} (x : RdS h v xs) (m : More h h1) : RdS h1 v xs := ⟨x.len, x.mv, x.cells, fun h' m' => x.src h' (m.trans m')⟩
section
variable {tab : Nat → Option AFunc} {h : AH}
theorem concat_gp (tc : tab 11 = some af11) (tg : tab 25 = some af25) {va vb : AV} {A B : List Rw} (ra : RdS h va A) (rb : RdS h vb B) {id s : Nat} {p r : Bool} {cap : ACap} {c : T AV} (hid : id < h.next)
    (hg : h.mem.get id = some (.cells c s p r)) (c0 : c.get 0 = some va) (c1 : c.get 1 = some vb) (hA : A.length ≤ 1000) (hB : B.length ≤ 1000) :
    GP tab 11 [.sl id 0 2 cap] h fun v h1 => OwnR h1 h.next v (A ++ B) ∧ More h h1 := by
  have i0 : initLoc [.sl id 0 2 cap] = ofList [.sl id 0 2 cap] := rfl
  have pick : ∀ i : Nat, i < 2 → ∃ v X, c.get i = some v ∧ RdS h v X ∧ (i = 0 ∧ X = A ∨ i = 1 ∧ X = B) := fun i hi => by
    rcases (show i = 0 ∨ i = 1 by omega) with rfl | rfl
    · exact ⟨va, A, c0, ra, .inl ⟨rfl, rfl⟩⟩
    · exact ⟨vb, B, c1, rb, .inr ⟨rfl, rfl⟩⟩
  refine gp_of tc rfl ?_
  refine wc_seq (wc_opq fun Q1 hQ => ?_)
  simp (disch := omega) only [ER4, reduceIte, Nat.reduceEqDiff, Nat.reduceAdd]
  refine hQ _ ?_
  clear hQ Q1
  refine wc_seq (wc_opq fun Q1 hQ => ?_)
  simp (disch := omega) only [ER4, reduceIte, Nat.reduceEqDiff, Nat.reduceAdd]
  refine hQ _ ?_
  clear hQ Q1
  refine wc_mid (fun l d h1 => h = h1 ∧ d = [] ∧ l.get 0 = some (.sl id 0 2 cap) ∧ l.get 5 = some (.int .i64 ((A.length + B.length : Nat) : Int))) ?_ ?_
  · refine wc_seq (wc_opq fun Q1 hQ => ?_)
    simp (disch := omega) only [ER4, reduceIte, Nat.reduceEqDiff, Nat.reduceAdd, i0]
    refine hQ _ ?_
    clear hQ Q1
    refine wc_block ?_
    refine wc_while (fun k l d h1 => ∃ i z : Nat, k = 2 - i ∧ i ≤ 2 ∧ z = (if i = 0 then 0 else if i = 1 then A.length else A.length + B.length) ∧ h = h1 ∧ d = [] ∧ l.get 0 = some (.sl id 0 2 cap) ∧ l.get 1 = some (.int .i64 (i : Int)) ∧ l.get 2 = some (.int .i64 ((2 : Nat) : Int)) ∧ l.get 4 = some (.sl id 0 2 cap) ∧ l.get 5 = some (.int .i64 (z : Int))) ?_ 2 ?_
    · rintro k l d h1 ⟨i, z, hk, hi, ez, rfl, rfl, g0, g1, g2, g4, g5⟩
      refine wc_seq (wc_opq fun Q1 hQ => ?_)
      simp (disch := omega) only [ER4, reduceIte, Nat.reduceEqDiff, Nat.reduceAdd, g1, g2]
      refine hQ _ ?_
      clear hQ Q1
      refine wc_seq (wc_if (i < 2) (by simp (disch := omega) only [ER4, reduceIte, Nat.reduceEqDiff, Nat.reduceAdd]) (fun hlt => ?_) (fun hge => ?_))
      · refine wc_skip ?_
        obtain ⟨v, X, cv, rx, hX⟩ := pick i hlt
        have mvv := rx.mvv
        have lenv := rx.len
        have hz : z + X.length = (if i + 1 = 0 then 0 else if i + 1 = 1 then A.length else A.length + B.length) := by
          rcases hX with ⟨rfl, rfl⟩ | ⟨rfl, rfl⟩
          · rw [ez]; simp
          · rw [ez]; simp
        have hzb : z + X.length ≤ 2000 := by rw [hz]; split; omega; split <;> omega
        refine wc_mid (fun l d h1 => h = h1 ∧ d = [] ∧ l.get 0 = some (.sl id 0 2 cap) ∧ l.get 1 = some (.int .i64 (i : Int)) ∧ l.get 2 = some (.int .i64 ((2 : Nat) : Int)) ∧ l.get 4 = some (.sl id 0 2 cap) ∧ l.get 5 = some (.int .i64 ((z + X.length : Nat) : Int))) ?_ ?_
        · refine wc_block ?_
          refine wc_seq (wc_opq fun Q1 hQ => ?_)
          simp (disch := omega) only [ER4, reduceIte, Nat.reduceEqDiff, Nat.reduceAdd, g1, g4, hg, cv, mvv]
          refine hQ _ ?_
          clear hQ Q1
          refine wc_seq (wc_opq fun Q1 hQ => ?_)
          simp (disch := omega) only [ER4, reduceIte, Nat.reduceEqDiff, Nat.reduceAdd, g5, mvv, lenv]
          refine hQ _ ?_
          clear hQ Q1
          refine wc_seq (wc_opq fun Q1 hQ => ?_)
          simp (disch := omega) only [ER4, reduceIte, Nat.reduceEqDiff, Nat.reduceAdd]
          refine hQ _ ?_
          clear hQ Q1
          refine wc_no (by simp (disch := omega) only [ER4, reduceIte, Nat.reduceEqDiff, Nat.reduceAdd, Nat.not_lt_zero]) (wc_skip ⟨rfl, rfl, ?_, ?_, ?_, ?_, ?_⟩)
          all_goals simp (disch := omega) only [ER4, reduceIte, Nat.reduceEqDiff, Nat.reduceAdd, g0, g1, g2, g4]
        · rintro l d h1 ⟨rfl, rfl, g0, g1, g2, g4, g5⟩
          refine wc_opq fun Q1 hQ => ?_
          simp (disch := omega) only [ER4, reduceIte, Nat.reduceEqDiff, Nat.reduceAdd, g1]
          refine hQ _ ?_
          clear hQ Q1
          refine ⟨2 - (i + 1), by omega, i + 1, _, rfl, by omega, hz, rfl, rfl, ?_, ?_, ?_, ?_, ?_⟩
          all_goals simp (disch := omega) only [ER4, reduceIte, Nat.reduceEqDiff, Nat.reduceAdd, g0, g1, g2, g4, g5]
      · obtain rfl : i = 2 := by omega
        refine wc_exit ⟨rfl, rfl, ?_, ?_⟩
        · simp (disch := omega) only [ER4, reduceIte, Nat.reduceEqDiff, Nat.reduceAdd, g0]
        · simp (disch := omega) only [ER4, reduceIte, Nat.reduceEqDiff, Nat.reduceAdd, g5]
          rw [ez]; rfl
    · refine ⟨0, 0, rfl, by omega, rfl, rfl, rfl, ?_, ?_, ?_, ?_, ?_⟩
      all_goals simp (disch := omega) only [ER4, reduceIte, Nat.reduceEqDiff, Nat.reduceAdd, i0]
  rintro l d h1 ⟨rfl, rfl, g0, g5⟩
  have tail : ∀ {l : T AV} {h1 : AH} {vo : AV}, l.get 0 = some (.sl id 0 2 cap) → l.get 12 = some vo → More h h1 → vo.mv = true →
      (A.length + B.length = 0 ∧ vo = .nils ∨ 0 < A.length + B.length ∧ vo = .sl h.next 0 0 (.rest 4) ∧ h.next < h1.next ∧ ∃ c, h1.mem.get h.next = some (.cells c ((A.length + B.length) * 4) true false) ∧ ∀ j, j < (A.length + B.length) * 4 → c.get j ≠ none) → True := fun _ _ _ _ _ => trivial
  refine wc_mid (fun l d h1 => ∃ vo, d = [] ∧ l.get 0 = some (.sl id 0 2 cap) ∧ l.get 12 = some vo ∧ More h h1 ∧ (A.length + B.length = 0 ∧ vo = .nils ∨ 0 < A.length + B.length ∧ vo = .sl h.next 0 0 (.rest 4) ∧ h.next < h1.next ∧ ∃ c, h1.mem.get h.next = some (.cells c ((A.length + B.length) * 4) true false) ∧ ∀ j, j < (A.length + B.length) * 4 → c.get j ≠ none)) ?_ ?_
  · rcases Nat.eq_zero_or_pos (A.length + B.length) with h0 | h0
    · rw [h0] at g5
      refine wc_opq fun Q1 hQ => ?_
      simp (disch := omega) only [ER4, reduceIte, Nat.reduceEqDiff, Nat.reduceAdd, g5, grow0_rw tg]
      refine hQ _ ?_
      clear hQ Q1
      refine ⟨.nils, rfl, ?_, ?_, More.refl _, .inl ⟨h0, rfl⟩⟩
      · simp (disch := omega) only [ER4, reduceIte, Nat.reduceEqDiff, Nat.reduceAdd, g0]
      · simp (disch := omega) only [ER4, reduceIte, Nat.reduceEqDiff, Nat.reduceAdd]
    · refine wc_opq fun Q1 hQ => ?_
      simp (disch := omega) only [ER4, reduceIte, Nat.reduceEqDiff, Nat.reduceAdd, g5]
      refine (grow_gp tg h0 (by omega)).mono ?_
      rintro v h1 ⟨rfl, cg, rfl, hcg⟩
      simp (disch := omega) only [ER4, reduceIte, Nat.reduceEqDiff, Nat.reduceAdd]
      refine hQ _ ?_
      clear hQ Q1
      refine ⟨_, rfl, ?_, ?_, More.add _ _, .inr ⟨h0, rfl, Nat.lt_succ_self _, cg, by rw [AH.add_mem, T.get_put_self], hcg⟩⟩
      · simp (disch := omega) only [ER4, reduceIte, Nat.reduceEqDiff, Nat.reduceAdd, g0]
      · simp (disch := omega) only [ER4, reduceIte, Nat.reduceEqDiff, Nat.reduceAdd]
  clear g0 g5 tail
  rintro l d h1 ⟨vo, rfl, g0, g12, mo, hvo⟩
  generalize htot : A.length + B.length = tot at *
  refine wc_mid (fun l d h2 => ∃ vo, d = [] ∧ l.get 12 = some vo ∧ More h h2 ∧ OwnR h2 h.next vo (A ++ B)) ?_ ?_
  · refine wc_seq (wc_opq fun Q1 hQ => ?_)
    simp (disch := omega) only [ER4, reduceIte, Nat.reduceEqDiff, Nat.reduceAdd, g0]
    refine hQ _ ?_
    clear hQ Q1
    refine wc_block ?_
    refine wc_while (fun k l d h2 => ∃ (i : Nat) (vo : AV) (xs : List Rw), k = 2 - i ∧ i ≤ 2 ∧ xs = (if i = 0 then [] else if i = 1 then A else A ++ B) ∧ d = [] ∧ l.get 8 = some (.int .i64 (i : Int)) ∧ l.get 9 = some (.int .i64 ((2 : Nat) : Int)) ∧ l.get 11 = some (.sl id 0 2 cap) ∧ l.get 12 = some vo ∧ More h h2 ∧
      (tot = 0 ∧ vo = .nils ∨ 0 < tot ∧ vo = .sl h.next 0 xs.length (.rest 4) ∧ h.next < h2.next ∧ ∃ c, h2.mem.get h.next = some (.cells c (tot * 4) true false) ∧ (∀ j, j < tot * 4 → c.get j ≠ none) ∧ ∀ i (hi : i < xs.length), R4 c (i * 4) xs[i])) ?_ 2 ?_
    · clear g0 g12 mo hvo vo
      rintro k l d h2 ⟨i, vo, xs, hk, hi, ex, rfl, g8, g9, g11, g12, mo, hvo⟩
      have hg2 : h2.mem.get id = some (.cells c s p r) := by rw [mo.keep _ hid]; exact hg
      refine wc_seq (wc_opq fun Q1 hQ => ?_)
      simp (disch := omega) only [ER4, reduceIte, Nat.reduceEqDiff, Nat.reduceAdd, g8, g9]
      refine hQ _ ?_
      clear hQ Q1
      refine wc_seq (wc_if (i < 2) (by simp (disch := omega) only [ER4, reduceIte, Nat.reduceEqDiff, Nat.reduceAdd]) (fun hlt => ?_) (fun hge => ?_))
      · refine wc_skip ?_
        obtain ⟨v, X, cv, rx, hX⟩ := pick i hlt
        have mvv := rx.mvv
        have hxs : xs ++ X = (if i + 1 = 0 then [] else if i + 1 = 1 then A else A ++ B) := by
          rcases hX with ⟨rfl, rfl⟩ | ⟨rfl, rfl⟩
          · rw [ex]; simp
          · rw [ex]; simp
        have hlen : xs.length + X.length ≤ tot := by
          rw [← List.length_append, hxs, ← htot]
          split
          · omega
          split
          · omega
          · rw [List.length_append]; omega
        have mvo : ∀ h', oMove (.c vo) .leaf [] h' = .val vo h' := fun h' => move_mv (by rcases hvo with ⟨_, rfl⟩ | ⟨_, rfl, _⟩ <;> rfl)
        refine wc_mid (fun l d h3 => ∃ vo, d = [] ∧ l.get 8 = some (.int .i64 (i : Int)) ∧ l.get 9 = some (.int .i64 ((2 : Nat) : Int)) ∧ l.get 11 = some (.sl id 0 2 cap) ∧ l.get 12 = some vo ∧ More h h3 ∧
          (tot = 0 ∧ vo = .nils ∨ 0 < tot ∧ vo = .sl h.next 0 (xs ++ X).length (.rest 4) ∧ h.next < h3.next ∧ ∃ c, h3.mem.get h.next = some (.cells c (tot * 4) true false) ∧ (∀ j, j < tot * 4 → c.get j ≠ none) ∧ ∀ i (hi : i < (xs ++ X).length), R4 c (i * 4) (xs ++ X)[i])) ?_ ?_
        · refine wc_block ?_
          refine wc_seq (wc_opq fun Q1 hQ => ?_)
          simp (disch := omega) only [ER4, reduceIte, Nat.reduceEqDiff, Nat.reduceAdd, g8, g11, hg2, cv, mvv]
          refine hQ _ ?_
          clear hQ Q1
          obtain ⟨v', h3, e, mo3, hv3⟩ : ∃ v' h3, oAppend 4 32 (.c vo) (.c v) .leaf [] h2 = .val v' h3 ∧ More h h3 ∧ (tot = 0 ∧ v' = .nils ∨ 0 < tot ∧ v' = .sl h.next 0 (xs ++ X).length (.rest 4) ∧ h.next < h3.next ∧ ∃ c, h3.mem.get h.next = some (.cells c (tot * 4) true false) ∧ (∀ j, j < tot * 4 → c.get j ≠ none) ∧ ∀ i (hi : i < (xs ++ X).length), R4 c (i * 4) (xs ++ X)[i]) := by
            have hs := rx.src h2 mo
            rcases hvo with ⟨t0, rfl⟩ | ⟨t0, rfl, hn, cc, q1, q2, q3⟩
            · obtain rfl : X = [] := List.eq_nil_of_length_eq_zero (by omega)
              refine ⟨.nils, h2, ?_, mo, .inl ⟨t0, rfl⟩⟩
              show srcCells 4 v h2 _ = _
              rw [hs]; rfl
            · obtain ⟨h3, e1, e2, e3, e4⟩ := append_grown hs q1 hlen q2
              refine ⟨_, h3, e1, ⟨by rw [e2]; exact mo.next, fun k hk => by rw [e3 k (by omega)]; exact mo.keep k hk⟩, .inr ⟨t0, by rw [List.length_append], by rw [e2]; exact hn, _, e4, fun j hj => ?_, fun j hj => ?_⟩⟩
              · rw [get_putL]
                split
                · rename_i h5
                  rw [List.getElem?_eq_getElem (by omega)]
                  exact fun h => by cases h
                · exact q2 j hj
              · by_cases hjx : j < xs.length
                · rw [List.getElem_append_left hjx]
                  exact (q3 j hjx).putL_out (.inl (by omega))
                · rw [List.getElem_append_right (by omega)]
                  have := putL_rls (l := X) (c := cc) (off := xs.length * 4) (i := j - xs.length) (by simp at hj; omega)
                  rwa [show xs.length * 4 + (j - xs.length) * 4 = j * 4 by omega] at this
          have mv' : ∀ h', oMove (.c v') .leaf [] h' = .val v' h' := fun h' => move_mv (by rcases hv3 with ⟨_, rfl⟩ | ⟨_, rfl, _⟩ <;> rfl)
          refine wc_opq fun Q1 hQ => ?_
          simp (disch := omega) only [ER4, reduceIte, Nat.reduceEqDiff, Nat.reduceAdd, g12, mvo, mvv, e, mv']
          refine hQ _ ?_
          clear hQ Q1
          refine ⟨v', rfl, ?_, ?_, ?_, ?_, mo3, hv3⟩
          all_goals simp (disch := omega) only [ER4, reduceIte, Nat.reduceEqDiff, Nat.reduceAdd, g8, g9, g11]
        · clear g8 g9 g11 g12 mo hvo hg2
          rintro l d h3 ⟨vo, rfl, g8, g9, g11, g12, mo, hvo⟩
          refine wc_opq fun Q1 hQ => ?_
          simp (disch := omega) only [ER4, reduceIte, Nat.reduceEqDiff, Nat.reduceAdd, g8]
          refine hQ _ ?_
          clear hQ Q1
          refine ⟨2 - (i + 1), by omega, i + 1, vo, _, rfl, by omega, hxs, rfl, ?_, ?_, ?_, ?_, mo, hvo⟩
          all_goals simp (disch := omega) only [ER4, reduceIte, Nat.reduceEqDiff, Nat.reduceAdd, g8, g9, g11, g12]
      · obtain rfl : i = 2 := by omega
        refine wc_exit ⟨vo, rfl, ?_, mo, ?_⟩
        · simp (disch := omega) only [ER4, reduceIte, Nat.reduceEqDiff, Nat.reduceAdd, g12]
        · have ex : xs = A ++ B := by rw [ex]; rfl
          subst ex
          rcases hvo with ⟨t0, rfl⟩ | ⟨t0, rfl, hn, cc, q1, q2, q3⟩
          · rw [List.eq_nil_of_length_eq_zero (l := A ++ B) (by rw [List.length_append]; omega)]
            exact .nils
          · refine .sl (fun e => by have := congrArg List.length e; rw [List.length_append, List.length_nil] at this; omega) (Nat.le_refl _) hn ?_ q3
            rw [List.length_append, htot]; exact q1
    · refine ⟨0, vo, [], rfl, by omega, rfl, rfl, ?_, ?_, ?_, ?_, mo, ?_⟩
      · simp (disch := omega) only [ER4, reduceIte, Nat.reduceEqDiff, Nat.reduceAdd]
      · simp (disch := omega) only [ER4, reduceIte, Nat.reduceEqDiff, Nat.reduceAdd]
      · simp (disch := omega) only [ER4, reduceIte, Nat.reduceEqDiff, Nat.reduceAdd]
      · simp (disch := omega) only [ER4, reduceIte, Nat.reduceEqDiff, Nat.reduceAdd, g12]
      · rcases hvo with ⟨t0, rfl⟩ | ⟨t0, rfl, hn, cc, q1, q2⟩
        · exact .inl ⟨t0, rfl⟩
        · exact .inr ⟨t0, rfl, hn, cc, q1, q2, fun i hi => by simp at hi⟩
  · clear g0 g12 mo hvo vo
    rintro l d h2 ⟨vo, rfl, g12, mo, own⟩
    have mvo : ∀ h', oMove (.c vo) .leaf [] h' = .val vo h' := fun h' => move_mv own.mv
    refine wc_seq (wc_opq fun Q1 hQ => ?_)
    simp (disch := omega) only [ER4, reduceIte, Nat.reduceEqDiff, Nat.reduceAdd, g12, mvo]
    refine hQ _ ?_
    clear hQ Q1
    refine wc_ret ⟨_, results_val results_nil, ?_, mo⟩
    simp (disch := omega) only [ER4, reduceIte, Nat.reduceEqDiff, Nat.reduceAdd, one_one]
    exact own
end
end Go.Ev

namespace Go.Ev
open Go
set_option linter.unusedSimpArgs false
set_option linter.unusedVariables false
set_option maxRecDepth 100000
set_option maxHeartbeats 4000000
section
variable {h : AH}
theorem OwnR.other {b : Nat} {v : AV} {xs : List Rw} (x : OwnR h b v xs) {k : Nat} (hk : k < b) (X : AObj) : OwnR (h.set k X) b v xs := by
  cases x with
  | nils => exact .nils
  | emp => exact .emp
  | sl a1 a2 a3 a4 a5 => exact .sl a1 a2 (by rw [AH.set_next]; exact a3) (by rw [AH.set_mem, T.get_put_ne _ _ _ _ (by omega)]; exact a4) a5
theorem move_mp {m : Nat} : oMove (.c (.mp m)) .leaf [] h = .val (.mp m) h := rfl
theorem lookup_rw {m n : Nat} {U : List Rw} {a b : Int} (hm : h.mem.get m = some (.map (ents U 0) n)) : oLookup (.agg [.int, .int]) (.int .i64 ((0 : Nat) : Int)) true (.c (.mp m)) (.c (.agg [.int .i64 a, .int .i64 b])) .leaf [] h =
    .val (.tup [.int .i64 ((if pos U a b < U.length then pos U a b else 0 : Nat) : Int), .bool (decide (pos U a b < U.length))]) h := by
  show onMapO (AH.get h m) (fun es _ => obind (keyEq (.agg [.int, .int]) (kv a b) (kv a b)) (F 55) fun _ => obind (find (.agg [.int, .int]) (kv a b) es) (F 55) fun r => Option.rec (motive := fun _ => OR) (bi true (OR.val (AV.tup [.int .i64 ((0 : Nat) : Int), AV.bool false]) h) (OR.val (.int .i64 ((0 : Nat) : Int)) h)) (fun v => bi true (OR.val (AV.tup [v, AV.bool true]) h) (OR.val v h)) r) = _
  rw [AH.get_eq, hm]
  show obind (keyEq (.agg [.int, .int]) (kv a b) (kv a b)) (F 55) (fun _ => obind (find (.agg [.int, .int]) (kv a b) (ents U 0)) (F 55) _) = _
  rw [keyEq_kv, obind_some, find_ents, obind_some, Nat.zero_add]
  by_cases hp : pos U a b < U.length
  · simp only [hp, if_true, decide_true]; rfl
  · simp only [hp, if_false, decide_false]; rfl
theorem mapUpd_rw {m : Nat} {U : List Rw} {s : Rw} (hm : h.mem.get m = some (.map (ents U 0) U.length)) (hp : pos U s.a s.b = U.length) : oMapUpd (.agg [.int, .int]) (.c (.mp m)) (.c (.agg [.int .i64 s.a, .int .i64 s.b])) (.c (.int .i64 (U.length : Int))) .leaf [] h =
    .val (.tup []) (h.set m (.map (ents (U ++ [s]) 0) (U ++ [s]).length)) := by
  show onMapO (AH.get h m) (fun es clock => obind (keyEq (.agg [.int, .int]) (kv s.a s.b) (kv s.a s.b)) (F 56) fun _ => obind (putE (.agg [.int, .int]) (kv s.a s.b) (.int .i64 (U.length : Int)) clock es) (F 56) fun p => Prod.rec (motive := fun _ => OR) (fun l b => OR.val (AV.tup []) (AH.set h m (AObj.map l (bi b (Nat.succ clock) clock)))) p) = _
  rw [AH.get_eq, hm]
  show obind (keyEq (.agg [.int, .int]) (kv s.a s.b) (kv s.a s.b)) (F 56) (fun _ => obind (putE (.agg [.int, .int]) (kv s.a s.b) (.int .i64 (U.length : Int)) U.length (ents U 0)) (F 56) _) = _
  have := put_ents (i := 0) hp
  rw [Nat.zero_add] at this
  rw [keyEq_kv, obind_some, this, obind_some, List.length_append]
  rfl
theorem store0 {s : Rw} : storeL (rl s) (ofList [.int .i64 ((0 : Nat) : Int), .int .i64 ((0 : Nat) : Int), .int .i64 ((0 : Nat) : Int), .int .i64 ((0 : Nat) : Int)]) 0 = some (putR s (ofList [.int .i64 ((0 : Nat) : Int), .int .i64 ((0 : Nat) : Int), .int .i64 ((0 : Nat) : Int), .int .i64 ((0 : Nat) : Int)]) 0) :=
  storeR (fun h => by cases h) (fun h => by cases h) (fun h => by cases h) (fun h => by cases h)
theorem R4.load2 {c : T AV} {k : Nat} {r : Rw} (x : R4 c k r) : loadL c 2 k = some [.int .i64 r.a, .int .i64 r.b] := loadL_succ x.a (loadL_succ x.b rfl)
end
section
variable {tab : Nat → Option AFunc} {h : AH}
/-- a row is sorted -/
theorem sort_nils (t : SortT tab) : GP tab 12 [.nils, .fn 13 [] []] h fun _ h1 => h1 = h := by
  have i0 : initLoc [.nils, .fn 13 [] []] = ofList [.nils, .fn 13 [] []] := rfl
  refine gp_of t.sort rfl ?_
  refine wc_seq (wc_opq fun Q1 hQ => ?_)
  simp (disch := omega) only [ER4, reduceIte, Nat.reduceEqDiff, Nat.reduceAdd, i0]
  refine hQ _ ?_
  clear hQ Q1
  refine wc_opq fun Q1 hQ => ?_
  simp (disch := omega) only [ER4, reduceIte, Nat.reduceEqDiff, Nat.reduceAdd, i0, wrap_u64n]
  refine (len_gp t.len t.len64 (x := 0) (by omega)).mono ?_
  rintro v h1 ⟨L, rfl, b1, b2, b3, rfl⟩
  have i1 : initLoc [.nils, .int .i64 ((0 : Nat) : Int), .int .i64 ((0 : Nat) : Int), .int .i64 (L : Int), .fn 13 [] []] = ofList [.nils, .int .i64 ((0 : Nat) : Int), .int .i64 ((0 : Nat) : Int), .int .i64 (L : Int), .fn 13 [] []] := rfl
  have i2 : initLoc [.nils, .int .i64 ((0 : Nat) : Int), .int .i64 ((0 : Nat) : Int), .fn 13 [] []] = ofList [.nils, .int .i64 ((0 : Nat) : Int), .int .i64 ((0 : Nat) : Int), .fn 13 [] []] := rfl
  have ins0 : GP tab 42 [.nils, .int .i64 ((0 : Nat) : Int), .int .i64 ((0 : Nat) : Int), .fn 13 [] []] h1 fun _ h2 => h2 = h1 := by
    refine gp_of t.ins rfl ?_
    refine wc_seq (wc_opq fun Q1 hQ => ?_)
    simp (disch := omega) only [ER4, reduceIte, Nat.reduceEqDiff, Nat.reduceAdd, i2]
    refine hQ _ ?_
    clear hQ Q1
    refine wc_block ?_
    refine wc_while (fun k l d h2 => h2 = h1 ∧ d = [] ∧ l.get 2 = some (.int .i64 ((0 : Nat) : Int)) ∧ l.get 4 = some (.int .i64 ((1 : Nat) : Int))) ?_ 0 ?_
    · rintro k l d h2 ⟨e, rfl, g2, g4⟩
      refine wc_seq ?_
      refine wc_seq (wc_opq fun Q1 hQ => ?_)
      simp (disch := omega) only [ER4, reduceIte, Nat.reduceEqDiff, Nat.reduceAdd, g2, g4]
      refine hQ _ ?_
      clear hQ Q1
      refine wc_no (by simp (disch := omega) only [ER4, reduceIte, Nat.reduceEqDiff, Nat.reduceAdd, Nat.not_lt_zero]) (wc_exit ?_)
      exact ⟨_, results_nil, e⟩
    · refine ⟨rfl, rfl, ?_, ?_⟩
      all_goals simp (disch := omega) only [ER4, reduceIte, Nat.reduceEqDiff, Nat.reduceAdd, i2]
  refine GP.mono (Q := fun _ h2 => h2 = h1) ?_ ?_
  · refine gp_of t.pdq rfl ?_
    refine wc_seq (wc_opq fun Q1 hQ => ?_)
    simp (disch := omega) only [ER4, reduceIte, Nat.reduceEqDiff, Nat.reduceAdd, i1]
    refine hQ _ ?_
    clear hQ Q1
    refine wc_seq (wc_opq fun Q1 hQ => ?_)
    simp (disch := omega) only [ER4, reduceIte, Nat.reduceEqDiff, Nat.reduceAdd, i1]
    refine hQ _ ?_
    clear hQ Q1
    refine wc_block ?_
    refine wc_while (fun k l d h2 => h1 = h2 ∧ d = [] ∧ l.get 0 = some .nils ∧ l.get 1 = some (.int .i64 ((0 : Nat) : Int)) ∧ l.get 2 = some (.int .i64 ((0 : Nat) : Int)) ∧ l.get 4 = some (.fn 13 [] [])) ?_ 0 ?_
    · rintro k l d h2 ⟨rfl, rfl, g0, g1, g2, g4⟩
      refine wc_block ?_
      refine wc_seq (wc_opq fun Q1 hQ => ?_)
      simp (disch := omega) only [ER4, reduceIte, Nat.reduceEqDiff, Nat.reduceAdd, g1, g2]
      refine hQ _ ?_
      clear hQ Q1
      refine wc_seq ?_
      refine wc_seq (wc_opq fun Q1 hQ => ?_)
      simp (disch := omega) only [ER4, reduceIte, Nat.reduceEqDiff, Nat.reduceAdd]
      refine hQ _ ?_
      clear hQ Q1
      refine wc_yes (by simp (disch := omega) only [ER4, reduceIte, Nat.reduceEqDiff, Nat.reduceAdd, Nat.sub_self, Nat.zero_le]) ?_
      refine wc_seq (wc_opq fun Q1 hQ => ?_)
      simp (disch := omega) only [ER4, reduceIte, Nat.reduceEqDiff, Nat.reduceAdd, g0, g1, g2, g4]
      refine ins0.mono ?_
      rintro v h3 rfl
      refine hQ _ ?_
      clear hQ Q1
      exact wc_ret ⟨_, results_nil, rfl⟩
    · refine ⟨rfl, rfl, ?_, ?_, ?_, ?_⟩
      all_goals simp (disch := omega) only [ER4, reduceIte, Nat.reduceEqDiff, Nat.reduceAdd, i1]
  · rintro v h2 rfl
    refine hQ _ ?_
    exact ⟨_, results_nil, rfl⟩
end
end Go.Ev

namespace Go.Ev
open Go
set_option linter.unusedSimpArgs false
set_option linter.unusedVariables false
set_option maxRecDepth 100000
set_option maxHeartbeats 4000000
def d0 : Rw := ⟨0, 0, 0, 0⟩
section
variable {tab : Nat → Option AFunc} {h : AH}
theorem sort_own (t : SortT tab) {b : Nat} {v : AV} {xs : List Rw} (own : OwnR h b v xs) (hv : xs = [] → v = .nils) (hl : xs.length < 1000000) :
    GP tab 12 [v, .fn 13 [] []] h fun _ h1 => ∃ g : Nat → Rw, OwnR h1 b v ((List.range xs.length).map g) ∧ PermOn 0 xs.length (fun i => xs.getD i d0) g ∧ Rises ltR 0 xs.length g ∧ Keep b h h1 := by
  rcases Nat.eq_zero_or_pos xs.length with h0 | h0
  · obtain rfl := List.length_eq_zero_iff.1 h0
    obtain rfl := hv rfl
    refine (sort_nils t).mono ?_
    rintro _ h1 rfl
    exact ⟨_, .nils, PermOn.refl, fun i j _ _ hj => absurd hj (Nat.not_lt_zero _), Keep.refl _ _⟩
  · obtain ⟨id, c, rfl, b1, b2, hg, hx⟩ := own.open h0
    refine (sort_gp t (n := xs.length) (f := fun i => xs.getD i d0) (by omega) b2 hg fun i hi => ?_).mono ?_
    · have := hx i hi
      rw [Nat.zero_add]
      simpa [List.getD, List.getElem?_eq_getElem hi] using this
    · rintro _ h1 ⟨g, sg, pm, ri⟩
      obtain ⟨c1, g1, g2, g3⟩ := sg.row4
      have e : xs.length = ((List.range xs.length).map g).length := by simp
      refine ⟨g, ?_, pm, ri, sg.more.keepAt (Nat.le_of_lt (Nat.lt_of_le_of_lt b1 b2)) b1⟩
      have key : ∀ v, v = AV.sl id 0 xs.length (.rest 4) → v = AV.sl id 0 ((List.range xs.length).map g).length (.rest 4) := fun v hv => by rw [hv, ← e]
      rw [key _ rfl]
      refine .sl (fun h => by rw [h] at e; have e3 : xs.length = 0 := e; omega) b1 (Nat.lt_of_lt_of_le b2 sg.more.next) (by rw [← e]; exact g1) fun i hi => ?_
      have hi' : i < xs.length := by rw [e]; exact hi
      have := g2 i hi'
      rw [Nat.zero_add] at this
      simpa using this
theorem MoreBut.keeps {m : Nat} {a b c : AH} (x : MoreBut m a b) (y : Keep a.next b c) : MoreBut m a c := ⟨Nat.le_trans x.next y.next, fun k k1 k2 => by rw [y.keep k k1]; exact x.keep k k1 k2⟩
theorem len_foldl_upd : ∀ (L U : List Rw), (L.foldl upd U).length ≤ U.length + L.length
  | [], _ => Nat.le_refl _
  | s :: L, U => by
    have := len_foldl_upd L (upd U s)
    have h2 : (upd U s).length ≤ U.length + 1 := by
      rcases Nat.lt_or_ge (pos U s.a s.b) U.length with h | h
      · rw [upd_in h, List.length_set]; omega
      · rw [upd_out (Nat.le_antisymm pos_le h), List.length_append]; exact Nat.le_refl _
    simp only [List.foldl_cons, List.length_cons]
    omega
theorem sjoin_gp (tj : tab 6 = some af6) (tc : tab 11 = some af11) (tg : tab 25 = some af25) (ts : SortT tab) {va vb : AV} {A B : List Rw} (ra : RdS h va A) (rb : RdS h vb B) (hA : A.length ≤ 1000) (hB : B.length ≤ 1000) :
    GP tab 6 [va, vb] h fun v h1 => OwnR h1 h.next v ((A ++ B).foldl ins []) ∧ More h h1 := by
  have i0 : initLoc [va, vb] = ofList [va, vb] := rfl
  have mova := ra.mvv
  have movb := rb.mvv
  have cla := ra.cells
  have clb := rb.cells
  refine gp_of tj rfl ?_
  refine wc_seq (wc_opq fun Q1 hQ => ?_)
  simp (disch := omega) only [ER4, reduceIte, Nat.reduceEqDiff, Nat.reduceAdd]
  refine hQ _ ?_
  clear hQ Q1
  refine wc_seq (wc_opq fun Q1 hQ => ?_)
  simp (disch := omega) only [ER4, reduceIte, Nat.reduceEqDiff, Nat.reduceAdd, op_mkMap, move_mp]
  refine hQ _ ?_
  clear hQ Q1
  refine wc_seq (wc_opq fun Q1 hQ => ?_)
  simp (disch := omega) only [ER4, reduceIte, Nat.reduceEqDiff, Nat.reduceAdd]
  refine hQ _ ?_
  clear hQ Q1
  have gm0 : (h.add (.map [] 0)).mem.get h.next = some (.map (ents [] 0) ([] : List Rw).length) := by rw [AH.add_mem, T.get_put_self]; rfl
  have mo0 : More h (h.add (.map [] 0)) := More.add _ _
  have lt0 : h.next < (h.add (.map [] 0)).next := Nat.lt_succ_self _
  generalize (h.add (.map [] 0)) = hm at *
  have hAB : (A ++ B).length ≤ 2000 := by rw [List.length_append]; omega
  refine wc_mid (fun l d h1 => ∃ U vo, U = (A ++ B).foldl upd [] ∧ d = [] ∧ l.get 10 = some vo ∧ OwnR h1 h.next vo U ∧ (U = [] → vo = .nils) ∧ More h h1) ?_ ?_
  · refine wc_seq (wc_opq fun Q1 hQ => ?_)
    simp (disch := omega) only [ER4, reduceIte, Nat.reduceEqDiff, Nat.reduceAdd, i0, mova, movb, cla, clb, Nat.reduceLeDiff]
    have gs : (hm.add (.cells (ofList [va, vb]) 2 false false)).mem.get hm.next = some (.cells (ofList [va, vb]) 2 false false) := by rw [AH.add_mem, T.get_put_self]
    have mo1 : More hm (hm.add (.cells (ofList [va, vb]) 2 false false)) := More.add _ _
    have lt1 : hm.next < (hm.add (.cells (ofList [va, vb]) 2 false false)).next := Nat.lt_succ_self _
    generalize (hm.add (.cells (ofList [va, vb]) 2 false false)) = hs at *
    refine (concat_gp tc tg ((ra.more mo0).more mo1) ((rb.more mo0).more mo1) lt1 gs rfl rfl hA hB).mono ?_
    rintro vc hC ⟨ownC, mo2⟩
    have lenc := ownC.len
    have mvc : ∀ h', oMove (.c vc) .leaf [] h' = .val vc h' := fun h' => move_mv ownC.mv
    simp (disch := omega) only [ER4, reduceIte, Nat.reduceEqDiff, Nat.reduceAdd, lenc, mvc]
    refine hQ _ ?_
    clear hQ Q1
    have gmC : hC.mem.get h.next = some (.map (ents [] 0) ([] : List Rw).length) := by rw [mo2.keep _ (Nat.lt_trans lt0 lt1 |> fun _ => Nat.lt_of_lt_of_le lt0 mo1.next), mo1.keep _ lt0]; exact gm0
    have moC : More h hC := (mo0.trans mo1).trans mo2
    have ltC : h.next < hC.next := Nat.lt_of_lt_of_le lt0 (mo1.trans mo2).next
    generalize hL : A ++ B = L at *
    refine wc_block ?_
    refine wc_while (fun k l d h2 => ∃ (i : Nat) (U : List Rw) (vo : AV), k = L.length - i ∧ i ≤ L.length ∧ U = (L.take i).foldl upd [] ∧ d = [] ∧ l.get 2 = some (.int .i64 (i : Int)) ∧ l.get 3 = some (.int .i64 (L.length : Int)) ∧ l.get 5 = some vc ∧ l.get 6 = some (.mp h.next) ∧ l.get 10 = some vo ∧
      OwnR h2 hC.next vo U ∧ (U = [] → vo = .nils) ∧ MoreBut h.next hC h2 ∧ h2.mem.get h.next = some (.map (ents U 0) U.length)) ?_ (L.length - 0) ?_
    · rintro k l d h2 ⟨i, U, vo, hk, hi, eU, rfl, g2, g3, g5, g6, g10, own, hvo, mb, gm⟩
      refine wc_seq (wc_opq fun Q1 hQ => ?_)
      simp (disch := omega) only [ER4, reduceIte, Nat.reduceEqDiff, Nat.reduceAdd, g2, g3]
      refine hQ _ ?_
      clear hQ Q1
      refine wc_seq (wc_if (i < L.length) (by simp (disch := omega) only [ER4, reduceIte, Nat.reduceEqDiff, Nat.reduceAdd]) (fun hlt => ?_) (fun hge => ?_))
      · refine wc_skip ?_
        have hUl : U.length ≤ 2000 := by
          have := len_foldl_upd (L.take i) []
          rw [← eU] at this
          simp only [List.length_nil, List.length_take] at this
          omega
        obtain ⟨idc, cc, evc, b1, b2, gc, hcx⟩ := ownC.open (by omega)
        have gc2 : h2.mem.get idc = some (.cells cc (L.length * 4) true false) := by rw [mb.keep _ b2 (by have := mo1.next; omega)]; exact gc
        have ld := (hcx i hlt).load
        have hU2 : (L.take (i + 1)).foldl upd [] = upd U L[i] := by
          rw [List.take_add_one, List.getElem?_eq_getElem hlt, Option.toList_some, List.foldl_append, ← eU]
          rfl
        generalize L[i] = s at *
        refine wc_mid (fun l d h3 => ∃ (vo : AV), d = [] ∧ l.get 2 = some (.int .i64 (i : Int)) ∧ l.get 3 = some (.int .i64 (L.length : Int)) ∧ l.get 5 = some vc ∧ l.get 6 = some (.mp h.next) ∧ l.get 10 = some vo ∧
          OwnR h3 hC.next vo (upd U s) ∧ (upd U s = [] → vo = .nils) ∧ MoreBut h.next hC h3 ∧ h3.mem.get h.next = some (.map (ents (upd U s) 0) (upd U s).length)) ?_ ?_
        · refine wc_block ?_
          refine wc_seq (wc_opq fun Q1 hQ => ?_)
          simp (disch := omega) only [ER4, reduceIte, Nat.reduceEqDiff, Nat.reduceAdd, g2, g5, evc, gc2, ld, store0]
          refine hQ _ ?_
          clear hQ Q1
          have gp3 : ((h2.add (.cells (ofList [.int .i64 ((0 : Nat) : Int), .int .i64 ((0 : Nat) : Int), .int .i64 ((0 : Nat) : Int), .int .i64 ((0 : Nat) : Int)]) 4 false false)).set h2.next (.cells (putR s (ofList [.int .i64 ((0 : Nat) : Int), .int .i64 ((0 : Nat) : Int), .int .i64 ((0 : Nat) : Int), .int .i64 ((0 : Nat) : Int)]) 0) 4 false false)).mem.get h2.next = some (.cells (putR s (ofList [.int .i64 ((0 : Nat) : Int), .int .i64 ((0 : Nat) : Int), .int .i64 ((0 : Nat) : Int), .int .i64 ((0 : Nat) : Int)]) 0) 4 false false) := AH.get_set
          have rp : R4 (putR s (ofList [.int .i64 ((0 : Nat) : Int), .int .i64 ((0 : Nat) : Int), .int .i64 ((0 : Nat) : Int), .int .i64 ((0 : Nat) : Int)]) 0) 0 s := R4.put
          have mo3 : More h2 ((h2.add (.cells (ofList [.int .i64 ((0 : Nat) : Int), .int .i64 ((0 : Nat) : Int), .int .i64 ((0 : Nat) : Int), .int .i64 ((0 : Nat) : Int)]) 4 false false)).set h2.next (.cells (putR s (ofList [.int .i64 ((0 : Nat) : Int), .int .i64 ((0 : Nat) : Int), .int .i64 ((0 : Nat) : Int), .int .i64 ((0 : Nat) : Int)]) 0) 4 false false)) := ⟨by rw [AH.set_next, AH.add_next]; omega, fun k hk => by rw [AH.set_mem, T.get_put_ne _ _ _ _ (by omega), AH.add_mem, T.get_put_ne _ _ _ _ (by omega)]⟩
          have lt3 : h2.next < ((h2.add (.cells (ofList [.int .i64 ((0 : Nat) : Int), .int .i64 ((0 : Nat) : Int), .int .i64 ((0 : Nat) : Int), .int .i64 ((0 : Nat) : Int)]) 4 false false)).set h2.next (.cells (putR s (ofList [.int .i64 ((0 : Nat) : Int), .int .i64 ((0 : Nat) : Int), .int .i64 ((0 : Nat) : Int), .int .i64 ((0 : Nat) : Int)]) 0) 4 false false)).next := by rw [AH.set_next, AH.add_next]; omega
          generalize ((h2.add (.cells (ofList [.int .i64 ((0 : Nat) : Int), .int .i64 ((0 : Nat) : Int), .int .i64 ((0 : Nat) : Int), .int .i64 ((0 : Nat) : Int)]) 4 false false)).set h2.next _) = h3 at *
          generalize putR s (ofList [.int .i64 ((0 : Nat) : Int), .int .i64 ((0 : Nat) : Int), .int .i64 ((0 : Nat) : Int), .int .i64 ((0 : Nat) : Int)]) 0 = cp at *
          have l4 := rp.load
          have l2 := rp.load2
          have lm : h.next < h2.next := Nat.lt_of_lt_of_le ltC mb.next
          have gm3 : h3.mem.get h.next = some (.map (ents U 0) U.length) := by rw [mo3.keep _ lm]; exact gm
          have own3 := own.more mo3
          have mb3 : MoreBut h.next hC h3 := mb.trans (mo3.but _)
          have lk := fun a b => lookup_rw (a := a) (b := b) gm3
          have lk := lk s.a s.b
          refine wc_seq (wc_opq fun Q1 hQ => ?_)
          simp (disch := omega) only [ER4, reduceIte, Nat.reduceEqDiff, Nat.reduceAdd, g6, gp3, l2, op_lookup, move_mp, lk, mvt, xt0 mvi, xt1 mvb]
          refine hQ _ ?_
          clear hQ Q1
          have mvo : ∀ h', oMove (.c vo) .leaf [] h' = .val vo h' := fun h' => move_mv own.mv
          have lno := own.len
          refine wc_seq ?_
          refine wc_seq (wc_opq fun Q1 hQ => ?_)
          simp (disch := omega) only [ER4, reduceIte, Nat.reduceEqDiff, Nat.reduceAdd]
          refine hQ _ ?_
          clear hQ Q1
          refine wc_cond (q := !decide (pos U s.a s.b < U.length)) (by simp (disch := omega) only [ER4, reduceIte, Nat.reduceEqDiff, Nat.reduceAdd]) (fun hp => ?_) (fun hp => ?_)
          · have hp : pos U s.a s.b = U.length := by
              have : ¬ pos U s.a s.b < U.length := by simpa using hp
              have := pos_le (l := U) (a := s.a) (b := s.b)
              omega
            rw [upd_out hp]
            have mu := mapUpd_rw gm3 hp
            refine wc_seq (wc_opq fun Q1 hQ => ?_)
            simp (disch := omega) only [ER4, reduceIte, Nat.reduceEqDiff, Nat.reduceAdd, g6, g10, gp3, l2, mvo, lno, op_mapUpd, move_mp, mu]
            refine hQ _ ?_
            clear hQ Q1
            have own4 := own3.other ltC (.map (ents (U ++ [s]) 0) (U ++ [s]).length)
            have gp4 : (h3.set h.next (.map (ents (U ++ [s]) 0) (U ++ [s]).length)).mem.get h2.next = some (.cells cp 4 false false) := by rw [AH.set_mem, T.get_put_ne _ _ _ _ (by omega)]; exact gp3
            have gm4 : (h3.set h.next (.map (ents (U ++ [s]) 0) (U ++ [s]).length)).mem.get h.next = some (.map (ents (U ++ [s]) 0) (U ++ [s]).length) := AH.get_set
            have mb4 := mb3.set (.map (ents (U ++ [s]) 0) (U ++ [s]).length)
            generalize h3.set h.next (.map (ents (U ++ [s]) 0) (U ++ [s]).length) = h4 at *
            have own5 := own4.more (More.add h4 (.cells (ofList (rl s)) 4 false false))
            have src : SrcR (h4.add (.cells (ofList (rl s)) 4 false false)) (.sl h4.next 0 1 (.known 1)) [s] := srcs (xs := [s]) (off := 0) (by rw [AH.add_mem, T.get_put_self]) fun i hi => by
              obtain rfl : i = 0 := by simp at hi; omega
              exact ⟨rfl, rfl, rfl, rfl⟩
            obtain ⟨v', h5, e5, own6, kp5, ks5, _⟩ := own5.appendN src (by rw [AH.add_next]; have := mb4.next; omega) (by simp; omega)
            have hv5 : v'.mv = true := own6.mv
            have mv5 : ∀ h', oMove (.c v') .leaf [] h' = .val v' h' := fun h' => move_mv hv5
            refine wc_seq (wc_opq fun Q1 hQ => ?_)
            simp (disch := omega) only [ER4, reduceIte, Nat.reduceEqDiff, Nat.reduceAdd, g10, gp4, l4, mvo, Nat.reduceLeDiff, e5, mv5]
            refine hQ _ ?_
            clear hQ Q1
            have mb5 := (mb4.trans ((More.add h4 (.cells (ofList (rl s)) 4 false false)).but _)).keeps kp5
            refine wc_exit ⟨v', rfl, ?_, ?_, ?_, ?_, ?_, own6, fun e => by simp at e, mb5, ?_⟩
            · simp (disch := omega) only [ER4, reduceIte, Nat.reduceEqDiff, Nat.reduceAdd, g2]
            · simp (disch := omega) only [ER4, reduceIte, Nat.reduceEqDiff, Nat.reduceAdd, g3]
            · simp (disch := omega) only [ER4, reduceIte, Nat.reduceEqDiff, Nat.reduceAdd, g5]
            · simp (disch := omega) only [ER4, reduceIte, Nat.reduceEqDiff, Nat.reduceAdd, g6]
            · simp (disch := omega) only [ER4, reduceIte, Nat.reduceEqDiff, Nat.reduceAdd]
            · rw [kp5.keep _ ltC, AH.add_mem, T.get_put_ne _ _ _ _ (by have := mb4.next; omega)]
              exact gm4
          · have hp : pos U s.a s.b < U.length := by simpa using hp
            rw [upd_in hp]
            obtain ⟨ido, co, evo, o1, o2, go, hxo⟩ := own3.open (by omega)
            have q := hxo _ hp
            have qc : co.get (pos U s.a s.b * 4 + 2) = some (.int .i64 U[pos U s.a s.b].c) := q.c
            have qd : co.get (pos U s.a s.b * 4 + 3) = some (.int .i64 U[pos U s.a s.b].d) := q.d
            have pc : cp.get 2 = some (.int .i64 s.c) := rp.c
            have pd : cp.get 3 = some (.int .i64 s.d) := rp.d
            have hne : ido ≠ h2.next := by
              rw [evo] at own
              have := own.open (by omega)
              obtain ⟨ido', _, e', _, o2', _⟩ := this
              injection e' with e1
              omega
            have hpu := pos_at hp
            have es0 := ents_set (l := U) (i := 0) hp (x := mrg U[pos U s.a s.b] s) rfl rfl
            refine wc_skip ?_
            have up := fun X => OwnR.upd (X := X) (y := if U[pos U s.a s.b].c < s.c then s.c else U[pos U s.a s.b].c) (z := IntKind.i64.wrap (U[pos U s.a s.b].d + s.d)) hp o1 o2 hxo
            have em : mrg U[pos U s.a s.b] s = ⟨U[pos U s.a s.b].a, U[pos U s.a s.b].b, if U[pos U s.a s.b].c < s.c then s.c else U[pos U s.a s.b].c, IntKind.i64.wrap (U[pos U s.a s.b].d + s.d)⟩ := rfl
            rw [← em] at up
            generalize mrg U[pos U s.a s.b] s = ms at *
            generalize U[pos U s.a s.b] = u at *
            generalize hj : pos U s.a s.b = j at *
            refine wc_opq fun Q1 hQ => ?_
            simp (disch := omega) only [ER4, reduceIte, Nat.reduceEqDiff, Nat.reduceAdd, g10, evo, hp, go, gp3, qc, qd, pc, pd, hne]
            refine hQ _ ?_
            clear hQ Q1
            have hms : (U.set j ms).length = U.length := by simp
            refine ⟨.sl ido 0 U.length (.rest 4), rfl, ?_, ?_, ?_, ?_, ?_, up _, fun e => ?_, (mb3.keeps ((Keep.refl _ _).set o1 _)).keeps ((Keep.refl _ _).set o1 _), ?_⟩
            · simp (disch := omega) only [ER4, reduceIte, Nat.reduceEqDiff, Nat.reduceAdd, g2]
            · simp (disch := omega) only [ER4, reduceIte, Nat.reduceEqDiff, Nat.reduceAdd, g3]
            · simp (disch := omega) only [ER4, reduceIte, Nat.reduceEqDiff, Nat.reduceAdd, g5]
            · simp (disch := omega) only [ER4, reduceIte, Nat.reduceEqDiff, Nat.reduceAdd, g6]
            · simp (disch := omega) only [ER4, reduceIte, Nat.reduceEqDiff, Nat.reduceAdd, g10, evo]
            · have e2 := congrArg List.length e
              rw [hms, List.length_nil] at e2
              omega
            · rw [AH.set_mem, T.get_put_ne _ _ _ _ (by omega), AH.set_mem, T.get_put_ne _ _ _ _ (by omega), es0, hms]
              exact gm3
        · clear own hvo mb gm gc2 g2 g3 g5 g6 g10
          rintro l d h3 ⟨vo, rfl, g2, g3, g5, g6, g10, own, hvo, mb, gm⟩
          refine wc_opq fun Q1 hQ => ?_
          simp (disch := omega) only [ER4, reduceIte, Nat.reduceEqDiff, Nat.reduceAdd, g2]
          refine hQ _ ?_
          clear hQ Q1
          refine ⟨L.length - (i + 1), by omega, i + 1, _, vo, rfl, by omega, hU2.symm, rfl, ?_, ?_, ?_, ?_, ?_, own, hvo, mb, gm⟩
          · simp (disch := omega) only [ER4, reduceIte, Nat.reduceEqDiff, Nat.reduceAdd]
          · simp (disch := omega) only [ER4, reduceIte, Nat.reduceEqDiff, Nat.reduceAdd, g3]
          · simp (disch := omega) only [ER4, reduceIte, Nat.reduceEqDiff, Nat.reduceAdd, g5]
          · simp (disch := omega) only [ER4, reduceIte, Nat.reduceEqDiff, Nat.reduceAdd, g6]
          · simp (disch := omega) only [ER4, reduceIte, Nat.reduceEqDiff, Nat.reduceAdd, g10]
      · obtain rfl : i = L.length := by omega
        rw [List.take_length] at eU
        have hb : h.next ≤ hC.next := Nat.le_of_lt ltC
        refine wc_exit ⟨U, vo, eU, rfl, ?_, own.less hb, hvo, ⟨Nat.le_trans hb mb.next, fun k hk => by rw [mb.keep k (by omega) (by omega)]; exact moC.keep k hk⟩⟩
        simp (disch := omega) only [ER4, reduceIte, Nat.reduceEqDiff, Nat.reduceAdd, g10]
    · refine ⟨0, [], .nils, rfl, by omega, rfl, rfl, ?_, ?_, ?_, ?_, ?_, .nils, fun _ => rfl, MoreBut.refl _ _, gmC⟩
      all_goals simp (disch := omega) only [ER4, reduceIte, Nat.reduceEqDiff, Nat.reduceAdd]
  · rintro l d h1 ⟨U, vo, eU, rfl, g10, own, hvo, mo⟩
    have mvo : ∀ h', oMove (.c vo) .leaf [] h' = .val vo h' := fun h' => move_mv own.mv
    have hUl : U.length ≤ 2000 := by
      have := len_foldl_upd (A ++ B) []
      rw [← eU, List.length_nil] at this
      omega
    refine wc_seq (wc_opq fun Q1 hQ => ?_)
    simp (disch := omega) only [ER4, reduceIte, Nat.reduceEqDiff, Nat.reduceAdd, g10, mvo]
    refine (sort_own ts own hvo (by omega)).mono ?_
    rintro _ h2 ⟨g, own2, pm, ri, kp⟩
    refine hQ _ ?_
    clear hQ Q1
    have mv2 : ∀ h', oMove (.c vo) .leaf [] h' = .val vo h' := fun h' => move_mv own2.mv
    refine wc_seq (wc_opq fun Q1 hQ => ?_)
    simp (disch := omega) only [ER4, reduceIte, Nat.reduceEqDiff, Nat.reduceAdd, g10, mv2]
    refine hQ _ ?_
    clear hQ Q1
    refine wc_ret ⟨_, results_val results_nil, ?_, ⟨Nat.le_trans mo.next kp.next, fun k hk => by rw [kp.keep k hk, mo.keep k hk]⟩⟩
    simp (disch := omega) only [ER4, reduceIte, Nat.reduceEqDiff, Nat.reduceAdd, one_one]
    rw [← join_law (by rw [← eU]) (by rw [← eU]; exact pm) ri]
    exact own2
end
end Go.Ev

namespace Go.Ev
open Go
set_option linter.unusedSimpArgs false
set_option linter.unusedVariables false
set_option maxRecDepth 100000
set_option maxHeartbeats 4000000
section
variable {h : AH}
theorem gb_tup {l : List AV} {want : Bool} : gv (.tup l) want = some false := rfl
theorem OwnR.appendE {src : AV} {id off : Nat} {ys : List Rw} (hs : SrcR h src ys) (hx : ys.length < 1000000) :
    ∃ v' h', oAppend 4 32 (.c (.sl id off 0 (.known 0))) (.c src) .leaf [] h = .val v' h' ∧ OwnR h' h.next v' ys ∧ More h h' := by
  obtain ⟨v', h', e, own, kp, ks, _⟩ := OwnR.appendN (h := h) (b := h.next) (v := .sl id off 0 (.known 0)) .emp hs (Nat.le_refl _) (by simpa using hx)
  exact ⟨v', h', e, own, kp.more⟩
theorem Keep.more2 {a b c : AH} (x : More a b) (y : Keep b.next b c) : More a c := x.trans y.more
end
section
variable {tab : Nat → Option AFunc} {h : AH}
theorem len_foldl_ins : ∀ (L U : List Rw), (L.foldl ins U).length ≤ U.length + L.length
  | [], _ => Nat.le_refl _
  | s :: L, U => by
    have := len_foldl_ins L (ins U s)
    have h2 : (ins U s).length ≤ U.length + 1 := by
      by_cases hk : ∃ h : posL U s < U.length, same2 U[posL U s] s.a s.b
      · obtain ⟨h1, h2⟩ := hk
        rw [insr_in h1 h2, List.length_set]; omega
      · rw [insr_out fun h1 h2 => hk ⟨h1, h2⟩, List.length_append, List.length_cons, List.length_take, List.length_drop]; omega
    simp only [List.foldl_cons, List.length_cons]
    omega
theorem rjoin_gp (tj : tab 7 = some af7) {va vb : AV} {A B : List Rw} (ra : RdS h va A) (rb : RdS h vb B) (hA : A.length ≤ 1000) (hB : B.length ≤ 1000) :
    GP tab 7 [va, vb] h fun v h1 => OwnR h1 h.next v ((A ++ B).foldl ins []) ∧ More h h1 := by
  have i0 : initLoc [va, vb] = ofList [va, vb] := rfl
  have mova := ra.mvv
  have movb := rb.mvv
  refine gp_of tj rfl ?_
  refine wc_seq (wc_opq fun Q1 hQ => ?_)
  simp (disch := omega) only [ER4, reduceIte, Nat.reduceEqDiff, Nat.reduceAdd]
  refine hQ _ ?_
  clear hQ Q1
  have mo1 : More h (h.add (.cells (ofList []) 0 false false)) := More.add _ _
  obtain ⟨v1, h1, e1, own1, mo2⟩ := OwnR.appendE (id := h.next) (off := 0) (ra.src _ mo1) (by omega)
  obtain ⟨vl, hL, e2, ownL, kp2, _, _⟩ := own1.appendN (rb.src _ (mo1.trans mo2)) mo2.next (by omega)
  have lnE : h.next < (h.add (.cells (ofList []) 0 false false)).next := Nat.lt_succ_self _
  have moL : More h hL := ⟨Nat.le_trans (Nat.le_of_lt lnE) (Nat.le_trans mo2.next kp2.next), fun k hk => by rw [kp2.keep k (by omega), mo2.keep k (by omega), mo1.keep k hk]⟩
  have mvl : ∀ h', oMove (.c vl) .leaf [] h' = .val vl h' := fun h' => move_mv ownL.mv
  have lenl := ownL.len
  refine wc_seq (wc_opq fun Q1 hQ => ?_)
  simp (disch := omega) only [ER4, reduceIte, Nat.reduceEqDiff, Nat.reduceAdd, i0, mova, movb, e1, e2, Nat.reduceLeDiff, mvl]
  refine hQ _ ?_
  clear hQ Q1
  have hAB : (A ++ B).length ≤ 2000 := by rw [List.length_append]; omega
  generalize A ++ B = L at *
  clear e1 e2 own1 mova movb kp2 mo2
  refine wc_seq (wc_opq fun Q1 hQ => ?_)
  simp (disch := omega) only [ER4, reduceIte, Nat.reduceEqDiff, Nat.reduceAdd, Nat.reduceLeDiff]
  refine hQ _ ?_
  clear hQ Q1
  have moH : More hL (hL.add (.cells (ofList []) 0 false false)) := More.add _ _
  have ltH : hL.next < (hL.add (.cells (ofList []) 0 false false)).next := Nat.lt_succ_self _
  generalize (hL.add (.cells (ofList []) 0 false false)) = hH at *
  refine wc_mid (fun l d h2 => ∃ vo, d = [] ∧ l.get 6 = some vo ∧ OwnR h2 hL.next vo (L.foldl ins []) ∧ More hL h2) ?_ ?_
  · refine wc_seq (wc_opq fun Q1 hQ => ?_)
    simp (disch := omega) only [ER4, reduceIte, Nat.reduceEqDiff, Nat.reduceAdd]
    refine hQ _ ?_
    clear hQ Q1
    refine wc_block ?_
    refine wc_while (fun k l d h2 => ∃ (i : Nat) (I : List Rw) (vo : AV), k = L.length - i ∧ i ≤ L.length ∧ I = (L.take i).foldl ins [] ∧ d = [] ∧ l.get 2 = some (.int .i64 (i : Int)) ∧ l.get 3 = some vl ∧ l.get 6 = some vo ∧ OwnR h2 hL.next vo I ∧ More hL h2) ?_ (L.length - 0) ?_
    · rintro k l d h2 ⟨i, I, vo, hk, hi, eI, rfl, g2, g3, g6, own, mo⟩
      refine wc_seq ?_
      refine wc_seq (wc_opq fun Q1 hQ => ?_)
      simp (disch := omega) only [ER4, reduceIte, Nat.reduceEqDiff, Nat.reduceAdd, g2, g3, mvl, lenl]
      refine hQ _ ?_
      clear hQ Q1
      refine wc_if (i < L.length) (by simp (disch := omega) only [ER4, reduceIte, Nat.reduceEqDiff, Nat.reduceAdd]) (fun hlt => ?_) (fun hge => ?_)
      · refine wc_skip ?_
        have hIl : I.length ≤ 2000 := by
          have := len_foldl_ins (L.take i) []
          rw [← eI] at this
          simp only [List.length_nil, List.length_take] at this
          omega
        obtain ⟨idl, cl, evl, b1, b2, gl, hlx⟩ := ownL.open (by omega)
        have gl2 : h2.mem.get idl = some (.cells cl (L.length * 4) true false) := by rw [mo.keep _ b2]; exact gl
        have ql := hlx i hlt
        have hI2 : (L.take (i + 1)).foldl ins [] = ins I L[i] := by
          rw [List.take_add_one, List.getElem?_eq_getElem hlt, Option.toList_some, List.foldl_append, ← eI]
          rfl
        generalize L[i] = s at *
        have sa : cl.get (i * 4) = some (.int .i64 s.a) := ql.a
        have sb : cl.get (i * 4 + 1) = some (.int .i64 s.b) := ql.b
        have sc : cl.get (i * 4 + 2) = some (.int .i64 s.c) := ql.c
        have sd : cl.get (i * 4 + 3) = some (.int .i64 s.d) := ql.d
        have s4 := ql.load
        have s2 := ql.load2
        have mvo : ∀ h', oMove (.c vo) .leaf [] h' = .val vo h' := fun h' => move_mv own.mv
        have leno := own.len
        refine wc_mid (fun l d h3 => ∃ vo, d = [] ∧ l.get 2 = some (.int .i64 (i : Int)) ∧ l.get 3 = some vl ∧ l.get 6 = some vo ∧ OwnR h3 hL.next vo (ins I s) ∧ More hL h3) ?_ ?_
        · refine wc_block ?_
          refine wc_seq (wc_opq fun Q1 hQ => ?_)
          simp (disch := omega) only [ER4, reduceIte, Nat.reduceEqDiff, Nat.reduceAdd]
          refine hQ _ ?_
          clear hQ Q1
          refine wc_mid (fun l d h3 => h2 = h3 ∧ d = [] ∧ l.get 2 = some (.int .i64 (i : Int)) ∧ l.get 3 = some vl ∧ l.get 5 = some (.int .i64 (posL I s : Int)) ∧ l.get 6 = some vo) ?_ ?_
          · refine wc_block ?_
            refine wc_while (fun k l d h3 => ∃ j : Nat, k = I.length - j ∧ j ≤ I.length ∧ (∀ x (hx : x < I.length), x < j → ltR I[x] s = true) ∧ h2 = h3 ∧ d = [] ∧ l.get 2 = some (.int .i64 (i : Int)) ∧ l.get 3 = some vl ∧ l.get 5 = some (.int .i64 (j : Int)) ∧ l.get 6 = some vo) ?_ (I.length - 0) ?_
            · clear g2 g3 g6
              rintro k l d h3 ⟨j, hkj, hj, hlo, rfl, rfl, g2, g3, g5, g6⟩
              have pj : ∀ (hx : j < I.length), ltR I[j] s = false → posL I s = j := fun hx hf => by
                rcases Nat.lt_trichotomy (posL I s) j with h | h | h
                · have h1 := posL_at (l := I) (s := s) (by omega)
                  rw [hlo _ (by omega) h] at h1; cases h1
                · exact h
                · rw [posL_lt hx h] at hf; cases hf
              refine wc_seq ?_
              by_cases hjl : j < I.length
              · obtain ⟨ido, co, evo, o1, o2, go, hox⟩ := own.open (by omega)
                have q := hox j hjl
                have hlj := hlo
                have pj := pj hjl
                generalize hu : I[j] = u at *
                have ua : co.get (j * 4) = some (.int .i64 u.a) := q.a
                have ub : co.get (j * 4 + 1) = some (.int .i64 u.b) := q.b
                refine wc_mid (fun l d h3 => h2 = h3 ∧ d = [] ∧ l.get 2 = some (.int .i64 (i : Int)) ∧ l.get 3 = some vl ∧ l.get 5 = some (.int .i64 (j : Int)) ∧ l.get 6 = some vo ∧ l.get 7 = some (.bool (ltR u s))) ?_ ?_
                · by_cases h1 : u.a < s.a
                  · have e : ltR u s = true := by rw [ltR_iff]; exact .inl h1
                    refine wc_opq fun Q1 hQ => ?_
                    simp (disch := omega) only [ER4, reduceIte, Nat.reduceEqDiff, Nat.reduceAdd, g2, g3, g5, g6, evo, evl, hjl, hlt, go, gl2, sa, sb, ua, ub, h1, gb_tup]
                    refine hQ _ ?_
                    clear hQ Q1
                    refine ⟨rfl, rfl, ?_, ?_, ?_, ?_, ?_⟩
                    all_goals simp (disch := omega) only [ER4, reduceIte, Nat.reduceEqDiff, Nat.reduceAdd, g2, g3, g5, g6, evo, evl, e]
                  · by_cases h2 : u.a = s.a
                    · have h1' : ¬ s.a < s.a := by omega
                      have e : ltR u s = decide (u.b < s.b) := by rw [ltR]; apply decide_eq_decide.2; omega
                      refine wc_opq fun Q1 hQ => ?_
                      simp (disch := omega) only [ER4, reduceIte, Nat.reduceEqDiff, Nat.reduceAdd, g2, g3, g5, g6, evo, evl, hjl, hlt, go, gl2, sa, sb, ua, ub, h1', h2, gb_tup]
                      refine hQ _ ?_
                      clear hQ Q1
                      refine ⟨rfl, rfl, ?_, ?_, ?_, ?_, ?_⟩
                      all_goals simp (disch := omega) only [ER4, reduceIte, Nat.reduceEqDiff, Nat.reduceAdd, g2, g3, g5, g6, evo, evl, e]
                    · have e : ltR u s = false := by rw [ltR]; apply decide_eq_false; omega
                      refine wc_opq fun Q1 hQ => ?_
                      simp (disch := omega) only [ER4, reduceIte, Nat.reduceEqDiff, Nat.reduceAdd, g2, g3, g5, g6, evo, evl, hjl, hlt, go, gl2, sa, sb, ua, ub, h1, h2, gb_tup]
                      refine hQ _ ?_
                      clear hQ Q1
                      refine ⟨rfl, rfl, ?_, ?_, ?_, ?_, ?_⟩
                      all_goals simp (disch := omega) only [ER4, reduceIte, Nat.reduceEqDiff, Nat.reduceAdd, g2, g3, g5, g6, evo, evl, e]
                · clear g2 g3 g5 g6
                  rintro l d h3 ⟨rfl, rfl, g2, g3, g5, g6, g7⟩
                  refine wc_cond (q := ltR u s) (by simp (disch := omega) only [ER4, reduceIte, Nat.reduceEqDiff, Nat.reduceAdd, g7]) (fun hl => ?_) (fun hl => ?_)
                  · refine wc_skip (wc_block ?_)
                    refine wc_opq fun Q1 hQ => ?_
                    simp (disch := omega) only [ER4, reduceIte, Nat.reduceEqDiff, Nat.reduceAdd, g5]
                    refine hQ _ ?_
                    clear hQ Q1
                    refine ⟨I.length - (j + 1), by omega, j + 1, rfl, by omega, fun x hx hxj => ?_, rfl, rfl, ?_, ?_, ?_, ?_⟩
                    · by_cases h : x = j
                      · subst h; rw [hu]; exact hl
                      · exact hlo x hx (by omega)
                    all_goals simp (disch := omega) only [ER4, reduceIte, Nat.reduceEqDiff, Nat.reduceAdd, g2, g3, g6]
                  · refine wc_exit ⟨rfl, rfl, ?_, ?_, ?_, ?_⟩
                    · simp (disch := omega) only [ER4, reduceIte, Nat.reduceEqDiff, Nat.reduceAdd, g2]
                    · simp (disch := omega) only [ER4, reduceIte, Nat.reduceEqDiff, Nat.reduceAdd, g3]
                    · simp (disch := omega) only [ER4, reduceIte, Nat.reduceEqDiff, Nat.reduceAdd, g5]
                      rw [pj hl]
                    · simp (disch := omega) only [ER4, reduceIte, Nat.reduceEqDiff, Nat.reduceAdd, g6]
              · refine wc_seq (wc_opq fun Q1 hQ => ?_)
                simp (disch := omega) only [ER4, reduceIte, Nat.reduceEqDiff, Nat.reduceAdd, g5, g6, mvo, leno, hjl, gb_tup]
                refine hQ _ ?_
                clear hQ Q1
                refine wc_no (by simp (disch := omega) only [ER4, reduceIte, Nat.reduceEqDiff, Nat.reduceAdd]) (wc_exit ⟨rfl, rfl, ?_, ?_, ?_, ?_⟩)
                · simp (disch := omega) only [ER4, reduceIte, Nat.reduceEqDiff, Nat.reduceAdd, g2]
                · simp (disch := omega) only [ER4, reduceIte, Nat.reduceEqDiff, Nat.reduceAdd, g3]
                · simp (disch := omega) only [ER4, reduceIte, Nat.reduceEqDiff, Nat.reduceAdd, g5]
                  obtain rfl : j = I.length := by omega
                  rcases Nat.lt_or_ge (posL I s) I.length with h | h
                  · have h1 := posL_at h
                    rw [hlo _ h h] at h1; cases h1
                  · rw [Nat.le_antisymm posL_le h]
                · simp (disch := omega) only [ER4, reduceIte, Nat.reduceEqDiff, Nat.reduceAdd, g6]
            · refine ⟨0, rfl, by omega, fun x hx h => by omega, rfl, rfl, ?_, ?_, ?_, ?_⟩
              · simp (disch := omega) only [ER4, reduceIte, Nat.reduceEqDiff, Nat.reduceAdd, g2]
              · simp (disch := omega) only [ER4, reduceIte, Nat.reduceEqDiff, Nat.reduceAdd, g3]
              · simp (disch := omega) only [ER4, reduceIte, Nat.reduceEqDiff, Nat.reduceAdd]
              · simp (disch := omega) only [ER4, reduceIte, Nat.reduceEqDiff, Nat.reduceAdd, g6]
          · clear g2 g3 g6
            rintro l d h3 ⟨rfl, rfl, g2, g3, g5, g6⟩
            have hins1 := @insr_in I s
            have hins2 := @insr_out I s
            have hjle := @posL_le I s
            generalize posL I s = j at *
            have hid : ∀ ido, hL.next ≤ ido → ido ≠ idl := fun ido h => by omega
            by_cases hk : ∃ h : j < I.length, same2 I[j] s.a s.b
            · obtain ⟨hjl, hk⟩ := hk
              rw [hins1 hjl hk]
              obtain ⟨ido, co, evo, o1, o2, go, hox⟩ := own.open (by omega)
              have q := hox j hjl
              have up := fun X => OwnR.upd (X := X) (y := if I[j].c < s.c then s.c else I[j].c) (z := IntKind.i64.wrap (I[j].d + s.d)) hjl o1 o2 hox
              have em : mrg I[j] s = ⟨I[j].a, I[j].b, if I[j].c < s.c then s.c else I[j].c, IntKind.i64.wrap (I[j].d + s.d)⟩ := rfl
              rw [← em] at up
              clear hins1 hins2
              generalize mrg I[j] s = ms at *
              generalize I[j] = u at *
              obtain ⟨ka, kb⟩ := hk
              have u2 : loadL co 2 (j * 4) = some [.int .i64 s.a, .int .i64 s.b] := by rw [q.load2, ka, kb]
              have uc : co.get (j * 4 + 2) = some (.int .i64 u.c) := q.c
              have ud : co.get (j * 4 + 3) = some (.int .i64 u.d) := q.d
              have hne := hid ido o1
              refine wc_seq ?_
              refine wc_seq (wc_opq fun Q1 hQ => ?_)
              simp (disch := omega) only [ER4, reduceIte, Nat.reduceEqDiff, Nat.reduceAdd, g2, g3, g5, g6, evo, evl, hjl, hlt, go, gl2, u2, s2, gb_tup]
              refine hQ _ ?_
              clear hQ Q1
              refine wc_yes (by simp (disch := omega) only [ER4, reduceIte, Nat.reduceEqDiff, Nat.reduceAdd]) ?_
              refine wc_seq (wc_opq fun Q1 hQ => ?_)
              simp (disch := omega) only [ER4, reduceIte, Nat.reduceEqDiff, Nat.reduceAdd, g2, g3, g5, g6, evo, evl, hjl, hlt, go, gl2, uc, sc]
              refine hQ _ ?_
              clear hQ Q1
              have go3 : (h2.set ido (.cells (T.put (some (.int .i64 (if u.c < s.c then s.c else u.c))) co (j * 4 + 2)) (I.length * 4) true false)).mem.get ido = some (.cells (T.put (some (.int .i64 (if u.c < s.c then s.c else u.c))) co (j * 4 + 2)) (I.length * 4) true false) := AH.get_set
              have gl3 : (h2.set ido (.cells (T.put (some (.int .i64 (if u.c < s.c then s.c else u.c))) co (j * 4 + 2)) (I.length * 4) true false)).mem.get idl = some (.cells cl (L.length * 4) true false) := by rw [AH.set_mem, T.get_put_ne _ _ _ _ hne]; exact gl2
              have up := up (.cells (T.put (some (.int .i64 (if u.c < s.c then s.c else u.c))) co (j * 4 + 2)) (I.length * 4) true false)
              have mo3 : More hL (h2.set ido (.cells (T.put (some (.int .i64 (if u.c < s.c then s.c else u.c))) co (j * 4 + 2)) (I.length * 4) true false)) := ((mo.keepAt (Nat.le_refl _)).set o1 _).more
              generalize h2.set ido (.cells (T.put (some (.int .i64 (if u.c < s.c then s.c else u.c))) co (j * 4 + 2)) (I.length * 4) true false) = h3 at *
              have ud3 : (T.put (some (.int .i64 (if u.c < s.c then s.c else u.c))) co (j * 4 + 2)).get (j * 4 + 3) = some (.int .i64 u.d) := by rw [T.get_put_ne _ _ _ _ (by omega)]; exact ud
              generalize T.put (some (.int .i64 (if u.c < s.c then s.c else u.c))) co (j * 4 + 2) = c3 at *
              refine wc_seq (wc_opq fun Q1 hQ => ?_)
              simp (disch := omega) only [ER4, reduceIte, Nat.reduceEqDiff, Nat.reduceAdd, g2, g3, g5, g6, evo, evl, hjl, hlt, go3, gl3, ud3, sd]
              refine hQ _ ?_
              clear hQ Q1
              refine wc_exit ⟨.sl ido 0 I.length (.rest 4), rfl, ?_, ?_, ?_, up, ((mo3.keepAt (Nat.le_refl _)).set o1 _).more⟩
              · simp (disch := omega) only [ER4, reduceIte, Nat.reduceEqDiff, Nat.reduceAdd, g2]
              · simp (disch := omega) only [ER4, reduceIte, Nat.reduceEqDiff, Nat.reduceAdd, g3]
              · simp (disch := omega) only [ER4, reduceIte, Nat.reduceEqDiff, Nat.reduceAdd, g6, evo]
            · have hins := hins2 fun a b => hk ⟨a, b⟩
              rw [hins]
              refine wc_mid (fun l d h3 => h2 = h3 ∧ d = [] ∧ l.get 2 = some (.int .i64 (i : Int)) ∧ l.get 3 = some vl ∧ l.get 5 = some (.int .i64 (j : Int)) ∧ l.get 6 = some vo) ?_ ?_
              · by_cases hjl : j < I.length
                · have hk : ¬ same2 I[j] s.a s.b := fun e => hk ⟨hjl, e⟩
                  obtain ⟨ido, co, evo, o1, o2, go, hox⟩ := own.open (by omega)
                  have q := hox j hjl
                  clear hins1 hins2 hins
                  generalize I[j] = u at *
                  have u2 := q.load2
                  by_cases ka : u.a = s.a
                  · have kb : ¬ u.b = s.b := fun e => hk ⟨ka, e⟩
                    refine wc_seq (wc_opq fun Q1 hQ => ?_)
                    simp (disch := omega) only [ER4, reduceIte, Nat.reduceEqDiff, Nat.reduceAdd, g2, g3, g5, g6, evo, evl, hjl, hlt, go, gl2, u2, s2, gb_tup, ka, kb]
                    refine hQ _ ?_
                    clear hQ Q1
                    refine wc_no (by simp (disch := omega) only [ER4, reduceIte, Nat.reduceEqDiff, Nat.reduceAdd]) (wc_skip ⟨rfl, rfl, ?_, ?_, ?_, ?_⟩)
                    all_goals simp (disch := omega) only [ER4, reduceIte, Nat.reduceEqDiff, Nat.reduceAdd, g2, g3, g5, g6, evo, evl]
                  · by_cases kb : u.b = s.b
                    · refine wc_seq (wc_opq fun Q1 hQ => ?_)
                      simp (disch := omega) only [ER4, reduceIte, Nat.reduceEqDiff, Nat.reduceAdd, g2, g3, g5, g6, evo, evl, hjl, hlt, go, gl2, u2, s2, gb_tup, ka, kb]
                      refine hQ _ ?_
                      clear hQ Q1
                      refine wc_no (by simp (disch := omega) only [ER4, reduceIte, Nat.reduceEqDiff, Nat.reduceAdd]) (wc_skip ⟨rfl, rfl, ?_, ?_, ?_, ?_⟩)
                      all_goals simp (disch := omega) only [ER4, reduceIte, Nat.reduceEqDiff, Nat.reduceAdd, g2, g3, g5, g6, evo, evl]
                    · refine wc_seq (wc_opq fun Q1 hQ => ?_)
                      simp (disch := omega) only [ER4, reduceIte, Nat.reduceEqDiff, Nat.reduceAdd, g2, g3, g5, g6, evo, evl, hjl, hlt, go, gl2, u2, s2, gb_tup, ka, kb]
                      refine hQ _ ?_
                      clear hQ Q1
                      refine wc_no (by simp (disch := omega) only [ER4, reduceIte, Nat.reduceEqDiff, Nat.reduceAdd]) (wc_skip ⟨rfl, rfl, ?_, ?_, ?_, ?_⟩)
                      all_goals simp (disch := omega) only [ER4, reduceIte, Nat.reduceEqDiff, Nat.reduceAdd, g2, g3, g5, g6, evo, evl]
                · refine wc_seq (wc_opq fun Q1 hQ => ?_)
                  simp (disch := omega) only [ER4, reduceIte, Nat.reduceEqDiff, Nat.reduceAdd, g5, g6, mvo, leno, hjl, gb_tup]
                  refine hQ _ ?_
                  clear hQ Q1
                  refine wc_no (by simp (disch := omega) only [ER4, reduceIte, Nat.reduceEqDiff, Nat.reduceAdd]) (wc_skip ⟨rfl, rfl, ?_, ?_, ?_, ?_⟩)
                  all_goals simp (disch := omega) only [ER4, reduceIte, Nat.reduceEqDiff, Nat.reduceAdd, g2, g3, g5, g6]
              clear g2 g3 g5 g6
              rintro l d h3 ⟨rfl, rfl, g2, g3, g5, g6⟩
              have moE : More h2 (h2.add (.cells (ofList []) 0 false false)) := More.add _ _
              obtain ⟨vd, f1, src1, mvd⟩ := (own.more moE).lo hjle
              obtain ⟨v9, h9, f2, own9, mo9⟩ := OwnR.appendE (id := h2.next) (off := 0) src1 (by rw [List.length_drop]; omega)
              have mv9 : ∀ h', oMove (.c v9) .leaf [] h' = .val v9 h' := fun h' => move_mv own9.mv
              have mvd' : ∀ h', oMove (.c vd) .leaf [] h' = .val vd h' := fun h' => move_mv mvd
              refine wc_seq (wc_opq fun Q1 hQ => ?_)
              simp (disch := omega) only [ER4, reduceIte, Nat.reduceEqDiff, Nat.reduceAdd, g5, g6, mvo, op_sliceV_lo, f1, f2, mv9, Nat.reduceLeDiff]
              refine hQ _ ?_
              clear hQ Q1
              have mo29 : More h2 h9 := moE.trans mo9
              have gl9 : h9.mem.get idl = some (.cells cl (L.length * 4) true false) := by rw [mo29.keep _ (by have := mo.next; omega)]; exact gl2
              have moF : More h9 (h9.add (.cells (ofList []) 0 false false)) := More.add _ _
              obtain ⟨vt, t1, t2, mvt'⟩ := own.hi hjle
              have lnF : h9.next < (h9.add (.cells (ofList []) 0 false false)).next := Nat.lt_succ_self _
              generalize hFe : (h9.add (.cells (ofList []) 0 false false)) = hF at *
              have moG : More hF (hF.add (.cells (ofList (rl s)) 4 false false)) := More.add _ _
              have gsG : (hF.add (.cells (ofList (rl s)) 4 false false)).mem.get hF.next = some (.cells (ofList (rl s)) 4 false false) := by rw [AH.add_mem, T.get_put_self]
              have ltG : hF.next < (hF.add (.cells (ofList (rl s)) 4 false false)).next := Nat.lt_succ_self _
              have t1F := t1 false hF (mo29.trans moF)
              have glF : hF.mem.get idl = some (.cells cl (L.length * 4) true false) := by rw [moF.keep _ (by have := mo29.next; have := mo.next; omega)]; exact gl9
              have i9 : h9.next ≤ hF.next := moF.next
              obtain ⟨v6, h6, e6, own6, mo6⟩ := OwnR.appendE (id := h9.next) (off := 0) (t2 _ ((mo29.trans moF).trans moG)) (by rw [List.length_take]; omega)
              have gl6 : h6.mem.get idl = some (.cells cl (L.length * 4) true false) := by rw [mo6.keep _ (by have := moG.next; have := mo29.next; have := mo.next; omega), moG.keep _ (by have := mo29.next; have := mo.next; omega)]; exact glF
              have src6 : SrcR h6 (.sl hF.next 0 1 (.known 1)) [s] := srcs (xs := [s]) (off := 0) (by rw [mo6.keep _ ltG]; exact gsG) fun i hi => by
                obtain rfl : i = 0 := by simp at hi; omega
                exact ⟨rfl, rfl, rfl, rfl⟩
              obtain ⟨v7, h7, e7, own7, kp7, _, _⟩ := own6.appendN src6 mo6.next (by rw [List.length_take, List.length_singleton]; omega)
              have moGG : More h9 h7 := ⟨by have := moG.next; have := mo6.next; have := kp7.next; omega, fun k hk => by rw [kp7.keep k (by have := moG.next; omega), mo6.keep k (by have := moG.next; omega), moG.keep k (by omega), moF.keep k hk]⟩
              obtain ⟨v8, h8, e8, own8, kp8, _, _⟩ := own7.appendN (own9.more moGG).src (by have := mo6.next; have := kp7.next; omega) (by rw [List.length_append, List.length_take, List.length_singleton, List.length_drop]; omega)
              have mv8 : ∀ h', oMove (.c v8) .leaf [] h' = .val v8 h' := fun h' => move_mv own8.mv
              refine wc_opq fun Q1 hQ => ?_
              simp (disch := omega) only [ER4, reduceIte, Nat.reduceEqDiff, Nat.reduceAdd, g2, g3, g5, g6, mvo, evl, hlt, op_sliceV_hi, hFe, t1F, glF, s4, mv9, e6, gl6, e7, e8, mv8, Nat.reduceLeDiff]
              refine hQ _ ?_
              clear hQ Q1
              refine ⟨v8, rfl, ?_, ?_, ?_, ?_, ?_⟩
              · simp (disch := omega) only [ER4, reduceIte, Nat.reduceEqDiff, Nat.reduceAdd, g2]
              · simp (disch := omega) only [ER4, reduceIte, Nat.reduceEqDiff, Nat.reduceAdd, g3, evl]
              · simp (disch := omega) only [ER4, reduceIte, Nat.reduceEqDiff, Nat.reduceAdd]
              · rw [List.append_assoc] at own8
                exact own8.less (by have := moG.next; have := mo29.next; have := mo.next; omega)
              · exact (mo.trans mo29).trans ⟨Nat.le_trans moGG.next kp8.next, fun k hk => by rw [kp8.keep k (by have := moG.next; omega), moGG.keep k hk]⟩
        · clear own mvo leno g2 g3 g6 gl2
          rintro l d h3 ⟨vo, rfl, g2, g3, g6, own, mo⟩
          refine wc_opq fun Q1 hQ => ?_
          simp (disch := omega) only [ER4, reduceIte, Nat.reduceEqDiff, Nat.reduceAdd, g2]
          refine hQ _ ?_
          clear hQ Q1
          refine ⟨L.length - (i + 1), by omega, i + 1, _, vo, rfl, by omega, hI2.symm, rfl, ?_, ?_, ?_, own, mo⟩
          · simp (disch := omega) only [ER4, reduceIte, Nat.reduceEqDiff, Nat.reduceAdd]
          · simp (disch := omega) only [ER4, reduceIte, Nat.reduceEqDiff, Nat.reduceAdd, g3]
          · simp (disch := omega) only [ER4, reduceIte, Nat.reduceEqDiff, Nat.reduceAdd, g6]
      · obtain rfl : i = L.length := by omega
        rw [List.take_length] at eI
        refine wc_exit ⟨vo, rfl, ?_, by rw [← eI]; exact own, mo⟩
        simp (disch := omega) only [ER4, reduceIte, Nat.reduceEqDiff, Nat.reduceAdd, g6]
    · refine ⟨0, [], .sl hL.next 0 0 (.known 0), rfl, by omega, rfl, rfl, ?_, ?_, ?_, .emp, moH⟩
      all_goals simp (disch := omega) only [ER4, reduceIte, Nat.reduceEqDiff, Nat.reduceAdd]
  · rintro l d h2 ⟨vo, rfl, g6, own, mo⟩
    have mvo : ∀ h', oMove (.c vo) .leaf [] h' = .val vo h' := fun h' => move_mv own.mv
    refine wc_seq (wc_opq fun Q1 hQ => ?_)
    simp (disch := omega) only [ER4, reduceIte, Nat.reduceEqDiff, Nat.reduceAdd, g6, mvo]
    refine hQ _ ?_
    clear hQ Q1
    refine wc_ret ⟨_, results_val results_nil, ?_, moL.trans mo⟩
    simp (disch := omega) only [ER4, reduceIte, Nat.reduceEqDiff, Nat.reduceAdd, one_one]
    exact own.less moL.next
end
end Go.Ev

namespace Go.Ev
open Go
set_option linter.unusedSimpArgs false
set_option linter.unusedVariables false
set_option maxRecDepth 100000
set_option maxHeartbeats 4000000
def isRw (cs : List AV) (x : Rw) : Prop := cs = rl x
theorem SlD.rd {h : AH} {v : AV} {xs : List Rw} (x : SlD h 4 isRw v xs) : RdS h v xs := by
  refine ⟨x.len, x.mv, x.cells, fun h' m => ?_⟩
  rcases Nat.eq_zero_or_pos xs.length with h0 | h0
  · obtain rfl := List.length_eq_zero_iff.1 h0
    cases x with
    | nils => exact srcn
    | emp => exact src0
    | sl E => exact src0
  · obtain ⟨id, off, cap, sz, c, E, rfl, g, lt, hE⟩ := x.open h0
    refine srcs (off := off) (by rw [m.keep _ lt]; exact g) fun i hi => ?_
    obtain ⟨_, e2, e3⟩ := hE i hi
    refine .of fun j hj => ?_
    rw [e2 j hj, e3]
theorem SlD.at4 {h : AH} {v : AV} {xs : List Rw} (x : SlD h 4 isRw v xs) (hn : 0 < xs.length) : ∃ (id off cap sz : Nat) (c : T AV), v = .sl id off xs.length (.known cap) ∧ h.mem.get id = some (.cells c sz false true) ∧ id < h.next ∧ ∀ (i : Nat) (hi : i < xs.length), R4 c (off + i * 4) xs[i] := by
  obtain ⟨id, off, cap, sz, c, E, rfl, g, lt, hE⟩ := x.open hn
  refine ⟨_, _, _, _, _, rfl, g, lt, fun i hi => ?_⟩
  obtain ⟨_, e2, e3⟩ := hE i hi
  refine .of fun j hj => ?_
  rw [e2 j hj, e3]
theorem OwnR.rd {h : AH} {b : Nat} {v : AV} {xs : List Rw} (x : OwnR h b v xs) : RdS h v xs := ⟨x.len, x.mv, x.cells, fun _ m => (x.more m).src⟩
section
variable {tab : Nat → Option AFunc} {h : AH}
theorem same_gp (t : tab 5 = some af5) {b1 b2 : Nat} {va vb : AV} {xs : List Rw} (oa : OwnR h b1 va xs) (ob : OwnR h b2 vb xs) (hl : xs.length ≤ 2000) :
    GP tab 5 [va, vb] h fun v _ => v = .bool true := by
  have i0 : initLoc [va, vb] = ofList [va, vb] := rfl
  have mova : ∀ h', oMove (.c va) .leaf [] h' = .val va h' := fun h' => move_mv oa.mv
  have movb : ∀ h', oMove (.c vb) .leaf [] h' = .val vb h' := fun h' => move_mv ob.mv
  have lena := oa.len
  have lenb := ob.len
  refine gp_of t rfl ?_
  refine wc_seq (wc_opq fun Q1 hQ => ?_)
  simp (disch := omega) only [ER4, reduceIte, Nat.reduceEqDiff, Nat.reduceAdd]
  refine hQ _ ?_
  clear hQ Q1
  refine wc_seq ?_
  refine wc_seq (wc_opq fun Q1 hQ => ?_)
  simp (disch := omega) only [ER4, reduceIte, Nat.reduceEqDiff, Nat.reduceAdd, i0, mova, movb, lena, lenb]
  refine hQ _ ?_
  clear hQ Q1
  refine wc_no (by simp (disch := omega) only [ER4, reduceIte, Nat.reduceEqDiff, Nat.reduceAdd]) (wc_skip ?_)
  refine wc_mid (fun l d h1 => d = []) ?_ ?_
  · refine wc_seq (wc_opq fun Q1 hQ => ?_)
    simp (disch := omega) only [ER4, reduceIte, Nat.reduceEqDiff, Nat.reduceAdd]
    refine hQ _ ?_
    clear hQ Q1
    refine wc_block ?_
    refine wc_while (fun k l d h1 => ∃ i : Nat, k = xs.length - i ∧ i ≤ xs.length ∧ h = h1 ∧ d = [] ∧ l.get 0 = some va ∧ l.get 1 = some vb ∧ l.get 3 = some (.int .i64 (i : Int))) ?_ (xs.length - 0) ?_
    · rintro k l d h1 ⟨i, hk, hi, rfl, rfl, g0, g1, g3⟩
      refine wc_seq ?_
      refine wc_seq (wc_opq fun Q1 hQ => ?_)
      simp (disch := omega) only [ER4, reduceIte, Nat.reduceEqDiff, Nat.reduceAdd, g0, g3, mova, lena]
      refine hQ _ ?_
      clear hQ Q1
      refine wc_if (i < xs.length) (by simp (disch := omega) only [ER4, reduceIte, Nat.reduceEqDiff, Nat.reduceAdd]) (fun hlt => ?_) (fun hge => ?_)
      · refine wc_skip ?_
        obtain ⟨ida, ca, eva, _, _, ga, hxa⟩ := oa.open (by omega)
        obtain ⟨idb, cb, evb, _, _, gb, hxb⟩ := ob.open (by omega)
        have qa := hxa i hlt
        have qb := hxb i hlt
        generalize xs[i] = s at *
        have a2 := qa.load2
        have b2 := qb.load2
        have ac : ca.get (i * 4 + 2) = some (.int .i64 s.c) := qa.c
        have ad : ca.get (i * 4 + 3) = some (.int .i64 s.d) := qa.d
        have bc : cb.get (i * 4 + 2) = some (.int .i64 s.c) := qb.c
        have bd : cb.get (i * 4 + 3) = some (.int .i64 s.d) := qb.d
        refine wc_mid (fun l d h1 => h = h1 ∧ d = [] ∧ l.get 0 = some va ∧ l.get 1 = some vb ∧ l.get 3 = some (.int .i64 (i : Int))) ?_ ?_
        · refine wc_block ?_
          refine wc_seq (wc_opq fun Q1 hQ => ?_)
          simp (disch := omega) only [ER4, reduceIte, Nat.reduceEqDiff, Nat.reduceAdd, g0, g1, g3, eva, evb, hlt, ga, gb, a2, b2, ac, ad, bc, bd, gb_tup]
          refine hQ _ ?_
          clear hQ Q1
          refine wc_no (by simp (disch := omega) only [ER4, reduceIte, Nat.reduceEqDiff, Nat.reduceAdd]) (wc_skip ⟨rfl, rfl, ?_, ?_, ?_⟩)
          all_goals simp (disch := omega) only [ER4, reduceIte, Nat.reduceEqDiff, Nat.reduceAdd, g0, g1, g3, eva, evb]
        · clear g0 g1 g3
          rintro l d h1 ⟨rfl, rfl, g0, g1, g3⟩
          refine wc_opq fun Q1 hQ => ?_
          simp (disch := omega) only [ER4, reduceIte, Nat.reduceEqDiff, Nat.reduceAdd, g3]
          refine hQ _ ?_
          clear hQ Q1
          refine ⟨xs.length - (i + 1), by omega, i + 1, rfl, by omega, rfl, rfl, ?_, ?_, ?_⟩
          all_goals simp (disch := omega) only [ER4, reduceIte, Nat.reduceEqDiff, Nat.reduceAdd, g0, g1]
      · exact wc_exit rfl
    · refine ⟨0, rfl, by omega, rfl, rfl, ?_, ?_, ?_⟩
      all_goals simp (disch := omega) only [ER4, reduceIte, Nat.reduceEqDiff, Nat.reduceAdd, i0]
  · rintro l d h1 rfl
    refine wc_seq (wc_opq fun Q1 hQ => ?_)
    simp (disch := omega) only [ER4, reduceIte, Nat.reduceEqDiff, Nat.reduceAdd]
    refine hQ _ ?_
    clear hQ Q1
    refine wc_ret ⟨_, results_val results_nil, ?_⟩
    simp (disch := omega) only [ER4, reduceIte, Nat.reduceEqDiff, Nat.reduceAdd, one_one]
theorem spotjoins_gp (t3 : tab 3 = some af3) (t4 : tab 4 = some yesF) (t5 : tab 5 = some af5) (tj : tab 6 = some af6) (trj : tab 7 = some af7) (tc : tab 11 = some af11) (tg : tab 25 = some af25) (ts : SortT tab)
    {va vb : AV} {A B : List Rw} (sa : SlD h 4 isRw va A) (sb : SlD h 4 isRw vb B) :
    GP tab 3 [va, vb] h fun v _ => v = .bool true := by
  have i0 : initLoc [va, vb] = ofList [va, vb] := rfl
  have mova := sa.rd.mvv
  have movb := sb.rd.mvv
  have lena := sa.len
  have lenb := sb.len
  refine gp_of t3 rfl ?_
  refine wc_seq (wc_opq fun Q1 hQ => ?_)
  simp (disch := omega) only [ER4, reduceIte, Nat.reduceEqDiff, Nat.reduceAdd, i0]
  refine hQ _ ?_
  clear hQ Q1
  refine wc_seq (wc_seq (wc_opq fun Q1 hQ => ?_))
  simp (disch := omega) only [ER4, reduceIte, Nat.reduceEqDiff, Nat.reduceAdd, i0]
  refine gp_yes t4 ?_
  simp (disch := omega) only [ER4, reduceIte, Nat.reduceEqDiff, Nat.reduceAdd]
  refine hQ _ ?_
  clear hQ Q1
  refine wc_no (by simp (disch := omega) only [ER4, reduceIte, Nat.reduceEqDiff, Nat.reduceAdd]) (wc_skip ?_)
  refine wc_seq ?_
  by_cases hA : 60 < A.length
  · refine wc_seq (wc_opq fun Q1 hQ => ?_)
    simp (disch := omega) only [ER4, reduceIte, Nat.reduceEqDiff, Nat.reduceAdd, i0, mova, movb, lena, lenb, hA, gb_tup]
    refine hQ _ ?_
    clear hQ Q1
    refine wc_yes (by simp (disch := omega) only [ER4, reduceIte, Nat.reduceEqDiff, Nat.reduceAdd]) ?_
    refine wc_seq (wc_opq fun Q1 hQ => ?_)
    simp (disch := omega) only [ER4, reduceIte, Nat.reduceEqDiff, Nat.reduceAdd]
    refine hQ _ ?_
    clear hQ Q1
    refine wc_ret ⟨_, results_val results_nil, ?_⟩
    simp (disch := omega) only [ER4, reduceIte, Nat.reduceEqDiff, Nat.reduceAdd, one_one]
  by_cases hB : 60 < B.length
  · refine wc_seq (wc_opq fun Q1 hQ => ?_)
    simp (disch := omega) only [ER4, reduceIte, Nat.reduceEqDiff, Nat.reduceAdd, i0, mova, movb, lena, lenb, hA, hB, gb_tup]
    refine hQ _ ?_
    clear hQ Q1
    refine wc_yes (by simp (disch := omega) only [ER4, reduceIte, Nat.reduceEqDiff, Nat.reduceAdd]) ?_
    refine wc_seq (wc_opq fun Q1 hQ => ?_)
    simp (disch := omega) only [ER4, reduceIte, Nat.reduceEqDiff, Nat.reduceAdd]
    refine hQ _ ?_
    clear hQ Q1
    refine wc_ret ⟨_, results_val results_nil, ?_⟩
    simp (disch := omega) only [ER4, reduceIte, Nat.reduceEqDiff, Nat.reduceAdd, one_one]
  refine wc_seq (wc_opq fun Q1 hQ => ?_)
  simp (disch := omega) only [ER4, reduceIte, Nat.reduceEqDiff, Nat.reduceAdd, i0, mova, movb, lena, lenb, hA, hB, gb_tup]
  refine hQ _ ?_
  clear hQ Q1
  refine wc_no (by simp (disch := omega) only [ER4, reduceIte, Nat.reduceEqDiff, Nat.reduceAdd]) (wc_skip ?_)
  refine wc_seq (wc_opq fun Q1 hQ => ?_)
  simp (disch := omega) only [ER4, reduceIte, Nat.reduceEqDiff, Nat.reduceAdd, Nat.reduceLeDiff]
  refine hQ _ ?_
  clear hQ Q1
  refine wc_seq (wc_opq fun Q1 hQ => ?_)
  simp (disch := omega) only [ER4, reduceIte, Nat.reduceEqDiff, Nat.reduceAdd, Nat.reduceLeDiff]
  refine hQ _ ?_
  clear hQ Q1
  have mo0 : More h ((h.add (.cells (ofList []) 0 false false)).add (.cells (ofList []) 0 false false)) := (More.add _ _).trans (More.add _ _)
  generalize ((h.add (.cells (ofList []) 0 false false)).add (.cells (ofList []) 0 false false)) = hX at *
  refine wc_mid (fun l d h2 => ∃ vx, d = [] ∧ l.get 0 = some va ∧ l.get 1 = some vb ∧ l.get 6 = some vx ∧ l.get 9 = some (.sl (h.next + 1) 0 0 (.known 0)) ∧ OwnR h2 hX.next vx A ∧ More hX h2) ?_ ?_
  · have start : ∀ h2, More hX h2 → OwnR h2 hX.next (.sl h.next 0 0 (.known 0)) (A.take 0) := fun _ _ => .emp
    refine wc_seq (wc_opq fun Q1 hQ => ?_)
    simp (disch := omega) only [ER4, reduceIte, Nat.reduceEqDiff, Nat.reduceAdd, i0]
    refine hQ _ ?_
    clear hQ Q1
    refine wc_block ?_
    refine wc_while (fun k l d h2 => ∃ (i : Nat) (wv : AV), k = A.length - i ∧ i ≤ A.length ∧ d = [] ∧ l.get 0 = some va ∧ l.get 1 = some vb ∧ l.get 4 = some (.int .i64 (i : Int)) ∧ l.get 6 = some wv ∧ l.get 9 = some (.sl (h.next + 1) 0 0 (.known 0)) ∧ OwnR h2 hX.next wv (A.take i) ∧ More hX h2) ?_ (A.length - 0) ?_
    · rintro k l d h2 ⟨i, wv, hk, hi, rfl, g0, g1, g4, g6, g9, own, mo⟩
      refine wc_seq ?_
      refine wc_seq (wc_opq fun Q1 hQ => ?_)
      simp (disch := omega) only [ER4, reduceIte, Nat.reduceEqDiff, Nat.reduceAdd, g0, g1, g4, mova, movb, lena, lenb]
      refine hQ _ ?_
      clear hQ Q1
      refine wc_if (i < A.length) (by simp (disch := omega) only [ER4, reduceIte, Nat.reduceEqDiff, Nat.reduceAdd]) (fun hlt => ?_) (fun hge => ?_)
      · refine wc_skip ?_
        obtain ⟨id, off, cap, sz, c, ev, gc, lt, hx⟩ := sa.at4 (by omega)
        have gc2 : h2.mem.get id = some (.cells c sz false true) := by rw [mo.keep _ (Nat.lt_of_lt_of_le lt mo0.next), mo0.keep _ lt]; exact gc
        have q := hx i hlt
        have hT : A.take (i + 1) = A.take i ++ [A[i]] := by rw [List.take_add_one, List.getElem?_eq_getElem hlt]; rfl
        generalize A[i] = s at *
        have q2 : loadL c 2 (off + i * 4) = some [.int .i64 s.a, .int .i64 s.b] := q.load2
        have qc : c.get (off + i * 4 + 2) = some (.int .i64 s.c) := q.c
        have qd : c.get (off + i * 4 + 3) = some (.int .i64 s.d) := q.d
        have mwv : ∀ h', oMove (.c wv) .leaf [] h' = .val wv h' := fun h' => move_mv own.mv
        have own2 := own.more (More.add h2 (.cells (ofList [.int .i64 s.a, .int .i64 s.b, .int .i64 s.c, .int .i64 s.d]) 4 false false))
        have src : SrcR (h2.add (.cells (ofList [.int .i64 s.a, .int .i64 s.b, .int .i64 s.c, .int .i64 s.d]) 4 false false)) (.sl h2.next 0 1 (.known 1)) [s] := srcs (xs := [s]) (off := 0) (by rw [AH.add_mem, T.get_put_self]) fun i hi => by
          obtain rfl : i = 0 := by simp at hi; omega
          exact ⟨rfl, rfl, rfl, rfl⟩
        obtain ⟨v', h5, e5, own6, kp5, _, _⟩ := own2.appendN src (by rw [AH.add_next]; have := mo.next; omega) (by rw [List.length_take, List.length_singleton]; omega)
        have mv5 : ∀ h', oMove (.c v') .leaf [] h' = .val v' h' := fun h' => move_mv own6.mv
        refine wc_mid (fun l d h3 => ∃ wv, d = [] ∧ l.get 0 = some va ∧ l.get 1 = some vb ∧ l.get 4 = some (.int .i64 (i : Int)) ∧ l.get 6 = some wv ∧ l.get 9 = some (.sl (h.next + 1) 0 0 (.known 0)) ∧ OwnR h3 hX.next wv (A.take (i + 1)) ∧ More hX h3) ?_ ?_
        · refine wc_block ?_
          refine wc_opq fun Q1 hQ => ?_
          simp (disch := omega) only [ER4, reduceIte, Nat.reduceEqDiff, Nat.reduceAdd, g0, g1, g4, g6, ev, hlt, gc2, q2, qc, qd, mwv, e5, mv5, Nat.reduceLeDiff]
          refine hQ _ ?_
          clear hQ Q1
          refine ⟨v', rfl, ?_, ?_, ?_, ?_, ?_, by rw [hT]; exact own6, ⟨Nat.le_trans (mo.trans (More.add _ _)).next kp5.next, fun k hk => by rw [kp5.keep k hk, (mo.trans (More.add _ _)).keep k hk]⟩⟩
          · simp (disch := omega) only [ER4, reduceIte, Nat.reduceEqDiff, Nat.reduceAdd, g0, ev]
          · simp (disch := omega) only [ER4, reduceIte, Nat.reduceEqDiff, Nat.reduceAdd, g1, ev]
          · simp (disch := omega) only [ER4, reduceIte, Nat.reduceEqDiff, Nat.reduceAdd, g4]
          · simp (disch := omega) only [ER4, reduceIte, Nat.reduceEqDiff, Nat.reduceAdd]
          · simp (disch := omega) only [ER4, reduceIte, Nat.reduceEqDiff, Nat.reduceAdd, g9]
        · clear g0 g1 g4 g6 g9 own mwv own2 src e5 own6 kp5 mv5
          rintro l d h3 ⟨wv, rfl, g0, g1, g4, g6, g9, own, mo⟩
          refine wc_opq fun Q1 hQ => ?_
          simp (disch := omega) only [ER4, reduceIte, Nat.reduceEqDiff, Nat.reduceAdd, g4]
          refine hQ _ ?_
          clear hQ Q1
          refine ⟨A.length - (i + 1), by omega, i + 1, wv, rfl, by omega, rfl, ?_, ?_, ?_, ?_, ?_, own, mo⟩
          · simp (disch := omega) only [ER4, reduceIte, Nat.reduceEqDiff, Nat.reduceAdd, g0]
          · simp (disch := omega) only [ER4, reduceIte, Nat.reduceEqDiff, Nat.reduceAdd, g1]
          · simp (disch := omega) only [ER4, reduceIte, Nat.reduceEqDiff, Nat.reduceAdd]
          · simp (disch := omega) only [ER4, reduceIte, Nat.reduceEqDiff, Nat.reduceAdd, g6]
          · simp (disch := omega) only [ER4, reduceIte, Nat.reduceEqDiff, Nat.reduceAdd, g9]
      · obtain rfl : i = A.length := by omega
        rw [List.take_length] at own
        refine wc_exit ⟨wv, rfl, ?_, ?_, ?_, ?_, own, mo⟩
        · simp (disch := omega) only [ER4, reduceIte, Nat.reduceEqDiff, Nat.reduceAdd, g0]
        · simp (disch := omega) only [ER4, reduceIte, Nat.reduceEqDiff, Nat.reduceAdd, g1]
        · simp (disch := omega) only [ER4, reduceIte, Nat.reduceEqDiff, Nat.reduceAdd, g6]
        · simp (disch := omega) only [ER4, reduceIte, Nat.reduceEqDiff, Nat.reduceAdd, g9]
    · refine ⟨0, _, rfl, by omega, rfl, ?_, ?_, ?_, ?_, ?_, start _ (More.refl _), More.refl _⟩
      all_goals simp (disch := omega) only [ER4, reduceIte, Nat.reduceEqDiff, Nat.reduceAdd, i0]
  rintro l d hY ⟨vx, rfl, g0, g1, g6, g9, ownx, moX⟩
  refine wc_mid (fun l d h2 => ∃ vx', d = [] ∧ l.get 0 = some va ∧ l.get 1 = some vb ∧ l.get 9 = some vx' ∧ l.get 6 = some vx ∧ OwnR h2 hY.next vx' B ∧ More hY h2) ?_ ?_
  · have mo0 := mo0.trans moX
    have start : ∀ h2, More hY h2 → OwnR h2 hY.next (.sl (h.next + 1) 0 0 (.known 0)) (B.take 0) := fun _ _ => .emp
    refine wc_seq (wc_opq fun Q1 hQ => ?_)
    simp (disch := omega) only [ER4, reduceIte, Nat.reduceEqDiff, Nat.reduceAdd, g0, g1, g6, g9]
    refine hQ _ ?_
    clear hQ Q1
    refine wc_block ?_
    refine wc_while (fun k l d h2 => ∃ (i : Nat) (wv : AV), k = B.length - i ∧ i ≤ B.length ∧ d = [] ∧ l.get 0 = some va ∧ l.get 1 = some vb ∧ l.get 7 = some (.int .i64 (i : Int)) ∧ l.get 9 = some wv ∧ l.get 6 = some (vx) ∧ OwnR h2 hY.next wv (B.take i) ∧ More hY h2) ?_ (B.length - 0) ?_
    · rintro k l d h2 ⟨i, wv, hk, hi, rfl, g0, g1, g4, g6, g9, own, mo⟩
      refine wc_seq ?_
      refine wc_seq (wc_opq fun Q1 hQ => ?_)
      simp (disch := omega) only [ER4, reduceIte, Nat.reduceEqDiff, Nat.reduceAdd, g0, g1, g4, mova, movb, lena, lenb]
      refine hQ _ ?_
      clear hQ Q1
      refine wc_if (i < B.length) (by simp (disch := omega) only [ER4, reduceIte, Nat.reduceEqDiff, Nat.reduceAdd]) (fun hlt => ?_) (fun hge => ?_)
      · refine wc_skip ?_
        obtain ⟨id, off, cap, sz, c, ev, gc, lt, hx⟩ := sb.at4 (by omega)
        have gc2 : h2.mem.get id = some (.cells c sz false true) := by rw [mo.keep _ (Nat.lt_of_lt_of_le lt mo0.next), mo0.keep _ lt]; exact gc
        have q := hx i hlt
        have hT : B.take (i + 1) = B.take i ++ [B[i]] := by rw [List.take_add_one, List.getElem?_eq_getElem hlt]; rfl
        generalize B[i] = s at *
        have q2 : loadL c 2 (off + i * 4) = some [.int .i64 s.a, .int .i64 s.b] := q.load2
        have qc : c.get (off + i * 4 + 2) = some (.int .i64 s.c) := q.c
        have qd : c.get (off + i * 4 + 3) = some (.int .i64 s.d) := q.d
        have mwv : ∀ h', oMove (.c wv) .leaf [] h' = .val wv h' := fun h' => move_mv own.mv
        have own2 := own.more (More.add h2 (.cells (ofList [.int .i64 s.a, .int .i64 s.b, .int .i64 s.c, .int .i64 s.d]) 4 false false))
        have src : SrcR (h2.add (.cells (ofList [.int .i64 s.a, .int .i64 s.b, .int .i64 s.c, .int .i64 s.d]) 4 false false)) (.sl h2.next 0 1 (.known 1)) [s] := srcs (xs := [s]) (off := 0) (by rw [AH.add_mem, T.get_put_self]) fun i hi => by
          obtain rfl : i = 0 := by simp at hi; omega
          exact ⟨rfl, rfl, rfl, rfl⟩
        obtain ⟨v', h5, e5, own6, kp5, _, _⟩ := own2.appendN src (by rw [AH.add_next]; have := mo.next; omega) (by rw [List.length_take, List.length_singleton]; omega)
        have mv5 : ∀ h', oMove (.c v') .leaf [] h' = .val v' h' := fun h' => move_mv own6.mv
        refine wc_mid (fun l d h3 => ∃ wv, d = [] ∧ l.get 0 = some va ∧ l.get 1 = some vb ∧ l.get 7 = some (.int .i64 (i : Int)) ∧ l.get 9 = some wv ∧ l.get 6 = some (vx) ∧ OwnR h3 hY.next wv (B.take (i + 1)) ∧ More hY h3) ?_ ?_
        · refine wc_block ?_
          refine wc_opq fun Q1 hQ => ?_
          simp (disch := omega) only [ER4, reduceIte, Nat.reduceEqDiff, Nat.reduceAdd, g0, g1, g4, g6, ev, hlt, gc2, q2, qc, qd, mwv, e5, mv5, Nat.reduceLeDiff]
          refine hQ _ ?_
          clear hQ Q1
          refine ⟨v', rfl, ?_, ?_, ?_, ?_, ?_, by rw [hT]; exact own6, ⟨Nat.le_trans (mo.trans (More.add _ _)).next kp5.next, fun k hk => by rw [kp5.keep k hk, (mo.trans (More.add _ _)).keep k hk]⟩⟩
          · simp (disch := omega) only [ER4, reduceIte, Nat.reduceEqDiff, Nat.reduceAdd, g0, ev]
          · simp (disch := omega) only [ER4, reduceIte, Nat.reduceEqDiff, Nat.reduceAdd, g1, ev]
          · simp (disch := omega) only [ER4, reduceIte, Nat.reduceEqDiff, Nat.reduceAdd, g4]
          · simp (disch := omega) only [ER4, reduceIte, Nat.reduceEqDiff, Nat.reduceAdd]
          · simp (disch := omega) only [ER4, reduceIte, Nat.reduceEqDiff, Nat.reduceAdd, g9]
        · clear g0 g1 g4 g6 g9 own mwv own2 src e5 own6 kp5 mv5
          rintro l d h3 ⟨wv, rfl, g0, g1, g4, g6, g9, own, mo⟩
          refine wc_opq fun Q1 hQ => ?_
          simp (disch := omega) only [ER4, reduceIte, Nat.reduceEqDiff, Nat.reduceAdd, g4]
          refine hQ _ ?_
          clear hQ Q1
          refine ⟨B.length - (i + 1), by omega, i + 1, wv, rfl, by omega, rfl, ?_, ?_, ?_, ?_, ?_, own, mo⟩
          · simp (disch := omega) only [ER4, reduceIte, Nat.reduceEqDiff, Nat.reduceAdd, g0]
          · simp (disch := omega) only [ER4, reduceIte, Nat.reduceEqDiff, Nat.reduceAdd, g1]
          · simp (disch := omega) only [ER4, reduceIte, Nat.reduceEqDiff, Nat.reduceAdd]
          · simp (disch := omega) only [ER4, reduceIte, Nat.reduceEqDiff, Nat.reduceAdd, g6]
          · simp (disch := omega) only [ER4, reduceIte, Nat.reduceEqDiff, Nat.reduceAdd, g9]
      · obtain rfl : i = B.length := by omega
        rw [List.take_length] at own
        refine wc_exit ⟨wv, rfl, ?_, ?_, ?_, ?_, own, mo⟩
        · simp (disch := omega) only [ER4, reduceIte, Nat.reduceEqDiff, Nat.reduceAdd, g0]
        · simp (disch := omega) only [ER4, reduceIte, Nat.reduceEqDiff, Nat.reduceAdd, g1]
        · simp (disch := omega) only [ER4, reduceIte, Nat.reduceEqDiff, Nat.reduceAdd, g6]
        · simp (disch := omega) only [ER4, reduceIte, Nat.reduceEqDiff, Nat.reduceAdd, g9]
    · refine ⟨0, _, rfl, by omega, rfl, ?_, ?_, ?_, ?_, ?_, start _ (More.refl _), More.refl _⟩
      all_goals simp (disch := omega) only [ER4, reduceIte, Nat.reduceEqDiff, Nat.reduceAdd, g0, g1, g6, g9]
  have mvx : ∀ h', oMove (.c vx) .leaf [] h' = .val vx h' := fun h' => move_mv ownx.mv
  clear g0 g1 g6 g9
  rintro l d hZ ⟨vy, rfl, g0, g1, g9, g6, owny, moY⟩
  have mvy : ∀ h', oMove (.c vy) .leaf [] h' = .val vy h' := fun h' => move_mv owny.mv
  have mZ : More h hZ := (mo0.trans moX).trans moY
  refine wc_seq (wc_opq fun Q1 hQ => ?_)
  simp (disch := omega) only [ER4, reduceIte, Nat.reduceEqDiff, Nat.reduceAdd, g0, g1, mova, movb]
  refine (sjoin_gp tj tc tg ts (sa.rd.more mZ) (sb.rd.more mZ) (by omega) (by omega)).mono ?_
  rintro v1 h1 ⟨own1, m1⟩
  simp (disch := omega) only [ER4, reduceIte, Nat.reduceEqDiff, Nat.reduceAdd, g6, g9, mvx, mvy]
  refine (rjoin_gp trj ((ownx.more moY).more m1).rd (owny.more m1).rd (by omega) (by omega)).mono ?_
  rintro v2 h2 ⟨own2, m2⟩
  skip
  refine (same_gp t5 (own1.more m2) own2 ?_).mono ?_
  · have := len_foldl_ins (A ++ B) []
    simp only [List.length_nil, List.length_append] at this
    omega
  rintro v h3 rfl
  simp (disch := omega) only [ER4, reduceIte, Nat.reduceEqDiff, Nat.reduceAdd]
  refine hQ _ ?_
  clear hQ Q1
  refine wc_ret ⟨_, results_val results_nil, ?_⟩
  simp (disch := omega) only [ER4, reduceIte, Nat.reduceEqDiff, Nat.reduceAdd, one_one]
end
end Go.Ev
