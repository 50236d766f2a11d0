/- PaW11 PaW12 PaW13 PaW14 PaW15 PaW16 PaW17 PaP -/
import Derived.Test.YtlolcfdllehpgaaGreatDoorPaH
import Derived.Test.YtlolcfdllehpgaaGreatDoorPaF
set_option linter.unusedSimpArgs false
set_option linter.unusedVariables false
set_option linter.unusedSectionVars false
set_option linter.defProp false
set_option maxRecDepth 100000
set_option maxHeartbeats 4000000
namespace Go.Ev
open Go Go.Pa
theorem numVal_eq {s : Str} (h : (numP s).2 = 0) : (numP s).1 = numVal s := by
 unfold numP at h ⊢
 unfold numVal
 split at h
 ·cases h
 ·rename_i hn
  rw [if_neg hn]
  cases e : Lib.atoiAll s with
  | ok v => rfl
  | range => simp [e] at h
  | _ => simp [e] at h
section
variable {tab : Nat → Option AFunc} {h : AH} (H : PT tab) {ts : List Tok} {en r i d : Nat}
include H in
theorem key_ge (R : RS ts en h r i d) (hi : i < ts.length) : GS tab 192 [.ptr r 0] ts en r i d h (keyS ts en i d) fun t v h1 => okT t h.next v h1 := by
 intro y hy hne
 have i0 : zAh [.ptr r 0] = zAd [.ptr r 0] := rfl
 have hr := R.lt
 refine ge_of H.t192 rfl ?_
 refine zBk fun h1 n1 g1 m1 => ?_
 have R1 := R.more m1
 refine zAc (zAb fun Q1 hQ => ?_)
 simp (disch := omega) only [EL, ↓K3, ↓K1, reduceIte, Nat.reduceEqDiff, Nat.reduceAdd, Nat.reduceLeDiff, i0]
 refine (zCm H R1 hi).to fun v h2 q => ?_
 obtain ⟨rfl, R2, b2⟩ := q
 have nb2 := b2.next
 have c2 := (m1.but r).trans b2
 have rc2 := (b2.keep h.next (by omega) (by omega)).trans g1
 simp (disch := omega) only [EL, ↓K3, ↓K1, reduceIte, Nat.reduceEqDiff, Nat.reduceAdd, Nat.reduceLeDiff, i0]
 refine hQ _ ?_
 clear hQ Q1
 refine zDs fun h3 n3 g3 m3 => ?_
 obtain ⟨ct, gt, k0, k1, k2⟩ := g3
 simp only [zAa]
 have R3 := R2.more m3
 have rc3 := (m3.keep h.next (by omega)).trans rc2
 refine zAc (zAb fun Q1 hQ => ?_)
 simp (disch := omega) only [EL, ↓K3, ↓K1, reduceIte, Nat.reduceEqDiff, Nat.reduceAdd, Nat.reduceLeDiff, i0, gt, k2]
 refine (zDh H (op := 17) (pos := (now ts en i).pos) (fun _ => rfl) rfl).to fun v h4 q => ?_
 obtain ⟨ia, rfl, i1, i2, nc, m4⟩ := q
 simp (disch := omega) only [EL, ↓K3, ↓K1, reduceIte, Nat.reduceEqDiff, Nat.reduceAdd, Nat.reduceLeDiff, i0]
 refine hQ _ ?_
 clear hQ Q1
 refine zBp fun h5 n5 g5 m5 => ?_
 obtain ⟨cb, gb, cb0⟩ := g5
 simp only [zAa]
 have m45 := m4.trans m5
 have n4 := m4.next
 have R5 := R3.more m45
 have b5 : MoreBut r h h5 := c2.trans ((m3.trans m45).but r)
 have nc5 := nc.keep (m5.keep ia i2)
 have rc5 := (m45.keep h.next (by omega)).trans rc3
 have gt5 := (m45.keep h2.next (by omega)).trans gt
 have fin : ∀ (l : T AV) (h6 : AH) (op : Nat) (n : Int) (nm : Str) (pos i' ib : Nat), l.get 4 = some (.ptr h4.next 0) → l.get 8 = some (.ptr h.next 0) → (∃ c, h6.mem.get h4.next = some (.cells c 1 none false) ∧ c.get 0 = some (.ptr ib 0)) →
   h6.mem.get h.next = some (.cells (zAd [.nilp]) (llen [.nilp]) none false) → NodeC h6 ib op nm [] n pos .nils → h.next < ib → ib < h6.next → RS ts en h6 r i' d → MoreBut r h h6 → i < i' → y = .ok (.mk op nm [] n pos []) i' d →
   WC tab (.seq (.ops [⟨.loadN 1 (.l 4), none, none, []⟩, ⟨.store 1 (.l 8) (.t 0), none, none, []⟩]) .ret) l [] h6 (zDz [.cellN 1 (.l 8)] (okP y ts en r i d h fun t v h1 => okT t h.next v h1) (erP y r h)) := by
  intro l h6 op n nm pos i' ib l4 l8 ⟨c, gc, gc0⟩ rc6 nc6 hib hib2 R6 b6 hlt hy'
  refine zC0 (b := h4.next) (rc := h.next) l4 gc gc0 l8 rc6 (by rw [zAk]; rfl) fun h7 o7 => ?_
  refine ⟨_, _, hy', hlt, o7.rs R6 (by omega), o7.mb b6 (Nat.le_refl _), _, rfl, ?_⟩
  exact Kids.tree (lo := h.next) (X := []) Kids.nils (nc6.keep (o7.keep _ (by omega))) (by show h.next ≤ ib; omega) (by rw [o7.next]; omega) fun k hk => hk
 obtain ⟨c, gn, c0, c1, c2', c3, c4, c5, ncT, _, ncN, ncO⟩ := nc5.set
 refine zAc ?_
 refine zAc ?_
 refine zAb fun Q1 hQ => ?_
 simp (disch := omega) only [EL, ↓K3, ↓K1, reduceIte, Nat.reduceEqDiff, Nat.reduceAdd, Nat.reduceLeDiff, gt5, k1]
 refine hQ _ ?_
 clear hQ Q1
 simp only [zAa]
 refine zAy ?_
 refine zAc ?_
 unfold keyS at hy
 simp only at hy
 by_cases t1 : (now ts en i).text = [116, 114, 117, 101]
 ·rw [if_pos t1] at hy
  refine zAc ?_
  refine zAb fun Q1 hQ => ?_
  simp (disch := omega) only [EL, ↓K3, ↓K1, reduceIte, Nat.reduceEqDiff, Nat.reduceAdd, Nat.reduceLeDiff, t1]
  refine hQ _ ?_
  clear hQ Q1
  simp only [zAa]
  refine zAt (by simp +decide only [EL, reduceIte]) ?_
  refine zAm ?_
  simp only [zAa]
  refine zAt (by simp +decide only [EL, reduceIte]) ?_
  refine zAc (zAb fun Q1 hQ => ?_)
  simp (disch := omega) only [EL, ↓K3, ↓K1, reduceIte, Nat.reduceEqDiff, Nat.reduceAdd, Nat.reduceLeDiff, gb, cb0, gn, c0]
  refine hQ _ ?_
  clear hQ Q1
  have nc6 := ncO 16
  have o6 : Only ia h5 (h5.set ia (.cells (T.put (some (.int .i64 ((16 : Nat) : Int))) c 0) 6 none false)) := Only.set
  generalize (h5.set ia (.cells (T.put (some (.int .i64 ((16 : Nat) : Int))) c 0) 6 none false)) = h6 at *
  have n6 := o6.next
  have gb6 := (o6.keep h4.next (by omega)).trans gb
  have gt6 := (o6.keep h2.next (by omega)).trans gt5
  obtain ⟨d', gn', d0, d1, d2, d3, d4, d5, _, _, ncN', _⟩ := nc6.set
  refine zAc (zAb fun Q1 hQ => ?_)
  simp (disch := omega) only [EL, ↓K3, ↓K1, reduceIte, Nat.reduceEqDiff, Nat.reduceAdd, Nat.reduceLeDiff, gt6, k1, t1]
  refine hQ _ ?_
  clear hQ Q1
  refine zAt (by simp +decide only [EL, reduceIte]) ?_
  refine zAb fun Q1 hQ => ?_
  simp (disch := omega) only [EL, ↓K3, ↓K1, reduceIte, Nat.reduceEqDiff, Nat.reduceAdd, Nat.reduceLeDiff, gb6, cb0, gn', d3]
  refine hQ _ ?_
  clear hQ Q1
  simp only [zAa, zAi]
  have nc7 := ncN' 1
  have o7 : Only ia h6 (h6.set ia (.cells (T.put (some (.int .i64 1)) d' 3) 6 none false)) := Only.set
  have e7 : ((1 : Nat) : Int) = 1 := rfl
  rw [e7]
  generalize (h6.set ia (.cells (T.put (some (.int .i64 1)) d' 3) 6 none false)) = h7 at *
  have n7 := o7.next
  refine fin _ h7 16 1 [] _ (i + 1) ia (by simp +decide only [EL, reduceIte]) (by simp +decide only [EL, reduceIte]) ⟨cb, (o7.keep _ (by omega)).trans gb6, cb0⟩ ((o7.keep _ (by omega)).trans ((o6.keep _ (by omega)).trans rc5)) nc7 (by omega) (by omega) (o7.rs (o6.rs R5 (by omega)) (by omega)) (o7.mb (o6.mb b5 (by omega)) (by omega)) (by omega) hy.symm
 ·rw [if_neg t1] at hy
  refine zAc ?_
  refine zAb fun Q1 hQ => ?_
  simp (disch := omega) only [EL, ↓K3, ↓K1, reduceIte, Nat.reduceEqDiff, Nat.reduceAdd, Nat.reduceLeDiff, t1]
  refine hQ _ ?_
  clear hQ Q1
  simp only [zAa]
  refine wc_no (by simp +decide only [EL, reduceIte]) ?_
  by_cases t2 : (now ts en i).text = [102, 97, 108, 115, 101]
  ·rw [if_pos t2] at hy
   refine zAb fun Q1 hQ => ?_
   simp (disch := omega) only [EL, ↓K3, ↓K1, reduceIte, Nat.reduceEqDiff, Nat.reduceAdd, Nat.reduceLeDiff, t2]
   refine hQ _ ?_
   clear hQ Q1
   simp only [zAa]
   refine zAt (by simp +decide only [EL, reduceIte]) ?_
   refine zAc (zAb fun Q1 hQ => ?_)
   simp (disch := omega) only [EL, ↓K3, ↓K1, reduceIte, Nat.reduceEqDiff, Nat.reduceAdd, Nat.reduceLeDiff, gb, cb0, gn, c0]
   refine hQ _ ?_
   clear hQ Q1
   have nc6 := ncO 16
   have o6 : Only ia h5 (h5.set ia (.cells (T.put (some (.int .i64 ((16 : Nat) : Int))) c 0) 6 none false)) := Only.set
   generalize (h5.set ia (.cells (T.put (some (.int .i64 ((16 : Nat) : Int))) c 0) 6 none false)) = h6 at *
   have n6 := o6.next
   have gb6 := (o6.keep h4.next (by omega)).trans gb
   have gt6 := (o6.keep h2.next (by omega)).trans gt5
   refine zAc (zAb fun Q1 hQ => ?_)
   simp (disch := omega) only [EL, ↓K3, ↓K1, reduceIte, Nat.reduceEqDiff, Nat.reduceAdd, Nat.reduceLeDiff, gt6, k1, t1]
   refine hQ _ ?_
   clear hQ Q1
   refine wc_no (by simp +decide only [EL, reduceIte]) ?_
   refine zAm ?_
   simp only [zAa, zAi]
   refine fin _ h6 16 0 [] _ (i + 1) ia (by simp +decide only [EL, reduceIte]) (by simp +decide only [EL, reduceIte]) ⟨cb, gb6, cb0⟩ ((o6.keep _ (by omega)).trans rc5) nc6 (by omega) (by omega) (o6.rs R5 (by omega)) (o6.mb b5 (by omega)) (by omega) hy.symm
  ·rw [if_neg t2] at hy
   refine zAb fun Q1 hQ => ?_
   simp (disch := omega) only [EL, ↓K3, ↓K1, reduceIte, Nat.reduceEqDiff, Nat.reduceAdd, Nat.reduceLeDiff, t2]
   refine hQ _ ?_
   clear hQ Q1
   simp only [zAa]
   refine wc_no (by simp +decide only [EL, reduceIte]) ?_
   by_cases t3 : (now ts en i).text = [110, 101, 119]
   ·rw [if_pos t3] at hy
    refine zAc (zAb fun Q1 hQ => ?_)
    simp (disch := omega) only [EL, ↓K3, ↓K1, reduceIte, Nat.reduceEqDiff, Nat.reduceAdd, Nat.reduceLeDiff, t3]
    refine hQ _ ?_
    clear hQ Q1
    refine zAt (by simp +decide only [EL, reduceIte]) ?_
    refine zAc (zAb fun Q1 hQ => ?_)
    simp (disch := omega) only [EL, ↓K3, ↓K1, reduceIte, Nat.reduceEqDiff, Nat.reduceAdd, Nat.reduceLeDiff, i0]
    refine (zBs H R5 _ _ rfl (zA2 hy hne)).mono (fun v h6 q => ?_) (fun v h6 e => ?_)
    rotate_left
    ·obtain ⟨p, er, hx, rfl, fr'⟩ := e
     rw [hx] at hy
     exact hQ _ ⟨p, er, hy.symm, rfl, MoreBut.trans b5 fr'⟩
    obtain ⟨p6, i, hx, lib6, R6, b6, q⟩ := q
    rw [hx, zAv] at hy
    have nb6 := MoreBut.next b6
    simp (disch := omega) only [EL, ↓K3, ↓K1, reduceIte, Nat.reduceEqDiff, Nat.reduceAdd, Nat.reduceLeDiff, i0]
    refine hQ _ ?_
    clear hQ Q1
    simp only [zAa]
    have gb6 := (b6.keep h4.next (by omega) (by omega)).trans gb
    have rc6 := (b6.keep h.next (by omega) (by omega)).trans rc5
    refine zAc (zAb fun Q1 hQ => ?_)
    simp (disch := omega) only [EL, ↓K3, ↓K1, reduceIte, Nat.reduceEqDiff, Nat.reduceAdd, Nat.reduceLeDiff, i0]
    refine (zG4 H R6 _ rfl (zA2 hy hne)).mono (fun v h7 q => ?_) (fun v h7 e => ?_)
    rotate_left
    ·obtain ⟨p, er, hx, rfl, fr'⟩ := e
     rw [hx] at hy
     exact hQ _ ⟨p, er, hy.symm, rfl, MoreBut.trans (b5.trans b6) fr'⟩
    obtain ⟨w, i, hx, lib7, R7, b7, q⟩ := q
    rw [hx, zAv] at hy
    have nb7 := MoreBut.next b7
    obtain ⟨rfl, tb⟩ := q
    have gb7 := (b7.keep h4.next (by omega) (by omega)).trans gb6
    have rc7 := (b7.keep h.next (by omega) (by omega)).trans rc6
    simp (disch := omega) only [EL, ↓K3, ↓K1, reduceIte, Nat.reduceEqDiff, Nat.reduceAdd, Nat.reduceLeDiff, i0]
    refine (zGe H (op := 19) (fun _ => rfl) rfl).to fun v h8 q => ?_
    obtain ⟨ib, rfl, j1, j2, nc8, m8⟩ := q
    have gb8 := (m8.keep h4.next (by omega)).trans gb7
    have rc8 := (m8.keep h.next (by omega)).trans rc7
    have n8 := m8.next
    simp (disch := omega) only [EL, ↓K3, ↓K1, reduceIte, Nat.reduceEqDiff, Nat.reduceAdd, Nat.reduceLeDiff, i0, gb8, cb0]
    refine hQ _ ?_
    clear hQ Q1
    simp only [zAa]
    have gb9 : ∃ c, (h8.set h4.next (.cells (T.put (some (.ptr ib 0)) cb 0) 1 none false)).mem.get h4.next = some (.cells c 1 none false) ∧ c.get 0 = some (.ptr ib 0) := ⟨_, AH.get_set, T.get_put_self _ _ _⟩
    have o9 : Only h4.next h8 (h8.set h4.next (.cells (T.put (some (.ptr ib 0)) cb 0) 1 none false)) := Only.set
    generalize (h8.set h4.next (.cells (T.put (some (.ptr ib 0)) cb 0) 1 none false)) = h9 at *
    have n9 := o9.next
    have nc9 := nc8.keep (o9.keep ib (by omega))
    have rc9 := (o9.keep h.next (by omega)).trans rc8
    have R9 := o9.rs (R7.more m8) (by omega)
    have b9 : MoreBut r h h9 := o9.mb (((b5.trans b6).trans b7).trans (m8.but r)) (by omega)
    refine zAb fun Q1 hQ => ?_
    simp (disch := omega) only [EL, ↓K3, ↓K1, reduceIte, Nat.reduceEqDiff, Nat.reduceAdd, Nat.reduceLeDiff, i0]
    refine (zBs H R9 _ _ rfl (zA2 hy hne)).mono (fun v h10 q => ?_) (fun v h10 e => ?_)
    rotate_left
    ·obtain ⟨p, er, hx, rfl, fr'⟩ := e
     rw [hx] at hy
     exact hQ _ ⟨p, er, hy.symm, rfl, MoreBut.trans b9 fr'⟩
    obtain ⟨p10, i, hx, lib10, R10, b10, q⟩ := q
    rw [hx, zAv] at hy
    have nb10 := MoreBut.next b10
    simp (disch := omega) only [EL, ↓K3, ↓K1, reduceIte, Nat.reduceEqDiff, Nat.reduceAdd, Nat.reduceLeDiff, i0]
    refine hQ _ ?_
    clear hQ Q1
    simp only [zAa, zAi]
    obtain ⟨c9, gc9, gc90⟩ := gb9
    refine fin _ h10 19 0 w.text w.pos i ib (by simp +decide only [EL, reduceIte]) (by simp +decide only [EL, reduceIte]) ⟨c9, (b10.keep _ (by omega) (by omega)).trans gc9, gc90⟩ ((b10.keep _ (by omega) (by omega)).trans rc9) (nc9.keep (b10.keep _ (by omega) (by omega))) (by omega) (by omega) R10 (b9.trans b10) (by omega) hy.symm
   ·rw [if_neg t3] at hy
    refine zAc (zAb fun Q1 hQ => ?_)
    simp (disch := omega) only [EL, ↓K3, ↓K1, reduceIte, Nat.reduceEqDiff, Nat.reduceAdd, Nat.reduceLeDiff, t3]
    refine hQ _ ?_
    clear hQ Q1
    refine wc_no (by simp +decide only [EL, reduceIte]) ?_
    by_cases t4 : (now ts en i).text = [114, 101, 97, 100]
    ·rw [if_pos t4] at hy
     refine zAc (zAb fun Q1 hQ => ?_)
     simp (disch := omega) only [EL, ↓K3, ↓K1, reduceIte, Nat.reduceEqDiff, Nat.reduceAdd, Nat.reduceLeDiff, t4]
     refine hQ _ ?_
     clear hQ Q1
     refine zAt (by simp +decide only [EL, reduceIte]) ?_
     refine zAc (zAb fun Q1 hQ => ?_)
     simp (disch := omega) only [EL, ↓K3, ↓K1, reduceIte, Nat.reduceEqDiff, Nat.reduceAdd, Nat.reduceLeDiff, i0]
     refine (zBs H R5 _ _ rfl (zA2 hy hne)).mono (fun v h6 q => ?_) (fun v h6 e => ?_)
     rotate_left
     ·obtain ⟨p, er, hx, rfl, fr'⟩ := e
      rw [hx] at hy
      exact hQ _ ⟨p, er, hy.symm, rfl, MoreBut.trans b5 fr'⟩
     obtain ⟨p6, i, hx, lib6, R6, b6, q⟩ := q
     rw [hx, zAv] at hy
     have nb6 := MoreBut.next b6
     simp (disch := omega) only [EL, ↓K3, ↓K1, reduceIte, Nat.reduceEqDiff, Nat.reduceAdd, Nat.reduceLeDiff, i0]
     refine hQ _ ?_
     clear hQ Q1
     simp only [zAa]
     have gb6 := (b6.keep h4.next (by omega) (by omega)).trans gb
     have rc6 := (b6.keep h.next (by omega) (by omega)).trans rc5
     have nc6 := nc5.keep (b6.keep ia (by omega) (by omega))
     refine zAc (zAb fun Q1 hQ => ?_)
     simp (disch := omega) only [EL, ↓K3, ↓K1, reduceIte, Nat.reduceEqDiff, Nat.reduceAdd, Nat.reduceLeDiff, i0]
     refine (zBs H R6 _ _ rfl (zA2 hy hne)).mono (fun v h7 q => ?_) (fun v h7 e => ?_)
     rotate_left
     ·obtain ⟨p, er, hx, rfl, fr'⟩ := e
      rw [hx] at hy
      exact hQ _ ⟨p, er, hy.symm, rfl, MoreBut.trans (b5.trans b6) fr'⟩
     obtain ⟨p7, i, hx, lib7, R7, b7, q⟩ := q
     rw [hx, zAv] at hy
     have nb7 := MoreBut.next b7
     simp (disch := omega) only [EL, ↓K3, ↓K1, reduceIte, Nat.reduceEqDiff, Nat.reduceAdd, Nat.reduceLeDiff, i0]
     refine hQ _ ?_
     clear hQ Q1
     simp only [zAa]
     have gb7 := (b7.keep h4.next (by omega) (by omega)).trans gb6
     have rc7 := (b7.keep h.next (by omega) (by omega)).trans rc6
     have nc7 := nc6.keep (b7.keep ia (by omega) (by omega))
     obtain ⟨d', gn', d0, d1, d2, d3, d4, d5, _, _, _, ncO'⟩ := nc7.set
     refine zAb fun Q1 hQ => ?_
     simp (disch := omega) only [EL, ↓K3, ↓K1, reduceIte, Nat.reduceEqDiff, Nat.reduceAdd, Nat.reduceLeDiff, gb7, cb0, gn', d0]
     refine hQ _ ?_
     clear hQ Q1
     simp only [zAa, zAi]
     have nc8 := ncO' 22
     have o8 : Only ia h7 (h7.set ia (.cells (T.put (some (.int .i64 ((22 : Nat) : Int))) d' 0) 6 none false)) := Only.set
     generalize (h7.set ia (.cells (T.put (some (.int .i64 ((22 : Nat) : Int))) d' 0) 6 none false)) = h8 at *
     have n8 := o8.next
     refine fin _ h8 22 0 [] _ _ ia (by simp +decide only [EL, reduceIte]) (by simp +decide only [EL, reduceIte]) ⟨cb, (o8.keep _ (by omega)).trans gb7, cb0⟩ ((o8.keep _ (by omega)).trans rc7) nc8 (by omega) (by omega) (o8.rs R7 (by omega)) (o8.mb ((b5.trans b6).trans b7) (by omega)) (by omega) hy.symm
    ·rw [if_neg t4] at hy
     refine zAc (zAb fun Q1 hQ => ?_)
     simp (disch := omega) only [EL, ↓K3, ↓K1, reduceIte, Nat.reduceEqDiff, Nat.reduceAdd, Nat.reduceLeDiff, t4]
     refine hQ _ ?_
     clear hQ Q1
     refine wc_no (by simp +decide only [EL, reduceIte]) ?_
     refine zAm ?_
     simp only [zAa, zAi]
     refine fin _ h5 17 0 [] _ (i + 1) ia (by simp +decide only [EL, reduceIte]) (by simp +decide only [EL, reduceIte]) ⟨cb, gb, cb0⟩ rc5 nc5 (by omega) (by omega) R5 b5 (by omega) hy.symm
end
end Go.Ev
namespace Go.Ev
open Go Go.Pa
theorem zE3 {h : AH} {lo s : Nat} {X : List Nat} {u : AV} {t : Tree} (g : h.mem.get s = some (.cells (zAd [u]) 1 none false)) (hs : s < h.next) (hlo : lo ≤ s) (hX : s ∉ X) (x : TreeR h (fun k => lo ≤ k ∧ k ∉ X ∧ k ≠ s) u t) : Kids h lo X (.sl s 0 1 (.known 1)) [t] := by
 refine ⟨[u], Arr.sl (cs := [u]) (by simp) ⟨hlo, hX⟩ hs g (fun i _ => zAk _ _) (.inr rfl) (by simp), x.less fun k hk _ => ⟨hk.1, hk.2.1, fun l n e => ?_⟩, trivial⟩
 injection e with e; exact hk.2.2 e.symm
theorem kids_of2 {h : AH} {lo s : Nat} {X : List Nat} {u w : AV} {t t' : Tree} (g : h.mem.get s = some (.cells (zAd [u, w]) 2 none false)) (hs : s < h.next) (hlo : lo ≤ s) (hX : s ∉ X) (x : TreeR h (fun k => lo ≤ k ∧ k ∉ X ∧ k ≠ s) u t) (x' : TreeR h (fun k => lo ≤ k ∧ k ∉ X ∧ k ≠ s) w t') : Kids h lo X (.sl s 0 2 (.known 2)) [t, t'] := by
 refine ⟨[u, w], Arr.sl (cs := [u, w]) (by simp) ⟨hlo, hX⟩ hs g (fun i _ => zAk _ _) (.inr rfl) (by simp), x.less fun k hk _ => ⟨hk.1, hk.2.1, fun l n e => ?_⟩, x'.less fun k hk _ => ⟨hk.1, hk.2.1, fun l n e => ?_⟩, trivial⟩
 ·injection e with e; exact hk.2.2 e.symm
 ·injection e with e; exact hk.2.2 e.symm
structure EX (tab : Nat → Option AFunc) (ts : List Tok) (en n : Nat) : Prop where
 expr : ∀ {h : AH} {r i d : Nat} (least : Nat), RS ts en h r i d → d ≤ 40 → least ≤ 6 → GS tab 134 [.ptr r 0, .int .i64 (least : Int)] ts en r i d h (exprS ts en n least i d) fun t v h1 => okT t h.next v h1
 unary : ∀ {h : AH} {r i d : Nat}, RS ts en h r i d → d ≤ 40 → GS tab 152 [.ptr r 0] ts en r i d h (zB1 ts en n i d) fun t v h1 => okT t h.next v h1
 post : ∀ {h : AH} {r i d : Nat}, RS ts en h r i d → d ≤ 40 → GS tab 166 [.ptr r 0] ts en r i d h (postS ts en n i d) fun t v h1 => okT t h.next v h1
 prim : ∀ {h : AH} {r i d : Nat}, RS ts en h r i d → d ≤ 40 → GS tab 180 [.ptr r 0] ts en r i d h (primS ts en n i d) fun t v h1 => okT t h.next v h1
 call : ∀ {h : AH} {r i d : Nat} (t : Tok), RS ts en h r i d → d ≤ 40 → isT ts en [40] i = true → GS tab 196 [.ptr r 0, tokV t] ts en r i d h (callS ts en n t i d) fun t v h1 => okT t h.next v h1
 brack : ∀ {h : AH} {r i d : Nat}, RS ts en h r i d → d ≤ 40 → GS tab 154 [.ptr r 0] ts en r i d h (zA9 ts en n i d) fun t v h1 => okT t h.next v h1
theorem levelS_lt {ts : List Tok} {en i : Nat} : (zB6 ts en i).1 ≤ 5 := by
 unfold zB6
 repeat' split
 all_goals try (show _ ≤ 5; decide)
 show opLevel _ ≤ 5
 unfold opLevel
 repeat' split
 all_goals omega
theorem zKp {ts : List Tok} {en i : Nat} (h : (zB6 ts en i).1 ≠ 0) : i < ts.length := by
 rcases Nat.lt_or_ge i ts.length with h1 | h1
 ·exact h1
 ·refine absurd ?_ h
  unfold zB6
  rw [zD8 (by omega)]
  simp
section
variable {tab : Nat → Option AFunc} {h : AH} (H : PT tab) {ts : List Tok} {en r i d : Nat}
include H in
theorem expr_ge {n : Nat} (IH : ∀ m, m < n → EX tab ts en m) (R : RS ts en h r i d) (hd : d ≤ 40) (least : Nat) (hle : least ≤ 6) : GS tab 134 [.ptr r 0, .int .i64 (least : Int)] ts en r i d h (exprS ts en n least i d) fun t v h1 => okT t h.next v h1 := by
 intro y hy hne
 cases n with
 | zero => exact absurd (by rw [← hy]; simp [exprS]) hne
 | succ n =>
 have i0 : zAh [.ptr r 0, .int .i64 (least : Int)] = zAd [.ptr r 0, .int .i64 (least : Int)] := rfl
 have hr := R.lt
 obtain ⟨z, hz⟩ : ∃ z, z = i := ⟨_, rfl⟩
 refine ge_of H.t134 rfl ?_
 refine zBk fun h1 n1 g1 m1 => ?_
 have R1 := R.more m1
 unfold exprS at hy
 refine zAc (zAb fun Q1 hQ => ?_)
 simp (disch := omega) only [EL, ↓K3, ↓K1, reduceIte, Nat.reduceEqDiff, Nat.reduceAdd, Nat.reduceLeDiff, i0]
 refine ((IH n (by omega)).unary R1 hd _ rfl (zA2 hy hne)).mono (fun v h2 q => ?_) (fun v h2 e => ?_)
 rotate_left
 ·obtain ⟨p, er, hx, rfl, fr'⟩ := e
  rw [hx] at hy
  exact hQ _ ⟨p, er, hy.symm, rfl, MoreBut.trans (m1.but r) fr'⟩
 obtain ⟨lt, i, hx, lib2, R2, b2, q⟩ := q
 rw [hx, zAv] at hy
 have nb2 := MoreBut.next b2
 obtain ⟨u, rfl, tr⟩ := q
 simp (disch := omega) only [EL, ↓K3, ↓K1, reduceIte, Nat.reduceEqDiff, Nat.reduceAdd, Nat.reduceLeDiff, i0]
 refine hQ _ ?_
 clear hQ Q1
 refine zBp fun h3 n3 g3 m3 => ?_
 simp only [zAa]
 have R3 := R2.more m3
 have b3 := ((m1.but r).trans b2).trans (m3.but r)
 have rc3 := (m3.keep h.next (by omega)).trans ((b2.keep h.next (by omega) (by omega)).trans g1)
 have tr3 : TreeR h3 (fun k => h.next ≤ k ∧ k ∉ [h.next, h2.next]) u lt := TreeR.keep m3.stay (fun k hk hl => ⟨by omega, by simp; omega⟩) tr
 refine zAy ?_
 refine zCg (fun m l d1 h7 => ∃ i left u, m ≤ n ∧ d1 = [] ∧ l.get 0 = some (.ptr r 0) ∧ l.get 1 = some (.int .i64 (least : Int)) ∧ l.get 4 = some (.ptr h2.next 0) ∧ l.get 5 = some (.ptr h.next 0) ∧ RS ts en h7 r i d ∧ MoreBut r h h7 ∧ (∃ c, h7.mem.get h2.next = some (.cells c 1 none false) ∧ c.get 0 = some u) ∧
  h7.mem.get h.next = some (.cells (zAd [.nilp]) (llen [.nilp]) none false) ∧ TreeR h7 (fun k => h.next ≤ k ∧ k ∉ [h.next, h2.next]) u left ∧ h3.next ≤ h7.next ∧ z < i ∧ exprL ts en m least i d left = y) ?_ n ?_
 ·rintro m l d1 h7 ⟨i, left, u, hm, rfl, l0, l1, l4, l5, R7, b7, ⟨cb, gb, cb0⟩, rc7, tr7, n7, zi, hy⟩
  cases m with
  | zero => exact absurd (by rw [← hy]; simp [exprL]) hne
  | succ m =>
  unfold exprL at hy
  refine zAy ?_
  refine zAc (zAb fun Q1 hQ => ?_)
  simp (disch := omega) only [EL, ↓K3, ↓K1, reduceIte, Nat.reduceEqDiff, Nat.reduceAdd, Nat.reduceLeDiff, l0]
  refine (level_gp H R7).to fun v h8 q => ?_
  obtain ⟨rfl, m8⟩ := q
  simp (disch := omega) only [EL, ↓K3, ↓K1, reduceIte, Nat.reduceEqDiff, Nat.reduceAdd, Nat.reduceLeDiff, l0]
  refine hQ _ ?_
  clear hQ Q1
  simp only [zAa]
  have R8 := R7.more m8
  have n8 := m8.next
  have gb8 := (m8.keep h2.next (by omega)).trans gb
  have rc8 := (m8.keep h.next (by omega)).trans rc7
  have tr8 := TreeR.keep (G := fun k => h.next ≤ k ∧ k ∉ [h.next, h2.next]) m8.stay (fun _ h _ => h) tr7
  have b8 := b7.trans (m8.but r)
  have hl5 := levelS_lt (ts := ts) (en := en) (i := i)
  have hlt := zKp (ts := ts) (en := en) (i := i)
  generalize hlev : zB6 ts en i = lev at *
  obtain ⟨lv, op⟩ := lev
  simp only at hy hl5 hlt
  refine zAc ?_
  by_cases hstop : lv = 0 ∨ lv < least
  ·rw [if_pos hstop] at hy
   refine zAc (zAb fun Q1 hQ => ?_)
   have fin : ∀ (l' : T AV), l'.get 3 = some (.bool true) → l'.get 4 = l.get 4 → l'.get 5 = l.get 5 → ∀ (K : T AV → List AV → AH → Prop) (Q : Res → Prop), (∀ v l'' h9, zDz [.cellN 1 (.l 5)] (okP y ts en r z d h fun t v h1 => okT t h.next v h1) (erP y r h) (.ret l'' [] h9) → v = (.ret l'' [] h9) → zE1 K Q v) →
     WC tab (.cond (.l 3) (.seq (.ops [⟨.loadN 1 (.l 4), none, none, []⟩, ⟨.store 1 (.l 5) (.t 0), none, none, []⟩]) .ret) .skip) l' [] h8 (zE1 K Q) := by
    intro l' e3 e4 e5 K Q hk
    refine zAt (by rw [evl, e3]; rfl) ?_
    refine zI3 (b := h2.next) (rc := h.next) (e4.trans l4) gb8 cb0 (e5.trans l5) rc8 (by rw [zAk]; rfl) fun h9 o9 hfin => ?_
    refine hk _ _ _ (hfin _ _ ⟨_, _, hy.symm, by omega, o9.rs R8 (by omega), o9.mb b8 (Nat.le_refl _), _, rfl, ?_⟩) rfl
    exact TreeR.keep (o9.stay (by simp)) (fun k hk _ => hk.1) tr8
   subst hz
   by_cases h0 : lv = 0
   ·simp (disch := omega) only [EL, ↓K3, ↓K1, reduceIte, Nat.reduceEqDiff, Nat.reduceAdd, Nat.reduceLeDiff, h0]
    refine hQ _ ?_
    simp only [zAa]
    refine fin _ (by simp +decide only [EL, reduceIte]) (by simp +decide only [EL, reduceIte]) (by simp +decide only [EL, reduceIte]) _ _ fun v l'' h9 hf e => ?_
    subst e
    simp only [zAg, zAf]
    exact hf
   ·have h1' : lv < least := by omega
    simp (disch := omega) only [EL, ↓K3, ↓K1, reduceIte, Nat.reduceEqDiff, Nat.reduceAdd, Nat.reduceLeDiff, h0, h1', l1]
    refine hQ _ ?_
    simp only [zAa]
    refine fin _ (by simp +decide only [EL, reduceIte]) (by simp +decide only [EL, reduceIte]) (by simp +decide only [EL, reduceIte]) _ _ fun v l'' h9 hf e => ?_
    subst e
    simp only [zAg, zAf]
    exact hf
  ·rw [if_neg hstop] at hy
   have h0 : ¬ lv = 0 := fun e => hstop (.inl e)
   have h1' : ¬ lv < least := fun e => hstop (.inr e)
   have hi := hlt h0
   refine zAc (zAb fun Q1 hQ => ?_)
   simp (disch := omega) only [EL, ↓K3, ↓K1, reduceIte, Nat.reduceEqDiff, Nat.reduceAdd, Nat.reduceLeDiff, h0, h1', l1]
   refine hQ _ ?_
   clear hQ Q1
   refine wc_no (by simp +decide only [EL, reduceIte]) ?_
   refine zAm ?_
   simp only [zAa]
   refine zAc (zAb fun Q1 hQ => ?_)
   simp (disch := omega) only [EL, ↓K3, ↓K1, reduceIte, Nat.reduceEqDiff, Nat.reduceAdd, Nat.reduceLeDiff, l0]
   refine (zCm H R8 hi).to fun v h9 q => ?_
   obtain ⟨rfl, R9, b9⟩ := q
   have n9 := b9.next
   have f2 : ∀ h', zCr 2 1 false (.c (tokV (now ts en i))) .leaf [] h' = .val (.int .i64 ((now ts en i).pos : Int)) h' := fun _ => rfl
   simp (disch := omega) only [EL, ↓K3, ↓K1, reduceIte, Nat.reduceEqDiff, Nat.reduceAdd, Nat.reduceLeDiff, l0, f2]
   refine hQ _ ?_
   clear hQ Q1
   simp only [zAa]
   have gb9 := (b9.keep h2.next (by omega) (by omega)).trans gb8
   have rc9 := (b9.keep h.next (by omega) (by omega)).trans rc8
   have tr9 := TreeR.keep (G := fun k => h.next ≤ k ∧ k ∉ [h.next, h2.next]) (b9.stay (by simp; omega)) (fun _ h _ => h) tr8
   have c9 := b8.trans b9
   generalize (now ts en i).pos = pos at *
   refine zAc (zAb fun Q1 hQ => ?_)
   have arr : ∀ h' : AH, (zAd [AV.int .i64 ((0 : Nat) : Int), .int .i64 ((26 : Nat) : Int), .int .i64 ((25 : Nat) : Int), .int .i64 ((24 : Nat) : Int), .int .i64 ((24 : Nat) : Int), .int .i64 ((24 : Nat) : Int)]).get lv = some (.int .i64 (binNode lv : Int)) := by
    intro _
    match lv, hl5 with
    | 0, _ => rfl
    | 1, _ => rfl
    | 2, _ => rfl
    | 3, _ => rfl
    | 4, _ => rfl
    | 5, _ => rfl
   have arr := arr h
   have hlv6 : lv < 6 := by omega
   simp (disch := omega) only [EL, ↓K3, ↓K1, reduceIte, Nat.reduceEqDiff, Nat.reduceAdd, Nat.reduceLeDiff, l0, l4, gb9, cb0, arr, zAe, hlv6]
   have m10 : More h9 ((h9.add (.cells (zAd [.int .i64 ((0 : Nat) : Int), .int .i64 ((26 : Nat) : Int), .int .i64 ((25 : Nat) : Int), .int .i64 ((24 : Nat) : Int), .int .i64 ((24 : Nat) : Int), .int .i64 ((24 : Nat) : Int)]) 6 none false)).add (.cells (zAd [.nilp]) 1 none false)) := (More.add _ _).trans (More.add _ _)
   have ga : ((h9.add (.cells (zAd [.int .i64 ((0 : Nat) : Int), .int .i64 ((26 : Nat) : Int), .int .i64 ((25 : Nat) : Int), .int .i64 ((24 : Nat) : Int), .int .i64 ((24 : Nat) : Int), .int .i64 ((24 : Nat) : Int)]) 6 none false)).add (.cells (zAd [.nilp]) 1 none false)).mem.get h9.next = some (.cells (zAd [.int .i64 ((0 : Nat) : Int), .int .i64 ((26 : Nat) : Int), .int .i64 ((25 : Nat) : Int), .int .i64 ((24 : Nat) : Int), .int .i64 ((24 : Nat) : Int), .int .i64 ((24 : Nat) : Int)]) 6 none false) := by
    rw [AH.add_mem, T.get_put_ne _ _ _ _ (by rw [AH.add_next]; omega), AH.add_mem, T.get_put_self]
   have g7 : ((h9.add (.cells (zAd [.int .i64 ((0 : Nat) : Int), .int .i64 ((26 : Nat) : Int), .int .i64 ((25 : Nat) : Int), .int .i64 ((24 : Nat) : Int), .int .i64 ((24 : Nat) : Int), .int .i64 ((24 : Nat) : Int)]) 6 none false)).add (.cells (zAd [.nilp]) 1 none false)).mem.get (h9.next + 1) = some (.cells (zAd [.nilp]) 1 none false) := by
    rw [AH.add_mem]; exact T.get_put_self _ _ _
   have n10 : ((h9.add (.cells (zAd [.int .i64 ((0 : Nat) : Int), .int .i64 ((26 : Nat) : Int), .int .i64 ((25 : Nat) : Int), .int .i64 ((24 : Nat) : Int), .int .i64 ((24 : Nat) : Int), .int .i64 ((24 : Nat) : Int)]) 6 none false)).add (.cells (zAd [.nilp]) 1 none false)).next = h9.next + 2 := rfl
   generalize (h9.add (.cells (zAd [.int .i64 ((0 : Nat) : Int), .int .i64 ((26 : Nat) : Int), .int .i64 ((25 : Nat) : Int), .int .i64 ((24 : Nat) : Int), .int .i64 ((24 : Nat) : Int), .int .i64 ((24 : Nat) : Int)]) 6 none false)).add (.cells (zAd [.nilp]) 1 none false) = h10 at *
   generalize zAd [AV.int .i64 ((0 : Nat) : Int), .int .i64 ((26 : Nat) : Int), .int .i64 ((25 : Nat) : Int), .int .i64 ((24 : Nat) : Int), .int .i64 ((24 : Nat) : Int), .int .i64 ((24 : Nat) : Int)] = c6 at *
   have R10 := R9.more m10
   have gb10 := (m10.keep h2.next (by omega)).trans gb9
   have rc10 := (m10.keep h.next (by omega)).trans rc9
   have tr10 := TreeR.keep (G := fun k => h.next ≤ k ∧ k ∉ [h.next, h2.next] ∧ k < h9.next) m10.stay (fun _ h hl => ⟨h.1, h.2, hl⟩) tr9
   have c10 := c9.trans (m10.but r)
   refine ((IH m (by omega)).expr (lv + 1) R10 hd (by omega) _ rfl (zA2 hy hne)).mono (fun v h11 q => ?_) (fun v h11 e => ?_)
   rotate_left
   ·obtain ⟨p, er, hx, rfl, fr'⟩ := e
    rw [hx] at hy
    exact hQ _ ⟨p, er, hy.symm, rfl, MoreBut.trans c10 fr'⟩
   obtain ⟨rt, i, hx, lib11, R11, b11, q⟩ := q
   rw [hx, zAv] at hy
   have nb11 := MoreBut.next b11
   obtain ⟨u2, rfl, tr11⟩ := q
   obtain ⟨ui, rfl, _, hul⟩ := tr10.ptr
   obtain ⟨uj, rfl, hj1, hj2⟩ := tr11.ptr
   have gb11 := (b11.keep h2.next (by omega) (by omega)).trans gb10
   have rc11 := (b11.keep h.next (by omega) (by omega)).trans rc10
   have ga11 := (b11.keep h9.next (by omega) (by omega)).trans ga
   have g711 := (b11.keep (h9.next + 1) (by omega) (by omega)).trans g7
   have tl11 := TreeR.keep (G := fun k => h.next ≤ k ∧ k ∉ [h.next, h2.next] ∧ k < h9.next) (b11.stay (by simp; omega)) (fun _ h _ => h) tr10
   have c11 := c10.trans b11
   simp (disch := omega) only [EL, ↓K3, ↓K1, reduceIte, Nat.reduceEqDiff, Nat.reduceAdd, Nat.reduceLeDiff, l0, l4, gb11, cb0, arr, zAe, hlv6, zA6, zA7, zAw, ga11]
   refine (zDh H (kv := .sl h11.next 0 2 (.known 2)) (op := binNode lv) (pos := pos) (fun _ => rfl) rfl).to fun v h13 q => ?_
   obtain ⟨ia, rfl, i1, i2, nc, m13⟩ := q
   have m12 : More h11 (h11.add (.cells (zAd [.ptr ui 0, .ptr uj 0]) 2 none false)) := More.add _ _
   have g12 : (h11.add (.cells (zAd [.ptr ui 0, .ptr uj 0]) 2 none false)).mem.get h11.next = some (.cells (zAd [.ptr ui 0, .ptr uj 0]) 2 none false) := by rw [AH.add_mem, T.get_put_self]
   have n12 : (h11.add (.cells (zAd [.ptr ui 0, .ptr uj 0]) 2 none false)).next = h11.next + 1 := rfl
   generalize h11.add (.cells (zAd [.ptr ui 0, .ptr uj 0]) 2 none false) = h12 at *
   have n13 := m13.next
   have kd := kids_of2 (lo := h.next) (X := [h.next, h2.next, ia, h9.next + 1]) g12 (by omega) (by omega) (by simp; omega) (TreeR.keep m12.stay (fun k hk hl => ⟨hk.1, by have := hk.2.1; have := hk.2.2; simp at *; omega, by have := hk.2.2; omega⟩) tl11) (TreeR.keep m12.stay (fun k hk hl => ⟨by omega, by simp; omega, by omega⟩) tr11)
   have kd13 := kd.keep m13.stay
   have mm := m12.trans m13
   have g713 := (mm.keep (h9.next + 1) (by omega)).trans g711
   have gb13 := (mm.keep h2.next (by omega)).trans gb11
   have rc13 := (mm.keep h.next (by omega)).trans rc11
   have R13 := R11.more mm
   have c13 := c11.trans (mm.but r)
   simp (disch := omega) only [EL, ↓K3, ↓K1, reduceIte, Nat.reduceEqDiff, Nat.reduceAdd, Nat.reduceLeDiff, g713]
   refine hQ _ ?_
   clear hQ Q1
   simp only [zAa]
   have g714 : (h13.set (h9.next + 1) (.cells (T.put (some (.ptr ia 0)) (zAd [.nilp]) 0) 1 none false)).mem.get (h9.next + 1) = some (.cells (T.put (some (.ptr ia 0)) (zAd [.nilp]) 0) 1 none false) := AH.get_set
   have o14 : Only (h9.next + 1) h13 (h13.set (h9.next + 1) (.cells (T.put (some (.ptr ia 0)) (zAd [.nilp]) 0) 1 none false)) := Only.set
   generalize h13.set (h9.next + 1) (.cells (T.put (some (.ptr ia 0)) (zAd [.nilp]) 0) 1 none false) = h14 at *
   have n14 := o14.next
   have nc14 := nc.keep (o14.keep ia (by omega))
   have kd14 := kd13.keep (o14.stay (by simp))
   obtain ⟨c', gn, d0, d1, d2, d3, d4, d5, _, _, ncN, _⟩ := nc14.set
   refine zAc (zAb fun Q1 hQ => ?_)
   simp (disch := omega) only [EL, ↓K3, ↓K1, reduceIte, Nat.reduceEqDiff, Nat.reduceAdd, Nat.reduceLeDiff, l0, g714, gn, d3]
   refine hQ _ ?_
   clear hQ Q1
   have nc15 := ncN (op : Int)
   have o15 : Only ia h14 (h14.set ia (.cells (T.put (some (.int .i64 (op : Int))) c' 3) 6 none false)) := Only.set
   generalize h14.set ia (.cells (T.put (some (.int .i64 (op : Int))) c' 3) 6 none false) = h15 at *
   have n15 := o15.next
   have g715 := (o15.keep (h9.next + 1) (by omega)).trans g714
   have gb15 := (o15.keep h2.next (by omega)).trans ((o14.keep h2.next (by omega)).trans gb13)
   have rc15 := (o15.keep h.next (by omega)).trans ((o14.keep h.next (by omega)).trans rc13)
   have kd15 := kd14.keep (o15.stay (by simp))
   refine zAb fun Q1 hQ => ?_
   simp (disch := omega) only [EL, ↓K3, ↓K1, reduceIte, Nat.reduceEqDiff, Nat.reduceAdd, Nat.reduceLeDiff, g715, l4, gb15, cb0, zAe]
   refine hQ _ ?_
   clear hQ Q1
   simp only [zAa, zAi]
   have gb16 : (h15.set h2.next (.cells (T.put (some (.ptr ia 0)) cb 0) 1 none false)).mem.get h2.next = some (.cells (T.put (some (.ptr ia 0)) cb 0) 1 none false) := AH.get_set
   have o16 : Only h2.next h15 (h15.set h2.next (.cells (T.put (some (.ptr ia 0)) cb 0) 1 none false)) := Only.set
   generalize h15.set h2.next (.cells (T.put (some (.ptr ia 0)) cb 0) 1 none false) = h16 at *
   have n16 := o16.next
   have kd16 := kd15.keep (o16.stay (by simp))
   refine ⟨m, by omega, _, _, _, by omega, trivial, by simp +decide only [EL, reduceIte, l0], by simp +decide only [EL, reduceIte, l1], by simp +decide only [EL, reduceIte, l4], by simp +decide only [EL, reduceIte, l5], o16.rs (o15.rs (o14.rs R13 (by omega)) (by omega)) (by omega), o16.mb (o15.mb (o14.mb c13 (by omega)) (by omega)) (by omega), ⟨_, gb16, T.get_put_self _ _ _⟩, (o16.keep h.next (by omega)).trans rc15, kd16.tree2 (nc15.keep (o16.keep ia (by omega))) ⟨by omega, by simp; omega⟩ (by omega) (fun k hk hx => ⟨hk, by simp at hx ⊢; omega⟩), by omega, by omega, hy⟩
 ·exact ⟨_, lt, u, Nat.le_refl _, rfl, by simp +decide only [EL, reduceIte, i0], by simp +decide only [EL, reduceIte, i0], by simp +decide only [EL, reduceIte, i0], by simp +decide only [EL, reduceIte, i0], R3, b3, g3, rc3, tr3, Nat.le_refl _, by omega, hy⟩
end
end Go.Ev
namespace Go.Ev
open Go Go.Pa
section
variable {tab : Nat → Option AFunc} {h : AH} (H : PT tab) {ts : List Tok} {en r i d : Nat}
include H in
theorem signed1_gp {s : Str} (hs : s = [45] ∨ s = [33]) : GP tab 168 [sv s, .int .i64 ((1 : Nat) : Int)] h fun w h1 => w = .tup [.int .i64 ((if s = [45] then 17 else 18 : Nat) : Int), .bool true] ∧ More h h1 := by
 have i0 : zAh [sv s, .int .i64 ((1 : Nat) : Int)] = zAd [sv s, .int .i64 ((1 : Nat) : Int)] := rfl
 refine GE.gp (ge_of H.t168 rfl ?_) (E := fun _ _ => False) fun _ _ hh => hh
 refine zAc (zAb fun Q1 hQ => ?_)
 simp (disch := omega) only [EL, ↓K3, ↓K1, reduceIte, Nat.reduceEqDiff, Nat.reduceAdd, Nat.reduceLeDiff, i0]
 refine hQ _ ?_
 clear hQ Q1
 refine zAc (zAb fun Q1 hQ => ?_)
 simp (disch := omega) only [EL, ↓K3, ↓K1, reduceIte, Nat.reduceEqDiff, Nat.reduceAdd, Nat.reduceLeDiff, i0]
 refine (signs_gp H).to fun v h1 q => ?_
 obtain ⟨rfl, m1, c, gc, ga⟩ := q
 simp (disch := omega) only [EL, ↓K3, ↓K1, reduceIte, Nat.reduceEqDiff, Nat.reduceAdd, Nat.reduceLeDiff, i0]
 refine hQ _ ?_
 clear hQ Q1
 simp only [zAa]
 refine zAc ?_
 refine zAy ?_
 have f1 : ¬ ((1 : Nat) : Int) < ((1 : Nat) : Int) := by decide
 have f2 : ¬ ((2 : Nat) : Int) < ((1 : Nat) : Int) := by decide
 have f3 : ¬ ((1 : Nat) : Int) = ((2 : Nat) : Int) := by decide
 have hne : ¬ s = [] := by rcases hs with rfl | rfl <;> simp
 refine zAc (zAb fun Q1 hQ => ?_)
 simp (disch := omega) only [EL, ↓K3, ↓K1, reduceIte, Nat.reduceEqDiff, Nat.reduceAdd, Nat.reduceLeDiff, i0, hne, f1, f2]
 refine hQ _ ?_
 clear hQ Q1
 refine wc_no (by simp +decide only [EL, reduceIte]) ?_
 refine zAc (zAb fun Q1 hQ => ?_)
 simp (disch := omega) only [EL, ↓K3, ↓K1, reduceIte, Nat.reduceEqDiff, Nat.reduceAdd, Nat.reduceLeDiff, i0]
 refine hQ _ ?_
 clear hQ Q1
 refine wc_no (by simp +decide only [EL, reduceIte]) ?_
 refine zAm ?_
 simp only [zAi, zAa]
 have s1 : ∀ h', zFn true 1 (.c (.sl h.next 0 19 (.known 19))) (some (.c (.int .i64 ((17 : Nat) : Int)))) none none .leaf [] h' = .val (.sl h.next 17 2 (.known 2)) h' := fun _ => rfl
 have s2 : ∀ loc tmp h', evOp (.sliceV true 1 (.t 0) (some (.c (.int .i64 ((17 : Nat) : Int)))) none none) loc tmp h' = zFn true 1 (.c (ev loc tmp (.t 0))) (some (.c (.int .i64 ((17 : Nat) : Int)))) none none .leaf [] h' := fun _ _ _ => rfl
 refine zAc (zAb fun Q1 hQ => ?_)
 simp (disch := omega) only [EL, ↓K3, ↓K1, reduceIte, Nat.reduceEqDiff, Nat.reduceAdd, Nat.reduceLeDiff, i0, s2, s1]
 have sa : StrA h1 (.sl h.next 17 2 (.known 2)) [[45], [33]] := ⟨h.next, 17, _, _, _, _, c, rfl, gc, fun i hi => by
  have hi' : i < 2 := hi
  rw [ga (17 + i) (by show 17 + i < 19; omega)]
  congr 1
  match i, hi' with
  | 0, _ => rfl
  | 1, _ => rfl⟩
 rw [ge_rw (zLv H sa (by decide))]
 simp (disch := omega) only [EL, ↓K3, ↓K1, reduceIte, Nat.reduceEqDiff, Nat.reduceAdd, Nat.reduceLeDiff, i0]
 refine hQ _ ?_
 clear hQ Q1
 simp only [zAa]
 have hx : zGh [[45], [33]] s = ((if s = [45] then 0 else 1 : Nat) : Int) := by rcases hs with rfl | rfl <;> rfl
 rw [hx]
 refine zAc ?_
 have f4 : ¬ ((if s = [45] then 0 else 1 : Nat) : Int) < ((0 : Nat) : Int) := by omega
 refine zAc (zAb fun Q1 hQ => ?_)
 simp (disch := omega) only [EL, ↓K3, ↓K1, reduceIte, Nat.reduceEqDiff, Nat.reduceAdd, Nat.reduceLeDiff, f4]
 refine hQ _ ?_
 clear hQ Q1
 refine wc_no (by simp +decide only [EL, reduceIte]) ?_
 refine zAm ?_
 simp only [zAa]
 have f5 : IntKind.i64.wrap (((if s = [45] then 0 else 1 : Nat) : Int) + ((17 : Nat) : Int)) = ((if s = [45] then 17 else 18 : Nat) : Int) := by rcases hs with rfl | rfl <;> rfl
 generalize ((if s = [45] then 0 else 1 : Nat) : Int) = z at *
 refine zAc (zAb fun Q1 hQ => ?_)
 simp (disch := omega) only [EL, ↓K3, ↓K1, reduceIte, Nat.reduceEqDiff, Nat.reduceAdd, Nat.reduceLeDiff, f5]
 refine hQ _ ?_
 clear hQ Q1
 refine zAj ?_
 try simp only [zAg, zAf]
 refine ⟨_, zA1 (zA1 zAn), ?_⟩
 simp (disch := omega) only [EL, ↓K3, ↓K1, reduceIte, Nat.reduceEqDiff, Nat.reduceAdd, Nat.reduceLeDiff, zDu]
 exact m1
def RBox (h : AH) (bx r : Nat) : Prop := bx < h.next ∧ bx ≠ r ∧ h.mem.get bx = some (.cells (cell1 (.ptr r 0)) 1 none false)
theorem RBox.mb {h h' : AH} {bx r : Nat} (x : RBox h bx r) (b : MoreBut r h h') : RBox h' bx r := ⟨Nat.lt_of_lt_of_le x.1 b.next, x.2.1, (b.keep bx x.1 x.2.1).trans x.2.2⟩
include H in
theorem unary1_ge {n bx : Nat} (IH : EX tab ts en n) (R : RS ts en h r i d) (hd : d ≤ 40) (B : RBox h bx r) (hi : i < ts.length) (ht : (now ts en i).text = [45] ∨ (now ts en i).text = [33]) :
  GS tab 167 [.ptr bx 0] ts en r i d h ((zB1 ts en n (i + 1) d).bind fun k i' d => .ok (.mk 23 [] [] (if (now ts en i).text = [45] then 17 else 18) (now ts en i).pos [k]) i' d) fun t v h1 => okT t h.next v h1 := by
 intro y hy hne
 have i0 : zAh [.ptr bx 0] = zAd [.ptr bx 0] := rfl
 have hr := R.lt
 refine ge_of H.t167 rfl ?_
 refine zBk fun h1 n1 g1 m1 => ?_
 have R1 := R.more m1
 have B1 := B.mb (m1.but r)
 have gx1 := B1.2.2
 have hbx := B.1
 refine zAc (zAb fun Q1 hQ => ?_)
 simp (disch := omega) only [EL, ↓K3, ↓K1, reduceIte, Nat.reduceEqDiff, Nat.reduceAdd, Nat.reduceLeDiff, i0, gx1, zA4]
 refine (zCm H R1 hi).to fun v h2 q => ?_
 obtain ⟨rfl, R2, b2⟩ := q
 have nb2 := b2.next
 have B2 := B1.mb b2
 have c2 := (m1.but r).trans b2
 have rc2 := (b2.keep h.next (by omega) (by omega)).trans g1
 simp (disch := omega) only [EL, ↓K3, ↓K1, reduceIte, Nat.reduceEqDiff, Nat.reduceAdd, Nat.reduceLeDiff, i0]
 refine hQ _ ?_
 clear hQ Q1
 refine zDs fun h3 n3 g3 m3 => ?_
 obtain ⟨ct, gt, k0, k1, k2⟩ := g3
 simp only [zAa]
 have R3 := R2.more m3
 have B3 := B2.mb (m3.but r)
 have gx3 := B3.2.2
 have rc3 := (m3.keep h.next (by omega)).trans rc2
 have c3 := c2.trans (m3.but r)
 generalize htx : (now ts en i).text = tx at *
 generalize (now ts en i).pos = pos at *
 refine zAc (zAb fun Q1 hQ => ?_)
 simp (disch := omega) only [EL, ↓K3, ↓K1, reduceIte, Nat.reduceEqDiff, Nat.reduceAdd, Nat.reduceLeDiff, i0, gt, k2, gx3, zA4]
 have m4 : More h3 (h3.add (.cells (zAd [.nilp]) 1 none false)) := More.add _ _
 have n4 : (h3.add (.cells (zAd [.nilp]) 1 none false)).next = h3.next + 1 := rfl
 have g4 : (h3.add (.cells (zAd [.nilp]) 1 none false)).mem.get h3.next = some (.cells (zAd [.nilp]) 1 none false) := by rw [AH.add_mem, T.get_put_self]
 generalize h3.add (.cells (zAd [.nilp]) 1 none false) = h4 at *
 have R4 := R3.more m4
 have rc4 := (m4.keep h.next (by omega)).trans rc3
 have gt4 := (m4.keep h2.next (by omega)).trans gt
 have c4 := c3.trans (m4.but r)
 refine (IH.unary R4 hd _ rfl (zA2 hy hne)).mono (fun v h5 q => ?_) (fun v h5 e => ?_)
 rotate_left
 ·obtain ⟨p, er, hx, rfl, fr'⟩ := e
  rw [hx] at hy
  exact hQ _ ⟨p, er, hy.symm, rfl, MoreBut.trans c4 fr'⟩
 obtain ⟨kt, i, hx, lib5, R5, b5, q⟩ := q
 rw [hx, zAv] at hy
 have nb5 := MoreBut.next b5
 obtain ⟨u, rfl, tr⟩ := q
 have rc5 := (b5.keep h.next (by omega) (by omega)).trans rc4
 have gt5 := (b5.keep h2.next (by omega) (by omega)).trans gt4
 have g45 := (b5.keep h3.next (by omega) (by omega)).trans g4
 have c5 := c4.trans b5
 obtain ⟨ui, rfl, hu1, hu2⟩ := tr.ptr
 simp (disch := omega) only [EL, ↓K3, ↓K1, reduceIte, Nat.reduceEqDiff, Nat.reduceAdd, Nat.reduceLeDiff, i0, zA6, zA7, gt5, k2, same_int]
 refine (zDh H (kv := .sl h5.next 0 1 (.known 1)) (op := 23) (pos := pos) (fun _ => rfl) rfl).to fun v h7 q => ?_
 obtain ⟨ia, rfl, i1, i2, nc, m7⟩ := q
 have m6 : More h5 (h5.add (.cells (zAd [.ptr ui 0]) 1 none false)) := More.add _ _
 have g6 : (h5.add (.cells (zAd [.ptr ui 0]) 1 none false)).mem.get h5.next = some (.cells (zAd [.ptr ui 0]) 1 none false) := by rw [AH.add_mem, T.get_put_self]
 have n6 : (h5.add (.cells (zAd [.ptr ui 0]) 1 none false)).next = h5.next + 1 := rfl
 generalize h5.add (.cells (zAd [.ptr ui 0]) 1 none false) = h6 at *
 have n7 := m7.next
 have kd := zE3 (lo := h.next) (X := [h.next, h3.next, ia]) g6 (by omega) (by omega) (by simp; omega) (TreeR.keep m6.stay (fun k hk hl => ⟨by omega, by simp; omega, by omega⟩) tr)
 have kd7 := kd.keep m7.stay
 have mm := m6.trans m7
 have g47 := (mm.keep h3.next (by omega)).trans g45
 have rc7 := (mm.keep h.next (by omega)).trans rc5
 have gt7 := (mm.keep h2.next (by omega)).trans gt5
 have R7 := R5.more mm
 have c7 := c5.trans (mm.but r)
 simp (disch := omega) only [EL, ↓K3, ↓K1, reduceIte, Nat.reduceEqDiff, Nat.reduceAdd, Nat.reduceLeDiff, g47]
 refine hQ _ ?_
 clear hQ Q1
 simp only [zAa]
 have g48 : (h7.set h3.next (.cells (T.put (some (.ptr ia 0)) (zAd [.nilp]) 0) 1 none false)).mem.get h3.next = some (.cells (T.put (some (.ptr ia 0)) (zAd [.nilp]) 0) 1 none false) := AH.get_set
 have o8 : Only h3.next h7 (h7.set h3.next (.cells (T.put (some (.ptr ia 0)) (zAd [.nilp]) 0) 1 none false)) := Only.set
 generalize h7.set h3.next (.cells (T.put (some (.ptr ia 0)) (zAd [.nilp]) 0) 1 none false) = h8 at *
 have n8 := o8.next
 have nc8 := nc.keep (o8.keep ia (by omega))
 have kd8 := kd7.keep (o8.stay (by simp))
 have gt8 := (o8.keep h2.next (by omega)).trans gt7
 have rc8 := (o8.keep h.next (by omega)).trans rc7
 refine zAc (zAb fun Q1 hQ => ?_)
 simp (disch := omega) only [EL, ↓K3, ↓K1, reduceIte, Nat.reduceEqDiff, Nat.reduceAdd, Nat.reduceLeDiff, i0, g48, gt8, k1]
 refine (signed1_gp H ht).to fun v h9 q => ?_
 obtain ⟨rfl, m9⟩ := q
 have n9 := m9.next
 have g49 := (m9.keep h3.next (by omega)).trans g48
 have rc9 := (m9.keep h.next (by omega)).trans rc8
 have nc9 := nc8.keep (m9.keep ia (by omega))
 have kd9 := kd8.keep m9.stay
 obtain ⟨c', gn, d0, d1, d2, d3, d4, d5, _, _, ncN, _⟩ := nc9.set
 simp (disch := omega) only [EL, ↓K3, ↓K1, reduceIte, Nat.reduceEqDiff, Nat.reduceAdd, Nat.reduceLeDiff, i0, zA6, zA7, g49, zAw, gn, d3]
 refine hQ _ ?_
 clear hQ Q1
 simp only [zAa]
 have nc10 := ncN ((if tx = [45] then 17 else 18 : Nat) : Int)
 have o10 : Only ia h9 (h9.set ia (.cells (T.put (some (.int .i64 ((if tx = [45] then 17 else 18 : Nat) : Int))) c' 3) 6 none false)) := Only.set
 generalize h9.set ia (.cells (T.put (some (.int .i64 ((if tx = [45] then 17 else 18 : Nat) : Int))) c' 3) 6 none false) = h10 at *
 have n10 := o10.next
 refine zC0 (b := h3.next) (rc := h.next) (by simp +decide only [EL, reduceIte]) ((o10.keep _ (by omega)).trans g49) (T.get_put_self _ _ _) (by simp +decide only [EL, reduceIte]) ((o10.keep _ (by omega)).trans rc9) (by rw [zAk]; rfl) fun h11 o11 => ?_
 refine ⟨_, _, hy.symm, by omega, o11.rs (o10.rs ((o8.rs R7 (by omega)).more m9) (by omega)) (by omega), o11.mb (o10.mb ((o8.mb c7 (by omega)).trans (m9.but r)) (by omega)) (Nat.le_refl _), _, rfl, ?_⟩
 have nc11 := nc10.keep (o11.keep ia (by omega))
 have e : (((if tx = [45] then 17 else 18 : Nat) : Int)) = (if tx = [45] then 17 else 18 : Int) := by split <;> rfl
 rw [e] at nc11
 exact ((kd9.keep (o10.stay (by simp))).keep (o11.stay (by simp))).tree2 nc11 (by show h.next ≤ ia; omega) (by rw [o11.next]; omega) (fun k hk _ => hk)
include H in
theorem unary_ge {n : Nat} (IH : ∀ m, m < n → EX tab ts en m) (R : RS ts en h r i d) (hd : d ≤ 40) : GS tab 152 [.ptr r 0] ts en r i d h (zB1 ts en n i d) fun t v h1 => okT t h.next v h1 := by
 intro y hy hne
 cases n with
 | zero => exact absurd (by rw [← hy]; simp [zB1]) hne
 | succ n =>
 have i0 : zAh [.ptr r 0] = zAd [.ptr r 0] := rfl
 have hr := R.lt
 refine ge_of H.t152 rfl ?_
 refine zF5 (v := .ptr r 0) rfl (fun _ => zL4) fun h1 n1 g1 g2 m1 => ?_
 have R1 := R.more m1
 have B1 : RBox h1 h.next r := ⟨by omega, by omega, g1⟩
 unfold zB1 at hy
 refine zAc ?_
 refine zAc (zAb fun Q1 hQ => ?_)
 simp (disch := omega) only [EL, ↓K3, ↓K1, reduceIte, Nat.reduceEqDiff, Nat.reduceAdd, Nat.reduceLeDiff, i0, g1, zA4]
 refine (is_gp H R1 _).to fun v h2 q => ?_
 obtain ⟨rfl, m2⟩ := q
 have n2 := m2.next
 have R2 := R1.more m2
 have B2 := B1.mb (m2.but r)
 have gx2 := B2.2.2
 have rc2 := (m2.keep (h.next + 1) (by omega)).trans g2
 have c2 : MoreBut r h h2 := (m1.trans m2).but r
 have sign : ∀ (l : T AV) (h3 : AH), l.get 1 = some (.ptr h.next 0) → l.get 3 = some (.ptr (h.next + 1) 0) → RS ts en h3 r i d → RBox h3 h.next r → h3.mem.get (h.next + 1) = some (.cells (zAd [.nilp]) (llen [.nilp]) none false) → MoreBut r h h3 → h1.next ≤ h3.next →
   (isT ts en [45] i || isT ts en [33] i) = true →
   WC tab (.seq (.ops [⟨.load (.l 1), none, none, []⟩, ⟨.mkFn 167 [] [.l 1], none, none, []⟩, ⟨.callF 120 [.t 1, .t 0], none, none, []⟩, ⟨.store 1 (.l 3) (.t 0), none, none, []⟩]) .ret) l [] h3 (zDz [.cellN 1 (.l 3)] (okP y ts en r i d h fun t v h1 => okT t h.next v h1) (erP y r h)) := by
  intro l h3 l1 l3 R3 B3 rc3 c3 n3 hs
  rw [hs, if_pos rfl] at hy
  have hi : i < ts.length := by
   rcases Bool.or_eq_true_iff.mp hs with h | h <;> exact is_lt h
  have ht : (now ts en i).text = [45] ∨ (now ts en i).text = [33] := by
   rcases Bool.or_eq_true_iff.mp hs with h | h
   ·unfold isT at h; simp at h; exact .inl h.1
   ·unfold isT at h; simp at h; exact .inr h.1
  have gx3 := B3.2.2
  refine zAc (zAb fun Q1 hQ => ?_)
  simp (disch := omega) only [EL, ↓K3, ↓K1, reduceIte, Nat.reduceEqDiff, Nat.reduceAdd, Nat.reduceLeDiff, l1, l3, gx3, zA4]
  refine (zH0 H (F := 167) (caps := [.ptr h.next 0]) (k := fun i d => (zB1 ts en n (i + 1) d).bind fun k i' d => .ok (.mk 23 [] [] (if (now ts en i).text = [45] then 17 else 18) (now ts en i).pos [k]) i' d) R3 hd (fun hd' h' R' b' => unary1_ge H (IH n (by omega)) R' hd' (B3.mb b') hi ht) y hy hne).mono (fun v h4 q => ?_) (fun v h4 e => ?_)
  rotate_left
  ·obtain ⟨p, er, hx, rfl, fr'⟩ := e
   exact hQ _ ⟨p, er, hx, rfl, MoreBut.trans c3 fr'⟩
  obtain ⟨t, i', hx, li, R4, b4, u, rfl, tr⟩ := q
  have n4 := b4.next
  have rc4 := (b4.keep (h.next + 1) (by omega) (by omega)).trans rc3
  refine ⟨rfl, ?_⟩
  refine zF0 (rc := h.next + 1) (by simp +decide only [EL, reduceIte, l3]) rc4 (by rw [zAk]; rfl) fun h5 o5 g5 => hQ _ ?_
  obtain ⟨c5, gc5, gc50⟩ := g5
  refine zJy (rc := h.next + 1) (by simp +decide only [EL, reduceIte, l3]) gc5 gc50 ⟨t, i', hx, li, o5.rs R4 (by omega), o5.mb (c3.trans b4) (by omega), _, rfl, ?_⟩
  exact TreeR.keep (o5.stay (F := fun k => h3.next ≤ k) (by omega)) (fun k hk _ => by show h.next ≤ k; omega) tr
 cases hm : isT ts en [45] i with
 | true =>
  simp (disch := omega) only [EL, ↓K3, ↓K1, reduceIte, Nat.reduceEqDiff, Nat.reduceAdd, Nat.reduceLeDiff, i0, hm]
  refine hQ _ ?_
  clear hQ Q1
  simp only [zAa]
  refine wc_no (by simp +decide only [EL, reduceIte]) ?_
  refine zAm ?_
  simp only [zAa]
  exact sign _ h2 (by simp +decide only [EL, reduceIte]) (by simp +decide only [EL, reduceIte]) R2 B2 rc2 c2 n2 (by rw [hm]; rfl)
 | false =>
  simp (disch := omega) only [EL, ↓K3, ↓K1, reduceIte, Nat.reduceEqDiff, Nat.reduceAdd, Nat.reduceLeDiff, i0, hm, gx2, zA4]
  refine (is_gp H R2 _).to fun v h3 q => ?_
  obtain ⟨rfl, m3⟩ := q
  have n3 := m3.next
  have R3 := R2.more m3
  have B3 := B2.mb (m3.but r)
  have gx3 := B3.2.2
  have rc3 := (m3.keep (h.next + 1) (by omega)).trans rc2
  have c3 := c2.trans (m3.but r)
  simp (disch := omega) only [EL, ↓K3, ↓K1, reduceIte, Nat.reduceEqDiff, Nat.reduceAdd, Nat.reduceLeDiff, i0]
  refine hQ _ ?_
  clear hQ Q1
  simp only [zAa]
  cases hb : isT ts en [33] i with
  | true =>
   refine wc_no (by simp +decide only [EL, reduceIte, hb, Bool.not_true]) ?_
   refine zAm ?_
   simp only [zAa]
   exact sign _ h3 (by simp +decide only [EL, reduceIte]) (by simp +decide only [EL, reduceIte]) R3 B3 rc3 c3 (by omega) (by rw [hm, hb]; rfl)
  | false =>
   rw [hm, hb, if_neg (by simp)] at hy
   refine zAt (by simp +decide only [EL, reduceIte, hb, Bool.not_false]) ?_
   refine zAc (zAb fun Q1 hQ => ?_)
   simp (disch := omega) only [EL, ↓K3, ↓K1, reduceIte, Nat.reduceEqDiff, Nat.reduceAdd, Nat.reduceLeDiff, i0, gx3, zA4]
   refine ((IH n (by omega)).post R3 hd y hy hne).mono (fun v h4 q => ?_) (fun v h4 e => ?_)
   rotate_left
   ·obtain ⟨p, er, hx, rfl, fr'⟩ := e
    exact hQ _ ⟨p, er, hx, rfl, MoreBut.trans c3 fr'⟩
   obtain ⟨t, i', hx, li, R4, b4, u, rfl, tr⟩ := q
   have n4 := b4.next
   have rc4 := (b4.keep (h.next + 1) (by omega) (by omega)).trans rc3
   refine ⟨rfl, ?_⟩
   refine zF0 (rc := h.next + 1) (by simp +decide only [EL, reduceIte]) rc4 (by rw [zAk]; rfl) fun h5 o5 g5 => hQ _ ?_
   obtain ⟨c5, gc5, gc50⟩ := g5
   refine zAj ?_
   try simp only [zAg, zAf]
   refine zBc (id := h.next + 1) (by simp +decide only [EL, reduceIte]) gc5 (lst := [u]) (by rw [zAe, gc50]; rfl) ⟨t, i', hx, li, o5.rs R4 (by omega), o5.mb (c3.trans b4) (by omega), _, rfl, ?_⟩
   exact TreeR.keep (o5.stay (F := fun k => h3.next ≤ k) (by omega)) (fun k hk _ => by show h.next ≤ k; omega) tr
end
end Go.Ev
namespace Go.Ev
open Go Go.Pa
section
variable {tab : Nat → Option AFunc} {h : AH} (H : PT tab) {ts : List Tok} {en r i d : Nat}
include H in
theorem post_ge {n : Nat} (IH : ∀ m, m < n → EX tab ts en m) (R : RS ts en h r i d) (hd : d ≤ 40) : GS tab 166 [.ptr r 0] ts en r i d h (postS ts en n i d) fun t v h1 => okT t h.next v h1 := by
 intro y hy hne
 cases n with
 | zero => exact absurd (by rw [← hy]; simp [postS]) hne
 | succ n =>
 have i0 : zAh [.ptr r 0] = zAd [.ptr r 0] := rfl
 have hr := R.lt
 obtain ⟨z, hz⟩ : ∃ z, z = i := ⟨_, rfl⟩
 refine ge_of H.t166 rfl ?_
 refine zBk fun h1 n1 g1 m1 => ?_
 have R1 := R.more m1
 unfold postS at hy
 refine zAc (zAb fun Q1 hQ => ?_)
 simp (disch := omega) only [EL, ↓K3, ↓K1, reduceIte, Nat.reduceEqDiff, Nat.reduceAdd, Nat.reduceLeDiff, i0]
 refine ((IH n (by omega)).prim R1 hd _ rfl (zA2 hy hne)).mono (fun v h2 q => ?_) (fun v h2 e => ?_)
 rotate_left
 ·obtain ⟨p, er, hx, rfl, fr'⟩ := e
  rw [hx] at hy
  exact hQ _ ⟨p, er, hy.symm, rfl, MoreBut.trans (m1.but r) fr'⟩
 obtain ⟨lt, i, hx, lib2, R2, b2, q⟩ := q
 rw [hx, zAv] at hy
 have nb2 := MoreBut.next b2
 obtain ⟨u, rfl, tr⟩ := q
 simp (disch := omega) only [EL, ↓K3, ↓K1, reduceIte, Nat.reduceEqDiff, Nat.reduceAdd, Nat.reduceLeDiff, i0]
 refine hQ _ ?_
 clear hQ Q1
 refine zBp fun h3 n3 g3 m3 => ?_
 simp only [zAa]
 have R3 := R2.more m3
 have b3 := ((m1.but r).trans b2).trans (m3.but r)
 have rc3 := (m3.keep h.next (by omega)).trans ((b2.keep h.next (by omega) (by omega)).trans g1)
 have tr3 : TreeR h3 (fun k => h.next ≤ k ∧ k ∉ [h.next, h2.next]) u lt := TreeR.keep m3.stay (fun k hk hl => ⟨by omega, by simp; omega⟩) tr
 refine zFz (fun l d1 h7 => ∃ i left u, d1 = [] ∧ l.get 2 = some (.ptr h2.next 0) ∧ l.get 3 = some (.ptr h.next 0) ∧ RS ts en h7 r i d ∧ MoreBut r h h7 ∧ (∃ c, h7.mem.get h2.next = some (.cells c 1 none false) ∧ c.get 0 = some u) ∧
  h7.mem.get h.next = some (.cells (zAd [.nilp]) (llen [.nilp]) none false) ∧ TreeR h7 (fun k => h.next ≤ k ∧ k ∉ [h.next, h2.next]) u left ∧ z < i ∧ y = .ok left i d) ?_ ?_
 ·refine zAy ?_
  refine zCg (fun m l d1 h7 => ∃ i left u, m ≤ n ∧ d1 = [] ∧ l.get 0 = some (.ptr r 0) ∧ l.get 2 = some (.ptr h2.next 0) ∧ l.get 3 = some (.ptr h.next 0) ∧ RS ts en h7 r i d ∧ MoreBut r h h7 ∧ (∃ c, h7.mem.get h2.next = some (.cells c 1 none false) ∧ c.get 0 = some u) ∧
   h7.mem.get h.next = some (.cells (zAd [.nilp]) (llen [.nilp]) none false) ∧ TreeR h7 (fun k => h.next ≤ k ∧ k ∉ [h.next, h2.next]) u left ∧ h3.next ≤ h7.next ∧ z < i ∧ postL ts en m i d left = y) ?_ n ?_
  ·rintro m l d1 h7 ⟨i, left, u, hm, rfl, l0, l2, l3, R7, b7, ⟨cb, gb, cb0⟩, rc7, tr7, n7, zi, hy⟩
   cases m with
   | zero => exact absurd (by rw [← hy]; simp [postL]) hne
   | succ m =>
   unfold postL at hy
   refine zAc ?_
   refine zAc (zAb fun Q1 hQ => ?_)
   simp (disch := omega) only [EL, ↓K3, ↓K1, reduceIte, Nat.reduceEqDiff, Nat.reduceAdd, Nat.reduceLeDiff, l0]
   refine (zD3 H R7 _).to fun v h8 q => ?_
   obtain ⟨rfl, R8, b8⟩ := q
   have n8 := b8.next
   simp (disch := omega) only [EL, ↓K3, ↓K1, reduceIte, Nat.reduceEqDiff, Nat.reduceAdd, Nat.reduceLeDiff, l0]
   refine hQ _ ?_
   clear hQ Q1
   simp only [zAa]
   have gb8 := (b8.keep h2.next (by omega) (by omega)).trans gb
   have rc8 := (b8.keep h.next (by omega) (by omega)).trans rc7
   have tr8 := TreeR.keep (G := fun k => h.next ≤ k ∧ k ∉ [h.next, h2.next]) (b8.stay (by simp; omega)) (fun _ h _ => h) tr7
   have c8 := b7.trans b8
   cases hc : isT ts en [46] i with
   | false =>
    rw [hc, if_neg (by simp)] at hy
    rw [hc, if_neg (by simp)] at R8
    refine wc_no (by simp +decide only [EL, reduceIte, hc]) ?_
    refine zDe ?_
    simp only [zBg, zBd, if_true, zAa]
    exact ⟨_, left, u, trivial, by simp +decide only [EL, reduceIte, l2], by simp +decide only [EL, reduceIte, l3], R8, c8, ⟨cb, gb8, cb0⟩, rc8, tr8, by omega, hy.symm⟩
   | true =>
    rw [hc, if_pos rfl] at hy
    rw [hc, if_pos rfl] at R8
    refine zAt (by simp +decide only [EL, reduceIte, hc]) ?_
    refine zAm ?_
    simp only [zAa]
    refine zAy ?_
    refine zAb fun Q1 hQ => ?_
    obtain ⟨ui, rfl, hu1, hu2⟩ := tr8.ptr
    simp (disch := omega) only [EL, ↓K3, ↓K1, reduceIte, Nat.reduceEqDiff, Nat.reduceAdd, Nat.reduceLeDiff, l0, l2, gb8, cb0, zAe]
    have m9 : More h8 (h8.add (.cells (zAd [.ptr ui 0]) 1 none false)) := More.add _ _
    have g9 : (h8.add (.cells (zAd [.ptr ui 0]) 1 none false)).mem.get h8.next = some (.cells (zAd [.ptr ui 0]) 1 none false) := by rw [AH.add_mem, T.get_put_self]
    have n9 : (h8.add (.cells (zAd [.ptr ui 0]) 1 none false)).next = h8.next + 1 := rfl
    generalize h8.add (.cells (zAd [.ptr ui 0]) 1 none false) = h9 at *
    have R9 := R8.more m9
    have c9 := c8.trans (m9.but r)
    refine (zG4 H R9 _ rfl (zA2 hy hne)).mono (fun v h10 q => ?_) (fun v h10 e => ?_)
    rotate_left
    ·obtain ⟨p, er, hx, rfl, fr'⟩ := e
     rw [hx] at hy
     exact hQ _ ⟨p, er, hy.symm, rfl, MoreBut.trans c9 fr'⟩
    obtain ⟨w, i, hx, lib10, R10, b10, q⟩ := q
    rw [hx, zAv] at hy
    have nb10 := MoreBut.next b10
    obtain ⟨rfl, tb⟩ := q
    have m9b := m9.but r
    have gb10 := (b10.keep h2.next (by omega) (by omega)).trans ((m9.keep h2.next (by omega)).trans gb8)
    have rc10 := (b10.keep h.next (by omega) (by omega)).trans ((m9.keep h.next (by omega)).trans rc8)
    have g10 := (b10.keep h8.next (by omega) (by omega)).trans g9
    have tr10 := TreeR.keep (G := fun k => h.next ≤ k ∧ k ∉ [h.next, h2.next] ∧ k < h8.next) ((m9.stay (F := fun k => h.next ≤ k ∧ k ∉ [h.next, h2.next])).trans (b10.stay (by simp; omega))) (fun k h hl => ⟨h.1, h.2, hl⟩) tr8
    have c10 := c9.trans b10
    simp (disch := omega) only [EL, ↓K3, ↓K1, reduceIte, Nat.reduceEqDiff, Nat.reduceAdd, Nat.reduceLeDiff, zA6, zA7, l2, gb10, cb0, zAe, zAw]
    refine (zGe H (op := 20) (kv := .sl h8.next 0 1 (.known 1)) (fun _ => rfl) rfl).to fun v h11 q => ?_
    obtain ⟨ia, rfl, i1, i2, nc, m11⟩ := q
    have n11 := m11.next
    have kd := zE3 (lo := h.next) (X := [h.next, h2.next, ia]) g10 (by omega) (by omega) (by simp; omega) (tr10.less fun k hk _ => ⟨hk.1, by have := hk.2.1; have := hk.2.2; simp at *; omega, by have := hk.2.2; omega⟩)
    have kd11 := kd.keep m11.stay
    have gb11 := (m11.keep h2.next (by omega)).trans gb10
    have rc11 := (m11.keep h.next (by omega)).trans rc10
    simp (disch := omega) only [EL, ↓K3, ↓K1, reduceIte, Nat.reduceEqDiff, Nat.reduceAdd, Nat.reduceLeDiff, l2, gb11, cb0]
    refine hQ _ ?_
    clear hQ Q1
    simp only [zAa, zAi]
    have gb12 : (h11.set h2.next (.cells (T.put (some (.ptr ia 0)) cb 0) 1 none false)).mem.get h2.next = some (.cells (T.put (some (.ptr ia 0)) cb 0) 1 none false) := AH.get_set
    have o12 : Only h2.next h11 (h11.set h2.next (.cells (T.put (some (.ptr ia 0)) cb 0) 1 none false)) := Only.set
    generalize h11.set h2.next (.cells (T.put (some (.ptr ia 0)) cb 0) 1 none false) = h12 at *
    have n12 := o12.next
    have kd12 := kd11.keep (o12.stay (by simp))
    refine ⟨m, by omega, _, _, _, by omega, trivial, by simp +decide only [EL, reduceIte, l0], by simp +decide only [EL, reduceIte, l2], by simp +decide only [EL, reduceIte, l3], o12.rs (R10.more m11) (by omega), o12.mb (c10.trans (m11.but r)) (by omega), ⟨_, gb12, T.get_put_self _ _ _⟩, (o12.keep h.next (by omega)).trans rc11, kd12.tree2 (nc.keep (o12.keep ia (by omega))) ⟨by omega, by simp; omega⟩ (by omega) (fun k hk hx => ⟨hk, by simp at hx ⊢; omega⟩), by omega, by omega, hy⟩
  ·exact ⟨_, lt, u, Nat.le_refl _, rfl, by simp +decide only [EL, reduceIte, i0], by simp +decide only [EL, reduceIte, i0], by simp +decide only [EL, reduceIte, i0], R3, b3, g3, rc3, tr3, Nat.le_refl _, by omega, hy⟩
 ·rintro l d1 h7 ⟨i, left, u, rfl, l2, l3, R7, b7, ⟨cb, gb, cb0⟩, rc7, tr7, zi, hy⟩
  refine zC0 (b := h2.next) (rc := h.next) l2 gb cb0 l3 rc7 (by rw [zAk]; rfl) fun h8 o8 => ?_
  exact ⟨_, _, hy, by omega, o8.rs R7 (by omega), o8.mb b7 (Nat.le_refl _), _, rfl, TreeR.keep (o8.stay (by simp)) (fun k hk _ => hk.1) tr7⟩
include H in
theorem brack1_ge {n bx : Nat} (IH : EX tab ts en n) (R : RS ts en h r i d) (hd : d ≤ 40) (B : RBox h bx r) (hi : i < ts.length) :
  GS tab 170 [.ptr bx 0] ts en r i d h ((exprS ts en n 1 (i + 1) d).bind fun e i d => (zBb ts en [41] i d).bind fun _ i d => .ok e i d) fun t v h1 => okT t h.next v h1 := by
 intro y hy hne
 have i0 : zAh [.ptr bx 0] = zAd [.ptr bx 0] := rfl
 have hr := R.lt
 refine ge_of H.t170 rfl ?_
 refine zBk fun h1 n1 g1 m1 => ?_
 have R1 := R.more m1
 have B1 := B.mb (m1.but r)
 have gx1 := B1.2.2
 have hbx := B.1
 refine zAc (zAb fun Q1 hQ => ?_)
 simp (disch := omega) only [EL, ↓K3, ↓K1, reduceIte, Nat.reduceEqDiff, Nat.reduceAdd, Nat.reduceLeDiff, i0, gx1, zA4]
 refine (zCm H R1 hi).to fun v h2 q => ?_
 obtain ⟨rfl, R2, b2⟩ := q
 have nb2 := b2.next
 have B2 := B1.mb b2
 have gx2 := B2.2.2
 have c2 := (m1.but r).trans b2
 have rc2 := (b2.keep h.next (by omega) (by omega)).trans g1
 simp (disch := omega) only [EL, ↓K3, ↓K1, reduceIte, Nat.reduceEqDiff, Nat.reduceAdd, Nat.reduceLeDiff, i0]
 refine hQ _ ?_
 clear hQ Q1
 simp only [zAa]
 refine zAc (zAb fun Q1 hQ => ?_)
 simp (disch := omega) only [EL, ↓K3, ↓K1, reduceIte, Nat.reduceEqDiff, Nat.reduceAdd, Nat.reduceLeDiff, i0, gx2, zA4]
 refine (IH.expr 1 R2 hd (by omega) _ rfl (zA2 hy hne)).mono (fun v h3 q => ?_) (fun v h3 e => ?_)
 rotate_left
 ·obtain ⟨p, er, hx, rfl, fr'⟩ := e
  rw [hx] at hy
  exact hQ _ ⟨p, er, hy.symm, rfl, MoreBut.trans c2 fr'⟩
 obtain ⟨et, i, hx, lib3, R3, b3, q⟩ := q
 rw [hx, zAv] at hy
 have nb3 := MoreBut.next b3
 obtain ⟨u, rfl, tr⟩ := q
 have B3 := B2.mb b3
 have rc3 := (b3.keep h.next (by omega) (by omega)).trans rc2
 simp (disch := omega) only [EL, ↓K3, ↓K1, reduceIte, Nat.reduceEqDiff, Nat.reduceAdd, Nat.reduceLeDiff, i0]
 refine hQ _ ?_
 clear hQ Q1
 refine zBp fun h4 n4 g4 m4 => ?_
 obtain ⟨cb, gb, cb0⟩ := g4
 simp only [zAa]
 have R4 := R3.more m4
 have B4 := B3.mb (m4.but r)
 have gx4 := B4.2.2
 have rc4 := (m4.keep h.next (by omega)).trans rc3
 have tr4 := TreeR.keep (G := fun k => h2.next ≤ k ∧ k < h3.next) m4.stay (fun _ h hl => ⟨h, hl⟩) tr
 have c4 := (c2.trans b3).trans (m4.but r)
 refine zAc (zAb fun Q1 hQ => ?_)
 simp (disch := omega) only [EL, ↓K3, ↓K1, reduceIte, Nat.reduceEqDiff, Nat.reduceAdd, Nat.reduceLeDiff, i0, gx4, zA4]
 refine (zBs H R4 _ _ rfl (zA2 hy hne)).mono (fun v h5 q => ?_) (fun v h5 e => ?_)
 rotate_left
 ·obtain ⟨p, er, hx, rfl, fr'⟩ := e
  rw [hx] at hy
  exact hQ _ ⟨p, er, hy.symm, rfl, MoreBut.trans c4 fr'⟩
 obtain ⟨p5, i, hx, lib5, R5, b5, q⟩ := q
 rw [hx, zAv] at hy
 have nb5 := MoreBut.next b5
 simp (disch := omega) only [EL, ↓K3, ↓K1, reduceIte, Nat.reduceEqDiff, Nat.reduceAdd, Nat.reduceLeDiff, i0]
 refine hQ _ ?_
 clear hQ Q1
 simp only [zAa]
 have tr5 := TreeR.keep (G := fun k => h2.next ≤ k ∧ k < h3.next) (b5.stay (by omega)) (fun _ h _ => h) tr4
 refine zC0 (b := h3.next) (rc := h.next) (by simp +decide only [EL, reduceIte]) ((b5.keep _ (by omega) (by omega)).trans gb) cb0 (by simp +decide only [EL, reduceIte]) ((b5.keep _ (by omega) (by omega)).trans rc4) (by rw [zAk]; rfl) fun h6 o6 => ?_
 exact ⟨_, _, hy.symm, by omega, o6.rs R5 (by omega), o6.mb (c4.trans b5) (Nat.le_refl _), _, rfl, TreeR.keep (o6.stay (by omega)) (fun k hk _ => by show h.next ≤ k; omega) tr5⟩
include H in
theorem brack_ge {n : Nat} (IH : ∀ m, m < n → EX tab ts en m) (R : RS ts en h r i d) (hd : d ≤ 40) : GS tab 154 [.ptr r 0] ts en r i d h (zA9 ts en n i d) fun t v h1 => okT t h.next v h1 := by
 intro y hy hne
 cases n with
 | zero => exact absurd (by rw [← hy]; simp [zA9]) hne
 | succ n =>
 have i0 : zAh [.ptr r 0] = zAd [.ptr r 0] := rfl
 have hr := R.lt
 refine ge_of H.t154 rfl ?_
 refine zF5 (v := .ptr r 0) rfl (fun _ => zL4) fun h1 n1 g1 g2 m1 => ?_
 have R1 := R.more m1
 have B1 : RBox h1 h.next r := ⟨by omega, by omega, g1⟩
 unfold zA9 at hy
 refine zAc ?_
 refine zAc (zAb fun Q1 hQ => ?_)
 simp (disch := omega) only [EL, ↓K3, ↓K1, reduceIte, Nat.reduceEqDiff, Nat.reduceAdd, Nat.reduceLeDiff, i0, g1, zA4]
 refine (is_gp H R1 _).to fun v h2 q => ?_
 obtain ⟨rfl, m2⟩ := q
 have n2 := m2.next
 have R2 := R1.more m2
 have B2 := B1.mb (m2.but r)
 have gx2 := B2.2.2
 have rc2 := (m2.keep (h.next + 1) (by omega)).trans g2
 have c2 : MoreBut r h h2 := (m1.trans m2).but r
 simp (disch := omega) only [EL, ↓K3, ↓K1, reduceIte, Nat.reduceEqDiff, Nat.reduceAdd, Nat.reduceLeDiff, i0]
 refine hQ _ ?_
 clear hQ Q1
 simp only [zAa]
 cases hc : isT ts en [40] i with
 | false =>
  rw [hc, if_neg (by simp)] at hy
  refine zAt (by simp +decide only [EL, reduceIte, hc, Bool.not_false]) ?_
  refine zAb fun Q1 hQ => ?_
  simp (disch := omega) only [EL, ↓K3, ↓K1, reduceIte, Nat.reduceEqDiff, Nat.reduceAdd, Nat.reduceLeDiff, i0, gx2, zA4]
  refine (zEr H R2).mono (fun v h3 q => q.elim) fun v h3 q => ?_
  exact hQ _ ⟨_, _, hy.symm, q.1, c2.trans (q.2.but r)⟩
 | true =>
  rw [hc, if_pos rfl] at hy
  refine wc_no (by simp +decide only [EL, reduceIte, hc, Bool.not_true]) ?_
  refine zAm ?_
  simp only [zAa]
  refine zAc (zAb fun Q1 hQ => ?_)
  simp (disch := omega) only [EL, ↓K3, ↓K1, reduceIte, Nat.reduceEqDiff, Nat.reduceAdd, Nat.reduceLeDiff, i0, gx2, zA4]
  refine (zH0 H (F := 170) (caps := [.ptr h.next 0]) (k := fun i d => (exprS ts en n 1 (i + 1) d).bind fun e i d => (zBb ts en [41] i d).bind fun _ i d => .ok e i d) R2 hd (fun hd' h' R' b' => brack1_ge H (IH n (by omega)) R' hd' (B2.mb b') (is_lt hc)) y hy hne).mono (fun v h4 q => ?_) (fun v h4 e => ?_)
  rotate_left
  ·obtain ⟨p, er, hx, rfl, fr'⟩ := e
   exact hQ _ ⟨p, er, hx, rfl, MoreBut.trans c2 fr'⟩
  obtain ⟨t, i', hx, li, R4, b4, u, rfl, tr⟩ := q
  have n4 := b4.next
  have rc4 := (b4.keep (h.next + 1) (by omega) (by omega)).trans rc2
  refine ⟨rfl, ?_⟩
  refine zF0 (rc := h.next + 1) (by simp +decide only [EL, reduceIte]) rc4 (by rw [zAk]; rfl) fun h5 o5 g5 => hQ _ ?_
  obtain ⟨c5, gc5, gc50⟩ := g5
  refine zJy (rc := h.next + 1) (by simp +decide only [EL, reduceIte]) gc5 gc50 ⟨t, i', hx, li, o5.rs R4 (by omega), o5.mb (c2.trans b4) (by omega), _, rfl, ?_⟩
  exact TreeR.keep (o5.stay (F := fun k => h2.next ≤ k) (by omega)) (fun k hk _ => by show h.next ≤ k; omega) tr
end
end Go.Ev
namespace Go.Ev
open Go Go.Pa
section
variable {tab : Nat → Option AFunc} {h : AH} (H : PT tab) {ts : List Tok} {en r i d : Nat}
def TBox (h : AH) (tx r : Nat) (t : Tok) : Prop := tx < h.next ∧ tx ≠ r ∧ h.mem.get tx = some (.cells (zAd [.int .i64 (t.kind : Int), sv t.text, .int .i64 (t.pos : Int)]) 3 none false)
theorem TBox.mb {h h' : AH} {tx r : Nat} {t : Tok} (x : TBox h tx r t) (b : MoreBut r h h') : TBox h' tx r t := ⟨Nat.lt_of_lt_of_le x.1 b.next, x.2.1, (b.keep tx x.1 x.2.1).trans x.2.2⟩
include H in
theorem call1_ge {n bx tx : Nat} {t : Tok} (IH : ∀ m, m < n → EX tab ts en m) (R : RS ts en h r i d) (hd : d ≤ 40) (B : RBox h bx r) (TB : TBox h tx r t) (hi : i < ts.length) :
  GS tab 198 [.ptr bx 0, .ptr tx 0] ts en r i d h ((argsL ts en n (i + 1) d []).bind fun k i d => .ok (.mk 21 t.text [] 0 t.pos k) (i + 1) d) fun t v h1 => okT t h.next v h1 := by
 intro y hy hne
 have i0 : zAh [.ptr bx 0, .ptr tx 0] = zAd [.ptr bx 0, .ptr tx 0] := rfl
 have hr := R.lt
 obtain ⟨z, hz⟩ : ∃ z, z = i := ⟨_, rfl⟩
 refine ge_of H.t198 rfl ?_
 refine zBk fun h1 n1 g1 m1 => ?_
 have R1 := R.more m1
 have B1 := B.mb (m1.but r)
 have TB1 := TB.mb (m1.but r)
 have gx1 := B1.2.2
 have hbx := B.1
 have htx := TB.1
 refine zAc (zAb fun Q1 hQ => ?_)
 simp (disch := omega) only [EL, ↓K3, ↓K1, reduceIte, Nat.reduceEqDiff, Nat.reduceAdd, Nat.reduceLeDiff, i0, gx1, zA4]
 refine (zCm H R1 hi).to fun v h2 q => ?_
 obtain ⟨rfl, R2, b2⟩ := q
 have nb2 := b2.next
 have B2 := B1.mb b2
 have TB2 := TB1.mb b2
 have gt2 := TB2.2.2
 have c2 := (m1.but r).trans b2
 have rc2 := (b2.keep h.next (by omega) (by omega)).trans g1
 simp (disch := omega) only [EL, ↓K3, ↓K1, reduceIte, Nat.reduceEqDiff, Nat.reduceAdd, Nat.reduceLeDiff, i0]
 refine hQ _ ?_
 clear hQ Q1
 simp only [zAa]
 refine zAc (zAb fun Q1 hQ => ?_)
 simp (disch := omega) only [EL, ↓K3, ↓K1, reduceIte, Nat.reduceEqDiff, Nat.reduceAdd, Nat.reduceLeDiff, i0, gt2, zAe]
 refine (zGe H (op := 21) (t := t) (kv := .nils) (fun _ => rfl) rfl).to fun v h3 q => ?_
 obtain ⟨ia, rfl, i1, i2, nc, m3⟩ := q
 simp (disch := omega) only [EL, ↓K3, ↓K1, reduceIte, Nat.reduceEqDiff, Nat.reduceAdd, Nat.reduceLeDiff, i0]
 refine hQ _ ?_
 clear hQ Q1
 refine zBp fun h4 n4 g4 m4 => ?_
 obtain ⟨cb, gb, cb0⟩ := g4
 simp only [zAa]
 have m24 := m3.trans m4
 have n3 := m3.next
 have R4 := R2.more m24
 have B4 := B2.mb (m24.but r)
 have b4 := c2.trans (m24.but r)
 have nc4 := nc.keep (m4.keep ia i2)
 have rc4 := (m24.keep h.next (by omega)).trans rc2
 have bx4 : BoxN h4 h3.next ia := ⟨cb, gb, cb0⟩
 refine zFz (fun l d1 h7 => ∃ i ks kv, d1 = [] ∧ l.get 0 = some (.ptr bx 0) ∧ l.get 3 = some (.ptr h3.next 0) ∧ l.get 6 = some (.ptr h.next 0) ∧ RS ts en h7 r i d ∧ MoreBut r h h7 ∧ RBox h7 bx r ∧ BoxN h7 h3.next ia ∧ NodeC h7 ia 21 t.text [] 0 t.pos kv ∧ Kids h7 h.next [h.next, h3.next, ia] kv ks ∧
  h7.mem.get h.next = some (.cells (zAd [.nilp]) (llen [.nilp]) none false) ∧ y = .ok (.mk 21 t.text [] 0 t.pos ks) (i + 1) d ∧ h4.next ≤ h7.next ∧ z < i ∧ i < ts.length) ?_ ?_
 ·refine zAy ?_
  refine zCg (fun m l d1 h7 => ∃ i ks kv, m ≤ n ∧ d1 = [] ∧ l.get 0 = some (.ptr bx 0) ∧ l.get 3 = some (.ptr h3.next 0) ∧ l.get 6 = some (.ptr h.next 0) ∧ RS ts en h7 r i d ∧ MoreBut r h h7 ∧ RBox h7 bx r ∧ BoxN h7 h3.next ia ∧ NodeC h7 ia 21 t.text [] 0 t.pos kv ∧ Kids h7 h.next [h.next, h3.next, ia] kv ks ∧
   h7.mem.get h.next = some (.cells (zAd [.nilp]) (llen [.nilp]) none false) ∧ h4.next ≤ h7.next ∧ z < i ∧ ks.length ≤ i ∧ (argsL ts en m i d ks).bind (fun k i d => .ok (.mk 21 t.text [] 0 t.pos k) (i + 1) d) = y) ?_ n ?_
  ·rintro m l d1 h7 ⟨i, ks, kv, hm, rfl, l0, l3, l6, R7, b7, B7, bx7, nc7, k7, rc7, n7, zi, kl, hy⟩
   cases m with
   | zero => exact absurd (by rw [← hy]; simp [argsL, PR.bind]) hne
   | succ m =>
    have le7 := R7.le
    have ln := R7.ln
    have gx7 := B7.2.2
    refine zAc ?_
    refine zAc (zAb fun Q1 hQ => ?_)
    simp (disch := omega) only [EL, ↓K3, ↓K1, reduceIte, Nat.reduceEqDiff, Nat.reduceAdd, Nat.reduceLeDiff, l0, gx7, zA4]
    refine (is_gp H R7 _).to fun v h8 q => ?_
    obtain ⟨rfl, m8⟩ := q
    have n8 := m8.next
    simp (disch := omega) only [EL, ↓K3, ↓K1, reduceIte, Nat.reduceEqDiff, Nat.reduceAdd, Nat.reduceLeDiff, l0]
    refine hQ _ ?_
    clear hQ Q1
    simp only [zAa]
    have R8 := R7.more m8
    have B8 := B7.mb (m8.but r)
    have gx8 := B8.2.2
    have rc8 := (m8.keep h.next (by omega)).trans rc7
    have bx8 := bx7.keep (m8.keep h3.next (by omega))
    have nc8 := nc7.keep (m8.keep ia (by omega))
    have k8 := k7.keep m8.stay
    have c8 := b7.trans (m8.but r)
    unfold argsL at hy
    cases hc : isT ts en [41] i with
    | true =>
     rw [hc, if_pos rfl] at hy
     refine wc_no (by simp +decide only [EL, reduceIte, hc, Bool.not_true]) ?_
     refine zDe ?_
     simp only [zBg, zBd, if_true, zAa]
     exact ⟨_, ks, kv, trivial, by simp +decide only [EL, reduceIte, l0], by simp +decide only [EL, reduceIte, l3], by simp +decide only [EL, reduceIte, l6], R8, c8, B8, bx8, nc8, k8, rc8, hy.symm, by omega, by omega, is_lt hc⟩
    | false =>
     rw [hc, if_neg (by simp)] at hy
     simp only [zEn] at hy
     refine zAt (by simp +decide only [EL, reduceIte, hc, Bool.not_false]) ?_
     refine zAm ?_
     simp only [zAa]
     refine zAy ?_
     refine zAc ?_
     refine zF4 (K := 3) (b := h3.next) (id := ia) (lo := h.next) (X := [h.next, h3.next, ia]) (r := r) (f := 134) (args := [.ptr r 0, .int .i64 ((1 : Nat) : Int)]) (by simp +decide only [EL, reduceIte, l0, l3, gx8, zA4]) bx8 nc8 k8 (by omega) (by omega) (by intro k hk; simp at hk; omega) (by simp) (by simp) (by omega) (by omega) (by omega) (by omega) (fun tmp => ⟨.ptr r 0, by simp +decide only [EL, reduceIte, l0, l3, gx8, zA4], by simp +decide only [EL, reduceIte, l0, l3, gx8, zA4]⟩) ((IH m (by omega)).expr 1 R8 hd (by omega) _ rfl (zA2 hy hne)) (fun v h9 q => ?_) (fun v h9 e => ?_)
     rotate_left
     ·obtain ⟨p, er, hx, rfl, fr'⟩ := e
      rw [hx] at hy
      exact ⟨p, er, hy.symm, rfl, MoreBut.trans c8 fr'⟩
     obtain ⟨p, i, hx, li9, R9, b9, u, rfl, tr⟩ := q
     rw [hx, zAv] at hy
     have n9 := b9.next
     refine ⟨b9, u, p, rfl, tr, fun h10 kv' n10 keep nc10 k10 => ?_⟩
     have R10 := R9.keep n10 fun k hk => keep k (by have := R9.lt; omega) (.inl (by omega)) (by omega)
     have c10 : MoreBut r _ h10 := ⟨Nat.le_trans (MoreBut.trans c8 b9).next n10, fun k h1 h2 => by rw [keep k (by omega) (.inl (by omega)) (by omega)]; exact (MoreBut.trans c8 b9).keep k h1 h2⟩
     simp only [zAa]
     have rc10 := (keep h.next (by omega) (.inr (by simp)) (by omega)).trans ((b9.keep h.next (by omega) (by omega)).trans rc8)
     have bx10 := bx8.keep ((keep h3.next (by omega) (.inr (by simp)) (by omega)).trans (b9.keep h3.next (by omega) (by omega)))
     have B10 := B.mb c10
     have gx10 := B10.2.2
     refine zAc (zAb fun Q1 hQ => ?_)
     simp (disch := omega) only [EL, ↓K3, ↓K1, reduceIte, Nat.reduceEqDiff, Nat.reduceAdd, Nat.reduceLeDiff, l0, gx10, zA4]
     refine (is_gp H R10 _).to fun v h11 q => ?_
     obtain ⟨rfl, m11⟩ := q
     have n11 := m11.next
     simp (disch := omega) only [EL, ↓K3, ↓K1, reduceIte, Nat.reduceEqDiff, Nat.reduceAdd, Nat.reduceLeDiff, l0]
     refine hQ _ ?_
     clear hQ Q1
     simp only [zAa]
     have R11 := R10.more m11
     have B11 := B10.mb (m11.but r)
     have gx11 := B11.2.2
     have rc11 := (m11.keep h.next (by omega)).trans rc10
     have bx11 := bx10.keep (m11.keep h3.next (by omega))
     have nc11 := nc10.keep (m11.keep ia (by omega))
     have k11 := k10.keep m11.stay
     have c11 := c10.trans (m11.but r)
     cases hc2 : isT ts en [41] i with
     | true =>
      rw [hc2, if_pos rfl] at hy
      refine wc_no (by simp +decide only [EL, reduceIte, hc2, Bool.not_true]) ?_
      refine zAm ?_
      simp only [zAi, zAa]
      exact ⟨m, by omega, _, _, _, by omega, trivial, by simp +decide only [EL, reduceIte, l0], by simp +decide only [EL, reduceIte, l3], by simp +decide only [EL, reduceIte, l6], R11, c11, B11, bx11, nc11, k11, rc11, by omega, by omega, by simp; omega, hy⟩
     | false =>
      rw [hc2, if_neg (by simp)] at hy
      simp only [zEn] at hy
      refine zAt (by simp +decide only [EL, reduceIte, hc2, Bool.not_false]) ?_
      refine zAc (zAb fun Q1 hQ => ?_)
      simp (disch := omega) only [EL, ↓K3, ↓K1, reduceIte, Nat.reduceEqDiff, Nat.reduceAdd, Nat.reduceLeDiff, l0, gx11, zA4]
      refine (zBs H R11 _ _ rfl (zA2 hy hne)).mono (fun v h12 q => ?_) (fun v h12 e => ?_)
      rotate_left
      ·obtain ⟨p, er, hx, rfl, fr'⟩ := e
       rw [hx] at hy
       exact hQ _ ⟨p, er, hy.symm, rfl, MoreBut.trans c11 fr'⟩
      obtain ⟨p12, i, hx, lib12, R12, b12, q⟩ := q
      rw [hx, zAv] at hy
      have nb12 := MoreBut.next b12
      simp (disch := omega) only [EL, ↓K3, ↓K1, reduceIte, Nat.reduceEqDiff, Nat.reduceAdd, Nat.reduceLeDiff, l0]
      refine hQ _ ?_
      clear hQ Q1
      simp only [zAa]
      have B12 := B11.mb b12
      have gx12 := B12.2.2
      have rc12 := (b12.keep h.next (by omega) (by omega)).trans rc11
      have bx12 := bx11.keep (b12.keep h3.next (by omega) (by omega))
      have nc12 := nc11.keep (b12.keep ia (by omega) (by omega))
      have k12 := k11.keep (b12.stay (F := fun k => h.next ≤ k ∧ k ∉ [h.next, h3.next, ia]) (by simp; omega))
      have c12 := c11.trans b12
      refine zAc (zAb fun Q1 hQ => ?_)
      simp (disch := omega) only [EL, ↓K3, ↓K1, reduceIte, Nat.reduceEqDiff, Nat.reduceAdd, Nat.reduceLeDiff, l0, gx12, zA4]
      refine (is_gp H R12 _).to fun v h13 q => ?_
      obtain ⟨rfl, m13⟩ := q
      have n13 := m13.next
      simp (disch := omega) only [EL, ↓K3, ↓K1, reduceIte, Nat.reduceEqDiff, Nat.reduceAdd, Nat.reduceLeDiff, l0]
      refine hQ _ ?_
      clear hQ Q1
      simp only [zAa]
      have R13 := R12.more m13
      have B13 := B12.mb (m13.but r)
      have gx13 := B13.2.2
      have c13 := c12.trans (m13.but r)
      cases hc3 : isT ts en [41] i with
      | true =>
       rw [hc3, if_pos rfl] at hy
       refine zAt (by simp +decide only [EL, reduceIte, hc3]) ?_
       refine zAb fun Q1 hQ => ?_
       simp (disch := omega) only [EL, ↓K3, ↓K1, reduceIte, Nat.reduceEqDiff, Nat.reduceAdd, Nat.reduceLeDiff, l0, gx13, zA4]
       refine (zEr H R13).mono (fun v h3 q => q.elim) fun v h3 q => ?_
       exact hQ _ ⟨_, _, hy.symm, q.1, c13.trans (q.2.but r)⟩
      | false =>
       rw [hc3, if_neg (by simp)] at hy
       refine wc_no (by simp +decide only [EL, reduceIte, hc3]) ?_
       refine zAm ?_
       simp only [zAi, zAa]
       exact ⟨m, by omega, _, _, _, by omega, trivial, by simp +decide only [EL, reduceIte, l0], by simp +decide only [EL, reduceIte, l3], by simp +decide only [EL, reduceIte, l6], R13, c13, B13, bx12.keep (m13.keep h3.next (by omega)), nc12.keep (m13.keep ia (by omega)), k12.keep m13.stay, (m13.keep h.next (by omega)).trans rc12, by omega, by omega, by simp; omega, hy⟩
  ·exact ⟨_, [], .nils, Nat.le_refl _, rfl, by simp +decide only [EL, reduceIte, i0], by simp +decide only [EL, reduceIte, i0], by simp +decide only [EL, reduceIte, i0], R4, b4, B4, bx4, nc4, Kids.nils, rc4, by omega, by omega, by simp, hy⟩
 ·rintro l d1 h7 ⟨i, ks, kv, rfl, l0, l3, l6, R7, b7, B7, bx7, nc7, k7, rc7, hy, n7, zi, hil⟩
  have gx7 := B7.2.2
  refine zAc (zAb fun Q1 hQ => ?_)
  simp (disch := omega) only [EL, ↓K3, ↓K1, reduceIte, Nat.reduceEqDiff, Nat.reduceAdd, Nat.reduceLeDiff, l0, gx7, zA4]
  refine (zCm H R7 hil).to fun v h8 q => ?_
  obtain ⟨rfl, R8, b8⟩ := q
  have n8 := b8.next
  simp (disch := omega) only [EL, ↓K3, ↓K1, reduceIte, Nat.reduceEqDiff, Nat.reduceAdd, Nat.reduceLeDiff, l0]
  refine hQ _ ?_
  clear hQ Q1
  simp only [zAa]
  obtain ⟨cx, gx, cx0⟩ := bx7.keep (b8.keep h3.next (by omega) (by omega))
  have rc8 := (b8.keep h.next (by omega) (by omega)).trans rc7
  have nc8 := nc7.keep (b8.keep ia (by omega) (by omega))
  have k8 := k7.keep (b8.stay (F := fun k => h.next ≤ k ∧ k ∉ [h.next, h3.next, ia]) (by simp; omega))
  refine zC0 (b := h3.next) (rc := h.next) (by simp +decide only [EL, reduceIte, l3]) gx cx0 (by simp +decide only [EL, reduceIte, l6]) rc8 (by rw [zAk]; rfl) fun h9 o9 => ?_
  have k9 := k8.keep (o9.stay (F := fun k => h.next ≤ k ∧ k ∉ [h.next, h3.next, ia]) (by simp))
  refine ⟨_, _, hy, by omega, o9.rs R8 (by omega), o9.mb (b7.trans b8) (Nat.le_refl _), _, rfl, ?_⟩
  exact k9.tree (nc8.keep (o9.keep _ (by omega))) (by show h.next ≤ ia; omega) (by rw [o9.next]; omega) fun k hk => hk
include H in
theorem call_ge {n : Nat} (IH : ∀ m, m < n → EX tab ts en m) (t : Tok) (R : RS ts en h r i d) (hd : d ≤ 40) (hc : isT ts en [40] i = true) : GS tab 196 [.ptr r 0, tokV t] ts en r i d h (callS ts en n t i d) fun t v h1 => okT t h.next v h1 := by
 intro y hy hne
 cases n with
 | zero => exact absurd (by rw [← hy]; simp [callS]) hne
 | succ n =>
 have i0 : zAh [.ptr r 0, tokV t] = zAd [.ptr r 0, tokV t] := rfl
 have hr := R.lt
 refine ge_of H.t196 rfl ?_
 refine zAc (zAb fun Q1 hQ => ?_)
 simp (disch := omega) only [EL, ↓K3, ↓K1, reduceIte, Nat.reduceEqDiff, Nat.reduceAdd, Nat.reduceLeDiff, i0]
 refine hQ _ ?_
 clear hQ Q1
 have m1 : More h (((h.add (.cells (.log 1 0 (some (.ptr r 0)) .leaf) 1 none false)).add (.cells (zAd [.int .i64 (t.kind : Int), sv t.text, .int .i64 (t.pos : Int)]) 3 none false)).add (.cells (zAd [.nilp]) 1 none false)) := ((More.add _ _).trans (More.add _ _)).trans (More.add _ _)
 have n1 : (((h.add (.cells (.log 1 0 (some (.ptr r 0)) .leaf) 1 none false)).add (.cells (zAd [.int .i64 (t.kind : Int), sv t.text, .int .i64 (t.pos : Int)]) 3 none false)).add (.cells (zAd [.nilp]) 1 none false)).next = h.next + 3 := rfl
 have g1 : (((h.add (.cells (.log 1 0 (some (.ptr r 0)) .leaf) 1 none false)).add (.cells (zAd [.int .i64 (t.kind : Int), sv t.text, .int .i64 (t.pos : Int)]) 3 none false)).add (.cells (zAd [.nilp]) 1 none false)).mem.get h.next = some (.cells (cell1 (.ptr r 0)) 1 none false) := by
  rw [AH.add_mem, T.get_put_ne _ _ _ _ (by show h.next + 2 ≠ h.next; omega), AH.add_mem, T.get_put_ne _ _ _ _ (by show h.next + 1 ≠ h.next; omega), AH.add_mem, T.get_put_self]; rfl
 have g2 : (((h.add (.cells (.log 1 0 (some (.ptr r 0)) .leaf) 1 none false)).add (.cells (zAd [.int .i64 (t.kind : Int), sv t.text, .int .i64 (t.pos : Int)]) 3 none false)).add (.cells (zAd [.nilp]) 1 none false)).mem.get (h.next + 1) = some (.cells (zAd [.int .i64 (t.kind : Int), sv t.text, .int .i64 (t.pos : Int)]) 3 none false) := by
  rw [AH.add_mem, T.get_put_ne _ _ _ _ (by show h.next + 2 ≠ h.next + 1; omega), AH.add_mem]; exact T.get_put_self _ _ _
 have g3 : (((h.add (.cells (.log 1 0 (some (.ptr r 0)) .leaf) 1 none false)).add (.cells (zAd [.int .i64 (t.kind : Int), sv t.text, .int .i64 (t.pos : Int)]) 3 none false)).add (.cells (zAd [.nilp]) 1 none false)).mem.get (h.next + 2) = some (.cells (zAd [.nilp]) 1 none false) := by
  rw [AH.add_mem]; exact T.get_put_self _ _ _
 generalize (((h.add (.cells (.log 1 0 (some (.ptr r 0)) .leaf) 1 none false)).add (.cells (zAd [.int .i64 (t.kind : Int), sv t.text, .int .i64 (t.pos : Int)]) 3 none false)).add (.cells (zAd [.nilp]) 1 none false)) = h1 at *
 have R1 := R.more m1
 have B1 : RBox h1 h.next r := ⟨by omega, by omega, g1⟩
 have T1 : TBox h1 (h.next + 1) r t := ⟨by omega, by omega, g2⟩
 unfold callS at hy
 refine zAc (zAb fun Q1 hQ => ?_)
 simp (disch := omega) only [EL, ↓K3, ↓K1, reduceIte, Nat.reduceEqDiff, Nat.reduceAdd, Nat.reduceLeDiff, i0, g1, zA4]
 refine (zH0 H (F := 198) (caps := [.ptr h.next 0, .ptr (h.next + 1) 0]) (k := fun i d => (argsL ts en n (i + 1) d []).bind fun k i d => .ok (.mk 21 t.text [] 0 t.pos k) (i + 1) d) R1 hd (fun hd' h' R' b' => call1_ge H (fun m hm => IH m (by omega)) R' hd' (B1.mb b') (T1.mb b') (is_lt hc)) y hy hne).mono (fun v h4 q => ?_) (fun v h4 e => ?_)
 rotate_left
 ·obtain ⟨p, er, hx, rfl, fr'⟩ := e
  exact hQ _ ⟨p, er, hx, rfl, MoreBut.trans (m1.but r) fr'⟩
 obtain ⟨t', i', hx, li, R4, b4, u, rfl, tr⟩ := q
 have n4 := b4.next
 have rc4 := (b4.keep (h.next + 2) (by omega) (by omega)).trans g3
 refine ⟨rfl, ?_⟩
 refine zF0 (rc := h.next + 2) (by simp +decide only [EL, reduceIte]) rc4 (by rw [zAk]; rfl) fun h5 o5 g5 => hQ _ ?_
 obtain ⟨c5, gc5, gc50⟩ := g5
 refine zJy (rc := h.next + 2) (by simp +decide only [EL, reduceIte]) gc5 gc50 ⟨t', i', hx, li, o5.rs R4 (by omega), o5.mb ((m1.but r).trans b4) (by omega), _, rfl, ?_⟩
 exact TreeR.keep (o5.stay (F := fun k => h1.next ≤ k) (by omega)) (fun k hk _ => by show h.next ≤ k; omega) tr
end
end Go.Ev
namespace Go.Ev
open Go Go.Pa
section
variable {tab : Nat → Option AFunc} {h : AH} (H : PT tab) {ts : List Tok} {en r i d : Nat}
theorem leafT {h : AH} {lo ia op : Nat} {name typ : Str} {n : Int} {pos : Nat} (nc : NodeC h ia op name typ n pos .nils) (h1 : lo ≤ ia) (h2 : ia < h.next) : TreeR h (fun k => lo ≤ k) (.ptr ia 0) (.mk op name typ n pos []) := Kids.tree (lo := lo) (X := []) Kids.nils nc h1 h2 fun k hk => hk
include H in
theorem named_ge {n : Nat} (IH : EX tab ts en n) (R : RS ts en h r i d) (hd : d ≤ 40) (hk : (now ts en i).kind = 1) : GS tab 191 [.ptr r 0] ts en r i d h (if isT ts en [40] (i + 1) then callS ts en n (now ts en i) (i + 1) d else .ok (.mk 18 (now ts en i).text [] 0 (now ts en i).pos []) (i + 1) d) fun t v h1 => okT t h.next v h1 := by
 intro y hy hne
 have i0 : zAh [.ptr r 0] = zAd [.ptr r 0] := rfl
 have hr := R.lt
 have hw : wordS ts en i d = .ok (now ts en i) (i + 1) d := by unfold wordS; rw [if_pos hk]
 refine ge_of H.t191 rfl ?_
 refine zBk fun h1 n1 g1 m1 => ?_
 have R1 := R.more m1
 refine zAc (zAb fun Q1 hQ => ?_)
 simp (disch := omega) only [EL, ↓K3, ↓K1, reduceIte, Nat.reduceEqDiff, Nat.reduceAdd, Nat.reduceLeDiff, i0]
 refine (zG4 H R1 _ hw (by simp)).mono (fun v h2 q => ?_) (fun v h2 e => ?_)
 rotate_left
 ·obtain ⟨p, er, hx, _⟩ := e; cases hx
 obtain ⟨t, i', hx, li2, R2, b2, rfl, tb⟩ := q
 injection hx with hx1 hx2
 subst hx1; subst hx2
 have nb2 := b2.next
 have c2 := (m1.but r).trans b2
 have rc2 := (b2.keep h.next (by omega) (by omega)).trans g1
 simp (disch := omega) only [EL, ↓K3, ↓K1, reduceIte, Nat.reduceEqDiff, Nat.reduceAdd, Nat.reduceLeDiff, i0]
 refine hQ _ ?_
 clear hQ Q1
 refine zDs fun h3 n3 g3 m3 => ?_
 obtain ⟨ct, gt, k0, k1, k2⟩ := g3
 simp only [zAa]
 have R3 := R2.more m3
 have rc3 := (m3.keep h.next (by omega)).trans rc2
 have c3 := c2.trans (m3.but r)
 refine zAc ?_
 refine zAc (zAb fun Q1 hQ => ?_)
 simp (disch := omega) only [EL, ↓K3, ↓K1, reduceIte, Nat.reduceEqDiff, Nat.reduceAdd, Nat.reduceLeDiff, i0]
 refine (is_gp H R3 _).to fun v h4 q => ?_
 obtain ⟨rfl, m4⟩ := q
 have n4 := m4.next
 have R4 := R3.more m4
 have rc4 := (m4.keep h.next (by omega)).trans rc3
 have gt4 := (m4.keep h2.next (by omega)).trans gt
 have c4 := c3.trans (m4.but r)
 simp (disch := omega) only [EL, ↓K3, ↓K1, reduceIte, Nat.reduceEqDiff, Nat.reduceAdd, Nat.reduceLeDiff, i0]
 refine hQ _ ?_
 clear hQ Q1
 simp only [zAa]
 cases hc : isT ts en [40] (i + 1) with
 | true =>
  rw [hc, if_pos rfl] at hy
  refine zAt (by simp +decide only [EL, reduceIte, hc]) ?_
  refine zAc (zAb fun Q1 hQ => ?_)
  simp (disch := omega) only [EL, ↓K3, ↓K1, reduceIte, Nat.reduceEqDiff, Nat.reduceAdd, Nat.reduceLeDiff, i0, gt4, k0, k1, k2, zAe]
  refine (IH.call (now ts en i) R4 hd hc y hy hne).mono (fun v h5 q => ?_) (fun v h5 e => ?_)
  rotate_left
  ·obtain ⟨p, er, hx, rfl, fr'⟩ := e
   exact hQ _ ⟨p, er, hx, rfl, MoreBut.trans c4 fr'⟩
  obtain ⟨t, i', hx, li, R5, b5, u, rfl, tr⟩ := q
  have n5 := b5.next
  have rc5 := (b5.keep h.next (by omega) (by omega)).trans rc4
  refine ⟨rfl, ?_⟩
  refine zF0 (rc := h.next) (by simp +decide only [EL, reduceIte]) rc5 (by rw [zAk]; rfl) fun h6 o6 g6 => hQ _ ?_
  obtain ⟨c6, gc6, gc60⟩ := g6
  refine zAj ?_
  try simp only [zAg, zAf]
  refine zBc (id := h.next) (by simp +decide only [EL, reduceIte]) gc6 (lst := [u]) (by rw [zAe, gc60]; rfl) ⟨t, i', hx, by omega, o6.rs R5 (by omega), o6.mb (c4.trans b5) (by omega), _, rfl, ?_⟩
  exact TreeR.keep (o6.stay (F := fun k => h4.next ≤ k) (by omega)) (fun k hk _ => by show h.next ≤ k; omega) tr
 | false =>
  rw [hc, if_neg (by simp)] at hy
  refine wc_no (by simp +decide only [EL, reduceIte, hc]) ?_
  refine zAm ?_
  simp only [zAa]
  refine zAc (zAb fun Q1 hQ => ?_)
  simp (disch := omega) only [EL, ↓K3, ↓K1, reduceIte, Nat.reduceEqDiff, Nat.reduceAdd, Nat.reduceLeDiff, i0, gt4, k0, k1, k2, zAe]
  refine (zGe H (op := 18) (t := now ts en i) (kv := .nils) (fun _ => rfl) rfl).to fun v h5 q => ?_
  obtain ⟨ia, rfl, i1, i2, nc, m5⟩ := q
  have n5 := m5.next
  have rc5 := (m5.keep h.next (by omega)).trans rc4
  refine ⟨rfl, ?_⟩
  refine zF0 (rc := h.next) (by simp +decide only [EL, reduceIte]) rc5 (by rw [zAk]; rfl) fun h6 o6 g6 => hQ _ ?_
  obtain ⟨c6, gc6, gc60⟩ := g6
  have n6 := o6.next
  refine zJy (rc := h.next) (by simp +decide only [EL, reduceIte]) gc6 gc60 ⟨_, _, hy.symm, by omega, o6.rs (R4.more m5) (by omega), o6.mb (c4.trans (m5.but r)) (by omega), _, rfl, leafT (nc.keep (o6.keep ia (by omega))) (by omega) (by omega)⟩
include H in
theorem prim_ge {n : Nat} (IH : ∀ m, m < n → EX tab ts en m) (R : RS ts en h r i d) (hd : d ≤ 40) : GS tab 180 [.ptr r 0] ts en r i d h (primS ts en n i d) fun t v h1 => okT t h.next v h1 := by
 intro y hy hne
 cases n with
 | zero => exact absurd (by rw [← hy]; simp [primS]) hne
 | succ n =>
 have i0 : zAh [.ptr r 0] = zAd [.ptr r 0] := rfl
 have hr := R.lt
 refine ge_of H.t180 rfl ?_
 refine zBk fun h1 n1 g1 m1 => ?_
 have R1 := R.more m1
 unfold primS at hy
 have f0 : ∀ h', zCr 0 1 false (.c (tokV (now ts en i))) .leaf [] h' = .val (.int .i64 ((now ts en i).kind : Int)) h' := fun _ => rfl
 refine zAc ?_
 refine zAy ?_
 refine zAc (zAb fun Q1 hQ => ?_)
 simp (disch := omega) only [EL, ↓K3, ↓K1, reduceIte, Nat.reduceEqDiff, Nat.reduceAdd, Nat.reduceLeDiff, i0]
 refine (zHn H R1).to fun v h2 q => ?_
 obtain ⟨rfl, m2⟩ := q
 have n2 := m2.next
 have R2 := R1.more m2
 have rc2 := (m2.keep h.next (by omega)).trans g1
 have c2 := (m1.trans m2).but r
 by_cases k3 : (now ts en i).kind = 3
 ·rw [if_pos k3] at hy
  simp (disch := omega) only [EL, ↓K3, ↓K1, reduceIte, Nat.reduceEqDiff, Nat.reduceAdd, Nat.reduceLeDiff, i0, f0, k3]
  refine hQ _ ?_
  clear hQ Q1
  simp only [zAa]
  refine zAt (by simp +decide only [EL, reduceIte]) ?_
  have hi : i < ts.length := by
   rcases Nat.lt_or_ge i ts.length with h | h
   ·exact h
   ·rw [zD8 (by omega)] at k3; cases k3
  obtain ⟨dg, d0⟩ := R.num i k3
  refine zAc (zAb fun Q1 hQ => ?_)
  simp (disch := omega) only [EL, ↓K3, ↓K1, reduceIte, Nat.reduceEqDiff, Nat.reduceAdd, Nat.reduceLeDiff, i0]
  refine (zCm H R2 hi).to fun v h3 q => ?_
  obtain ⟨rfl, R3, b3⟩ := q
  have n3 := b3.next
  have rc3 := (b3.keep h.next (by omega) (by omega)).trans rc2
  simp (disch := omega) only [EL, ↓K3, ↓K1, reduceIte, Nat.reduceEqDiff, Nat.reduceAdd, Nat.reduceLeDiff]
  refine (number_gp H dg).to fun v h4 q => ?_
  obtain ⟨⟨u, rfl, tr⟩, m4⟩ := q
  have rc4 := (m4.keep h.next (by omega)).trans rc3
  have n4 := m4.next
  refine ⟨rfl, ?_⟩
  refine zF0 (rc := h.next) (by simp +decide only [EL, reduceIte]) rc4 (by rw [zAk]; rfl) fun h6 o6 g6 => hQ _ ?_
  obtain ⟨c6, gc6, gc60⟩ := g6
  have n6 := o6.next
  refine zAj ?_
  try simp only [zAg, zAf]
  rw [numVal_eq d0] at tr
  refine zBc (id := h.next) (by simp +decide only [EL, reduceIte]) gc6 (lst := [u]) (by rw [zAe, gc60]; rfl) ⟨_, _, hy.symm, by omega, o6.rs (R3.more m4) (by omega), o6.mb ((c2.trans b3).trans (m4.but r)) (by omega), _, rfl, ?_⟩
  exact TreeR.keep (o6.stay (F := fun k => h3.next ≤ k) (by omega)) (fun k hk _ => by show h.next ≤ k; omega) tr
 rw [if_neg k3] at hy
 have k3' : ¬ ((now ts en i).kind : Int) = ((3 : Nat) : Int) := by omega
 simp (disch := omega) only [EL, ↓K3, ↓K1, reduceIte, Nat.reduceEqDiff, Nat.reduceAdd, Nat.reduceLeDiff, i0, f0, k3', k3]
 refine hQ _ ?_
 clear hQ Q1
 simp only [zAa]
 refine wc_no (by simp +decide only [EL, reduceIte]) ?_
 refine zAc (zAb fun Q1 hQ => ?_)
 simp (disch := omega) only [EL, ↓K3, ↓K1, reduceIte, Nat.reduceEqDiff, Nat.reduceAdd, Nat.reduceLeDiff, i0]
 refine (zHn H R2).to fun v h3 q => ?_
 obtain ⟨rfl, m3⟩ := q
 have n3 := m3.next
 have R3 := R2.more m3
 have rc3 := (m3.keep h.next (by omega)).trans rc2
 have c3 := c2.trans (m3.but r)
 by_cases k1 : (now ts en i).kind = 1
 ·rw [if_pos k1] at hy
  simp (disch := omega) only [EL, ↓K3, ↓K1, reduceIte, Nat.reduceEqDiff, Nat.reduceAdd, Nat.reduceLeDiff, i0, f0, k1]
  refine hQ _ ?_
  clear hQ Q1
  simp only [zAa]
  refine zAt (by simp +decide only [EL, reduceIte]) ?_
  refine zAc (zAb fun Q1 hQ => ?_)
  simp (disch := omega) only [EL, ↓K3, ↓K1, reduceIte, Nat.reduceEqDiff, Nat.reduceAdd, Nat.reduceLeDiff, i0]
  refine (named_ge H (IH n (by omega)) R3 hd k1 y hy hne).mono (fun v h4 q => ?_) (fun v h4 e => ?_)
  rotate_left
  ·obtain ⟨p, er, hx, rfl, fr'⟩ := e
   exact hQ _ ⟨p, er, hx, rfl, MoreBut.trans c3 fr'⟩
  obtain ⟨t, i', hx, li, R4, b4, u, rfl, tr⟩ := q
  have n4 := b4.next
  have rc4 := (b4.keep h.next (by omega) (by omega)).trans rc3
  refine ⟨rfl, ?_⟩
  refine zF0 (rc := h.next) (by simp +decide only [EL, reduceIte]) rc4 (by rw [zAk]; rfl) fun h6 o6 g6 => hQ _ ?_
  obtain ⟨c6, gc6, gc60⟩ := g6
  refine zAj ?_
  try simp only [zAg, zAf]
  refine zBc (id := h.next) (by simp +decide only [EL, reduceIte]) gc6 (lst := [u]) (by rw [zAe, gc60]; rfl) ⟨t, i', hx, by omega, o6.rs R4 (by omega), o6.mb (c3.trans b4) (by omega), _, rfl, ?_⟩
  exact TreeR.keep (o6.stay (F := fun k => h3.next ≤ k) (by omega)) (fun k hk _ => by show h.next ≤ k; omega) tr
 rw [if_neg k1] at hy
 have k1' : ¬ ((now ts en i).kind : Int) = ((1 : Nat) : Int) := by omega
 simp (disch := omega) only [EL, ↓K3, ↓K1, reduceIte, Nat.reduceEqDiff, Nat.reduceAdd, Nat.reduceLeDiff, i0, f0, k1', k1]
 refine hQ _ ?_
 clear hQ Q1
 simp only [zAa]
 refine wc_no (by simp +decide only [EL, reduceIte]) ?_
 refine zAc (zAb fun Q1 hQ => ?_)
 simp (disch := omega) only [EL, ↓K3, ↓K1, reduceIte, Nat.reduceEqDiff, Nat.reduceAdd, Nat.reduceLeDiff, i0]
 refine (is_gp H R3 _).to fun v h4 q => ?_
 obtain ⟨rfl, m4⟩ := q
 have n4 := m4.next
 have R4 := R3.more m4
 have rc4 := (m4.keep h.next (by omega)).trans rc3
 have c4 := c3.trans (m4.but r)
 simp (disch := omega) only [EL, ↓K3, ↓K1, reduceIte, Nat.reduceEqDiff, Nat.reduceAdd, Nat.reduceLeDiff, i0]
 refine hQ _ ?_
 clear hQ Q1
 simp only [zAa]
 cases hb : isT ts en [40] i with
 | true =>
  rw [hb, if_pos rfl] at hy
  refine zAt (by simp +decide only [EL, reduceIte, hb]) ?_
  refine zAc (zAb fun Q1 hQ => ?_)
  simp (disch := omega) only [EL, ↓K3, ↓K1, reduceIte, Nat.reduceEqDiff, Nat.reduceAdd, Nat.reduceLeDiff, i0]
  refine ((IH n (by omega)).brack R4 hd y hy hne).mono (fun v h5 q => ?_) (fun v h5 e => ?_)
  rotate_left
  ·obtain ⟨p, er, hx, rfl, fr'⟩ := e
   exact hQ _ ⟨p, er, hx, rfl, MoreBut.trans c4 fr'⟩
  obtain ⟨t, i', hx, li, R5, b5, u, rfl, tr⟩ := q
  have n5 := b5.next
  have rc5 := (b5.keep h.next (by omega) (by omega)).trans rc4
  refine ⟨rfl, ?_⟩
  refine zF0 (rc := h.next) (by simp +decide only [EL, reduceIte]) rc5 (by rw [zAk]; rfl) fun h6 o6 g6 => hQ _ ?_
  obtain ⟨c6, gc6, gc60⟩ := g6
  refine zAj ?_
  try simp only [zAg, zAf]
  refine zBc (id := h.next) (by simp +decide only [EL, reduceIte]) gc6 (lst := [u]) (by rw [zAe, gc60]; rfl) ⟨t, i', hx, by omega, o6.rs R5 (by omega), o6.mb (c4.trans b5) (by omega), _, rfl, ?_⟩
  exact TreeR.keep (o6.stay (F := fun k => h4.next ≤ k) (by omega)) (fun k hk _ => by show h.next ≤ k; omega) tr
 | false =>
  rw [hb, if_neg (by simp)] at hy
  refine wc_no (by simp +decide only [EL, reduceIte, hb]) ?_
  have kend : ∀ (l : T AV) (h5 : AH) (Q : Res → Prop), l.get 0 = some (.ptr r 0) → l.get 2 = some (.ptr h.next 0) → RS ts en h5 r i d → h5.mem.get h.next = some (.cells (zAd [.nilp]) (llen [.nilp]) none false) → MoreBut r h h5 → h1.next ≤ h5.next → i < ts.length → keyS ts en i d = y →
    (∀ l' h6, zDz [.cellN 1 (.l 2)] (okP y ts en r i d h fun t v h1 => okT t h.next v h1) (erP y r h) (.ret l' [] h6) → Q (.ret l' [] h6)) → (∀ v l' h6, erP y r h v h6 → Q (.pan v l' [] h6)) →
    WC tab (.seq (.ops [⟨.move (.l 0), none, none, []⟩, ⟨.callF 192 [.t 0], none, none, []⟩, ⟨.store 1 (.l 2) (.t 0), none, none, []⟩]) .ret) l [] h5 Q := by
   intro l h5 Q l0 l2 R5 rc5 c5 n5 hi hk hret hpan
   refine zAc (zAb fun Q1 hQ => ?_)
   simp (disch := omega) only [EL, ↓K3, ↓K1, reduceIte, Nat.reduceEqDiff, Nat.reduceAdd, Nat.reduceLeDiff, l0]
   refine (key_ge H R5 hi y hk hne).mono (fun v h6 q => ?_) (fun v h6 e => ?_)
   rotate_left
   ·obtain ⟨p, er, hx, rfl, fr'⟩ := e
    exact hQ _ (hpan _ _ _ ⟨p, er, hx, rfl, MoreBut.trans c5 fr'⟩)
   obtain ⟨t, i', hx, li, R6, b6, u, rfl, tr⟩ := q
   have n6 := b6.next
   have rc6 := (b6.keep h.next (by omega) (by omega)).trans rc5
   refine ⟨rfl, ?_⟩
   refine zF0 (rc := h.next) (by simp +decide only [EL, reduceIte, l2]) rc6 (by rw [zAk]; rfl) fun h7 o7 g7 => hQ _ ?_
   obtain ⟨c7, gc7, gc70⟩ := g7
   refine zAj (hret _ _ (zBc (id := h.next) (by simp +decide only [EL, reduceIte, l2]) gc7 (lst := [u]) (by rw [zAe, gc70]; rfl) ⟨t, i', hx, by omega, o7.rs R6 (by omega), o7.mb (c5.trans b6) (by omega), _, rfl, ?_⟩))
   exact TreeR.keep (o7.stay (F := fun k => h5.next ≤ k) (by omega)) (fun k hk _ => by show h.next ≤ k; omega) tr
  refine zAc (zAb fun Q1 hQ => ?_)
  simp (disch := omega) only [EL, ↓K3, ↓K1, reduceIte, Nat.reduceEqDiff, Nat.reduceAdd, Nat.reduceLeDiff, i0]
  refine (is_gp H R4 _).to fun v h5 q => ?_
  obtain ⟨rfl, m5⟩ := q
  have n5 := m5.next
  have R5 := R4.more m5
  have rc5 := (m5.keep h.next (by omega)).trans rc4
  have c5 := c4.trans (m5.but r)
  cases hA : isT ts en [110, 105, 108] i with
  | true =>
   rw [hA, Bool.true_or, Bool.true_or, Bool.true_or, Bool.true_or, if_pos rfl] at hy
   simp (disch := omega) only [EL, ↓K3, ↓K1, reduceIte, Nat.reduceEqDiff, Nat.reduceAdd, Nat.reduceLeDiff, i0, hA]
   refine hQ _ ?_
   clear hQ Q1
   simp only [zAa]
   refine zAt (by simp +decide only [EL, reduceIte]) ?_
   refine kend _ h5 _ (by simp +decide only [EL, reduceIte, i0]) (by simp +decide only [EL, reduceIte]) R5 rc5 c5 (by omega) (is_lt hA) hy (fun l' h6 q => ?_) (fun v l' h6 e => ?_)
   ·simp only [zAg, zAf]; exact q
   ·simp only [zDd, zCu]; exact e
  | false =>
  simp (disch := omega) only [EL, ↓K3, ↓K1, reduceIte, Nat.reduceEqDiff, Nat.reduceAdd, Nat.reduceLeDiff, i0, hA]
  refine (is_gp H R5 _).to fun v h6 q => ?_
  obtain ⟨rfl, m6⟩ := q
  have n6 := m6.next
  have R6 := R5.more m6
  have rc6 := (m6.keep h.next (by omega)).trans rc5
  have c6 := c5.trans (m6.but r)
  cases hB : isT ts en [116, 114, 117, 101] i with
  | true =>
   rw [hA, hB, Bool.false_or, Bool.true_or, Bool.true_or, Bool.true_or, if_pos rfl] at hy
   simp (disch := omega) only [EL, ↓K3, ↓K1, reduceIte, Nat.reduceEqDiff, Nat.reduceAdd, Nat.reduceLeDiff, i0, hB]
   refine hQ _ ?_
   clear hQ Q1
   simp only [zAa]
   refine zAt (by simp +decide only [EL, reduceIte]) ?_
   refine kend _ h6 _ (by simp +decide only [EL, reduceIte, i0]) (by simp +decide only [EL, reduceIte]) R6 rc6 c6 (by omega) (is_lt hB) hy (fun l' h6 q => ?_) (fun v l' h6 e => ?_)
   ·simp only [zAg, zAf]; exact q
   ·simp only [zDd, zCu]; exact e
  | false =>
  simp (disch := omega) only [EL, ↓K3, ↓K1, reduceIte, Nat.reduceEqDiff, Nat.reduceAdd, Nat.reduceLeDiff, i0, hB]
  refine (is_gp H R6 _).to fun v h7 q => ?_
  obtain ⟨rfl, m7⟩ := q
  have n7 := m7.next
  have R7 := R6.more m7
  have rc7 := (m7.keep h.next (by omega)).trans rc6
  have c7 := c6.trans (m7.but r)
  cases hC : isT ts en [102, 97, 108, 115, 101] i with
  | true =>
   rw [hA, hB, hC, Bool.false_or, Bool.false_or, Bool.true_or, Bool.true_or, if_pos rfl] at hy
   simp (disch := omega) only [EL, ↓K3, ↓K1, reduceIte, Nat.reduceEqDiff, Nat.reduceAdd, Nat.reduceLeDiff, i0, hC]
   refine hQ _ ?_
   clear hQ Q1
   simp only [zAa]
   refine zAt (by simp +decide only [EL, reduceIte]) ?_
   refine kend _ h7 _ (by simp +decide only [EL, reduceIte, i0]) (by simp +decide only [EL, reduceIte]) R7 rc7 c7 (by omega) (is_lt hC) hy (fun l' h6 q => ?_) (fun v l' h6 e => ?_)
   ·simp only [zAg, zAf]; exact q
   ·simp only [zDd, zCu]; exact e
  | false =>
  simp (disch := omega) only [EL, ↓K3, ↓K1, reduceIte, Nat.reduceEqDiff, Nat.reduceAdd, Nat.reduceLeDiff, i0, hC]
  refine (is_gp H R7 _).to fun v h8 q => ?_
  obtain ⟨rfl, m8⟩ := q
  have n8 := m8.next
  have R8 := R7.more m8
  have rc8 := (m8.keep h.next (by omega)).trans rc7
  have c8 := c7.trans (m8.but r)
  cases hD : isT ts en [110, 101, 119] i with
  | true =>
   rw [hA, hB, hC, hD, Bool.false_or, Bool.false_or, Bool.false_or, Bool.true_or, if_pos rfl] at hy
   simp (disch := omega) only [EL, ↓K3, ↓K1, reduceIte, Nat.reduceEqDiff, Nat.reduceAdd, Nat.reduceLeDiff, i0, hD]
   refine hQ _ ?_
   clear hQ Q1
   simp only [zAa]
   refine zAt (by simp +decide only [EL, reduceIte]) ?_
   refine kend _ h8 _ (by simp +decide only [EL, reduceIte, i0]) (by simp +decide only [EL, reduceIte]) R8 rc8 c8 (by omega) (is_lt hD) hy (fun l' h6 q => ?_) (fun v l' h6 e => ?_)
   ·simp only [zAg, zAf]; exact q
   ·simp only [zDd, zCu]; exact e
  | false =>
  simp (disch := omega) only [EL, ↓K3, ↓K1, reduceIte, Nat.reduceEqDiff, Nat.reduceAdd, Nat.reduceLeDiff, i0, hD]
  refine (is_gp H R8 _).to fun v h9 q => ?_
  obtain ⟨rfl, m9⟩ := q
  have n9 := m9.next
  have R9 := R8.more m9
  have rc9 := (m9.keep h.next (by omega)).trans rc8
  have c9 := c8.trans (m9.but r)
  rw [hA, hB, hC, hD, Bool.false_or, Bool.false_or, Bool.false_or, Bool.false_or] at hy
  simp (disch := omega) only [EL, ↓K3, ↓K1, reduceIte, Nat.reduceEqDiff, Nat.reduceAdd, Nat.reduceLeDiff, i0]
  refine hQ _ ?_
  clear hQ Q1
  simp only [zAa]
  cases hE : isT ts en [114, 101, 97, 100] i with
  | true =>
   rw [hE, if_pos rfl] at hy
   refine zAt (by simp +decide only [EL, reduceIte, hE]) ?_
   refine kend _ h9 _ (by simp +decide only [EL, reduceIte, i0]) (by simp +decide only [EL, reduceIte]) R9 rc9 c9 (by omega) (is_lt hE) hy (fun l' h6 q => ?_) (fun v l' h6 e => ?_)
   ·simp only [zAg, zAf]; exact q
   ·simp only [zDd, zCu]; exact e
  | false =>
   rw [hE, if_neg (by simp)] at hy
   refine wc_no (by simp +decide only [EL, reduceIte, hE]) ?_
   refine zAm ?_
   simp only [zAi, zAa]
   refine zAc (zAb fun Q1 hQ => ?_)
   simp (disch := omega) only [EL, ↓K3, ↓K1, reduceIte, Nat.reduceEqDiff, Nat.reduceAdd, Nat.reduceLeDiff, i0]
   refine (zEr H R9).mono (fun v h3 q => q.elim) fun v h3 q => ?_
   exact hQ _ ⟨_, _, hy.symm, q.1, c9.trans (q.2.but r)⟩
include H in
theorem zIr : ∀ n, EX tab ts en n := by
 intro n
 induction n using Nat.strongRecOn with
 | ind n IH => exact ⟨fun least R hd hl => expr_ge H IH R hd least hl, fun R hd => unary_ge H IH R hd, fun R hd => post_ge H IH R hd, fun R hd => prim_ge H IH R hd, fun t R hd hc => call_ge H IH t R hd hc, fun R hd => brack_ge H IH R hd⟩
end
end Go.Ev
namespace Go.Ev
open Go Go.Pa
section
variable {tab : Nat → Option AFunc} {h : AH} (H : PT tab) {ts : List Tok} {en r i d : Nat}
abbrev dataV (op : Nat) (name typ : Str) (n : Int) (pos : Nat) (kv : AV) : AV := .agg [.int .i64 (op : Int), sv name, sv typ, .int .i64 n, .int .i64 (pos : Int), kv]
include H in
theorem zKt {ia op pos : Nat} {name typ : Str} {n : Int} {kv : AV} (nc : NodeC h ia op name typ n pos kv) (hi : ia < h.next) (hkv : ∀ h' : AH, oMove (.c kv) .leaf [] h' = .val kv h') : GP tab 28 [.agg [.ptr ia 0]] h fun v h1 => v = dataV op name typ n pos kv ∧ More h h1 := by
 refine GE.gp (ge_of H.t28 rfl ?_) (E := fun _ _ => False) fun _ _ hh => hh
 refine zEd (l := [.ptr ia 0]) rfl fun h1 n1 g1 g2 m1 => ?_
 obtain ⟨c, gn, c0, c1, c2, c3, c4, c5, _⟩ := (nc.keep (m1.keep ia hi)).set
 have i0 : zAh [.agg [.ptr ia 0]] = zAd [.agg [.ptr ia 0]] := rfl
 refine zAc ?_
 refine zAc (zAb fun Q1 hQ => ?_)
 simp (disch := omega) only [EL, ↓K3, ↓K1, reduceIte, Nat.reduceEqDiff, Nat.reduceAdd, Nat.reduceLeDiff, i0, g1]
 refine hQ _ ?_
 clear hQ Q1
 refine wc_no (by simp +decide only [EL, reduceIte]) ?_
 refine zAm ?_
 simp only [zAa]
 refine zAc (zAb fun Q1 hQ => ?_)
 simp (disch := omega) only [EL, ↓K3, ↓K1, reduceIte, Nat.reduceEqDiff, Nat.reduceAdd, Nat.reduceLeDiff, i0, g1, g2, gn, c0, c1, c2, c3, c4, c5, zAe]
 refine hQ _ ?_
 clear hQ Q1
 refine zAj ?_
 try simp only [zAg, zAf]
 refine zBc (id := h.next + 1) (by simp +decide only [EL, reduceIte]) AH.get_set (lst := [.int .i64 (op : Int), sv name, sv typ, .int .i64 n, .int .i64 (pos : Int), kv]) (by simp +decide only [EL, reduceIte, zAe]) ⟨rfl, m1.set (by omega) _⟩
theorem TreeR.node {h : AH} {F : Nat → Prop} {u : AV} {t : Tree} (x : TreeR h F u t) : ∃ ia kv cs, u = .ptr ia 0 ∧ ia < h.next ∧ F ia ∧ NodeC h ia t.op t.name t.typ t.n t.pos kv ∧ Arr h F kv cs ∧ TreesR h F cs t.kids := by
 cases t with
 | mk op name typ n pos kids => obtain ⟨id, kv, cs, h1, h2, h3, h4, h5, h6⟩ := x; exact ⟨id, kv, cs, h1, h3, h2, h4, h5, h6⟩
theorem Arr.move {h h' : AH} {F : Nat → Prop} {v : AV} {cs : List AV} (x : Arr h F v cs) : oMove (.c v) .leaf [] h' = .val v h' := by cases x <;> rfl
include H in
theorem nop_gp {F : Nat → Prop} {u : AV} {t : Tree} (x : TreeR h F u t) : GP tab 13 [.agg [u]] h fun v h1 => v = .int .i64 (t.op : Int) ∧ More h h1 := by
 obtain ⟨ia, kv, cs, rfl, hi, _, nc, ar, tr⟩ := x.node
 have le : ∀ h' : AH, oLen .sl (.c kv) .leaf [] h' = .val (.int .i64 (t.kids.length : Int)) h' := fun h' => by rw [ar.len, tr.len]
 refine GE.gp (ge_of H.t13 rfl ?_) (E := fun _ _ => False) fun _ _ hh => hh
 have i0 : zAh [.agg [.ptr ia 0]] = zAd [.agg [.ptr ia 0]] := rfl
 refine zAc (zAb fun Q1 hQ => ?_)
 simp (disch := omega) only [EL, ↓K3, ↓K1, reduceIte, Nat.reduceEqDiff, Nat.reduceAdd, Nat.reduceLeDiff, i0]
 refine hQ _ ?_
 clear hQ Q1
 have m1 : More h (h.add (.cells (zAd [.ptr ia 0]) 1 none false)) := More.add _ _
 have g1 : (h.add (.cells (zAd [.ptr ia 0]) 1 none false)).mem.get h.next = some (.cells (zAd [.ptr ia 0]) 1 none false) := by rw [AH.add_mem, T.get_put_self]
 generalize h.add (.cells (zAd [.ptr ia 0]) 1 none false) = h1 at *
 have nc1 := nc.keep (m1.keep ia hi)
 refine zAc (zAb fun Q1 hQ => ?_)
 simp (disch := omega) only [EL, ↓K3, ↓K1, reduceIte, Nat.reduceEqDiff, Nat.reduceAdd, Nat.reduceLeDiff, i0, g1, zAe]
 refine (zKt H nc1 (Nat.lt_of_lt_of_le hi m1.next) fun h' => ar.move).to fun v h2 q => ?_
 obtain ⟨rfl, m2⟩ := q
 have f1 : ∀ h' : AH, zCr 0 1 false (.c (dataV t.op t.name t.typ t.n t.pos kv)) .leaf [] h' = .val (.int .i64 (t.op : Int)) h' := fun _ => rfl
 simp (disch := omega) only [EL, ↓K3, ↓K1, reduceIte, Nat.reduceEqDiff, Nat.reduceAdd, Nat.reduceLeDiff, f1, le]
 refine hQ _ ?_
 refine zAj ?_
 simp (disch := omega) only [EL, ↓K3, ↓K1, reduceIte, Nat.reduceEqDiff, Nat.reduceAdd, Nat.reduceLeDiff]
 exact m1.trans m2
include H in
theorem zIx {F : Nat → Prop} {u : AV} {t : Tree} (x : TreeR h F u t) : GP tab 33 [.agg [u]] h fun v h1 => v = sv t.name ∧ More h h1 := by
 obtain ⟨ia, kv, cs, rfl, hi, _, nc, ar, tr⟩ := x.node
 have le : ∀ h' : AH, oLen .sl (.c kv) .leaf [] h' = .val (.int .i64 (t.kids.length : Int)) h' := fun h' => by rw [ar.len, tr.len]
 refine GE.gp (ge_of H.t33 rfl ?_) (E := fun _ _ => False) fun _ _ hh => hh
 have i0 : zAh [.agg [.ptr ia 0]] = zAd [.agg [.ptr ia 0]] := rfl
 refine zAc (zAb fun Q1 hQ => ?_)
 simp (disch := omega) only [EL, ↓K3, ↓K1, reduceIte, Nat.reduceEqDiff, Nat.reduceAdd, Nat.reduceLeDiff, i0]
 refine hQ _ ?_
 clear hQ Q1
 have m1 : More h (h.add (.cells (zAd [.ptr ia 0]) 1 none false)) := More.add _ _
 have g1 : (h.add (.cells (zAd [.ptr ia 0]) 1 none false)).mem.get h.next = some (.cells (zAd [.ptr ia 0]) 1 none false) := by rw [AH.add_mem, T.get_put_self]
 generalize h.add (.cells (zAd [.ptr ia 0]) 1 none false) = h1 at *
 have nc1 := nc.keep (m1.keep ia hi)
 refine zAc (zAb fun Q1 hQ => ?_)
 simp (disch := omega) only [EL, ↓K3, ↓K1, reduceIte, Nat.reduceEqDiff, Nat.reduceAdd, Nat.reduceLeDiff, i0, g1, zAe]
 refine (zKt H nc1 (Nat.lt_of_lt_of_le hi m1.next) fun h' => ar.move).to fun v h2 q => ?_
 obtain ⟨rfl, m2⟩ := q
 have f1 : ∀ h' : AH, zCr 1 1 false (.c (dataV t.op t.name t.typ t.n t.pos kv)) .leaf [] h' = .val (sv t.name) h' := fun _ => rfl
 simp (disch := omega) only [EL, ↓K3, ↓K1, reduceIte, Nat.reduceEqDiff, Nat.reduceAdd, Nat.reduceLeDiff, f1, le]
 refine hQ _ ?_
 refine zAj ?_
 simp (disch := omega) only [EL, ↓K3, ↓K1, reduceIte, Nat.reduceEqDiff, Nat.reduceAdd, Nat.reduceLeDiff]
 exact m1.trans m2
include H in
theorem ntyp_gp {F : Nat → Prop} {u : AV} {t : Tree} (x : TreeR h F u t) : GP tab 34 [.agg [u]] h fun v h1 => v = sv t.typ ∧ More h h1 := by
 obtain ⟨ia, kv, cs, rfl, hi, _, nc, ar, tr⟩ := x.node
 have le : ∀ h' : AH, oLen .sl (.c kv) .leaf [] h' = .val (.int .i64 (t.kids.length : Int)) h' := fun h' => by rw [ar.len, tr.len]
 refine GE.gp (ge_of H.t34 rfl ?_) (E := fun _ _ => False) fun _ _ hh => hh
 have i0 : zAh [.agg [.ptr ia 0]] = zAd [.agg [.ptr ia 0]] := rfl
 refine zAc (zAb fun Q1 hQ => ?_)
 simp (disch := omega) only [EL, ↓K3, ↓K1, reduceIte, Nat.reduceEqDiff, Nat.reduceAdd, Nat.reduceLeDiff, i0]
 refine hQ _ ?_
 clear hQ Q1
 have m1 : More h (h.add (.cells (zAd [.ptr ia 0]) 1 none false)) := More.add _ _
 have g1 : (h.add (.cells (zAd [.ptr ia 0]) 1 none false)).mem.get h.next = some (.cells (zAd [.ptr ia 0]) 1 none false) := by rw [AH.add_mem, T.get_put_self]
 generalize h.add (.cells (zAd [.ptr ia 0]) 1 none false) = h1 at *
 have nc1 := nc.keep (m1.keep ia hi)
 refine zAc (zAb fun Q1 hQ => ?_)
 simp (disch := omega) only [EL, ↓K3, ↓K1, reduceIte, Nat.reduceEqDiff, Nat.reduceAdd, Nat.reduceLeDiff, i0, g1, zAe]
 refine (zKt H nc1 (Nat.lt_of_lt_of_le hi m1.next) fun h' => ar.move).to fun v h2 q => ?_
 obtain ⟨rfl, m2⟩ := q
 have f1 : ∀ h' : AH, zCr 2 1 false (.c (dataV t.op t.name t.typ t.n t.pos kv)) .leaf [] h' = .val (sv t.typ) h' := fun _ => rfl
 simp (disch := omega) only [EL, ↓K3, ↓K1, reduceIte, Nat.reduceEqDiff, Nat.reduceAdd, Nat.reduceLeDiff, f1, le]
 refine hQ _ ?_
 refine zAj ?_
 simp (disch := omega) only [EL, ↓K3, ↓K1, reduceIte, Nat.reduceEqDiff, Nat.reduceAdd, Nat.reduceLeDiff]
 exact m1.trans m2
include H in
theorem nn_gp {F : Nat → Prop} {u : AV} {t : Tree} (x : TreeR h F u t) : GP tab 23 [.agg [u]] h fun v h1 => v = .int .i64 t.n ∧ More h h1 := by
 obtain ⟨ia, kv, cs, rfl, hi, _, nc, ar, tr⟩ := x.node
 have le : ∀ h' : AH, oLen .sl (.c kv) .leaf [] h' = .val (.int .i64 (t.kids.length : Int)) h' := fun h' => by rw [ar.len, tr.len]
 refine GE.gp (ge_of H.t23 rfl ?_) (E := fun _ _ => False) fun _ _ hh => hh
 have i0 : zAh [.agg [.ptr ia 0]] = zAd [.agg [.ptr ia 0]] := rfl
 refine zAc (zAb fun Q1 hQ => ?_)
 simp (disch := omega) only [EL, ↓K3, ↓K1, reduceIte, Nat.reduceEqDiff, Nat.reduceAdd, Nat.reduceLeDiff, i0]
 refine hQ _ ?_
 clear hQ Q1
 have m1 : More h (h.add (.cells (zAd [.ptr ia 0]) 1 none false)) := More.add _ _
 have g1 : (h.add (.cells (zAd [.ptr ia 0]) 1 none false)).mem.get h.next = some (.cells (zAd [.ptr ia 0]) 1 none false) := by rw [AH.add_mem, T.get_put_self]
 generalize h.add (.cells (zAd [.ptr ia 0]) 1 none false) = h1 at *
 have nc1 := nc.keep (m1.keep ia hi)
 refine zAc (zAb fun Q1 hQ => ?_)
 simp (disch := omega) only [EL, ↓K3, ↓K1, reduceIte, Nat.reduceEqDiff, Nat.reduceAdd, Nat.reduceLeDiff, i0, g1, zAe]
 refine (zKt H nc1 (Nat.lt_of_lt_of_le hi m1.next) fun h' => ar.move).to fun v h2 q => ?_
 obtain ⟨rfl, m2⟩ := q
 have f1 : ∀ h' : AH, zCr 3 1 false (.c (dataV t.op t.name t.typ t.n t.pos kv)) .leaf [] h' = .val (.int .i64 t.n) h' := fun _ => rfl
 simp (disch := omega) only [EL, ↓K3, ↓K1, reduceIte, Nat.reduceEqDiff, Nat.reduceAdd, Nat.reduceLeDiff, f1, le]
 refine hQ _ ?_
 refine zAj ?_
 simp (disch := omega) only [EL, ↓K3, ↓K1, reduceIte, Nat.reduceEqDiff, Nat.reduceAdd, Nat.reduceLeDiff]
 exact m1.trans m2
include H in
theorem npos_gp {F : Nat → Prop} {u : AV} {t : Tree} (x : TreeR h F u t) : GP tab 24 [.agg [u]] h fun v h1 => v = .int .i64 (t.pos : Int) ∧ More h h1 := by
 obtain ⟨ia, kv, cs, rfl, hi, _, nc, ar, tr⟩ := x.node
 have le : ∀ h' : AH, oLen .sl (.c kv) .leaf [] h' = .val (.int .i64 (t.kids.length : Int)) h' := fun h' => by rw [ar.len, tr.len]
 refine GE.gp (ge_of H.t24 rfl ?_) (E := fun _ _ => False) fun _ _ hh => hh
 have i0 : zAh [.agg [.ptr ia 0]] = zAd [.agg [.ptr ia 0]] := rfl
 refine zAc (zAb fun Q1 hQ => ?_)
 simp (disch := omega) only [EL, ↓K3, ↓K1, reduceIte, Nat.reduceEqDiff, Nat.reduceAdd, Nat.reduceLeDiff, i0]
 refine hQ _ ?_
 clear hQ Q1
 have m1 : More h (h.add (.cells (zAd [.ptr ia 0]) 1 none false)) := More.add _ _
 have g1 : (h.add (.cells (zAd [.ptr ia 0]) 1 none false)).mem.get h.next = some (.cells (zAd [.ptr ia 0]) 1 none false) := by rw [AH.add_mem, T.get_put_self]
 generalize h.add (.cells (zAd [.ptr ia 0]) 1 none false) = h1 at *
 have nc1 := nc.keep (m1.keep ia hi)
 refine zAc (zAb fun Q1 hQ => ?_)
 simp (disch := omega) only [EL, ↓K3, ↓K1, reduceIte, Nat.reduceEqDiff, Nat.reduceAdd, Nat.reduceLeDiff, i0, g1, zAe]
 refine (zKt H nc1 (Nat.lt_of_lt_of_le hi m1.next) fun h' => ar.move).to fun v h2 q => ?_
 obtain ⟨rfl, m2⟩ := q
 have f1 : ∀ h' : AH, zCr 4 1 false (.c (dataV t.op t.name t.typ t.n t.pos kv)) .leaf [] h' = .val (.int .i64 (t.pos : Int)) h' := fun _ => rfl
 simp (disch := omega) only [EL, ↓K3, ↓K1, reduceIte, Nat.reduceEqDiff, Nat.reduceAdd, Nat.reduceLeDiff, f1, le]
 refine hQ _ ?_
 refine zAj ?_
 simp (disch := omega) only [EL, ↓K3, ↓K1, reduceIte, Nat.reduceEqDiff, Nat.reduceAdd, Nat.reduceLeDiff]
 exact m1.trans m2
include H in
theorem zC6 {F : Nat → Prop} {u : AV} {t : Tree} (x : TreeR h F u t) : GP tab 14 [.agg [u]] h fun v h1 => v = .int .i64 (t.kids.length : Int) ∧ More h h1 := by
 obtain ⟨ia, kv, cs, rfl, hi, _, nc, ar, tr⟩ := x.node
 have le : ∀ h' : AH, oLen .sl (.c kv) .leaf [] h' = .val (.int .i64 (t.kids.length : Int)) h' := fun h' => by rw [ar.len, tr.len]
 refine GE.gp (ge_of H.t14 rfl ?_) (E := fun _ _ => False) fun _ _ hh => hh
 have i0 : zAh [.agg [.ptr ia 0]] = zAd [.agg [.ptr ia 0]] := rfl
 refine zAc (zAb fun Q1 hQ => ?_)
 simp (disch := omega) only [EL, ↓K3, ↓K1, reduceIte, Nat.reduceEqDiff, Nat.reduceAdd, Nat.reduceLeDiff, i0]
 refine hQ _ ?_
 clear hQ Q1
 have m1 : More h (h.add (.cells (zAd [.ptr ia 0]) 1 none false)) := More.add _ _
 have g1 : (h.add (.cells (zAd [.ptr ia 0]) 1 none false)).mem.get h.next = some (.cells (zAd [.ptr ia 0]) 1 none false) := by rw [AH.add_mem, T.get_put_self]
 generalize h.add (.cells (zAd [.ptr ia 0]) 1 none false) = h1 at *
 have nc1 := nc.keep (m1.keep ia hi)
 refine zAc (zAb fun Q1 hQ => ?_)
 simp (disch := omega) only [EL, ↓K3, ↓K1, reduceIte, Nat.reduceEqDiff, Nat.reduceAdd, Nat.reduceLeDiff, i0, g1, zAe]
 refine (zKt H nc1 (Nat.lt_of_lt_of_le hi m1.next) fun h' => ar.move).to fun v h2 q => ?_
 obtain ⟨rfl, m2⟩ := q
 have f1 : ∀ h' : AH, zCr 5 1 false (.c (dataV t.op t.name t.typ t.n t.pos kv)) .leaf [] h' = .val (kv) h' := fun _ => (by cases ar with | nils => rfl | sl => rfl)
 simp (disch := omega) only [EL, ↓K3, ↓K1, reduceIte, Nat.reduceEqDiff, Nat.reduceAdd, Nat.reduceLeDiff, f1, le]
 refine hQ _ ?_
 refine zAj ?_
 simp (disch := omega) only [EL, ↓K3, ↓K1, reduceIte, Nat.reduceEqDiff, Nat.reduceAdd, Nat.reduceLeDiff]
 exact m1.trans m2
include H in
theorem nkid_gp {F : Nat → Prop} {u : AV} {t : Tree} (x : TreeR h F u t) (k : Int) : GP tab 20 [.agg [u], .int .i64 k] h fun v h1 => More h h1 ∧ ((∃ (j : Nat) (hj : j < t.kids.length) (w : AV), k = (j : Int) ∧ v = .agg [w] ∧ TreeR h F w t.kids[j]) ∨ ((k < 0 ∨ (t.kids.length : Int) ≤ k) ∧ v = .agg [.nilp])) := by
 obtain ⟨ia, kv, cs, rfl, hi, _, nc, ar, tr⟩ := x.node
 refine GE.gp (ge_of H.t20 rfl ?_) (E := fun _ _ => False) fun _ _ hh => hh
 have i0 : zAh [.agg [.ptr ia 0], .int .i64 k] = zAd [.agg [.ptr ia 0], .int .i64 k] := rfl
 refine zEd (l := [.ptr ia 0]) rfl fun h1 n1 g1 g2 m1 => ?_
 have x1 : TreeR h1 F (.ptr ia 0) t := TreeR.keep m1.stay (fun _ h _ => h) x
 have e0 : ((0 : Nat) : Int) = 0 := rfl
 refine zAc ?_
 refine zAc (zAb fun Q1 hQ => ?_)
 by_cases hk : k < 0
 ·have hk' : k < ((0 : Nat) : Int) := hk
  simp (disch := omega) only [EL, ↓K3, ↓K1, reduceIte, Nat.reduceEqDiff, Nat.reduceAdd, Nat.reduceLeDiff, i0, hk']
  refine hQ _ ?_
  clear hQ Q1
  simp only [zAa]
  refine zAt (by simp +decide only [EL, reduceIte]) ?_
  refine zAc (zAb fun Q1 hQ => ?_)
  simp (disch := omega) only [EL, ↓K3, ↓K1, reduceIte, Nat.reduceEqDiff, Nat.reduceAdd, Nat.reduceLeDiff, i0, g2]
  refine hQ _ ?_
  clear hQ Q1
  refine zAj ?_
  try simp only [zAg, zAf]
  exact zBc (id := h.next + 1) (by simp +decide only [EL, reduceIte]) AH.get_set (lst := [.nilp]) (by simp +decide only [EL, reduceIte, zAe]) ⟨m1.set (by omega) _, .inr ⟨.inl hk, rfl⟩⟩
 ·have hk' : ¬ k < ((0 : Nat) : Int) := hk
  simp (disch := omega) only [EL, ↓K3, ↓K1, reduceIte, Nat.reduceEqDiff, Nat.reduceAdd, Nat.reduceLeDiff, i0, hk', g1, zAe]
  refine (zC6 H x1).to fun v h2 q => ?_
  obtain ⟨rfl, m2⟩ := q
  simp (disch := omega) only [EL, ↓K3, ↓K1, reduceIte, Nat.reduceEqDiff, Nat.reduceAdd, Nat.reduceLeDiff]
  refine hQ _ ?_
  clear hQ Q1
  simp only [zAa]
  have g12 := (m2.keep h.next (by omega)).trans g1
  have g22 := (m2.keep (h.next + 1) (by omega)).trans g2
  by_cases hj : (t.kids.length : Int) ≤ k
  ·refine zAt (by simp +decide only [EL, reduceIte, hj]) ?_
   refine zAc (zAb fun Q1 hQ => ?_)
   simp (disch := omega) only [EL, ↓K3, ↓K1, reduceIte, Nat.reduceEqDiff, Nat.reduceAdd, Nat.reduceLeDiff, i0, g22]
   refine hQ _ ?_
   clear hQ Q1
   refine zAj ?_
   try simp only [zAg, zAf]
   have n2 := m2.next
   exact zBc (id := h.next + 1) (by simp +decide only [EL, reduceIte]) AH.get_set (lst := [.nilp]) (by simp +decide only [EL, reduceIte, zAe]) ⟨(m1.trans m2).set (by omega) _, .inr ⟨.inr hj, rfl⟩⟩
  ·refine wc_no (by simp +decide only [EL, reduceIte, hj]) ?_
   refine zAm ?_
   simp only [zAa]
   obtain ⟨j, rfl⟩ := Int.eq_ofNat_of_zero_le (show 0 ≤ k by omega)
   have hj' : j < t.kids.length := by omega
   obtain ⟨w, hw, tw⟩ := tr.get j hj'
   have hjc : j < cs.length := by rw [tr.len]; exact hj'
   obtain ⟨ka, ks, kc, kcap, rfl, hkF, hkl, hkg, hkj⟩ := ar.open hjc
   rw [hw] at hkj
   have mm := m1.trans m2
   obtain ⟨c, gn, c0, c1, c2, c3, c4, c5, _⟩ := (nc.keep (mm.keep ia hi)).set
   have kg2 := (mm.keep ka hkl).trans hkg
   obtain ⟨wi, rfl, _⟩ := tw.ptr
   have hjc2 : j < cs.length := hjc
   refine zAc (zAb fun Q1 hQ => ?_)
   simp (disch := omega) only [EL, ↓K3, ↓K1, reduceIte, Nat.reduceEqDiff, Nat.reduceAdd, Nat.reduceLeDiff, i0, g12, g22, gn, c5, kg2, hkj, zAe, Nat.mul_one]
   refine hQ _ ?_
   clear hQ Q1
   refine zAj ?_
   try simp only [zAg, zAf]
   exact zBc (id := h.next + 1) (by simp +decide only [EL, reduceIte]) AH.get_set (lst := [.ptr wi 0]) (by simp +decide only [EL, reduceIte, zAe]) ⟨mm.set (by omega) _, .inl ⟨j, hj', _, rfl, rfl, tw⟩⟩
end
end Go.Ev
namespace Go.Pa
theorem PR.bind_eq {α β : Type} {x : PR α} {k : α → Nat → Nat → PR β} {b : β} {i d : Nat} (h : x.bind k = .ok b i d) : ∃ a i' d', x = .ok a i' d' ∧ k a i' d' = .ok b i d := by
 cases x with
 | ok a i' d' => exact ⟨a, i', d', rfl, h⟩
 | err p e => cases h
 | out => cases h
section
variable {ts : List Tok} {en : Nat}
structure ClE (ts : List Tok) (en : Nat) (Pr : Tree → Prop) : Prop where
 num : ∀ i, (now ts en i).kind = 3 → Pr (.mk 15 [] [] (numVal (now ts en i).text) (now ts en i).pos [])
 var : ∀ i, (now ts en i).kind = 1 → Pr (.mk 18 (now ts en i).text [] 0 (now ts en i).pos [])
 tru : ∀ i, Pr (.mk 16 [] [] 1 (now ts en i).pos [])
 fal : ∀ i, Pr (.mk 16 [] [] 0 (now ts en i).pos [])
 nil : ∀ i, Pr (.mk 17 [] [] 0 (now ts en i).pos [])
 inp : ∀ i, Pr (.mk 22 [] [] 0 (now ts en i).pos [])
 new : ∀ i, (now ts en i).kind = 1 → Pr (.mk 19 (now ts en i).text [] 0 (now ts en i).pos [])
 un : ∀ i k, (now ts en i).text = [45] ∨ (now ts en i).text = [33] → Pr k → Pr (.mk 23 [] [] (if (now ts en i).text = [45] then 17 else 18) (now ts en i).pos [k])
 bin : ∀ i l r, (zB6 ts en i).1 ≠ 0 → Pr l → Pr r → Pr (.mk (binNode (zB6 ts en i).1) [] [] (zB6 ts en i).2 (now ts en i).pos [l, r])
 field : ∀ i x, (now ts en i).kind = 1 → Pr x → Pr (.mk 20 (now ts en i).text [] 0 (now ts en i).pos [x])
 call : ∀ i ks, (now ts en i).kind = 1 → (∀ k ∈ ks, Pr k) → Pr (.mk 21 (now ts en i).text [] 0 (now ts en i).pos ks)
theorem zGw {s : Str} {i d p i' d' : Nat} (h : zBb ts en s i d = .ok p i' d') : isT ts en s i = true ∧ p = (now ts en i).pos ∧ i' = i + 1 ∧ d' = d := by
 unfold zBb at h
 split at h
 ·injection h with a b c; exact ⟨by assumption, a.symm, b.symm, c.symm⟩
 ·cases h
theorem zK7 {i d i' d' : Nat} {t : Tok} (h : wordS ts en i d = .ok t i' d') : t = now ts en i ∧ (now ts en i).kind = 1 ∧ i' = i + 1 ∧ d' = d := by
 unfold wordS at h
 split at h
 ·injection h with a b c; exact ⟨a.symm, by assumption, b.symm, c.symm⟩
 ·cases h
theorem zCy {α : Type} {i d i' d' : Nat} {a : α} {k : Nat → Nat → PR α} (h : zCh ts en i d k = .ok a i' d') : d + 1 ≤ 40 ∧ ∃ d2, k i (d + 1) = .ok a i' d2 ∧ d' = d2 - 1 := by
 unfold zCh at h
 split at h
 ·cases h
 ·obtain ⟨b, i2, d2, h1, h2⟩ := PR.bind_eq h
  injection h2 with e1 e2 e3
  subst e1; subst e2; subst e3
  exact ⟨by omega, d2, h1, rfl⟩
theorem isT_sign {s : Str} {i : Nat} (h : isT ts en s i = true) : (now ts en i).text = s := by
 unfold isT at h; simp at h; exact h.1
structure PrE (ts : List Tok) (en : Nat) (Pr : Tree → Prop) (n : Nat) : Prop where
 expr : ∀ {least i d t i' d'}, exprS ts en n least i d = .ok t i' d' → Pr t
 exprl : ∀ {least i d l t i' d'}, exprL ts en n least i d l = .ok t i' d' → Pr l → Pr t
 unary : ∀ {i d t i' d'}, zB1 ts en n i d = .ok t i' d' → Pr t
 post : ∀ {i d t i' d'}, postS ts en n i d = .ok t i' d' → Pr t
 postl : ∀ {i d x t i' d'}, postL ts en n i d x = .ok t i' d' → Pr x → Pr t
 prim : ∀ {i d t i' d'}, primS ts en n i d = .ok t i' d' → Pr t
 call : ∀ {j i d t i' d'}, (now ts en j).kind = 1 → callS ts en n (now ts en j) i d = .ok t i' d' → Pr t
 args : ∀ {i d acc ks i' d'}, argsL ts en n i d acc = .ok ks i' d' → (∀ k ∈ acc, Pr k) → ∀ k ∈ ks, Pr k
 brack : ∀ {i d t i' d'}, zA9 ts en n i d = .ok t i' d' → Pr t
theorem keyS_pred {Pr : Tree → Prop} (C : ClE ts en Pr) {i d i' d' : Nat} {t : Tree} (h : keyS ts en i d = .ok t i' d') : Pr t := by
 unfold keyS at h
 simp only at h
 split at h
 ·injection h with a; subst a; exact C.tru _
 split at h
 ·injection h with a; subst a; exact C.fal _
 split at h
 ·obtain ⟨_, _, _, h1, h⟩ := PR.bind_eq h
  obtain ⟨w, _, _, h2, h⟩ := PR.bind_eq h
  obtain ⟨_, _, _, h3, h⟩ := PR.bind_eq h
  injection h with a; subst a
  obtain ⟨e1, e2, _⟩ := zK7 h2
  subst e1; exact C.new _ e2
 split at h
 ·obtain ⟨_, _, _, h1, h⟩ := PR.bind_eq h
  obtain ⟨_, _, _, h3, h⟩ := PR.bind_eq h
  injection h with a; subst a; exact C.inp _
 ·injection h with a; subst a; exact C.nil _
theorem ex_pred {Pr : Tree → Prop} (C : ClE ts en Pr) : ∀ n, PrE ts en Pr n := by
 intro n
 induction n with
 | zero => constructor <;> intros <;> simp_all [exprS, exprL, zB1, postS, postL, primS, callS, argsL, zA9]
 | succ n IH =>
  constructor
  ·intro least i d t i' d' h
   unfold exprS at h
   obtain ⟨l, i1, d1, h1, h⟩ := PR.bind_eq h
   exact IH.exprl h (IH.unary h1)
  ·intro least i d l t i' d' h hl
   unfold exprL at h
   split at h
   ·injection h with a; subst a; exact hl
   ·rename_i hs
    obtain ⟨r, i1, d1, h1, h⟩ := PR.bind_eq h
    exact IH.exprl h (C.bin i l r (fun e => hs (.inl e)) hl (IH.expr h1))
  ·intro i d t i' d' h
   unfold zB1 at h
   split at h
   ·rename_i hs
    obtain ⟨_, d2, h, _⟩ := zCy h
    obtain ⟨k, i1, d1, h1, h⟩ := PR.bind_eq h
    injection h with a; subst a
    refine C.un i k ?_ (IH.unary h1)
    rcases Bool.or_eq_true_iff.mp hs with e | e
    ·exact .inl (isT_sign e)
    ·exact .inr (isT_sign e)
   ·exact IH.post h
  ·intro i d t i' d' h
   unfold postS at h
   obtain ⟨x, i1, d1, h1, h⟩ := PR.bind_eq h
   exact IH.postl h (IH.prim h1)
  ·intro i d x t i' d' h hx
   unfold postL at h
   split at h
   ·obtain ⟨w, i1, d1, h1, h⟩ := PR.bind_eq h
    obtain ⟨e1, e2, _⟩ := zK7 h1
    subst e1
    exact IH.postl h (C.field _ x e2 hx)
   ·injection h with a; subst a; exact hx
  ·intro i d t i' d' h
   unfold primS at h
   split at h
   ·injection h with a; subst a; exact C.num i (by assumption)
   split at h
   ·split at h
    ·exact IH.call (by assumption) h
    ·injection h with a; subst a; exact C.var i (by assumption)
   split at h
   ·exact IH.brack h
   split at h
   ·exact keyS_pred C h
   ·cases h
  ·intro j i d t i' d' hk h
   unfold callS at h
   obtain ⟨_, d2, h, _⟩ := zCy h
   obtain ⟨ks, i1, d1, h1, h⟩ := PR.bind_eq h
   injection h with a; subst a
   exact C.call j ks hk (IH.args h1 (by simp))
  ·intro i d acc ks i' d' h ha
   unfold argsL at h
   split at h
   ·injection h with a; subst a; exact ha
   ·obtain ⟨p, i1, d1, h1, h⟩ := PR.bind_eq h
    have hp := IH.expr h1
    have ha' : ∀ k ∈ acc ++ [p], Pr k := by
     intro k hk
     rcases List.mem_append.mp hk with e | e
     ·exact ha k e
     ·simp at e; subst e; exact hp
    split at h
    ·exact IH.args h ha'
    ·obtain ⟨_, i2, d2, h2, h⟩ := PR.bind_eq h
     split at h
     ·cases h
     ·exact IH.args h ha'
  ·intro i d t i' d' h
   unfold zA9 at h
   split at h
   ·obtain ⟨_, d2, h, _⟩ := zCy h
    obtain ⟨e, i1, d1, h1, h⟩ := PR.bind_eq h
    obtain ⟨_, i2, d3, h2, h⟩ := PR.bind_eq h
    injection h with a; subst a
    exact IH.expr h1
   ·cases h
theorem field_kid {n i d i' d' : Nat} {t : Tree} (h : postS ts en n i d = .ok t i' d') : t.op = 20 → ∃ k r, t.kids = k :: r := by
 refine (ex_pred (Pr := fun t => t.op = 20 → ∃ k r, t.kids = k :: r) ⟨?_, ?_, ?_, ?_, ?_, ?_, ?_, ?_, ?_, ?_, ?_⟩ n).post h
 all_goals (intros; simp_all [Tree.op, Tree.kids])
end
end Go.Pa
