/- PaW11 PaW12 PaF PaQ PaE PaC LxS LxJ LxB PaW13 -/
import Derived.Test.YtlolcfdllehpgaaGreatDoorPaH
set_option linter.unusedSimpArgs false
set_option linter.unusedVariables false
set_option linter.unusedSectionVars false
set_option linter.defProp false
set_option maxRecDepth 100000
set_option maxHeartbeats 4000000
namespace Go.Ev
open Go Go.Pa
theorem numVal_eq {s : Str} (h : (numP s).2 = 0) : (numP s).1 = numVal s := by
 unfold numP at h ⊢
 unfold numVal
 split at h
 ·cases h
 ·rename_i hn
  rw [if_neg hn]
  cases e : Lib.atoiAll s with
  | ok v => rfl
  | range => simp [e] at h
  | _ => simp [e] at h
section
variable {tab : Nat → Option AFunc} {h : AH} (H : PT tab) {ts : List Tok} {en r i d : Nat}
include H in
theorem key_ge (R : RS ts en h r i d) (hi : i < ts.length) : GS tab 192 [.ptr r 0] ts en r i d h (keyS ts en i d) fun t v h1 => okT t h.next v h1 := by
 intro y hy hne
 have i0 : zAg [.ptr r 0] = zAc [.ptr r 0] := rfl
 have hr := R.lt
 refine ge_of H.t192 rfl ?_
 refine zBi fun h1 n1 g1 m1 => ?_
 have R1 := R.more m1
 refine zAd (zAb fun Q1 hQ => ?_)
 simp (disch := omega) only [EL, ↓K3, ↓K1, reduceIte, Nat.reduceEqDiff, Nat.reduceAdd, Nat.reduceLeDiff, i0]
 refine (zCg H R1 hi).to fun v h2 q => ?_
 obtain ⟨rfl, R2, b2⟩ := q
 have nb2 := b2.next
 have c2 := (m1.but r).trans b2
 have rc2 := (b2.keep h.next (by omega) (by omega)).trans g1
 simp (disch := omega) only [EL, ↓K3, ↓K1, reduceIte, Nat.reduceEqDiff, Nat.reduceAdd, Nat.reduceLeDiff, i0]
 refine hQ _ ?_
 clear hQ Q1
 refine zC8 fun h3 n3 g3 m3 => ?_
 obtain ⟨ct, gt, k0, k1, k2⟩ := g3
 simp only [zAa]
 have R3 := R2.more m3
 have rc3 := (m3.keep h.next (by omega)).trans rc2
 refine zAd (zAb fun Q1 hQ => ?_)
 simp (disch := omega) only [EL, ↓K3, ↓K1, reduceIte, Nat.reduceEqDiff, Nat.reduceAdd, Nat.reduceLeDiff, i0, gt, k2]
 refine (zDd H (op := 17) (pos := (now ts en i).pos) (fun _ => rfl) rfl).to fun v h4 q => ?_
 obtain ⟨ia, rfl, i1, i2, nc, m4⟩ := q
 simp (disch := omega) only [EL, ↓K3, ↓K1, reduceIte, Nat.reduceEqDiff, Nat.reduceAdd, Nat.reduceLeDiff, i0]
 refine hQ _ ?_
 clear hQ Q1
 refine zBs fun h5 n5 g5 m5 => ?_
 obtain ⟨cb, gb, cb0⟩ := g5
 simp only [zAa]
 have m45 := m4.trans m5
 have n4 := m4.next
 have R5 := R3.more m45
 have b5 : MoreBut r h h5 := c2.trans ((m3.trans m45).but r)
 have nc5 := nc.keep (m5.keep ia i2)
 have rc5 := (m45.keep h.next (by omega)).trans rc3
 have gt5 := (m45.keep h2.next (by omega)).trans gt
 have fin : ∀ (l : T AV) (h6 : AH) (op : Nat) (n : Int) (nm : Str) (pos i' ib : Nat), l.get 4 = some (.ptr h4.next 0) → l.get 8 = some (.ptr h.next 0) → (∃ c, h6.mem.get h4.next = some (.cells c 1 none false) ∧ c.get 0 = some (.ptr ib 0)) →
   h6.mem.get h.next = some (.cells (zAc [.nilp]) (llen [.nilp]) none false) → NodeC h6 ib op nm [] n pos .nils → h.next < ib → ib < h6.next → RS ts en h6 r i' d → MoreBut r h h6 → i < i' → y = .ok (.mk op nm [] n pos []) i' d →
   WC tab (.seq (.ops [⟨.loadN 1 (.l 4), none, none, []⟩, ⟨.store 1 (.l 8) (.t 0), none, none, []⟩]) .ret) l [] h6 (zDv [.cellN 1 (.l 8)] (okP y ts en r i d h fun t v h1 => okT t h.next v h1) (erP y r h)) := by
  intro l h6 op n nm pos i' ib l4 l8 ⟨c, gc, gc0⟩ rc6 nc6 hib hib2 R6 b6 hlt hy'
  refine zCu (b := h4.next) (rc := h.next) l4 gc gc0 l8 rc6 (by rw [zAk]; rfl) fun h7 o7 => ?_
  refine ⟨_, _, hy', hlt, o7.rs R6 (by omega), o7.mb b6 (Nat.le_refl _), _, rfl, ?_⟩
  exact Kids.tree (lo := h.next) (X := []) Kids.nils (nc6.keep (o7.keep _ (by omega))) (by show h.next ≤ ib; omega) (by rw [o7.next]; omega) fun k hk => hk
 obtain ⟨c, gn, c0, c1, c2', c3, c4, c5, ncT, _, ncN, ncO⟩ := nc5.set
 refine zAd ?_
 refine zAd ?_
 refine zAb fun Q1 hQ => ?_
 simp (disch := omega) only [EL, ↓K3, ↓K1, reduceIte, Nat.reduceEqDiff, Nat.reduceAdd, Nat.reduceLeDiff, gt5, k1]
 refine hQ _ ?_
 clear hQ Q1
 simp only [zAa]
 refine zAu ?_
 refine zAd ?_
 unfold keyS at hy
 simp only at hy
 by_cases t1 : (now ts en i).text = [116, 114, 117, 101]
 ·rw [if_pos t1] at hy
  refine zAd ?_
  refine zAb fun Q1 hQ => ?_
  simp (disch := omega) only [EL, ↓K3, ↓K1, reduceIte, Nat.reduceEqDiff, Nat.reduceAdd, Nat.reduceLeDiff, t1]
  refine hQ _ ?_
  clear hQ Q1
  simp only [zAa]
  refine zAq (by simp +decide only [EL, reduceIte]) ?_
  refine zAl ?_
  simp only [zAa]
  refine zAq (by simp +decide only [EL, reduceIte]) ?_
  refine zAd (zAb fun Q1 hQ => ?_)
  simp (disch := omega) only [EL, ↓K3, ↓K1, reduceIte, Nat.reduceEqDiff, Nat.reduceAdd, Nat.reduceLeDiff, gb, cb0, gn, c0]
  refine hQ _ ?_
  clear hQ Q1
  have nc6 := ncO 16
  have o6 : Only ia h5 (h5.set ia (.cells (T.put (some (.int .i64 ((16 : Nat) : Int))) c 0) 6 none false)) := Only.set
  generalize (h5.set ia (.cells (T.put (some (.int .i64 ((16 : Nat) : Int))) c 0) 6 none false)) = h6 at *
  have n6 := o6.next
  have gb6 := (o6.keep h4.next (by omega)).trans gb
  have gt6 := (o6.keep h2.next (by omega)).trans gt5
  obtain ⟨d', gn', d0, d1, d2, d3, d4, d5, _, _, ncN', _⟩ := nc6.set
  refine zAd (zAb fun Q1 hQ => ?_)
  simp (disch := omega) only [EL, ↓K3, ↓K1, reduceIte, Nat.reduceEqDiff, Nat.reduceAdd, Nat.reduceLeDiff, gt6, k1, t1]
  refine hQ _ ?_
  clear hQ Q1
  refine zAq (by simp +decide only [EL, reduceIte]) ?_
  refine zAb fun Q1 hQ => ?_
  simp (disch := omega) only [EL, ↓K3, ↓K1, reduceIte, Nat.reduceEqDiff, Nat.reduceAdd, Nat.reduceLeDiff, gb6, cb0, gn', d3]
  refine hQ _ ?_
  clear hQ Q1
  simp only [zAa, zAi]
  have nc7 := ncN' 1
  have o7 : Only ia h6 (h6.set ia (.cells (T.put (some (.int .i64 1)) d' 3) 6 none false)) := Only.set
  have e7 : ((1 : Nat) : Int) = 1 := rfl
  rw [e7]
  generalize (h6.set ia (.cells (T.put (some (.int .i64 1)) d' 3) 6 none false)) = h7 at *
  have n7 := o7.next
  refine fin _ h7 16 1 [] _ (i + 1) ia (by simp +decide only [EL, reduceIte]) (by simp +decide only [EL, reduceIte]) ⟨cb, (o7.keep _ (by omega)).trans gb6, cb0⟩ ((o7.keep _ (by omega)).trans ((o6.keep _ (by omega)).trans rc5)) nc7 (by omega) (by omega) (o7.rs (o6.rs R5 (by omega)) (by omega)) (o7.mb (o6.mb b5 (by omega)) (by omega)) (by omega) hy.symm
 ·rw [if_neg t1] at hy
  refine zAd ?_
  refine zAb fun Q1 hQ => ?_
  simp (disch := omega) only [EL, ↓K3, ↓K1, reduceIte, Nat.reduceEqDiff, Nat.reduceAdd, Nat.reduceLeDiff, t1]
  refine hQ _ ?_
  clear hQ Q1
  simp only [zAa]
  refine wc_no (by simp +decide only [EL, reduceIte]) ?_
  by_cases t2 : (now ts en i).text = [102, 97, 108, 115, 101]
  ·rw [if_pos t2] at hy
   refine zAb fun Q1 hQ => ?_
   simp (disch := omega) only [EL, ↓K3, ↓K1, reduceIte, Nat.reduceEqDiff, Nat.reduceAdd, Nat.reduceLeDiff, t2]
   refine hQ _ ?_
   clear hQ Q1
   simp only [zAa]
   refine zAq (by simp +decide only [EL, reduceIte]) ?_
   refine zAd (zAb fun Q1 hQ => ?_)
   simp (disch := omega) only [EL, ↓K3, ↓K1, reduceIte, Nat.reduceEqDiff, Nat.reduceAdd, Nat.reduceLeDiff, gb, cb0, gn, c0]
   refine hQ _ ?_
   clear hQ Q1
   have nc6 := ncO 16
   have o6 : Only ia h5 (h5.set ia (.cells (T.put (some (.int .i64 ((16 : Nat) : Int))) c 0) 6 none false)) := Only.set
   generalize (h5.set ia (.cells (T.put (some (.int .i64 ((16 : Nat) : Int))) c 0) 6 none false)) = h6 at *
   have n6 := o6.next
   have gb6 := (o6.keep h4.next (by omega)).trans gb
   have gt6 := (o6.keep h2.next (by omega)).trans gt5
   refine zAd (zAb fun Q1 hQ => ?_)
   simp (disch := omega) only [EL, ↓K3, ↓K1, reduceIte, Nat.reduceEqDiff, Nat.reduceAdd, Nat.reduceLeDiff, gt6, k1, t1]
   refine hQ _ ?_
   clear hQ Q1
   refine wc_no (by simp +decide only [EL, reduceIte]) ?_
   refine zAl ?_
   simp only [zAa, zAi]
   refine fin _ h6 16 0 [] _ (i + 1) ia (by simp +decide only [EL, reduceIte]) (by simp +decide only [EL, reduceIte]) ⟨cb, gb6, cb0⟩ ((o6.keep _ (by omega)).trans rc5) nc6 (by omega) (by omega) (o6.rs R5 (by omega)) (o6.mb b5 (by omega)) (by omega) hy.symm
  ·rw [if_neg t2] at hy
   refine zAb fun Q1 hQ => ?_
   simp (disch := omega) only [EL, ↓K3, ↓K1, reduceIte, Nat.reduceEqDiff, Nat.reduceAdd, Nat.reduceLeDiff, t2]
   refine hQ _ ?_
   clear hQ Q1
   simp only [zAa]
   refine wc_no (by simp +decide only [EL, reduceIte]) ?_
   by_cases t3 : (now ts en i).text = [110, 101, 119]
   ·rw [if_pos t3] at hy
    refine zAd (zAb fun Q1 hQ => ?_)
    simp (disch := omega) only [EL, ↓K3, ↓K1, reduceIte, Nat.reduceEqDiff, Nat.reduceAdd, Nat.reduceLeDiff, t3]
    refine hQ _ ?_
    clear hQ Q1
    refine zAq (by simp +decide only [EL, reduceIte]) ?_
    refine zAd (zAb fun Q1 hQ => ?_)
    simp (disch := omega) only [EL, ↓K3, ↓K1, reduceIte, Nat.reduceEqDiff, Nat.reduceAdd, Nat.reduceLeDiff, i0]
    refine (zBo H R5 _ _ rfl (zAz hy hne)).mono (fun v h6 q => ?_) (fun v h6 e => ?_)
    rotate_left
    ·obtain ⟨p, er, hx, rfl, fr'⟩ := e
     rw [hx] at hy
     exact hQ _ ⟨p, er, hy.symm, rfl, MoreBut.trans b5 fr'⟩
    obtain ⟨p6, i, hx, lib6, R6, b6, q⟩ := q
    rw [hx, zAt] at hy
    have nb6 := MoreBut.next b6
    simp (disch := omega) only [EL, ↓K3, ↓K1, reduceIte, Nat.reduceEqDiff, Nat.reduceAdd, Nat.reduceLeDiff, i0]
    refine hQ _ ?_
    clear hQ Q1
    simp only [zAa]
    have gb6 := (b6.keep h4.next (by omega) (by omega)).trans gb
    have rc6 := (b6.keep h.next (by omega) (by omega)).trans rc5
    refine zAd (zAb fun Q1 hQ => ?_)
    simp (disch := omega) only [EL, ↓K3, ↓K1, reduceIte, Nat.reduceEqDiff, Nat.reduceAdd, Nat.reduceLeDiff, i0]
    refine (zG4 H R6 _ rfl (zAz hy hne)).mono (fun v h7 q => ?_) (fun v h7 e => ?_)
    rotate_left
    ·obtain ⟨p, er, hx, rfl, fr'⟩ := e
     rw [hx] at hy
     exact hQ _ ⟨p, er, hy.symm, rfl, MoreBut.trans (b5.trans b6) fr'⟩
    obtain ⟨w, i, hx, lib7, R7, b7, q⟩ := q
    rw [hx, zAt] at hy
    have nb7 := MoreBut.next b7
    obtain ⟨rfl, tb⟩ := q
    have gb7 := (b7.keep h4.next (by omega) (by omega)).trans gb6
    have rc7 := (b7.keep h.next (by omega) (by omega)).trans rc6
    simp (disch := omega) only [EL, ↓K3, ↓K1, reduceIte, Nat.reduceEqDiff, Nat.reduceAdd, Nat.reduceLeDiff, i0]
    refine (zGe H (op := 19) (fun _ => rfl) rfl).to fun v h8 q => ?_
    obtain ⟨ib, rfl, j1, j2, nc8, m8⟩ := q
    have gb8 := (m8.keep h4.next (by omega)).trans gb7
    have rc8 := (m8.keep h.next (by omega)).trans rc7
    have n8 := m8.next
    simp (disch := omega) only [EL, ↓K3, ↓K1, reduceIte, Nat.reduceEqDiff, Nat.reduceAdd, Nat.reduceLeDiff, i0, gb8, cb0]
    refine hQ _ ?_
    clear hQ Q1
    simp only [zAa]
    have gb9 : ∃ c, (h8.set h4.next (.cells (T.put (some (.ptr ib 0)) cb 0) 1 none false)).mem.get h4.next = some (.cells c 1 none false) ∧ c.get 0 = some (.ptr ib 0) := ⟨_, AH.get_set, T.get_put_self _ _ _⟩
    have o9 : Only h4.next h8 (h8.set h4.next (.cells (T.put (some (.ptr ib 0)) cb 0) 1 none false)) := Only.set
    generalize (h8.set h4.next (.cells (T.put (some (.ptr ib 0)) cb 0) 1 none false)) = h9 at *
    have n9 := o9.next
    have nc9 := nc8.keep (o9.keep ib (by omega))
    have rc9 := (o9.keep h.next (by omega)).trans rc8
    have R9 := o9.rs (R7.more m8) (by omega)
    have b9 : MoreBut r h h9 := o9.mb (((b5.trans b6).trans b7).trans (m8.but r)) (by omega)
    refine zAb fun Q1 hQ => ?_
    simp (disch := omega) only [EL, ↓K3, ↓K1, reduceIte, Nat.reduceEqDiff, Nat.reduceAdd, Nat.reduceLeDiff, i0]
    refine (zBo H R9 _ _ rfl (zAz hy hne)).mono (fun v h10 q => ?_) (fun v h10 e => ?_)
    rotate_left
    ·obtain ⟨p, er, hx, rfl, fr'⟩ := e
     rw [hx] at hy
     exact hQ _ ⟨p, er, hy.symm, rfl, MoreBut.trans b9 fr'⟩
    obtain ⟨p10, i, hx, lib10, R10, b10, q⟩ := q
    rw [hx, zAt] at hy
    have nb10 := MoreBut.next b10
    simp (disch := omega) only [EL, ↓K3, ↓K1, reduceIte, Nat.reduceEqDiff, Nat.reduceAdd, Nat.reduceLeDiff, i0]
    refine hQ _ ?_
    clear hQ Q1
    simp only [zAa, zAi]
    obtain ⟨c9, gc9, gc90⟩ := gb9
    refine fin _ h10 19 0 w.text w.pos i ib (by simp +decide only [EL, reduceIte]) (by simp +decide only [EL, reduceIte]) ⟨c9, (b10.keep _ (by omega) (by omega)).trans gc9, gc90⟩ ((b10.keep _ (by omega) (by omega)).trans rc9) (nc9.keep (b10.keep _ (by omega) (by omega))) (by omega) (by omega) R10 (b9.trans b10) (by omega) hy.symm
   ·rw [if_neg t3] at hy
    refine zAd (zAb fun Q1 hQ => ?_)
    simp (disch := omega) only [EL, ↓K3, ↓K1, reduceIte, Nat.reduceEqDiff, Nat.reduceAdd, Nat.reduceLeDiff, t3]
    refine hQ _ ?_
    clear hQ Q1
    refine wc_no (by simp +decide only [EL, reduceIte]) ?_
    by_cases t4 : (now ts en i).text = [114, 101, 97, 100]
    ·rw [if_pos t4] at hy
     refine zAd (zAb fun Q1 hQ => ?_)
     simp (disch := omega) only [EL, ↓K3, ↓K1, reduceIte, Nat.reduceEqDiff, Nat.reduceAdd, Nat.reduceLeDiff, t4]
     refine hQ _ ?_
     clear hQ Q1
     refine zAq (by simp +decide only [EL, reduceIte]) ?_
     refine zAd (zAb fun Q1 hQ => ?_)
     simp (disch := omega) only [EL, ↓K3, ↓K1, reduceIte, Nat.reduceEqDiff, Nat.reduceAdd, Nat.reduceLeDiff, i0]
     refine (zBo H R5 _ _ rfl (zAz hy hne)).mono (fun v h6 q => ?_) (fun v h6 e => ?_)
     rotate_left
     ·obtain ⟨p, er, hx, rfl, fr'⟩ := e
      rw [hx] at hy
      exact hQ _ ⟨p, er, hy.symm, rfl, MoreBut.trans b5 fr'⟩
     obtain ⟨p6, i, hx, lib6, R6, b6, q⟩ := q
     rw [hx, zAt] at hy
     have nb6 := MoreBut.next b6
     simp (disch := omega) only [EL, ↓K3, ↓K1, reduceIte, Nat.reduceEqDiff, Nat.reduceAdd, Nat.reduceLeDiff, i0]
     refine hQ _ ?_
     clear hQ Q1
     simp only [zAa]
     have gb6 := (b6.keep h4.next (by omega) (by omega)).trans gb
     have rc6 := (b6.keep h.next (by omega) (by omega)).trans rc5
     have nc6 := nc5.keep (b6.keep ia (by omega) (by omega))
     refine zAd (zAb fun Q1 hQ => ?_)
     simp (disch := omega) only [EL, ↓K3, ↓K1, reduceIte, Nat.reduceEqDiff, Nat.reduceAdd, Nat.reduceLeDiff, i0]
     refine (zBo H R6 _ _ rfl (zAz hy hne)).mono (fun v h7 q => ?_) (fun v h7 e => ?_)
     rotate_left
     ·obtain ⟨p, er, hx, rfl, fr'⟩ := e
      rw [hx] at hy
      exact hQ _ ⟨p, er, hy.symm, rfl, MoreBut.trans (b5.trans b6) fr'⟩
     obtain ⟨p7, i, hx, lib7, R7, b7, q⟩ := q
     rw [hx, zAt] at hy
     have nb7 := MoreBut.next b7
     simp (disch := omega) only [EL, ↓K3, ↓K1, reduceIte, Nat.reduceEqDiff, Nat.reduceAdd, Nat.reduceLeDiff, i0]
     refine hQ _ ?_
     clear hQ Q1
     simp only [zAa]
     have gb7 := (b7.keep h4.next (by omega) (by omega)).trans gb6
     have rc7 := (b7.keep h.next (by omega) (by omega)).trans rc6
     have nc7 := nc6.keep (b7.keep ia (by omega) (by omega))
     obtain ⟨d', gn', d0, d1, d2, d3, d4, d5, _, _, _, ncO'⟩ := nc7.set
     refine zAb fun Q1 hQ => ?_
     simp (disch := omega) only [EL, ↓K3, ↓K1, reduceIte, Nat.reduceEqDiff, Nat.reduceAdd, Nat.reduceLeDiff, gb7, cb0, gn', d0]
     refine hQ _ ?_
     clear hQ Q1
     simp only [zAa, zAi]
     have nc8 := ncO' 22
     have o8 : Only ia h7 (h7.set ia (.cells (T.put (some (.int .i64 ((22 : Nat) : Int))) d' 0) 6 none false)) := Only.set
     generalize (h7.set ia (.cells (T.put (some (.int .i64 ((22 : Nat) : Int))) d' 0) 6 none false)) = h8 at *
     have n8 := o8.next
     refine fin _ h8 22 0 [] _ _ ia (by simp +decide only [EL, reduceIte]) (by simp +decide only [EL, reduceIte]) ⟨cb, (o8.keep _ (by omega)).trans gb7, cb0⟩ ((o8.keep _ (by omega)).trans rc7) nc8 (by omega) (by omega) (o8.rs R7 (by omega)) (o8.mb ((b5.trans b6).trans b7) (by omega)) (by omega) hy.symm
    ·rw [if_neg t4] at hy
     refine zAd (zAb fun Q1 hQ => ?_)
     simp (disch := omega) only [EL, ↓K3, ↓K1, reduceIte, Nat.reduceEqDiff, Nat.reduceAdd, Nat.reduceLeDiff, t4]
     refine hQ _ ?_
     clear hQ Q1
     refine wc_no (by simp +decide only [EL, reduceIte]) ?_
     refine zAl ?_
     simp only [zAa, zAi]
     refine fin _ h5 17 0 [] _ (i + 1) ia (by simp +decide only [EL, reduceIte]) (by simp +decide only [EL, reduceIte]) ⟨cb, gb, cb0⟩ rc5 nc5 (by omega) (by omega) R5 b5 (by omega) hy.symm
end
end Go.Ev
namespace Go.Ev
open Go Go.Pa
theorem zE4 {h : AH} {lo s : Nat} {X : List Nat} {u : AV} {t : Tree} (g : h.mem.get s = some (.cells (zAc [u]) 1 none false)) (hs : s < h.next) (hlo : lo ≤ s) (hX : s ∉ X) (x : TreeR h (fun k => lo ≤ k ∧ k ∉ X ∧ k ≠ s) u t) : Kids h lo X (.sl s 0 1 (.known 1)) [t] := by
 refine ⟨[u], Arr.sl (cs := [u]) (by simp) ⟨hlo, hX⟩ hs g (fun i _ => zAk _ _) (.inr rfl) (by simp), x.less fun k hk _ => ⟨hk.1, hk.2.1, fun l n e => ?_⟩, trivial⟩
 injection e with e; exact hk.2.2 e.symm
theorem kids_of2 {h : AH} {lo s : Nat} {X : List Nat} {u w : AV} {t t' : Tree} (g : h.mem.get s = some (.cells (zAc [u, w]) 2 none false)) (hs : s < h.next) (hlo : lo ≤ s) (hX : s ∉ X) (x : TreeR h (fun k => lo ≤ k ∧ k ∉ X ∧ k ≠ s) u t) (x' : TreeR h (fun k => lo ≤ k ∧ k ∉ X ∧ k ≠ s) w t') : Kids h lo X (.sl s 0 2 (.known 2)) [t, t'] := by
 refine ⟨[u, w], Arr.sl (cs := [u, w]) (by simp) ⟨hlo, hX⟩ hs g (fun i _ => zAk _ _) (.inr rfl) (by simp), x.less fun k hk _ => ⟨hk.1, hk.2.1, fun l n e => ?_⟩, x'.less fun k hk _ => ⟨hk.1, hk.2.1, fun l n e => ?_⟩, trivial⟩
 ·injection e with e; exact hk.2.2 e.symm
 ·injection e with e; exact hk.2.2 e.symm
structure EX (tab : Nat → Option AFunc) (ts : List Tok) (en n : Nat) : Prop where
 expr : ∀ {h : AH} {r i d : Nat} (least : Nat), RS ts en h r i d → d ≤ 40 → least ≤ 6 → GS tab 134 [.ptr r 0, .int .i64 (least : Int)] ts en r i d h (exprS ts en n least i d) fun t v h1 => okT t h.next v h1
 unary : ∀ {h : AH} {r i d : Nat}, RS ts en h r i d → d ≤ 40 → GS tab 152 [.ptr r 0] ts en r i d h (zBy ts en n i d) fun t v h1 => okT t h.next v h1
 post : ∀ {h : AH} {r i d : Nat}, RS ts en h r i d → d ≤ 40 → GS tab 166 [.ptr r 0] ts en r i d h (postS ts en n i d) fun t v h1 => okT t h.next v h1
 prim : ∀ {h : AH} {r i d : Nat}, RS ts en h r i d → d ≤ 40 → GS tab 180 [.ptr r 0] ts en r i d h (primS ts en n i d) fun t v h1 => okT t h.next v h1
 call : ∀ {h : AH} {r i d : Nat} (t : Tok), RS ts en h r i d → d ≤ 40 → isT ts en [40] i = true → GS tab 196 [.ptr r 0, tokV t] ts en r i d h (callS ts en n t i d) fun t v h1 => okT t h.next v h1
 brack : ∀ {h : AH} {r i d : Nat}, RS ts en h r i d → d ≤ 40 → GS tab 154 [.ptr r 0] ts en r i d h (zA5 ts en n i d) fun t v h1 => okT t h.next v h1
theorem levelS_lt {ts : List Tok} {en i : Nat} : (zB2 ts en i).1 ≤ 5 := by
 unfold zB2
 repeat' split
 all_goals try (show _ ≤ 5; decide)
 show opLevel _ ≤ 5
 unfold opLevel
 repeat' split
 all_goals omega
theorem zKh {ts : List Tok} {en i : Nat} (h : (zB2 ts en i).1 ≠ 0) : i < ts.length := by
 rcases Nat.lt_or_ge i ts.length with h1 | h1
 ·exact h1
 ·refine absurd ?_ h
  unfold zB2
  rw [zCd (by omega)]
  simp
section
variable {tab : Nat → Option AFunc} {h : AH} (H : PT tab) {ts : List Tok} {en r i d : Nat}
include H in
theorem expr_ge {n : Nat} (IH : ∀ m, m < n → EX tab ts en m) (R : RS ts en h r i d) (hd : d ≤ 40) (least : Nat) (hle : least ≤ 6) : GS tab 134 [.ptr r 0, .int .i64 (least : Int)] ts en r i d h (exprS ts en n least i d) fun t v h1 => okT t h.next v h1 := by
 intro y hy hne
 cases n with
 | zero => exact absurd (by rw [← hy]; simp [exprS]) hne
 | succ n =>
 have i0 : zAg [.ptr r 0, .int .i64 (least : Int)] = zAc [.ptr r 0, .int .i64 (least : Int)] := rfl
 have hr := R.lt
 obtain ⟨z, hz⟩ : ∃ z, z = i := ⟨_, rfl⟩
 refine ge_of H.t134 rfl ?_
 refine zBi fun h1 n1 g1 m1 => ?_
 have R1 := R.more m1
 unfold exprS at hy
 refine zAd (zAb fun Q1 hQ => ?_)
 simp (disch := omega) only [EL, ↓K3, ↓K1, reduceIte, Nat.reduceEqDiff, Nat.reduceAdd, Nat.reduceLeDiff, i0]
 refine ((IH n (by omega)).unary R1 hd _ rfl (zAz hy hne)).mono (fun v h2 q => ?_) (fun v h2 e => ?_)
 rotate_left
 ·obtain ⟨p, er, hx, rfl, fr'⟩ := e
  rw [hx] at hy
  exact hQ _ ⟨p, er, hy.symm, rfl, MoreBut.trans (m1.but r) fr'⟩
 obtain ⟨lt, i, hx, lib2, R2, b2, q⟩ := q
 rw [hx, zAt] at hy
 have nb2 := MoreBut.next b2
 obtain ⟨u, rfl, tr⟩ := q
 simp (disch := omega) only [EL, ↓K3, ↓K1, reduceIte, Nat.reduceEqDiff, Nat.reduceAdd, Nat.reduceLeDiff, i0]
 refine hQ _ ?_
 clear hQ Q1
 refine zBs fun h3 n3 g3 m3 => ?_
 simp only [zAa]
 have R3 := R2.more m3
 have b3 := ((m1.but r).trans b2).trans (m3.but r)
 have rc3 := (m3.keep h.next (by omega)).trans ((b2.keep h.next (by omega) (by omega)).trans g1)
 have tr3 : TreeR h3 (fun k => h.next ≤ k ∧ k ∉ [h.next, h2.next]) u lt := TreeR.keep m3.stay (fun k hk hl => ⟨by omega, by simp; omega⟩) tr
 refine zAu ?_
 refine zCc (fun m l d1 h7 => ∃ i left u, m ≤ n ∧ d1 = [] ∧ l.get 0 = some (.ptr r 0) ∧ l.get 1 = some (.int .i64 (least : Int)) ∧ l.get 4 = some (.ptr h2.next 0) ∧ l.get 5 = some (.ptr h.next 0) ∧ RS ts en h7 r i d ∧ MoreBut r h h7 ∧ (∃ c, h7.mem.get h2.next = some (.cells c 1 none false) ∧ c.get 0 = some u) ∧
  h7.mem.get h.next = some (.cells (zAc [.nilp]) (llen [.nilp]) none false) ∧ TreeR h7 (fun k => h.next ≤ k ∧ k ∉ [h.next, h2.next]) u left ∧ h3.next ≤ h7.next ∧ z < i ∧ exprL ts en m least i d left = y) ?_ n ?_
 ·rintro m l d1 h7 ⟨i, left, u, hm, rfl, l0, l1, l4, l5, R7, b7, ⟨cb, gb, cb0⟩, rc7, tr7, n7, zi, hy⟩
  cases m with
  | zero => exact absurd (by rw [← hy]; simp [exprL]) hne
  | succ m =>
  unfold exprL at hy
  refine zAu ?_
  refine zAd (zAb fun Q1 hQ => ?_)
  simp (disch := omega) only [EL, ↓K3, ↓K1, reduceIte, Nat.reduceEqDiff, Nat.reduceAdd, Nat.reduceLeDiff, l0]
  refine (level_gp H R7).to fun v h8 q => ?_
  obtain ⟨rfl, m8⟩ := q
  simp (disch := omega) only [EL, ↓K3, ↓K1, reduceIte, Nat.reduceEqDiff, Nat.reduceAdd, Nat.reduceLeDiff, l0]
  refine hQ _ ?_
  clear hQ Q1
  simp only [zAa]
  have R8 := R7.more m8
  have n8 := m8.next
  have gb8 := (m8.keep h2.next (by omega)).trans gb
  have rc8 := (m8.keep h.next (by omega)).trans rc7
  have tr8 := TreeR.keep (G := fun k => h.next ≤ k ∧ k ∉ [h.next, h2.next]) m8.stay (fun _ h _ => h) tr7
  have b8 := b7.trans (m8.but r)
  have hl5 := levelS_lt (ts := ts) (en := en) (i := i)
  have hlt := zKh (ts := ts) (en := en) (i := i)
  generalize hlev : zB2 ts en i = lev at *
  obtain ⟨lv, op⟩ := lev
  simp only at hy hl5 hlt
  refine zAd ?_
  by_cases hstop : lv = 0 ∨ lv < least
  ·rw [if_pos hstop] at hy
   refine zAd (zAb fun Q1 hQ => ?_)
   have fin : ∀ (l' : T AV), l'.get 3 = some (.bool true) → l'.get 4 = l.get 4 → l'.get 5 = l.get 5 → ∀ (K : T AV → List AV → AH → Prop) (Q : Res → Prop), (∀ v l'' h9, zDv [.cellN 1 (.l 5)] (okP y ts en r z d h fun t v h1 => okT t h.next v h1) (erP y r h) (.ret l'' [] h9) → v = (.ret l'' [] h9) → zE2 K Q v) →
     WC tab (.cond (.l 3) (.seq (.ops [⟨.loadN 1 (.l 4), none, none, []⟩, ⟨.store 1 (.l 5) (.t 0), none, none, []⟩]) .ret) .skip) l' [] h8 (zE2 K Q) := by
    intro l' e3 e4 e5 K Q hk
    refine zAq (by rw [evl, e3]; rfl) ?_
    refine zI1 (b := h2.next) (rc := h.next) (e4.trans l4) gb8 cb0 (e5.trans l5) rc8 (by rw [zAk]; rfl) fun h9 o9 hfin => ?_
    refine hk _ _ _ (hfin _ _ ⟨_, _, hy.symm, by omega, o9.rs R8 (by omega), o9.mb b8 (Nat.le_refl _), _, rfl, ?_⟩) rfl
    exact TreeR.keep (o9.stay (by simp)) (fun k hk _ => hk.1) tr8
   subst hz
   by_cases h0 : lv = 0
   ·simp (disch := omega) only [EL, ↓K3, ↓K1, reduceIte, Nat.reduceEqDiff, Nat.reduceAdd, Nat.reduceLeDiff, h0]
    refine hQ _ ?_
    simp only [zAa]
    refine fin _ (by simp +decide only [EL, reduceIte]) (by simp +decide only [EL, reduceIte]) (by simp +decide only [EL, reduceIte]) _ _ fun v l'' h9 hf e => ?_
    subst e
    simp only [zAh, zAf]
    exact hf
   ·have h1' : lv < least := by omega
    simp (disch := omega) only [EL, ↓K3, ↓K1, reduceIte, Nat.reduceEqDiff, Nat.reduceAdd, Nat.reduceLeDiff, h0, h1', l1]
    refine hQ _ ?_
    simp only [zAa]
    refine fin _ (by simp +decide only [EL, reduceIte]) (by simp +decide only [EL, reduceIte]) (by simp +decide only [EL, reduceIte]) _ _ fun v l'' h9 hf e => ?_
    subst e
    simp only [zAh, zAf]
    exact hf
  ·rw [if_neg hstop] at hy
   have h0 : ¬ lv = 0 := fun e => hstop (.inl e)
   have h1' : ¬ lv < least := fun e => hstop (.inr e)
   have hi := hlt h0
   refine zAd (zAb fun Q1 hQ => ?_)
   simp (disch := omega) only [EL, ↓K3, ↓K1, reduceIte, Nat.reduceEqDiff, Nat.reduceAdd, Nat.reduceLeDiff, h0, h1', l1]
   refine hQ _ ?_
   clear hQ Q1
   refine wc_no (by simp +decide only [EL, reduceIte]) ?_
   refine zAl ?_
   simp only [zAa]
   refine zAd (zAb fun Q1 hQ => ?_)
   simp (disch := omega) only [EL, ↓K3, ↓K1, reduceIte, Nat.reduceEqDiff, Nat.reduceAdd, Nat.reduceLeDiff, l0]
   refine (zCg H R8 hi).to fun v h9 q => ?_
   obtain ⟨rfl, R9, b9⟩ := q
   have n9 := b9.next
   have f2 : ∀ h', zB6 2 1 false (.c (tokV (now ts en i))) .leaf [] h' = .val (.int .i64 ((now ts en i).pos : Int)) h' := fun _ => rfl
   simp (disch := omega) only [EL, ↓K3, ↓K1, reduceIte, Nat.reduceEqDiff, Nat.reduceAdd, Nat.reduceLeDiff, l0, f2]
   refine hQ _ ?_
   clear hQ Q1
   simp only [zAa]
   have gb9 := (b9.keep h2.next (by omega) (by omega)).trans gb8
   have rc9 := (b9.keep h.next (by omega) (by omega)).trans rc8
   have tr9 := TreeR.keep (G := fun k => h.next ≤ k ∧ k ∉ [h.next, h2.next]) (b9.stay (by simp; omega)) (fun _ h _ => h) tr8
   have c9 := b8.trans b9
   generalize (now ts en i).pos = pos at *
   refine zAd (zAb fun Q1 hQ => ?_)
   have arr : ∀ h' : AH, (zAc [AV.int .i64 ((0 : Nat) : Int), .int .i64 ((26 : Nat) : Int), .int .i64 ((25 : Nat) : Int), .int .i64 ((24 : Nat) : Int), .int .i64 ((24 : Nat) : Int), .int .i64 ((24 : Nat) : Int)]).get lv = some (.int .i64 (binNode lv : Int)) := by
    intro _
    match lv, hl5 with
    | 0, _ => rfl
    | 1, _ => rfl
    | 2, _ => rfl
    | 3, _ => rfl
    | 4, _ => rfl
    | 5, _ => rfl
   have arr := arr h
   have hlv6 : lv < 6 := by omega
   simp (disch := omega) only [EL, ↓K3, ↓K1, reduceIte, Nat.reduceEqDiff, Nat.reduceAdd, Nat.reduceLeDiff, l0, l4, gb9, cb0, arr, zAe, hlv6]
   have m10 : More h9 ((h9.add (.cells (zAc [.int .i64 ((0 : Nat) : Int), .int .i64 ((26 : Nat) : Int), .int .i64 ((25 : Nat) : Int), .int .i64 ((24 : Nat) : Int), .int .i64 ((24 : Nat) : Int), .int .i64 ((24 : Nat) : Int)]) 6 none false)).add (.cells (zAc [.nilp]) 1 none false)) := (More.add _ _).trans (More.add _ _)
   have ga : ((h9.add (.cells (zAc [.int .i64 ((0 : Nat) : Int), .int .i64 ((26 : Nat) : Int), .int .i64 ((25 : Nat) : Int), .int .i64 ((24 : Nat) : Int), .int .i64 ((24 : Nat) : Int), .int .i64 ((24 : Nat) : Int)]) 6 none false)).add (.cells (zAc [.nilp]) 1 none false)).mem.get h9.next = some (.cells (zAc [.int .i64 ((0 : Nat) : Int), .int .i64 ((26 : Nat) : Int), .int .i64 ((25 : Nat) : Int), .int .i64 ((24 : Nat) : Int), .int .i64 ((24 : Nat) : Int), .int .i64 ((24 : Nat) : Int)]) 6 none false) := by
    rw [AH.add_mem, T.get_put_ne _ _ _ _ (by rw [AH.add_next]; omega), AH.add_mem, T.get_put_self]
   have g7 : ((h9.add (.cells (zAc [.int .i64 ((0 : Nat) : Int), .int .i64 ((26 : Nat) : Int), .int .i64 ((25 : Nat) : Int), .int .i64 ((24 : Nat) : Int), .int .i64 ((24 : Nat) : Int), .int .i64 ((24 : Nat) : Int)]) 6 none false)).add (.cells (zAc [.nilp]) 1 none false)).mem.get (h9.next + 1) = some (.cells (zAc [.nilp]) 1 none false) := by
    rw [AH.add_mem]; exact T.get_put_self _ _ _
   have n10 : ((h9.add (.cells (zAc [.int .i64 ((0 : Nat) : Int), .int .i64 ((26 : Nat) : Int), .int .i64 ((25 : Nat) : Int), .int .i64 ((24 : Nat) : Int), .int .i64 ((24 : Nat) : Int), .int .i64 ((24 : Nat) : Int)]) 6 none false)).add (.cells (zAc [.nilp]) 1 none false)).next = h9.next + 2 := rfl
   generalize (h9.add (.cells (zAc [.int .i64 ((0 : Nat) : Int), .int .i64 ((26 : Nat) : Int), .int .i64 ((25 : Nat) : Int), .int .i64 ((24 : Nat) : Int), .int .i64 ((24 : Nat) : Int), .int .i64 ((24 : Nat) : Int)]) 6 none false)).add (.cells (zAc [.nilp]) 1 none false) = h10 at *
   generalize zAc [AV.int .i64 ((0 : Nat) : Int), .int .i64 ((26 : Nat) : Int), .int .i64 ((25 : Nat) : Int), .int .i64 ((24 : Nat) : Int), .int .i64 ((24 : Nat) : Int), .int .i64 ((24 : Nat) : Int)] = c6 at *
   have R10 := R9.more m10
   have gb10 := (m10.keep h2.next (by omega)).trans gb9
   have rc10 := (m10.keep h.next (by omega)).trans rc9
   have tr10 := TreeR.keep (G := fun k => h.next ≤ k ∧ k ∉ [h.next, h2.next] ∧ k < h9.next) m10.stay (fun _ h hl => ⟨h.1, h.2, hl⟩) tr9
   have c10 := c9.trans (m10.but r)
   refine ((IH m (by omega)).expr (lv + 1) R10 hd (by omega) _ rfl (zAz hy hne)).mono (fun v h11 q => ?_) (fun v h11 e => ?_)
   rotate_left
   ·obtain ⟨p, er, hx, rfl, fr'⟩ := e
    rw [hx] at hy
    exact hQ _ ⟨p, er, hy.symm, rfl, MoreBut.trans c10 fr'⟩
   obtain ⟨rt, i, hx, lib11, R11, b11, q⟩ := q
   rw [hx, zAt] at hy
   have nb11 := MoreBut.next b11
   obtain ⟨u2, rfl, tr11⟩ := q
   obtain ⟨ui, rfl, _, hul⟩ := tr10.ptr
   obtain ⟨uj, rfl, hj1, hj2⟩ := tr11.ptr
   have gb11 := (b11.keep h2.next (by omega) (by omega)).trans gb10
   have rc11 := (b11.keep h.next (by omega) (by omega)).trans rc10
   have ga11 := (b11.keep h9.next (by omega) (by omega)).trans ga
   have g711 := (b11.keep (h9.next + 1) (by omega) (by omega)).trans g7
   have tl11 := TreeR.keep (G := fun k => h.next ≤ k ∧ k ∉ [h.next, h2.next] ∧ k < h9.next) (b11.stay (by simp; omega)) (fun _ h _ => h) tr10
   have c11 := c10.trans b11
   simp (disch := omega) only [EL, ↓K3, ↓K1, reduceIte, Nat.reduceEqDiff, Nat.reduceAdd, Nat.reduceLeDiff, l0, l4, gb11, cb0, arr, zAe, hlv6, zA7, zA8, zBj, ga11]
   refine (zDd H (kv := .sl h11.next 0 2 (.known 2)) (op := binNode lv) (pos := pos) (fun _ => rfl) rfl).to fun v h13 q => ?_
   obtain ⟨ia, rfl, i1, i2, nc, m13⟩ := q
   have m12 : More h11 (h11.add (.cells (zAc [.ptr ui 0, .ptr uj 0]) 2 none false)) := More.add _ _
   have g12 : (h11.add (.cells (zAc [.ptr ui 0, .ptr uj 0]) 2 none false)).mem.get h11.next = some (.cells (zAc [.ptr ui 0, .ptr uj 0]) 2 none false) := by rw [AH.add_mem, T.get_put_self]
   have n12 : (h11.add (.cells (zAc [.ptr ui 0, .ptr uj 0]) 2 none false)).next = h11.next + 1 := rfl
   generalize h11.add (.cells (zAc [.ptr ui 0, .ptr uj 0]) 2 none false) = h12 at *
   have n13 := m13.next
   have kd := kids_of2 (lo := h.next) (X := [h.next, h2.next, ia, h9.next + 1]) g12 (by omega) (by omega) (by simp; omega) (TreeR.keep m12.stay (fun k hk hl => ⟨hk.1, by have := hk.2.1; have := hk.2.2; simp at *; omega, by have := hk.2.2; omega⟩) tl11) (TreeR.keep m12.stay (fun k hk hl => ⟨by omega, by simp; omega, by omega⟩) tr11)
   have kd13 := kd.keep m13.stay
   have mm := m12.trans m13
   have g713 := (mm.keep (h9.next + 1) (by omega)).trans g711
   have gb13 := (mm.keep h2.next (by omega)).trans gb11
   have rc13 := (mm.keep h.next (by omega)).trans rc11
   have R13 := R11.more mm
   have c13 := c11.trans (mm.but r)
   simp (disch := omega) only [EL, ↓K3, ↓K1, reduceIte, Nat.reduceEqDiff, Nat.reduceAdd, Nat.reduceLeDiff, g713]
   refine hQ _ ?_
   clear hQ Q1
   simp only [zAa]
   have g714 : (h13.set (h9.next + 1) (.cells (T.put (some (.ptr ia 0)) (zAc [.nilp]) 0) 1 none false)).mem.get (h9.next + 1) = some (.cells (T.put (some (.ptr ia 0)) (zAc [.nilp]) 0) 1 none false) := AH.get_set
   have o14 : Only (h9.next + 1) h13 (h13.set (h9.next + 1) (.cells (T.put (some (.ptr ia 0)) (zAc [.nilp]) 0) 1 none false)) := Only.set
   generalize h13.set (h9.next + 1) (.cells (T.put (some (.ptr ia 0)) (zAc [.nilp]) 0) 1 none false) = h14 at *
   have n14 := o14.next
   have nc14 := nc.keep (o14.keep ia (by omega))
   have kd14 := kd13.keep (o14.stay (by simp))
   obtain ⟨c', gn, d0, d1, d2, d3, d4, d5, _, _, ncN, _⟩ := nc14.set
   refine zAd (zAb fun Q1 hQ => ?_)
   simp (disch := omega) only [EL, ↓K3, ↓K1, reduceIte, Nat.reduceEqDiff, Nat.reduceAdd, Nat.reduceLeDiff, l0, g714, gn, d3]
   refine hQ _ ?_
   clear hQ Q1
   have nc15 := ncN (op : Int)
   have o15 : Only ia h14 (h14.set ia (.cells (T.put (some (.int .i64 (op : Int))) c' 3) 6 none false)) := Only.set
   generalize h14.set ia (.cells (T.put (some (.int .i64 (op : Int))) c' 3) 6 none false) = h15 at *
   have n15 := o15.next
   have g715 := (o15.keep (h9.next + 1) (by omega)).trans g714
   have gb15 := (o15.keep h2.next (by omega)).trans ((o14.keep h2.next (by omega)).trans gb13)
   have rc15 := (o15.keep h.next (by omega)).trans ((o14.keep h.next (by omega)).trans rc13)
   have kd15 := kd14.keep (o15.stay (by simp))
   refine zAb fun Q1 hQ => ?_
   simp (disch := omega) only [EL, ↓K3, ↓K1, reduceIte, Nat.reduceEqDiff, Nat.reduceAdd, Nat.reduceLeDiff, g715, l4, gb15, cb0, zAe]
   refine hQ _ ?_
   clear hQ Q1
   simp only [zAa, zAi]
   have gb16 : (h15.set h2.next (.cells (T.put (some (.ptr ia 0)) cb 0) 1 none false)).mem.get h2.next = some (.cells (T.put (some (.ptr ia 0)) cb 0) 1 none false) := AH.get_set
   have o16 : Only h2.next h15 (h15.set h2.next (.cells (T.put (some (.ptr ia 0)) cb 0) 1 none false)) := Only.set
   generalize h15.set h2.next (.cells (T.put (some (.ptr ia 0)) cb 0) 1 none false) = h16 at *
   have n16 := o16.next
   have kd16 := kd15.keep (o16.stay (by simp))
   refine ⟨m, by omega, _, _, _, by omega, trivial, by simp +decide only [EL, reduceIte, l0], by simp +decide only [EL, reduceIte, l1], by simp +decide only [EL, reduceIte, l4], by simp +decide only [EL, reduceIte, l5], o16.rs (o15.rs (o14.rs R13 (by omega)) (by omega)) (by omega), o16.mb (o15.mb (o14.mb c13 (by omega)) (by omega)) (by omega), ⟨_, gb16, T.get_put_self _ _ _⟩, (o16.keep h.next (by omega)).trans rc15, kd16.tree2 (nc15.keep (o16.keep ia (by omega))) ⟨by omega, by simp; omega⟩ (by omega) (fun k hk hx => ⟨hk, by simp at hx ⊢; omega⟩), by omega, by omega, hy⟩
 ·exact ⟨_, lt, u, Nat.le_refl _, rfl, by simp +decide only [EL, reduceIte, i0], by simp +decide only [EL, reduceIte, i0], by simp +decide only [EL, reduceIte, i0], by simp +decide only [EL, reduceIte, i0], R3, b3, g3, rc3, tr3, Nat.le_refl _, by omega, hy⟩
end
end Go.Ev
namespace Go.Pa
open Go.Ev
theorem zAv {α β : Type} {x : PR α} {k : α → Nat → Nat → PR β} (h : x ≠ .out) (h' : ∀ a i d, x = .ok a i d → k a i d ≠ .out) : x.bind k ≠ .out := by
 cases x with
 | ok a i d => exact h' a i d rfl
 | err p e => exact fun e => by cases e
 | out => exact absurd rfl h
section
variable {ts : List Tok} {en : Nat}
theorem zBk {s : Str} {i d : Nat} : zA9 ts en s i d ≠ .out := by unfold zA9; split <;> simp [failP]
theorem zGp {i d : Nat} : wordS ts en i d ≠ .out := by unfold wordS; split <;> simp [failP]
theorem zEf {α : Type} {i : Nat} : (failP ts en i : PR α) ≠ .out := by simp [failP]
theorem zGz {α : Type} {i d : Nat} {k : Nat → Nat → PR α} (h : k i (d + 1) ≠ .out) : zCn ts en i d k ≠ .out := by
 unfold zCn
 split
 ·simp
 ·exact zAv h fun _ _ _ _ => by simp
theorem kind_lt {i k : Nat} (h : (now ts en i).kind = k) (hk : k ≠ 0) : i < ts.length := by
 rcases Nat.lt_or_ge i ts.length with e | e
 ·exact e
 ·rw [zCd (by omega)] at h; exact absurd h.symm hk
theorem zA4 {s : Str} {i d p i' d' : Nat} (h : zA9 ts en s i d = .ok p i' d') : i < ts.length ∧ i' = i + 1 := by
 obtain ⟨h1, _, h2, _⟩ := zGx h; exact ⟨is_lt h1, h2⟩
theorem zEb {i d i' d' : Nat} {t : Tok} (h : wordS ts en i d = .ok t i' d') : i < ts.length ∧ i' = i + 1 := by
 obtain ⟨_, h1, h2, _⟩ := zK3 h; exact ⟨kind_lt h1 (by decide), h2⟩
structure PG (ts : List Tok) (en : Nat) (n : Nat) : Prop where
 expr : ∀ {least i d t i' d'}, exprS ts en n least i d = .ok t i' d' → i < i' ∧ i' ≤ ts.length
 exprl : ∀ {least i d l t i' d'}, exprL ts en n least i d l = .ok t i' d' → i ≤ i' ∧ (i ≤ ts.length → i' ≤ ts.length)
 unary : ∀ {i d t i' d'}, zBy ts en n i d = .ok t i' d' → i < i' ∧ i' ≤ ts.length
 post : ∀ {i d t i' d'}, postS ts en n i d = .ok t i' d' → i < i' ∧ i' ≤ ts.length
 postl : ∀ {i d x t i' d'}, postL ts en n i d x = .ok t i' d' → i ≤ i' ∧ (i ≤ ts.length → i' ≤ ts.length)
 prim : ∀ {i d t i' d'}, primS ts en n i d = .ok t i' d' → i < i' ∧ i' ≤ ts.length
 call : ∀ {j i d t i' d'}, callS ts en n j i d = .ok t i' d' → i < i' ∧ i' ≤ ts.length
 args : ∀ {i d acc ks i' d'}, argsL ts en n i d acc = .ok ks i' d' → i ≤ i' ∧ i' < ts.length
 brack : ∀ {i d t i' d'}, zA5 ts en n i d = .ok t i' d' → i < i' ∧ i' ≤ ts.length
theorem keyS_on {i d i' d' : Nat} {t : Tree} (h : keyS ts en i d = .ok t i' d') (hi : i < ts.length) : i < i' ∧ i' ≤ ts.length := by
 unfold keyS at h
 simp only at h
 split at h
 ·injection h; omega
 split at h
 ·injection h; omega
 split at h
 ·obtain ⟨_, _, _, h1, h⟩ := PR.bind_eq h
  obtain ⟨w, _, _, h2, h⟩ := PR.bind_eq h
  obtain ⟨_, _, _, h3, h⟩ := PR.bind_eq h
  have := zA4 h1; have := zEb h2; have := zA4 h3
  injection h; omega
 split at h
 ·obtain ⟨_, _, _, h1, h⟩ := PR.bind_eq h
  obtain ⟨_, _, _, h3, h⟩ := PR.bind_eq h
  have := zA4 h1; have := zA4 h3
  injection h; omega
 ·injection h; omega
theorem zFc : ∀ n, PG ts en n := by
 intro n
 induction n with
 | zero => constructor <;> intros <;> simp_all [exprS, exprL, zBy, postS, postL, primS, callS, argsL, zA5]
 | succ n IH =>
  constructor
  ·intro least i d t i' d' h
   unfold exprS at h
   obtain ⟨l, i1, d1, h1, h⟩ := PR.bind_eq h
   have := IH.unary h1; have := IH.exprl h; omega
  ·intro least i d l t i' d' h
   unfold exprL at h
   split at h
   ·injection h; omega
   ·obtain ⟨r, i1, d1, h1, h⟩ := PR.bind_eq h
    have := IH.expr h1; have := IH.exprl h; omega
  ·intro i d t i' d' h
   unfold zBy at h
   split at h
   ·obtain ⟨_, d2, h, _⟩ := zDp h
    obtain ⟨k, i1, d1, h1, h⟩ := PR.bind_eq h
    have := IH.unary h1
    injection h; omega
   ·exact IH.post h
  ·intro i d t i' d' h
   unfold postS at h
   obtain ⟨x, i1, d1, h1, h⟩ := PR.bind_eq h
   have := IH.prim h1; have := IH.postl h; omega
  ·intro i d x t i' d' h
   unfold postL at h
   split at h
   ·obtain ⟨w, i1, d1, h1, h⟩ := PR.bind_eq h
    have := zEb h1; have := IH.postl h; omega
   ·injection h; omega
  ·intro i d t i' d' h
   unfold primS at h
   split at h
   ·rename_i hk
    have := kind_lt hk (by decide)
    injection h; omega
   split at h
   ·rename_i hk
    have := kind_lt hk (by decide)
    split at h
    ·have := IH.call h; omega
    ·injection h; omega
   split at h
   ·exact IH.brack h
   split at h
   ·rename_i hs
    have hi : i < ts.length := by
     simp only [Bool.or_eq_true] at hs
     rcases hs with (((e | e) | e) | e) | e <;> exact is_lt e
    exact keyS_on h hi
   ·cases h
  ·intro j i d t i' d' h
   unfold callS at h
   obtain ⟨_, d2, h, _⟩ := zDp h
   obtain ⟨ks, i1, d1, h1, h⟩ := PR.bind_eq h
   have := IH.args h1
   injection h; omega
  ·intro i d acc ks i' d' h
   unfold argsL at h
   split at h
   ·rename_i hs
    have := is_lt hs
    injection h; omega
   ·obtain ⟨p, i1, d1, h1, h⟩ := PR.bind_eq h
    have := IH.expr h1
    split at h
    ·have := IH.args h; omega
    ·obtain ⟨_, i2, d2, h2, h⟩ := PR.bind_eq h
     have := zA4 h2
     split at h
     ·cases h
     ·have := IH.args h; omega
  ·intro i d t i' d' h
   unfold zA5 at h
   split at h
   ·obtain ⟨_, d2, h, _⟩ := zDp h
    obtain ⟨e, i1, d1, h1, h⟩ := PR.bind_eq h
    obtain ⟨_, i2, d3, h2, h⟩ := PR.bind_eq h
    have := IH.expr h1; have := zA4 h2
    injection h; omega
   ·cases h
structure FX (ts : List Tok) (en : Nat) (n : Nat) : Prop where
 expr : ∀ {least i d}, 10 * (ts.length - i) + 6 ≤ n → exprS ts en n least i d ≠ .out
 exprl : ∀ {least i d l}, 10 * (ts.length - i) + 2 ≤ n → exprL ts en n least i d l ≠ .out
 unary : ∀ {i d}, 10 * (ts.length - i) + 5 ≤ n → zBy ts en n i d ≠ .out
 post : ∀ {i d}, 10 * (ts.length - i) + 4 ≤ n → postS ts en n i d ≠ .out
 postl : ∀ {i d x}, 10 * (ts.length - i) + 1 ≤ n → postL ts en n i d x ≠ .out
 prim : ∀ {i d}, 10 * (ts.length - i) + 3 ≤ n → primS ts en n i d ≠ .out
 call : ∀ {j i d}, 10 * (ts.length - i) + 2 ≤ n → i < ts.length → callS ts en n j i d ≠ .out
 args : ∀ {i d acc}, 10 * (ts.length - i) + 7 ≤ n → argsL ts en n i d acc ≠ .out
 brack : ∀ {i d}, 10 * (ts.length - i) + 2 ≤ n → zA5 ts en n i d ≠ .out
theorem keyS_in {i d : Nat} : keyS ts en i d ≠ .out := by
 unfold keyS
 simp only
 split
 ·simp
 split
 ·simp
 split
 ·exact zAv zBk fun _ _ _ _ => zAv zGp fun _ _ _ _ => zAv zBk fun _ _ _ _ => by simp
 split
 ·exact zAv zBk fun _ _ _ _ => zAv zBk fun _ _ _ _ => by simp
 ·simp
theorem zJp : ∀ n, FX ts en n := by
 intro n
 induction n with
 | zero => constructor <;> intros <;> omega
 | succ n IH =>
  have P := zFc (ts := ts) (en := en) n
  constructor
  ·intro least i d h
   unfold exprS
   exact zAv (IH.unary (by omega)) fun _ i' _ h1 => IH.exprl (by have := P.unary h1; omega)
  ·intro least i d l h
   unfold exprL
   split
   ·simp
   ·rename_i hs
    have hi := zKh (ts := ts) (en := en) (i := i) fun e => hs (.inl e)
    exact zAv (IH.expr (by omega)) fun _ i' _ h1 => IH.exprl (by have := P.expr h1; omega)
  ·intro i d h
   unfold zBy
   split
   ·rename_i hs
    have hi : i < ts.length := by
     rcases Bool.or_eq_true_iff.mp hs with e | e
     ·exact is_lt e
     ·exact is_lt e
    exact zGz (zAv (IH.unary (by omega)) fun _ _ _ _ => by simp)
   ·exact IH.post (by omega)
  ·intro i d h
   unfold postS
   exact zAv (IH.prim (by omega)) fun _ i' _ h1 => IH.postl (by have := P.prim h1; omega)
  ·intro i d x h
   unfold postL
   split
   ·rename_i hs
    have hi := is_lt hs
    exact zAv zGp fun _ i' _ h1 => IH.postl (by have := zEb h1; omega)
   ·simp
  ·intro i d h
   unfold primS
   split
   ·simp
   split
   ·split
    ·rename_i hs
     have hi := is_lt hs
     exact IH.call (by omega) hi
    ·simp
   split
   ·exact IH.brack (by omega)
   split
   ·exact keyS_in
   ·exact zEf
  ·intro j i d h hi
   unfold callS
   exact zGz (zAv (IH.args (by omega)) fun _ _ _ _ => by simp)
  ·intro i d acc h
   unfold argsL
   split
   ·simp
   ·refine zAv (IH.expr (by omega)) fun _ i1 _ h1 => ?_
    have := P.expr h1
    split
    ·rename_i hs
     have hi := is_lt hs
     exact IH.args (by omega)
    ·refine zAv zBk fun _ i2 _ h2 => ?_
     have h3 := zGx h2
     have := is_lt h3.1
     split
     ·exact zEf
     ·exact IH.args (by omega)
  ·intro i d h
   unfold zA5
   split
   ·rename_i hs
    have hi := is_lt hs
    exact zGz (zAv (IH.expr (by omega)) fun _ _ _ _ => zAv zBk fun _ _ _ _ => by simp)
   ·exact zEf
theorem typS_in {i d : Nat} : typS ts en i d ≠ .out := by
 unfold typS
 split
 ·exact zAv zGp fun _ _ _ _ => by simp
 split
 ·simp
 ·exact zEf
theorem typS_on {i d i' d' : Nat} {t : Str} (h : typS ts en i d = .ok t i' d') : i < i' ∧ i' ≤ ts.length := by
 unfold typS at h
 split at h
 ·obtain ⟨_, _, _, h1, h⟩ := PR.bind_eq h
  have := zEb h1
  injection h; omega
 split at h
 ·rename_i hs
  have hi : i < ts.length := by
   rcases Bool.or_eq_true_iff.mp hs with e | e <;> exact is_lt e
  injection h; omega
 ·cases h
theorem zLf {op i d : Nat} : partS ts en op i d ≠ .out := zAv zGp fun _ _ _ _ => zAv typS_in fun _ _ _ _ => by simp
theorem zHl {op i d i' d' : Nat} {t : Tree} (h : partS ts en op i d = .ok t i' d') : i < i' ∧ i' ≤ ts.length := by
 unfold partS at h
 obtain ⟨_, _, _, h1, h⟩ := PR.bind_eq h
 obtain ⟨_, _, _, h2, h⟩ := PR.bind_eq h
 have := zEb h1; have := typS_on h2
 injection h; omega
theorem zKr : ∀ (n : Nat) {i d : Nat} {acc : List Tree}, ts.length - i + 1 ≤ n → zC3 ts en n i d acc ≠ .out
 | 0, i, d, acc, h => by omega
 | n + 1, i, d, acc, h => by
  unfold zC3
  split
  ·simp
  ·refine zAv zLf fun _ i1 _ h1 => zAv zBk fun _ i2 _ h2 => ?_
   have := zHl h1
   have h3 := zGx h2
   have := is_lt h3.1
   exact zKr n (by omega)
theorem zKq : ∀ (n : Nat) {i d : Nat} {acc ks : List Tree} {i' d' : Nat}, zC3 ts en n i d acc = .ok ks i' d' → i < i' ∧ i' ≤ ts.length
 | 0, i, d, acc, ks, i', d', h => by cases h
 | n + 1, i, d, acc, ks, i', d', h => by
  unfold zC3 at h
  split at h
  ·rename_i hs
   have := is_lt hs
   injection h; omega
  ·obtain ⟨_, _, _, h1, h⟩ := PR.bind_eq h
   obtain ⟨_, _, _, h2, h⟩ := PR.bind_eq h
   have := zHl h1; have := zA4 h2; have := zKq n h; omega
theorem structS_in {n i d : Nat} (h : ts.length - i + 1 ≤ n) : zD1 ts en n i d ≠ .out := by
 unfold zD1
 refine zAv zGp fun _ i1 _ h1 => zAv zBk fun _ i2 _ h2 => zAv zBk fun _ i3 _ h3 => zAv (zKr n ?_) fun _ _ _ _ => by simp
 have := zEb h1; have := zA4 h2; have := zA4 h3; omega
theorem structS_on {n i d i' d' : Nat} {t : Tree} (h : zD1 ts en n i d = .ok t i' d') : i < i' ∧ i' ≤ ts.length := by
 unfold zD1 at h
 obtain ⟨_, _, _, h1, h⟩ := PR.bind_eq h
 obtain ⟨_, _, _, h2, h⟩ := PR.bind_eq h
 obtain ⟨_, _, _, h3, h⟩ := PR.bind_eq h
 obtain ⟨_, _, _, h4, h⟩ := PR.bind_eq h
 have := zEb h1; have := zA4 h2; have := zA4 h3; have := zKq n h4
 injection h; omega
theorem zH5 : ∀ (n : Nat) {i d : Nat} {acc : List Tree}, ts.length - i + 1 ≤ n → zCe ts en n i d acc ≠ .out
 | 0, i, d, acc, h => by omega
 | n + 1, i, d, acc, h => by
  unfold zCe
  split
  ·simp
  ·refine zAv zLf fun _ i1 _ h1 => ?_
   have := zHl h1
   split
   ·rename_i hs
    have := is_lt hs
    exact zH5 n (by omega)
   ·refine zAv zBk fun _ i2 _ h2 => ?_
    have h3 := zGx h2
    have := is_lt h3.1
    split
    ·exact zEf
    ·exact zH5 n (by omega)
theorem zGs : ∀ (n : Nat) {i d : Nat} {acc ks : List Tree} {i' d' : Nat}, zCe ts en n i d acc = .ok ks i' d' → i ≤ i' ∧ i' < ts.length
 | 0, i, d, acc, ks, i', d', h => by cases h
 | n + 1, i, d, acc, ks, i', d', h => by
  unfold zCe at h
  split at h
  ·rename_i hs
   have := is_lt hs
   injection h; omega
  ·obtain ⟨_, _, _, h1, h⟩ := PR.bind_eq h
   have := zHl h1
   split at h
   ·have := zGs n h; omega
   ·obtain ⟨_, _, _, h2, h⟩ := PR.bind_eq h
    have := zA4 h2
    split at h
    ·cases h
    ·have := zGs n h; omega
theorem changeS_in {n i d : Nat} (h : 10 * (ts.length - i) + 6 ≤ n) : zC4 ts en n i d ≠ .out := by
 unfold zC4
 refine zAv ((zJp n).post (by omega)) fun l i1 d1 h1 => ?_
 have := (zFc n).post h1
 have hE : ∀ (k : Tree → Tree), (zA9 ts en [61] i1 d1).bind (fun _ i d => (exprS ts en n 1 i d).bind fun e i d => .ok (k e) i d) ≠ .out := fun k =>
  zAv zBk fun _ i2 _ h2 => zAv ((zJp n).expr (by have := zA4 h2; omega)) fun _ _ _ _ => by simp
 split
 ·exact zEf
 split
 ·simp
 split
 ·exact hE _
 split
 ·exact hE _
 ·exact zEf
theorem changeS_on {n i d i' d' : Nat} {t : Tree} (h : zC4 ts en n i d = .ok t i' d') : i < i' ∧ i' ≤ ts.length := by
 unfold zC4 at h
 obtain ⟨l, i1, d1, h1, h⟩ := PR.bind_eq h
 have := (zFc n).post h1
 split at h
 ·cases h
 split at h
 ·injection h; omega
 split at h
 ·obtain ⟨_, _, _, h2, h⟩ := PR.bind_eq h
  obtain ⟨_, _, _, h3, h⟩ := PR.bind_eq h
  have := zA4 h2; have := (zFc n).expr h3
  injection h; omega
 split at h
 ·obtain ⟨_, _, _, h2, h⟩ := PR.bind_eq h
  obtain ⟨_, _, _, h3, h⟩ := PR.bind_eq h
  have := zA4 h2; have := (zFc n).expr h3
  injection h; omega
 ·cases h
theorem simpleS_in {n i d : Nat} (h : 10 * (ts.length - i) + 6 ≤ n) : zDc ts en n i d ≠ .out := by
 unfold zDc
 split
 ·exact zAv ((zJp n).brack (by omega)) fun _ _ _ _ => by simp
 split
 ·split
  ·simp
  ·exact zAv ((zJp n).expr (by omega)) fun _ _ _ _ => by simp
 split
 ·exact zAv ((zJp n).expr (by omega)) fun _ _ _ _ => by simp
 ·exact changeS_in h
theorem simpleS_on {n i d i' d' : Nat} {t : Tree} (h : zDc ts en n i d = .ok t i' d') : i < i' ∧ i' ≤ ts.length := by
 unfold zDc at h
 split at h
 ·obtain ⟨_, _, _, h2, h⟩ := PR.bind_eq h
  have := (zFc n).brack h2
  injection h; omega
 split at h
 ·rename_i hs
  have := is_lt hs
  split at h
  ·injection h; omega
  ·obtain ⟨_, _, _, h2, h⟩ := PR.bind_eq h
   have := (zFc n).expr h2
   injection h; omega
 split at h
 ·obtain ⟨_, _, _, h2, h⟩ := PR.bind_eq h
  have := (zFc n).expr h2
  injection h; omega
 ·exact changeS_on h
structure SG (ts : List Tok) (en : Nat) (n : Nat) : Prop where
 stmt : ∀ {i d t i' d'}, stmtS ts en n i d = .ok t i' d' → i < i' ∧ i' ≤ ts.length
 branch : ∀ {i d t i' d'}, zBr ts en n i d = .ok t i' d' → i < i' ∧ i' ≤ ts.length
 block : ∀ {i d t i' d'}, zBw ts en n i d = .ok t i' d' → i < i' ∧ i' ≤ ts.length
 stmts : ∀ {i d acc ks i' d'}, zCb ts en n i d acc = .ok ks i' d' → i < i' ∧ i' ≤ ts.length
theorem sg_all : ∀ n, SG ts en n := by
 intro n
 induction n with
 | zero => constructor <;> intros <;> simp_all [stmtS, zBr, zBw, zCb]
 | succ n IH =>
  constructor
  ·intro i d t i' d' h
   unfold stmtS at h
   split at h
   ·exact IH.branch h
   split at h
   ·obtain ⟨_, _, _, h2, h⟩ := PR.bind_eq h
    obtain ⟨_, _, _, h3, h⟩ := PR.bind_eq h
    have := (zFc n).expr h2; have := IH.block h3
    injection h; omega
   ·obtain ⟨_, _, _, h2, h⟩ := PR.bind_eq h
    obtain ⟨_, _, _, h3, h⟩ := PR.bind_eq h
    have := simpleS_on h2; have := zA4 h3
    injection h; omega
  ·intro i d t i' d' h
   unfold zBr at h
   obtain ⟨_, _, _, h1, h⟩ := PR.bind_eq h
   obtain ⟨_, _, _, h2, h⟩ := PR.bind_eq h
   obtain ⟨_, i3, _, h3, h⟩ := PR.bind_eq h
   have := zA4 h1; have := (zFc n).expr h2; have := IH.block h3
   split at h
   ·obtain ⟨_, i4, _, h4, h⟩ := PR.bind_eq h
    have : i3 + 1 < i4 ∧ i4 ≤ ts.length := by
     split at h4
     ·exact IH.branch h4
     ·exact IH.block h4
    injection h; omega
   ·injection h; omega
  ·intro i d t i' d' h
   unfold zBw at h
   split at h
   ·obtain ⟨_, d2, h, _⟩ := zDp h
    obtain ⟨ks, i1, d1, h1, h⟩ := PR.bind_eq h
    have := IH.stmts h1
    injection h; omega
   ·cases h
  ·intro i d acc ks i' d' h
   unfold zCb at h
   split at h
   ·rename_i hs
    have := is_lt hs
    injection h; omega
   ·obtain ⟨_, _, _, h2, h⟩ := PR.bind_eq h
    have := IH.stmt h2; have := IH.stmts h; omega
structure SF (ts : List Tok) (en : Nat) (n : Nat) : Prop where
 stmt : ∀ {i d}, 10 * (ts.length - i) + 8 ≤ n → stmtS ts en n i d ≠ .out
 branch : ∀ {i d}, 10 * (ts.length - i) + 7 ≤ n → zBr ts en n i d ≠ .out
 block : ∀ {i d}, 10 * (ts.length - i) + 1 ≤ n → zBw ts en n i d ≠ .out
 stmts : ∀ {i d acc}, 10 * (ts.length - i) + 9 ≤ n → zCb ts en n i d acc ≠ .out
theorem sf_all : ∀ n, SF ts en n := by
 intro n
 induction n with
 | zero => constructor <;> intros <;> omega
 | succ n IH =>
  constructor
  ·intro i d h
   unfold stmtS
   split
   ·exact IH.branch (by omega)
   split
   ·exact zAv ((zJp n).expr (by omega)) fun _ i1 _ h1 => zAv (IH.block (by have := (zFc n).expr h1; omega)) fun _ _ _ _ => by simp
   ·exact zAv (simpleS_in (by omega)) fun _ i1 _ h1 => zAv zBk fun _ _ _ _ => by simp
  ·intro i d h
   unfold zBr
   refine zAv zBk fun _ i1 _ h1 => ?_
   have := zA4 h1
   refine zAv ((zJp n).expr (by omega)) fun _ i2 _ h2 => ?_
   have := (zFc n).expr h2
   refine zAv (IH.block (by omega)) fun _ i3 _ h3 => ?_
   have := (sg_all n).block h3
   split
   ·rename_i hs
    have := is_lt hs
    refine zAv ?_ fun _ _ _ _ => by simp
    split
    ·exact IH.branch (by omega)
    ·exact IH.block (by omega)
   ·simp
  ·intro i d h
   unfold zBw
   split
   ·rename_i hs
    have := is_lt hs
    exact zGz (zAv (IH.stmts (by omega)) fun _ _ _ _ => by simp)
   ·exact zEf
  ·intro i d acc h
   unfold zCb
   split
   ·simp
   ·rename_i hs
    exact zAv (IH.stmt (by omega)) fun _ i1 _ h1 => IH.stmts (by have := (sg_all n).stmt h1; omega)
theorem funcS_in {n i d : Nat} (h : 10 * (ts.length - i) + 10 ≤ n) : funcS ts en n i d ≠ .out := by
 unfold funcS
 refine zAv zGp fun _ i1 _ h1 => zAv zBk fun _ i2 _ h2 => ?_
 have := zEb h1; have := zA4 h2
 refine zAv (zH5 n (by omega)) fun _ i3 _ h3 => zAv zBk fun _ i4 _ h4 => ?_
 have := zGs n h3; have := zA4 h4
 refine zAv ?_ fun _ i5 _ h5 => zAv ((sf_all n).block ?_) fun _ _ _ _ => by simp
 ·split
  ·simp
  ·exact typS_in
 ·split at h5
  ·injection h5; omega
  ·have := typS_on h5; omega
theorem funcS_on {n i d i' d' : Nat} {t : Tree} (h : funcS ts en n i d = .ok t i' d') : i < i' ∧ i' ≤ ts.length := by
 unfold funcS at h
 obtain ⟨_, i1, _, h1, h⟩ := PR.bind_eq h
 obtain ⟨_, i2, _, h2, h⟩ := PR.bind_eq h
 obtain ⟨_, i3, _, h3, h⟩ := PR.bind_eq h
 obtain ⟨_, i4, _, h4, h⟩ := PR.bind_eq h
 obtain ⟨_, i5, _, h5, h⟩ := PR.bind_eq h
 obtain ⟨_, i6, _, h6, h⟩ := PR.bind_eq h
 have := zEb h1; have := zA4 h2; have := zGs n h3; have := zA4 h4; have := (sg_all n).block h6
 have : i4 ≤ i5 := by
  split at h5
  ·injection h5; omega
  ·have := typS_on h5; omega
 injection h; omega
theorem declS_in {n i d : Nat} (h : 10 * (ts.length - i) + 10 ≤ n) : declS ts en n i d ≠ .out := by
 unfold declS
 split
 ·exact structS_in (by omega)
 split
 ·exact funcS_in (by omega)
 split
 ·exact zAv zLf fun _ _ _ _ => zAv zBk fun _ _ _ _ => by simp
 ·exact zEf
theorem declS_on {n i d i' d' : Nat} {t : Tree} (h : declS ts en n i d = .ok t i' d') : i < i' ∧ i' ≤ ts.length := by
 unfold declS at h
 split at h
 ·have := structS_on h; omega
 split at h
 ·have := funcS_on h; omega
 split at h
 ·obtain ⟨_, i1, _, h1, h⟩ := PR.bind_eq h
  obtain ⟨_, i2, _, h2, h⟩ := PR.bind_eq h
  have := zHl h1; have := zA4 h2
  injection h; omega
 ·cases h
theorem progL_in {m : Nat} (hm : 10 * ts.length + 10 ≤ m) : ∀ (k : Nat) {i d : Nat} {acc : List Tree}, ts.length - i + 1 ≤ k → progL ts en k m i d acc ≠ .out
 | 0, i, d, acc, h => by omega
 | k + 1, i, d, acc, h => by
  unfold progL
  split
  ·exact zAv (declS_in (by omega)) fun _ i1 _ h1 => progL_in hm k (by have := declS_on h1; omega)
  ·simp
end
inductive FineT (en : Nat) : Tree → Prop
 | mk {op : Nat} {name typ : Str} {n : Int} {pos : Nat} {kids : List Tree} : op ≠ 0 → pos ≤ en → (∀ k, k ∈ kids → FineT en k) → FineT en (.mk op name typ n pos kids)
section
variable {ts : List Tok} {en : Nat}
theorem FineT.pos {t : Tree} (h : FineT en t) : t.pos ≤ en := by cases h; assumption
theorem FineT.kids {t : Tree} (h : FineT en t) : ∀ k ∈ t.kids, FineT en k := by cases h; assumption
structure StF (ts : List Tok) (en : Nat) (n : Nat) : Prop where
 stmt : ∀ {i d t i' d'}, stmtS ts en n i d = .ok t i' d' → FineT en t
 branch : ∀ {i d t i' d'}, zBr ts en n i d = .ok t i' d' → FineT en t
 block : ∀ {i d t i' d'}, zBw ts en n i d = .ok t i' d' → FineT en t
 stmts : ∀ {i d acc ks i' d'}, zCb ts en n i d acc = .ok ks i' d' → (∀ k ∈ acc, FineT en k) → ∀ k ∈ ks, FineT en k
end
end Go.Pa
namespace Go.Pa
open Go.Ev
mutual
def mapT (φ : Nat → Nat) : Tree → Tree
 | .mk op name typ n pos kids => .mk op name typ n (φ pos) (mapTs φ kids)
def mapTs (φ : Nat → Nat) : List Tree → List Tree
 | [] => []
 | k :: ks => mapT φ k :: mapTs φ ks
end
theorem mapTs_app {φ : Nat → Nat} : ∀ {a b : List Tree}, mapTs φ (a ++ b) = mapTs φ a ++ mapTs φ b
 | [], _ => rfl
 | x :: a, b => by show mapT φ x :: mapTs φ (a ++ b) = _; rw [mapTs_app]; rfl
theorem zFe {φ : Nat → Nat} {a : List Tree} {t : Tree} : mapTs φ (a ++ [t]) = mapTs φ a ++ [mapT φ t] := mapTs_app
def PR.mv {α β : Type} (g : α → β) (φ : Nat → Nat) (o : Nat) : PR α → PR β
 | .ok a i d => .ok (g a) (i + o) d
 | .err p e => .err (φ p) e
 | .out => .out
theorem zAs {α β γ δ : Type} {g : α → γ} {g' : β → δ} {φ : Nat → Nat} {o : Nat} {x : PR α} {k : α → Nat → Nat → PR β} {x' : PR γ} {k' : γ → Nat → Nat → PR δ} (hx : x' = x.mv g φ o) (hk : ∀ a i d, k' (g a) (i + o) d = (k a i d).mv g' φ o) : x'.bind k' = (x.bind k).mv g' φ o := by
 subst hx
 cases x with
 | ok a i d => exact hk a i d
 | err p e => rfl
 | out => rfl
theorem zBg {α β : Type} {g : α → β} {φ : Nat → Nat} {o : Nat} {c : Prop} [Decidable c] {a b : PR α} {a' b' : PR β} (ha : a' = a.mv g φ o) (hb : b' = b.mv g φ o) : (if c then a' else b') = (if c then a else b : PR α).mv g φ o := by
 split <;> assumption
structure Same (ts ts' : List Tok) (en en' o : Nat) (φ : Nat → Nat) : Prop where
 kind : ∀ j, (now ts' en' (j + o)).kind = (now ts en j).kind
 text : ∀ j, (now ts' en' (j + o)).text = (now ts en j).text
 pos : ∀ j, (now ts' en' (j + o)).pos = φ (now ts en j).pos
 lt : ∀ j, j + o < ts'.length ↔ j < ts.length
def mapK (φ : Nat → Nat) (t : Tok) : Tok := ⟨t.kind, t.text, φ t.pos⟩
section
variable {ts ts' : List Tok} {en en' o : Nat} {φ : Nat → Nat} (S : Same ts ts' en en' o φ)
include S
theorem Same.now_eq (j : Nat) : now ts' en' (j + o) = mapK φ (now ts en j) := by
 have h1 := S.kind j; have h2 := S.text j; have h3 := S.pos j
 unfold mapK
 cases h : now ts' en' (j + o) with
 | mk k t p => rw [h] at h1 h2 h3; simp only at h1 h2 h3; rw [h1, h2, h3]
theorem Same.isT_eq (s : Str) (j : Nat) : isT ts' en' s (j + o) = isT ts en s j := by unfold isT; rw [S.kind, S.text]
theorem Same.lev (j : Nat) : zB2 ts' en' (j + o) = zB2 ts en j := by unfold zB2; rw [S.kind, S.text]
theorem zEu {α β : Type} {g : α → β} {j : Nat} : (failP ts' en' (j + o) : PR β) = (failP ts en j : PR α).mv g φ o := by unfold failP PR.mv; rw [S.pos]
theorem zBp {s : Str} {i d : Nat} : zA9 ts' en' s (i + o) d = (zA9 ts en s i d).mv φ φ o := by
 unfold zA9
 rw [S.isT_eq]
 refine zBg ?_ (zEu S)
 show PR.ok _ _ _ = PR.ok _ _ _
 rw [S.pos, show i + o + 1 = i + 1 + o by omega]
theorem zH9 {i d : Nat} : wordS ts' en' (i + o) d = (wordS ts en i d).mv (mapK φ) φ o := by
 unfold wordS
 rw [S.kind]
 refine zBg ?_ (zEu S)
 show PR.ok _ _ _ = PR.ok _ _ _
 rw [S.now_eq, show i + o + 1 = i + 1 + o by omega]
theorem zHw {α β : Type} {g : α → β} {i d : Nat} {k : Nat → Nat → PR α} {k' : Nat → Nat → PR β} (h : ∀ i d, k' (i + o) d = (k i d).mv g φ o) : zCn ts' en' (i + o) d k' = (zCn ts en i d k).mv g φ o := by
 unfold zCn
 refine zBg ?_ (zAs (h _ _) fun _ _ _ => rfl)
 show PR.err _ _ = PR.err _ _
 rw [S.pos]
theorem eq_typ {i d : Nat} : typS ts' en' (i + o) d = (typS ts en i d).mv id φ o := by
 unfold typS
 rw [S.isT_eq, S.isT_eq, S.isT_eq, S.text, show i + o + 1 = i + 1 + o by omega]
 refine zBg (zAs (zH9 S) fun _ _ _ => rfl) (zBg rfl (zEu S))
theorem eq_part {op i d : Nat} : partS ts' en' op (i + o) d = (partS ts en op i d).mv (mapT φ) φ o := zAs (zH9 S) fun _ _ _ => zAs (eq_typ S) fun _ _ _ => rfl
theorem eq_key {i d : Nat} : keyS ts' en' (i + o) d = (keyS ts en i d).mv (mapT φ) φ o := by
 unfold keyS
 simp only
 rw [S.text, S.pos, show i + o + 1 = i + 1 + o by omega]
 refine zBg rfl (zBg rfl (zBg ?_ (zBg ?_ rfl)))
 ·exact zAs (zBp S) fun _ _ _ => zAs (zH9 S) fun _ _ _ => zAs (zBp S) fun _ _ _ => rfl
 ·exact zAs (zBp S) fun _ _ _ => zAs (zBp S) fun _ _ _ => rfl
structure EQ (ts ts' : List Tok) (en en' o : Nat) (φ : Nat → Nat) (n : Nat) : Prop where
 expr : ∀ {least i d}, exprS ts' en' n least (i + o) d = (exprS ts en n least i d).mv (mapT φ) φ o
 exprl : ∀ {least i d l}, exprL ts' en' n least (i + o) d (mapT φ l) = (exprL ts en n least i d l).mv (mapT φ) φ o
 unary : ∀ {i d}, zBy ts' en' n (i + o) d = (zBy ts en n i d).mv (mapT φ) φ o
 post : ∀ {i d}, postS ts' en' n (i + o) d = (postS ts en n i d).mv (mapT φ) φ o
 postl : ∀ {i d x}, postL ts' en' n (i + o) d (mapT φ x) = (postL ts en n i d x).mv (mapT φ) φ o
 prim : ∀ {i d}, primS ts' en' n (i + o) d = (primS ts en n i d).mv (mapT φ) φ o
 call : ∀ {j i d}, callS ts' en' n (mapK φ j) (i + o) d = (callS ts en n j i d).mv (mapT φ) φ o
 args : ∀ {i d acc}, argsL ts' en' n (i + o) d (mapTs φ acc) = (argsL ts en n i d acc).mv (mapTs φ) φ o
 brack : ∀ {i d}, zA5 ts' en' n (i + o) d = (zA5 ts en n i d).mv (mapT φ) φ o
theorem eq_all : ∀ n, EQ ts ts' en en' o φ n := by
 intro n
 have add1 : ∀ i, i + o + 1 = i + 1 + o := fun i => by omega
 induction n with
 | zero => constructor <;> intros <;> simp only [exprS, exprL, zBy, postS, postL, primS, callS, argsL, zA5, PR.mv]
 | succ n IH =>
  constructor <;> intros
  ·unfold exprS; exact zAs IH.unary fun _ _ _ => IH.exprl
  ·unfold exprL
   rw [S.lev, add1, S.pos]
   refine zBg rfl (zAs IH.expr fun _ _ _ => ?_)
   exact IH.exprl (l := .mk _ _ _ _ _ [_, _])
  ·unfold zBy
   rw [S.isT_eq, S.isT_eq]
   refine zBg (zHw S fun i d => ?_) IH.post
   rw [add1, S.text, S.pos]
   exact zAs IH.unary fun _ _ _ => rfl
  ·unfold postS; exact zAs IH.prim fun _ _ _ => IH.postl
  ·unfold postL
   rw [S.isT_eq, add1]
   refine zBg (zAs (zH9 S) fun _ _ _ => ?_) rfl
   exact IH.postl (x := .mk _ _ _ _ _ [_])
  ·unfold primS
   rw [S.kind, S.text, S.pos, add1, S.isT_eq, S.isT_eq, S.isT_eq, S.isT_eq, S.isT_eq, S.isT_eq, S.isT_eq, S.now_eq]
   refine zBg rfl (zBg (zBg IH.call rfl) (zBg IH.brack (zBg (eq_key S) (zEu S))))
  ·unfold callS
   refine zHw S fun i d => ?_
   rw [add1]
   refine zAs (IH.args (acc := [])) fun _ i _ => ?_
   show PR.ok _ _ _ = PR.ok _ _ _
   rw [add1]; rfl
  ·rename_i i d acc
   unfold argsL
   rw [S.isT_eq]
   refine zBg rfl (zAs IH.expr fun _ _ _ => ?_)
   rw [S.isT_eq, ← zFe]
   refine zBg IH.args (zAs (zBp S) fun _ _ _ => ?_)
   rw [S.isT_eq]
   exact zBg (zEu S) IH.args
  ·unfold zA5
   rw [S.isT_eq]
   refine zBg (zHw S fun i d => ?_) (zEu S)
   rw [add1]
   exact zAs IH.expr fun _ _ _ => zAs (zBp S) fun _ _ _ => rfl
theorem mapT_pos {t : Tree} : (mapT φ t).pos = φ t.pos := by cases t; rfl
omit S in
theorem mapT_op {t : Tree} : (mapT φ t).op = t.op := by cases t; rfl
omit S in
theorem mapT_name {t : Tree} : (mapT φ t).name = t.name := by cases t; rfl
omit S in
theorem mapT_kids {t : Tree} : (mapT φ t).kids = mapTs φ t.kids := by cases t; rfl
omit S in
theorem mv_bind' {α β γ δ : Type} {g : α → γ} {g' : β → δ} {x : PR α} {k : α → Nat → Nat → PR β} {x' : PR γ} {k' : γ → Nat → Nat → PR δ} (hx : x' = x.mv g φ o) (hk : ∀ a i d, x = .ok a i d → k' (g a) (i + o) d = (k a i d).mv g' φ o) : x'.bind k' = (x.bind k).mv g' φ o := by
 subst hx
 cases x with
 | ok a i d => exact hk a i d rfl
 | err p e => rfl
 | out => rfl
theorem eq_fields : ∀ (n : Nat) {i d : Nat} {acc : List Tree}, zC3 ts' en' n (i + o) d (mapTs φ acc) = (zC3 ts en n i d acc).mv (mapTs φ) φ o
 | 0, _, _, _ => rfl
 | n + 1, i, d, acc => by
  unfold zC3
  rw [S.isT_eq, show i + o + 1 = i + 1 + o by omega]
  refine zBg rfl (zAs (eq_part S) fun _ _ _ => zAs (zBp S) fun _ _ _ => ?_)
  rw [← zFe]
  exact eq_fields n
theorem eq_struct {n i d : Nat} : zD1 ts' en' n (i + o) d = (zD1 ts en n i d).mv (mapT φ) φ o := by
 unfold zD1
 exact zAs (zH9 S) fun _ _ _ => zAs (zBp S) fun _ _ _ => zAs (zBp S) fun _ _ _ => zAs (eq_fields S n (acc := [])) fun _ _ _ => rfl
theorem zJx : ∀ (n : Nat) {i d : Nat} {acc : List Tree}, zCe ts' en' n (i + o) d (mapTs φ acc) = (zCe ts en n i d acc).mv (mapTs φ) φ o
 | 0, _, _, _ => rfl
 | n + 1, i, d, acc => by
  unfold zCe
  rw [S.isT_eq]
  refine zBg rfl (zAs (eq_part S) fun _ i _ => ?_)
  rw [S.isT_eq, ← zFe]
  refine zBg (zJx n) (zAs (zBp S) fun _ _ _ => ?_)
  rw [S.isT_eq]
  exact zBg (zEu S) (zJx n)
theorem Same.back {i : Nat} (h : 0 < i) : (now ts' en' (i + o - 1)).text = (now ts en (i - 1)).text := by rw [show i + o - 1 = i - 1 + o by omega, S.text]
theorem eq_change {n i d : Nat} : zC4 ts' en' n (i + o) d = (zC4 ts en n i d).mv (mapT φ) φ o := by
 have E := eq_all S n
 unfold zC4
 refine mv_bind' E.post fun l i1 d1 h1 => ?_
 have h2 := (zFc n).post h1
 have h3 := field_kid h1
 rw [S.isT_eq, S.isT_eq, show i1 + o - 1 = i1 - 1 + o by omega, S.text, mapT_op, mapT_pos S, mapT_name, mapT_kids]
 refine zBg (zEu S) (zBg rfl ?_)
 by_cases h18 : l.op = 18
 ·rw [if_pos h18, if_pos h18]
  exact zAs (zBp S) fun _ _ _ => zAs E.expr fun _ _ _ => rfl
 rw [if_neg h18, if_neg h18]
 by_cases h20 : l.op = 20
 ·rw [if_pos h20, if_pos h20]
  obtain ⟨k, r, hk⟩ := h3 h20
  rw [hk]
  exact zAs (zBp S) fun _ _ _ => zAs E.expr fun _ _ _ => rfl
 ·rw [if_neg h20, if_neg h20]
  exact zEu S
theorem eq_simple {n i d : Nat} : zDc ts' en' n (i + o) d = (zDc ts en n i d).mv (mapT φ) φ o := by
 have E := eq_all S n
 unfold zDc
 rw [S.isT_eq, S.isT_eq, S.kind, S.text, S.pos, show i + o + 1 = i + 1 + o by omega, show i + o + 2 = i + 2 + o by omega, S.isT_eq, S.kind, S.text]
 exact zBg (zAs E.brack fun _ _ _ => rfl) (zBg (zBg rfl (zAs E.expr fun _ _ _ => rfl)) (zBg (zAs E.expr fun _ _ _ => rfl) (eq_change S)))
structure EQS (ts ts' : List Tok) (en en' o : Nat) (φ : Nat → Nat) (n : Nat) : Prop where
 stmt : ∀ {i d}, stmtS ts' en' n (i + o) d = (stmtS ts en n i d).mv (mapT φ) φ o
 branch : ∀ {i d}, zBr ts' en' n (i + o) d = (zBr ts en n i d).mv (mapT φ) φ o
 block : ∀ {i d}, zBw ts' en' n (i + o) d = (zBw ts en n i d).mv (mapT φ) φ o
 stmts : ∀ {i d acc}, zCb ts' en' n (i + o) d (mapTs φ acc) = (zCb ts en n i d acc).mv (mapTs φ) φ o
theorem eqs_all : ∀ n, EQS ts ts' en en' o φ n := by
 intro n
 have add1 : ∀ i, i + o + 1 = i + 1 + o := fun i => by omega
 induction n with
 | zero => constructor <;> intros <;> simp only [stmtS, zBr, zBw, zCb, PR.mv]
 | succ n IH =>
  have E := eq_all S n
  constructor <;> intros
  ·unfold stmtS
   rw [S.isT_eq, S.isT_eq, S.pos, add1]
   refine zBg IH.branch (zBg (zAs E.expr fun _ _ _ => zAs IH.block fun _ _ _ => rfl) (zAs (eq_simple S) fun _ _ _ => zAs (zBp S) fun _ _ _ => rfl))
  ·unfold zBr
   refine zAs (zBp S) fun _ _ _ => zAs E.expr fun _ _ _ => zAs IH.block fun _ i _ => ?_
   rw [S.isT_eq, add1, S.isT_eq]
   exact zBg (zAs (zBg IH.branch IH.block) fun _ _ _ => rfl) rfl
  ·unfold zBw
   rw [S.isT_eq]
   refine zBg (zHw S fun i d => ?_) (zEu S)
   rw [add1, S.pos]
   exact zAs (IH.stmts (acc := [])) fun _ _ _ => rfl
  ·unfold zCb
   rw [S.isT_eq, add1]
   refine zBg rfl (zAs IH.stmt fun _ _ _ => ?_)
   rw [← zFe]
   exact IH.stmts
theorem eq_decl {n i d : Nat} : declS ts' en' n (i + o) d = (declS ts en n i d).mv (mapT φ) φ o := by
 unfold declS
 rw [S.isT_eq, S.isT_eq, S.isT_eq, show i + o + 1 = i + 1 + o by omega]
 refine zBg (eq_struct S) (zBg ?_ (zBg (zAs (eq_part S) fun _ _ _ => zAs (zBp S) fun _ _ _ => rfl) (zEu S)))
 unfold funcS
 refine zAs (zH9 S) fun _ _ _ => zAs (zBp S) fun _ _ _ => zAs (zJx S n (acc := [])) fun _ _ _ => zAs (zBp S) fun _ i _ => ?_
 rw [S.isT_eq]
 refine zAs (zBg (g := id) rfl (eq_typ S)) fun _ _ _ => zAs (eqs_all S n).block fun _ _ _ => ?_
 show PR.ok _ _ _ = PR.ok (Tree.mk _ _ _ _ _ (mapTs φ (_ ++ [_]))) _ _
 rw [zFe]; rfl
theorem eq_prog {m : Nat} : ∀ (k : Nat) {i d : Nat} {acc : List Tree}, progL ts' en' k m (i + o) d (mapTs φ acc) = (progL ts en k m i d acc).mv (mapTs φ) φ o
 | 0, _, _, _ => rfl
 | k + 1, i, d, acc => by
  unfold progL
  by_cases h : i < ts.length
  ·rw [if_pos h, if_pos ((S.lt i).mpr h)]
   refine zAs (eq_decl S) fun _ _ _ => ?_
   rw [← zFe]
   exact eq_prog k
  ·rw [if_neg h, if_neg (fun e => h ((S.lt i).mp e))]
   rfl
end
end Go.Pa
namespace Go.Pa
open Go.Ev
section
variable {ts : List Tok} {en : Nat}
def EP {α : Type} (ts : List Tok) (en : Nat) (x : PR α) : Prop := ∀ p e, x = .err p e → ∃ i, p = (now ts en i).pos
theorem ep_ok {α : Type} {a : α} {i d : Nat} : EP ts en (PR.ok a i d) := fun _ _ h => by cases h
theorem zKt {α : Type} : EP ts en (PR.out : PR α) := fun _ _ h => by cases h
theorem zD6 {α : Type} {i : Nat} : EP ts en (failP ts en i : PR α) := fun _ _ h => by injection h with h _; exact ⟨i, h.symm⟩
theorem zD7 {α β : Type} {x : PR α} {k : α → Nat → Nat → PR β} (h : EP ts en x) (h' : ∀ a i d, EP ts en (k a i d)) : EP ts en (x.bind k) := by
 cases x with
 | ok a i d => exact h' a i d
 | err p e => intro p' e' he; injection he with h1 h2; subst h1; exact h p e rfl
 | out => exact zKt
theorem ep_deeper {α : Type} {i d : Nat} {k : Nat → Nat → PR α} (h : ∀ i d, EP ts en (k i d)) : EP ts en (zCn ts en i d k) := by
 unfold zCn
 split
 ·intro _ _ h; injection h with h _; exact ⟨i, h.symm⟩
 ·exact zD7 (h _ _) fun _ _ _ => ep_ok
theorem zCw {s : Str} {i d : Nat} : EP ts en (zA9 ts en s i d) := by unfold zA9; split; exact ep_ok; exact zD6
theorem zE9 {i d : Nat} : EP ts en (wordS ts en i d) := by unfold wordS; split; exact ep_ok; exact zD6
structure EE_ (ts : List Tok) (en n : Nat) : Prop where
 expr : ∀ {least i d}, EP ts en (exprS ts en n least i d)
 exprl : ∀ {least i d l}, EP ts en (exprL ts en n least i d l)
 unary : ∀ {i d}, EP ts en (zBy ts en n i d)
 post : ∀ {i d}, EP ts en (postS ts en n i d)
 postl : ∀ {i d x}, EP ts en (postL ts en n i d x)
 prim : ∀ {i d}, EP ts en (primS ts en n i d)
 call : ∀ {j i d}, EP ts en (callS ts en n j i d)
 args : ∀ {i d acc}, EP ts en (argsL ts en n i d acc)
 brack : ∀ {i d}, EP ts en (zA5 ts en n i d)
theorem ep_key {i d : Nat} : EP ts en (keyS ts en i d) := by
 unfold keyS
 simp only
 repeat' first | split | exact ep_ok | exact zD6 | exact zCw | exact zE9 | (refine zD7 ?_ fun _ _ _ => ?_)
theorem ee_all : ∀ n, EE_ ts en n := by
 intro n
 induction n with
 | zero => constructor <;> intros <;> simp only [exprS, exprL, zBy, postS, postL, primS, callS, argsL, zA5] <;> exact zKt
 | succ n IH =>
  constructor <;> intros <;> simp only [exprS, exprL, zBy, postS, postL, primS, callS, argsL, zA5] <;>
   repeat' first | split | exact ep_ok | exact zD6 | exact zCw | exact zE9 | exact ep_key | exact IH.expr | exact IH.exprl | exact IH.unary | exact IH.post | exact IH.postl | exact IH.prim | exact IH.call | exact IH.args | exact IH.brack | (refine ep_deeper fun _ _ => ?_) | (refine zD7 ?_ fun _ _ _ => ?_)
theorem ep_typ {i d : Nat} : EP ts en (typS ts en i d) := by
 unfold typS
 repeat' first | split | exact ep_ok | exact zD6 | exact zCw | exact zE9 | (refine zD7 ?_ fun _ _ _ => ?_)
theorem ep_part {op i d : Nat} : EP ts en (partS ts en op i d) := by
 unfold partS
 repeat' first | split | exact ep_ok | exact zD6 | exact zCw | exact zE9 | exact ep_typ | (refine zD7 ?_ fun _ _ _ => ?_)
theorem ep_fields : ∀ (n : Nat) {i d : Nat} {acc : List Tree}, EP ts en (zC3 ts en n i d acc)
 | 0, _, _, _ => zKt
 | n + 1, i, d, acc => by
  unfold zC3
  repeat' first | split | exact ep_ok | exact zD6 | exact zCw | exact zE9 | exact ep_part | exact ep_fields n | (refine zD7 ?_ fun _ _ _ => ?_)
theorem ep_params : ∀ (n : Nat) {i d : Nat} {acc : List Tree}, EP ts en (zCe ts en n i d acc)
 | 0, _, _, _ => zKt
 | n + 1, i, d, acc => by
  unfold zCe
  repeat' first | split | exact ep_ok | exact zD6 | exact zCw | exact zE9 | exact ep_part | exact ep_params n | (refine zD7 ?_ fun _ _ _ => ?_)
theorem ep_change {n i d : Nat} : EP ts en (zC4 ts en n i d) := by
 have IH := ee_all (ts := ts) (en := en) n
 unfold zC4
 repeat' first | split | exact ep_ok | exact zD6 | exact zCw | exact zE9 | exact IH.expr | exact IH.post | (refine zD7 ?_ fun _ _ _ => ?_)
theorem ep_simple {n i d : Nat} : EP ts en (zDc ts en n i d) := by
 have IH := ee_all (ts := ts) (en := en) n
 unfold zDc
 repeat' first | split | exact ep_ok | exact zD6 | exact zCw | exact zE9 | exact ep_change | exact IH.expr | exact IH.brack | (refine zD7 ?_ fun _ _ _ => ?_)
structure ES_ (ts : List Tok) (en n : Nat) : Prop where
 stmt : ∀ {i d}, EP ts en (stmtS ts en n i d)
 branch : ∀ {i d}, EP ts en (zBr ts en n i d)
 block : ∀ {i d}, EP ts en (zBw ts en n i d)
 stmts : ∀ {i d acc}, EP ts en (zCb ts en n i d acc)
theorem es_all : ∀ n, ES_ ts en n := by
 intro n
 induction n with
 | zero => constructor <;> intros <;> simp only [stmtS, zBr, zBw, zCb] <;> exact zKt
 | succ n IH =>
  have E := ee_all (ts := ts) (en := en) n
  constructor <;> intros <;> simp only [stmtS, zBr, zBw, zCb] <;>
   repeat' first | split | exact ep_ok | exact zD6 | exact zCw | exact zE9 | exact ep_simple | exact E.expr | exact IH.stmt | exact IH.branch | exact IH.block | exact IH.stmts | (refine ep_deeper fun _ _ => ?_) | (refine zD7 ?_ fun _ _ _ => ?_)
theorem ep_decl {n i d : Nat} : EP ts en (declS ts en n i d) := by
 have IH := es_all (ts := ts) (en := en) n
 unfold declS zD1 funcS
 repeat' first | split | exact ep_ok | exact zD6 | exact zCw | exact zE9 | exact ep_part | exact ep_typ | exact ep_params n | exact ep_fields n | exact IH.block | (refine zD7 ?_ fun _ _ _ => ?_)
theorem ep_prog {m : Nat} : ∀ (k : Nat) {i d : Nat} {acc : List Tree}, EP ts en (progL ts en k m i d acc)
 | 0, _, _, _ => zKt
 | k + 1, i, d, acc => by
  unfold progL
  repeat' first | split | exact ep_ok | exact ep_decl | exact ep_prog k | (refine zD7 ?_ fun _ _ _ => ?_)
end
end Go.Pa
namespace Go.Pa
open Go.Ev
def zF2 : Nat → List Tok → List Tok
 | _, [] => []
 | j, t :: ts => ⟨t.kind, t.text, j⟩ :: zF2 (j + 1) ts
theorem zEo : ∀ {ts : List Tok} {j : Nat}, (zF2 j ts).length = ts.length
 | [], _ => rfl
 | t :: ts, j => by show (zF2 (j + 1) ts).length + 1 = _; rw [zEo]; rfl
theorem zKw : ∀ {ts : List Tok} {j i : Nat} (h : i < ts.length), (zF2 j ts)[i]'(by rw [zEo]; exact h) = ⟨ts[i].kind, ts[i].text, j + i⟩
 | t :: ts, j, 0, _ => rfl
 | t :: ts, j, i + 1, h => by
  have hi : i < ts.length := by simpa using h
  have := zKw (ts := ts) (j := j + 1) (i := i) hi
  show (zF2 (j + 1) ts)[i]'(by rw [zEo]; exact hi) = _
  rw [this]
  simp; omega
 | [], _, _, h => by cases h
theorem zH0 {ts : List Tok} {i : Nat} : now (zF2 0 ts) ts.length i = ⟨(now ts 0 i).kind, (now ts 0 i).text, min i ts.length⟩ := by
 rcases Nat.lt_or_ge i ts.length with h | h
 ·rw [zFz (by rw [zEo]; exact h), zFz h, zKw h, Nat.zero_add, Nat.min_eq_left (by omega)]
 ·rw [zCd (by rw [zEo]; omega), zCd (by omega), Nat.min_eq_right h]
theorem zKv {ts : List Tok} {en : Nat} : Same (zF2 0 ts) ts ts.length en 0 (fun j => (now ts en j).pos) := by
 have hk : ∀ j, (now ts en j).kind = (now ts 0 j).kind ∧ (now ts en j).text = (now ts 0 j).text := by
  intro j
  rcases Nat.lt_or_ge j ts.length with h | h
  ·rw [zFz h, zFz h]; exact ⟨rfl, rfl⟩
  ·rw [zCd (by omega), zCd (by omega)]; exact ⟨rfl, rfl⟩
 refine ⟨fun j => ?_, fun j => ?_, fun j => ?_, fun j => ?_⟩
 ·rw [Nat.add_zero, zH0]; exact (hk j).1
 ·rw [Nat.add_zero, zH0]; exact (hk j).2
 ·rw [Nat.add_zero, zH0]
  rcases Nat.lt_or_ge j ts.length with h | h
  ·rw [Nat.min_eq_left (by omega)]
  ·rw [Nat.min_eq_right h, zCd (show ¬ j < ts.length by omega)]
   show en = (now ts en ts.length).pos
   rw [zCd (show ¬ ts.length < ts.length by omega)]
 ·rw [Nat.add_zero, zEo]
def Words (ts ts' : List Tok) : Prop := ts.map (fun t => (t.kind, t.text)) = ts'.map (fun t => (t.kind, t.text))
theorem Words.canon {ts ts' : List Tok} (h : Words ts ts') : ∀ j, zF2 j ts = zF2 j ts' := by
 unfold Words at h
 induction ts generalizing ts' with
 | nil =>
  cases ts' with
  | nil => intro _; rfl
  | cons => cases h
 | cons t ts ih =>
  cases ts' with
  | nil => cases h
  | cons t' ts' =>
   simp only [List.map_cons, List.cons.injEq, Prod.mk.injEq] at h
   obtain ⟨⟨h1, h2⟩, h3⟩ := h
   intro j
   show Tok.mk t.kind t.text j :: zF2 (j + 1) ts = Tok.mk t'.kind t'.text j :: zF2 (j + 1) ts'
   rw [h1, h2, ih h3]
theorem Words.len {ts ts' : List Tok} (h : Words ts ts') : ts.length = ts'.length := by have := congrArg List.length h; simpa using this
theorem prog_words {ts ts' : List Tok} {en en' k m : Nat} (h : Words ts ts') : ∃ c : PR (List Tree), progL ts en k m 0 0 [] = c.mv (mapTs fun j => (now ts en j).pos) (fun j => (now ts en j).pos) 0 ∧ progL ts' en' k m 0 0 [] = c.mv (mapTs fun j => (now ts' en' j).pos) (fun j => (now ts' en' j).pos) 0 ∧
  ∀ p e, c = .err p e → p ≤ ts.length := by
 refine ⟨progL (zF2 0 ts) ts.length k m 0 0 [], ?_, ?_, fun p e hc => ?_⟩
 ·exact eq_prog (zKv (ts := ts) (en := en)) k (i := 0) (d := 0) (acc := [])
 ·rw [h.canon 0, h.len]
  exact eq_prog (zKv (ts := ts') (en := en')) k (i := 0) (d := 0) (acc := [])
 ·obtain ⟨i, rfl⟩ := ep_prog k p e hc
  rw [zH0]
  exact Nat.min_le_right _ _
end Go.Pa
namespace Go.Pa
open Go.Ev
def zAr (c : UInt8) : Bool := decide (c.toNat = 32) || decide (c.toNat = 9) || decide (c.toNat = 10) || decide (c.toNat = 13)
def zB7 (c : UInt8) : Bool := (decide (97 ≤ c.toNat) && decide (c.toNat ≤ 122)) || (decide (65 ≤ c.toNat) && decide (c.toNat ≤ 90)) || decide (c.toNat = 95)
def zBb (c : UInt8) : Bool := decide (48 ≤ c.toNat) && decide (c.toNat ≤ 57)
def zC2 (c : UInt8) : Bool := zB7 c || zBb c
def notNl (c : UInt8) : Bool := !decide (c.toNat = 10)
def aheadN (p : UInt8 → Bool) (s : Str) : Nat := (s.takeWhile p).length
theorem zCq {p : UInt8 → Bool} {s : Str} : aheadN p s ≤ s.length := (List.takeWhile_prefix p).length_le
def skipL : Nat → Str → Nat
 | 0, _ => 0
 | k + 1, s => if ([47, 47] : Str).isPrefixOf (s.drop (aheadN zAr s)) then aheadN zAr s + (aheadN notNl (s.drop (aheadN zAr s)) + skipL k ((s.drop (aheadN zAr s)).drop (aheadN notNl (s.drop (aheadN zAr s))))) else aheadN zAr s
def skipS (s : Str) : Nat := skipL (s.length + 1) s
theorem zE0 : ∀ (k : Nat) (s : Str), skipL k s ≤ s.length
 | 0, s => Nat.zero_le _
 | k + 1, s => by
  unfold skipL
  have h1 := zCq (p := zAr) (s := s)
  split
  ·have h2 := zCq (p := notNl) (s := s.drop (aheadN zAr s))
   have h3 := zE0 k ((s.drop (aheadN zAr s)).drop (aheadN notNl (s.drop (aheadN zAr s))))
   simp only [List.length_drop] at h2 h3
   omega
  ·exact h1
def lexKeys : List Str := [[116, 121, 112, 101], [115, 116, 114, 117, 99, 116], [102, 117, 110, 99], [118, 97, 114], [105, 102], [101, 108, 115, 101], [102, 111, 114], [114, 101, 116, 117, 114, 110], [112, 114, 105, 110, 116], [110, 101, 119], [110, 105, 108], [116, 114, 117, 101], [102, 97, 108, 115, 101], [105, 110, 116], [98, 111, 111, 108], [114, 101, 97, 100]]
def lexSigns : List Str := [[60, 60], [62, 62], [61, 61], [33, 61], [60, 61], [62, 61], [38, 38], [124, 124], [58, 61], [43], [45], [42], [47], [37], [38], [124], [94], [60], [62], [33], [61], [46], [44], [59], [40], [41], [123], [125]]
def wordT (s : Str) : Nat × Str × Nat := (if s.takeWhile zC2 ∈ lexKeys then 2 else 1, s.takeWhile zC2, if 12 < (s.takeWhile zC2).length then 4 else 0)
def numT (s : Str) : Nat × Str × Nat := (3, s.takeWhile zBb, match s.drop (aheadN zBb s) with | [] => (numP (s.takeWhile zBb)).2 | c :: _ => if zB7 c then 1 else (numP (s.takeWhile zBb)).2)
def signT (s : Str) : Nat × Str × Nat := match lexSigns.find? (·.isPrefixOf s) with | some x => (4, x, 0) | none => (0, [], 1)
def nextT (s : Str) : Nat × Str × Nat := match s with
 | [] => (0, [], 1)
 | c :: _ => if zB7 c then wordT s else if zBb c then numT s else signT s
inductive LR where
 | ok (ts : List Tok)
 | err (p e : Nat)
 | out
def scanL (s : Str) : Nat → Nat → List Tok → LR
 | 0, _, _ => .out
 | k + 1, at_, acc => if at_ < s.length then
     if (nextT (s.drop at_)).2.2 ≠ 0 then .err at_ (nextT (s.drop at_)).2.2
     else scanL s k (at_ + (nextT (s.drop at_)).2.1.length + skipS (s.drop (at_ + (nextT (s.drop at_)).2.1.length))) (acc ++ [⟨(nextT (s.drop at_)).1, (nextT (s.drop at_)).2.1, at_⟩])
  else .ok acc
def scanS (s : Str) : LR := if 4096 < s.length then .err 4096 4 else scanL s (s.length + 1) (skipS s) []
theorem zDa {p : UInt8 → Bool} {s : Str} : (s.takeWhile p).length ≤ s.length := (List.takeWhile_prefix p).length_le
theorem zCr {p : UInt8 → Bool} {c : UInt8} {s : Str} (h : p c = true) : 0 < ((c :: s).takeWhile p).length := by rw [List.takeWhile_cons, if_pos h]; simp
theorem zHn {s : Str} (h : (nextT s).2.2 = 0) : 0 < (nextT s).2.1.length ∧ (nextT s).2.1.length ≤ s.length ∧ (nextT s).2.1 <+: s ∧ ((nextT s).1 = 3 → s.length ≤ 1000000 → Digs (nextT s).2.1 ∧ (numP (nextT s).2.1).2 = 0) := by
 cases s with
 | nil => cases h
 | cons c s =>
  simp only [nextT] at h ⊢
  by_cases h1 : zB7 c = true
  ·rw [if_pos h1] at h ⊢
   have hn : zC2 c = true := by unfold zC2; rw [h1]; rfl
   refine ⟨zCr hn, zDa, List.takeWhile_prefix _, fun h3 => ?_⟩
   simp only [wordT] at h3
   split at h3 <;> cases h3
  ·rw [if_neg h1] at h ⊢
   by_cases h2 : zBb c = true
   ·rw [if_pos h2] at h ⊢
    refine ⟨zCr h2, zDa, List.takeWhile_prefix _, fun _ hl => ⟨⟨?_, ?_, ?_⟩, ?_⟩⟩
    ·exact List.ne_nil_of_length_pos (zCr h2)
    ·intro x hx
     have : zBb x = true := by
      have hall := List.all_takeWhile (p := zBb) (l := c :: s)
      rw [List.all_eq_true] at hall
      exact hall x hx
     simpa [zBb] using this
    ·have := zDa (p := zBb) (s := c :: s)
     show ((c :: s).takeWhile zBb).length ≤ _
     omega
    ·simp only [numT] at h ⊢
     split at h
     ·exact h
     ·split at h
      ·cases h
      ·exact h
   ·rw [if_neg h2] at h ⊢
    unfold signT at h ⊢
    cases hf : lexSigns.find? (·.isPrefixOf (c :: s)) with
    | none => rw [hf] at h; cases h
    | some x =>
     have hp := List.find?_some hf
     have hm := List.mem_of_find?_eq_some hf
     have hpre := List.isPrefixOf_iff_prefix.mp hp
     simp only
     refine ⟨?_, hpre.length_le, hpre, fun h3 => by cases h3⟩
     have hall : ∀ y ∈ lexSigns, 0 < y.length := by decide
     exact hall x hm
structure ScanOK (s : Str) (ts : List Tok) : Prop where
 len : ts.length ≤ s.length
 tok : ∀ t ∈ ts, t.pos < s.length ∧ t.text.length ≤ s.length ∧ (t.kind = 3 → s.length ≤ 1000000 → Digs t.text ∧ (numP t.text).2 = 0)
theorem scanL_ok {s : Str} : ∀ (k at_ : Nat) (acc ts : List Tok), scanL s k at_ acc = .ok ts → at_ ≤ s.length → acc.length ≤ at_ → (∀ t ∈ acc, t.pos < s.length ∧ t.text.length ≤ s.length ∧ (t.kind = 3 → s.length ≤ 1000000 → Digs t.text ∧ (numP t.text).2 = 0)) → ScanOK s ts
 | 0, _, _, _, h, _, _, _ => by cases h
 | k + 1, at_, acc, ts, h, hle, hacc, ha => by
  unfold scanL at h
  split at h
  ·rename_i hlt
   split at h
   ·cases h
   ·rename_i he
    have he : (nextT (s.drop at_)).2.2 = 0 := Decidable.not_not.mp he
    obtain ⟨p1, p2, _, p3⟩ := zHn he
    simp only [List.length_drop] at p2 p3
    have p4 := zE0 ((s.drop (at_ + (nextT (s.drop at_)).2.1.length)).length + 1) (s.drop (at_ + (nextT (s.drop at_)).2.1.length))
    refine scanL_ok k _ _ ts h ?_ ?_ ?_
    ·unfold skipS; simp only [List.length_drop] at p4 ⊢; omega
    ·simp only [List.length_append, List.length_singleton]; omega
    ·intro t ht
     rcases List.mem_append.mp ht with ht | ht
     ·exact ha t ht
     ·simp only [List.mem_singleton] at ht; subst ht
      exact ⟨hlt, by show (nextT (s.drop at_)).2.1.length ≤ _; omega, fun h3 hl => p3 h3 (by omega)⟩
  ·injection h with h; subst h; exact ⟨by omega, ha⟩
theorem zK8 {s : Str} {ts : List Tok} (h : scanS s = .ok ts) : s.length ≤ 4096 ∧ ScanOK s ts := by
 unfold scanS at h
 split at h
 ·cases h
 ·exact ⟨by omega, scanL_ok _ _ _ _ h (zE0 _ _) (by simp) (by simp)⟩
theorem zK9 {s : Str} : ∀ (k at_ : Nat) (acc : List Tok), s.length < at_ + k → at_ ≤ s.length → scanL s k at_ acc ≠ .out
 | 0, at_, acc, h, hl => by
  intro; omega
 | k + 1, at_, acc, h, hl => by
  unfold scanL
  split
  ·split
   ·simp
   ·rename_i he
    have he : (nextT (s.drop at_)).2.2 = 0 := Decidable.not_not.mp he
    obtain ⟨p1, p2, _⟩ := zHn he
    have p4 := zE0 ((s.drop (at_ + (nextT (s.drop at_)).2.1.length)).length + 1) (s.drop (at_ + (nextT (s.drop at_)).2.1.length))
    exact zK9 k _ _ (by omega) (by unfold skipS; simp only [List.length_drop] at p2 p4 ⊢; omega)
  ·simp
theorem scanS_in {s : Str} : scanS s ≠ .out := by
 unfold scanS
 split
 ·simp
 ·exact zK9 _ _ _ (by omega) (zE0 _ _)
end Go.Pa
namespace Go.Pa
open Go.Ev
theorem zKn {α : Type} {p q : α → Bool} : ∀ {l : List α}, (∀ x ∈ l, p x = q x) → l.find? p = l.find? q
 | [], _ => rfl
 | x :: l, h => by rw [List.find?_cons, List.find?_cons, h x (by simp), zKn fun y hy => h y (by simp [hy])]
theorem ahead_pos {w : Str} (h : ([47, 47] : Str).isPrefixOf w = true) : 1 ≤ aheadN notNl w := by
 cases w with
 | nil => cases h
 | cons c r =>
  simp only [List.isPrefixOf, Bool.and_eq_true, beq_iff_eq] at h
  obtain ⟨rfl, _⟩ := h
  exact zCr (by decide)
theorem zKc : ∀ (k k' : Nat) (s : Str), s.length < k → s.length < k' → skipL k s = skipL k' s
 | 0, _, s, h, _ => by omega
 | k + 1, 0, s, _, h => by omega
 | k + 1, k' + 1, s, h, h' => by
  unfold skipL
  split
  ·rename_i hp
   have h1 := ahead_pos hp
   have h2 := zCq (p := notNl) (s := s.drop (aheadN zAr s))
   have h3 := zCq (p := zAr) (s := s)
   simp only [List.length_drop] at h2
   rw [zKc k k' _ (by simp only [List.length_drop]; omega) (by simp only [List.length_drop]; omega)]
  ·rfl
theorem zK6 (s : Str) : skipS s = if ([47, 47] : Str).isPrefixOf (s.drop (aheadN zAr s)) then aheadN zAr s + (aheadN notNl (s.drop (aheadN zAr s)) + skipS ((s.drop (aheadN zAr s)).drop (aheadN notNl (s.drop (aheadN zAr s))))) else aheadN zAr s := by
 show skipL (s.length + 1) s = _
 rw [skipL]
 split
 ·rename_i hp
  have h1 := ahead_pos hp
  have h2 := zCq (p := notNl) (s := s.drop (aheadN zAr s))
  have h3 := zCq (p := zAr) (s := s)
  simp only [List.length_drop] at h2
  rw [zKc s.length _ _ (by simp only [List.length_drop]; omega) (Nat.lt_succ_self _)]
  rfl
 ·rfl
end Go.Pa
namespace Go.Pa
open Go.Ev
def Rest (r : Str) : Prop := r = [] ∨ ∃ v, r = 32 :: v
theorem zEc {p : UInt8 → Bool} {r : Str} (hp : p 32 = false) (hr : Rest r) : ∀ {w : Str}, w.takeWhile p = w → (w ++ r).takeWhile p = w
 | [], _ => by
  rcases hr with rfl | ⟨v, rfl⟩
  ·rfl
  ·rw [List.nil_append, List.takeWhile_cons, hp]; rfl
 | c :: w, h => by
  rw [List.takeWhile_cons] at h
  rw [List.cons_append, List.takeWhile_cons]
  split at h
  ·rename_i hc
   rw [if_pos hc]
   injection h with _ h
   rw [zEc hp hr h]
  ·cases h
theorem zE6 {p : UInt8 → Bool} : ∀ {u : Str}, (u.takeWhile p).takeWhile p = u.takeWhile p
 | [] => rfl
 | c :: u => by
  by_cases h : p c = true
  ·rw [List.takeWhile_cons, if_pos h, List.takeWhile_cons, if_pos h, zE6]
  ·rw [List.takeWhile_cons, if_neg h]; rfl
theorem zLd : ∀ {x w r : Str}, 32 ∉ x → Rest r → x.isPrefixOf (w ++ r) = x.isPrefixOf w
 | [], w, r, _, _ => by cases w <;> cases r <;> rfl
 | c :: x, [], r, h, hr => by
  rcases hr with rfl | ⟨v, rfl⟩
  ·rfl
  ·simp only [List.nil_append, List.isPrefixOf, Bool.and_eq_false_imp, beq_iff_eq]
   intro e
   exact absurd (by rw [e]; simp) h
 | c :: x, d :: w, r, h, hr => by
  simp only [List.cons_append, List.isPrefixOf]
  rw [zLd (fun hm => h (by simp [hm])) hr]
structure GoodW (k : Nat) (w : Str) : Prop where
 ne : w ≠ []
 next : ∀ r, Rest r → nextT (w ++ r) = (k, w, 0)
 skip : ∀ r, Rest r → skipS (w ++ r) = 0
theorem zI7 {c : UInt8} {u : Str} (hb : zAr c = false) (hp : ([47, 47] : Str).isPrefixOf (c :: u) = false) : skipS (c :: u) = 0 := by
 have h0 : aheadN zAr (c :: u) = 0 := by unfold aheadN; rw [List.takeWhile_cons, hb]; rfl
 rw [zK6, h0, List.drop_zero, hp]
 rfl
theorem good_of {u w : Str} {k : Nat} (h : nextT u = (k, w, 0)) : GoodW k w := by
 have hok := zHn (s := u) (by rw [h])
 rw [h] at hok
 obtain ⟨h1, _, h3, _⟩ := hok
 simp only at h1 h3
 cases u with
 | nil => cases h
 | cons c u =>
  have hw0 : ∃ w', w = c :: w' := by
   cases w with
   | nil => simp at h1
   | cons d w' => obtain ⟨z, hz⟩ := h3; injection hz with e _; exact ⟨w', by rw [e]⟩
  obtain ⟨w', rfl⟩ := hw0
  have hne : c :: w' ≠ [] := by simp
  have hn0 : nextT (c :: u) = if zB7 c then wordT (c :: u) else if zBb c then numT (c :: u) else signT (c :: u) := rfl
  have hn1 : ∀ r, nextT (c :: w' ++ r) = if zB7 c then wordT (c :: w' ++ r) else if zBb c then numT (c :: w' ++ r) else signT (c :: w' ++ r) := fun r => rfl
  rw [hn0] at h
  by_cases hl : zB7 c = true
  ·rw [if_pos hl] at h
   have ew : (c :: u).takeWhile zC2 = c :: w' := congrArg (fun x => x.2.1) h
   have eid : (c :: w').takeWhile zC2 = c :: w' := by rw [← ew]; exact zE6
   refine ⟨hne, fun r hr => ?_, fun r hr => ?_⟩
   ·rw [hn1, if_pos hl, ← h]
    unfold wordT
    rw [zEc (by decide) hr eid, ew]
   ·have hc : c.toNat ≠ 47 ∧ c.toNat ≠ 32 ∧ c.toNat ≠ 9 ∧ c.toNat ≠ 10 ∧ c.toNat ≠ 13 := by simp [zB7] at hl; omega
    refine zI7 (by simp [zAr, hc]) ?_
    simp only [List.isPrefixOf, Bool.and_eq_false_imp, beq_iff_eq]
    intro e; exact absurd (by rw [← e]; rfl) hc.1
  rw [if_neg hl] at h
  by_cases hd : zBb c = true
  ·rw [if_pos hd] at h
   have ew : (c :: u).takeWhile zBb = c :: w' := congrArg (fun x => x.2.1) h
   have ek : 3 = k := congrArg (fun x => x.1) h
   have ee : (numT (c :: u)).2.2 = 0 := congrArg (fun x => x.2.2) h
   have eid : (c :: w').takeWhile zBb = c :: w' := by rw [← ew]; exact zE6
   have en : (numP (c :: w')).2 = 0 := by
    unfold numT at ee
    simp only at ee
    rw [ew] at ee
    split at ee
    ·exact ee
    ·split at ee
     ·cases ee
     ·exact ee
   refine ⟨hne, fun r hr => ?_, fun r hr => ?_⟩
   ·rw [hn1, if_neg hl, if_pos hd]
    have ea : aheadN zBb (c :: w' ++ r) = (c :: w').length := by unfold aheadN; rw [zEc (by decide) hr eid]
    unfold numT
    rw [zEc (by decide) hr eid, ea, List.drop_left, en]
    rcases hr with rfl | ⟨v, rfl⟩
    ·rw [← ek]
    ·have : zB7 32 = false := by decide
     simp only [this]
     rw [← ek]; rfl
   ·have hc : c.toNat ≠ 47 ∧ c.toNat ≠ 32 ∧ c.toNat ≠ 9 ∧ c.toNat ≠ 10 ∧ c.toNat ≠ 13 := by simp [zBb] at hd; omega
    refine zI7 (by simp [zAr, hc]) ?_
    simp only [List.isPrefixOf, Bool.and_eq_false_imp, beq_iff_eq]
    intro e; exact absurd (by rw [← e]; rfl) hc.1
  rw [if_neg hd] at h
  unfold signT at h
  cases hf : lexSigns.find? (·.isPrefixOf (c :: u)) with
  | none => rw [hf] at h; cases h
  | some x =>
   rw [hf] at h
   have e1 : 4 = k := congrArg (fun x => x.1) h
   have e2 : x = c :: w' := congrArg (fun x => x.2.1) h
   have hm := List.mem_of_find?_eq_some hf
   rw [e2] at hm
   have hall : ∀ y ∈ lexSigns, (32 : UInt8) ∉ y := by decide
   have hself : ∀ y ∈ lexSigns, lexSigns.find? (·.isPrefixOf y) = some y := by decide
   have hpre : ∀ y ∈ lexSigns, ([47, 47] : Str).isPrefixOf y = false ∧ ∀ d ∈ y.head?, zAr d = false := by decide
   refine ⟨hne, fun r hr => ?_, fun r hr => ?_⟩
   ·rw [hn1, if_neg hl, if_neg hd]
    unfold signT
    rw [zKn (q := fun y => y.isPrefixOf (c :: w')) fun y hy => zLd (hall y hy) hr, hself _ hm, ← e1]
   ·obtain ⟨h1, h2⟩ := hpre _ hm
    have := zLd (x := [47, 47]) (w := c :: w') (by decide) hr
    exact zI7 (h2 c rfl) (this.trans h1)
inductive Toks (s : Str) : Nat → List Tok → Prop
 | nil {p : Nat} : Toks s p []
 | cons {p : Nat} {t : Tok} {ts : List Tok} : p ≤ t.pos → t.pos + t.text.length ≤ s.length → nextT (s.drop t.pos) = (t.kind, t.text, 0) → Toks s (t.pos + t.text.length) ts → Toks s p (t :: ts)
theorem Toks.less {s : Str} {p q : Nat} {ts : List Tok} (h : Toks s q ts) (hp : p ≤ q) : Toks s p ts := by
 cases h with
 | nil => exact .nil
 | cons a b c d => exact .cons (by omega) b c d
theorem zKd {s : Str} : ∀ (k : Nat) {p : Nat} {acc ts : List Tok}, scanL s k p acc = .ok ts → ∃ new, ts = acc ++ new ∧ Toks s p new
 | 0, p, acc, ts, h => by cases h
 | k + 1, p, acc, ts, h => by
  unfold scanL at h
  split at h
  ·rename_i hlt
   split at h
   ·cases h
   ·rename_i he
    have he' : (nextT (s.drop p)).2.2 = 0 := Decidable.not_not.mp he
    obtain ⟨_, p2, _⟩ := zHn he'
    simp only [List.length_drop] at p2
    have p3 : p + (nextT (s.drop p)).2.1.length ≤ s.length := by omega
    obtain ⟨new, rfl, hn⟩ := zKd k h
    refine ⟨⟨(nextT (s.drop p)).1, (nextT (s.drop p)).2.1, p⟩ :: new, by simp, .cons (Nat.le_refl _) p3 ?_ (hn.less (Nat.le_add_right _ _))⟩
    show nextT (s.drop p) = ((nextT (s.drop p)).1, (nextT (s.drop p)).2.1, 0)
    rw [← he']
  ·injection h with h; subst h; exact ⟨[], by simp, .nil⟩
theorem Toks.good {s : Str} {p : Nat} {ts : List Tok} (h : Toks s p ts) : ∀ t ∈ ts, GoodW t.kind t.text := by
 induction h with
 | nil => intro t ht; cases ht
 | cons a b c d ih =>
  intro t ht
  rcases List.mem_cons.mp ht with rfl | e
  ·exact good_of c
  ·exact ih t e
def sumW : List Tok → Nat
 | [] => 0
 | t :: ts => t.text.length + 1 + sumW ts
theorem Toks.sum {s : Str} {p : Nat} {ts : List Tok} (h : Toks s p ts) (hp : p ≤ s.length) : p + sumW ts ≤ s.length + ts.length ∧ p + ts.length ≤ s.length := by
 induction h with
 | nil => exact ⟨by simpa [sumW] using hp, by simpa using hp⟩
 | cons a b c d ih =>
  obtain ⟨i1, i2⟩ := ih b
  have := (good_of c).ne
  have hl := List.length_pos_iff.mpr this
  simp only [sumW, List.length_cons]
  omega
theorem Toks.rise {s : Str} {p : Nat} {ts : List Tok} (h : Toks s p ts) : (∀ t ∈ ts, p ≤ t.pos ∧ t.pos < s.length) ∧ ∀ (i j : Nat) (hi : i < ts.length) (hj : j < ts.length), i < j → ts[i].pos < ts[j].pos := by
 induction h with
 | nil => exact ⟨fun t ht => (by cases ht), fun i j hi => (by cases hi)⟩
 | cons a b c d ih =>
  have hl := List.length_pos_iff.mpr (good_of c).ne
  refine ⟨fun t ht => ?_, fun i j hi hj hij => ?_⟩
  ·rcases List.mem_cons.mp ht with rfl | e
   ·exact ⟨a, by omega⟩
   ·have := ih.1 t e; omega
  ·cases j with
   | zero => omega
   | succ j =>
    cases i with
    | zero =>
     have := (ih.1 _ (List.getElem_mem (by simpa using hj : j < _))).1
     simp only [List.getElem_cons_zero, List.getElem_cons_succ]
     omega
    | succ i => exact ih.2 i j (by simpa using hi) (by simpa using hj) (by omega)
def joinW : List Str → Str
 | [] => []
 | w :: ws => w ++ joinR ws
where joinR : List Str → Str
 | [] => []
 | w :: ws => 32 :: (w ++ joinR ws)
theorem zH3 : ∀ ws : List Str, Rest (joinW.joinR ws)
 | [] => .inl rfl
 | _ :: _ => .inr ⟨_, rfl⟩
theorem joinR_cons (w : Str) (ws : List Str) : joinW.joinR (w :: ws) = 32 :: joinW (w :: ws) := rfl
theorem skip_blank (v : Str) : skipS (32 :: v) = 1 + skipS v := by
 have h0 : aheadN zAr (32 :: v) = aheadN zAr v + 1 := by unfold aheadN; rw [List.takeWhile_cons, if_pos (by decide)]; rfl
 rw [zK6 (32 :: v), zK6 v, h0, List.drop_succ_cons]
 split <;> omega
def zDj : Nat → List Tok → List Tok
 | _, [] => []
 | p, t :: ts => ⟨t.kind, t.text, p⟩ :: zDj (p + t.text.length + 1) ts
theorem toksAt_words : ∀ {ts : List Tok} {p : Nat}, (zDj p ts).map (fun t => (t.kind, t.text)) = ts.map (fun t => (t.kind, t.text))
 | [], _ => rfl
 | t :: ts, p => by show (t.kind, t.text) :: (zDj _ ts).map _ = _; rw [toksAt_words]; rfl
theorem zG6 {full : Str} : ∀ (ts : List Tok), (∀ t ∈ ts, GoodW t.kind t.text) → ∀ (p : Nat) (acc : List Tok) (K : Nat), p ≤ full.length → full.drop p = joinW (ts.map (·.text)) → ts.length < K → scanL full K p acc = .ok (acc ++ zDj p ts)
 | [], _, p, acc, K, hp, hd, hK => by
  cases K with
  | zero => omega
  | succ K =>
   have : full.length ≤ p := by
    have := congrArg List.length hd
    simp [joinW] at this; omega
   rw [scanL, if_neg (by omega)]
   simp [zDj]
 | t :: ts, hg, p, acc, K, hp, hd, hK => by
  cases K with
  | zero => cases hK
  | succ K =>
   have g := hg t (by simp)
   have hw := List.length_pos_iff.mpr g.ne
   have hd : full.drop p = t.text ++ joinW.joinR (ts.map (·.text)) := hd
   have hlen := congrArg List.length hd
   simp only [List.length_drop, List.length_append] at hlen
   have hn := g.next _ (zH3 (ts.map (·.text)))
   rw [← hd] at hn
   have hd2 : full.drop (p + t.text.length) = joinW.joinR (ts.map (·.text)) := by rw [← List.drop_drop, hd, List.drop_left]
   rw [scanL, if_pos (by omega), hn]
   simp only [ne_eq, not_true_eq_false, if_false]
   rw [hd2]
   cases ts with
   | nil =>
    have := zG6 (full := full) [] (fun t ht => by cases ht) (p + t.text.length) (acc ++ [⟨t.kind, t.text, p⟩]) K (by omega) hd2 (by simpa using hK)
    have e0 : skipS (joinW.joinR (([] : List Tok).map (·.text))) = 0 := rfl
    rw [e0, Nat.add_zero, this]
    simp [zDj]
   | cons t' ts' =>
    have g' := hg t' (by simp)
    have e1 : skipS (joinW.joinR ((t' :: ts').map (·.text))) = 1 := by
     show skipS (32 :: (t'.text ++ joinW.joinR (ts'.map (·.text)))) = 1
     rw [skip_blank, g'.skip _ (zH3 _)]
    have hd3 : full.drop (p + t.text.length + 1) = joinW ((t' :: ts').map (·.text)) := by
     rw [← List.drop_drop, hd2]; rfl
    have hl3 := congrArg List.length hd2
    simp only [List.length_drop, List.map_cons, joinR_cons, List.length_cons] at hl3
    have := zG6 (full := full) (t' :: ts') (fun x hx => hg x (by simp [hx])) (p + t.text.length + 1) (acc ++ [⟨t.kind, t.text, p⟩]) K (by omega) hd3 (by simpa using hK)
    rw [e1, this]
    simp [zDj]
theorem joinW_len : ∀ {ts : List Tok}, (joinW (ts.map (·.text))).length + 1 ≤ sumW ts + 1
 | [] => by simp [joinW]
 | t :: ts => by
  have : ∀ ts : List Tok, (joinW.joinR (ts.map (·.text))).length = sumW ts := by
   intro ts
   induction ts with
   | nil => rfl
   | cons t ts ih => simp only [List.map_cons, joinW.joinR, List.length_cons, List.length_append, ih, sumW]; omega
  simp only [List.map_cons, joinW, List.length_append, this, sumW]; omega
theorem zI8 {s : Str} {ts : List Tok} (h : scanS s = .ok ts) (hs : s.length ≤ 2048) : Toks s 0 ts ∧ scanS (joinW (ts.map (·.text))) = .ok (zDj 0 ts) ∧ (joinW (ts.map (·.text))).length ≤ 4096 := by
 have h0 := h
 unfold scanS at h
 split at h
 ·cases h
 obtain ⟨new, e, tk⟩ := zKd _ h
 rw [List.nil_append] at e
 subst e
 have tk0 : Toks s 0 ts := tk.less (Nat.zero_le _)
 obtain ⟨s1, s2⟩ := tk0.sum (Nat.zero_le _)
 have hl := joinW_len (ts := ts)
 have hlen : (joinW (ts.map (·.text))).length ≤ 4096 := by omega
 refine ⟨tk0, ?_, hlen⟩
 unfold scanS
 rw [if_neg (by omega)]
 have hstart : skipS (joinW (ts.map (·.text))) = 0 := by
  cases ts with
  | nil => rfl
  | cons t ts => exact (tk0.good t (by simp)).skip _ (zH3 _)
 have hK : ts.length < (joinW (ts.map (·.text))).length + 1 := by
  have : ∀ ts : List Tok, (∀ t ∈ ts, GoodW t.kind t.text) → ts.length ≤ (joinW.joinR (ts.map (·.text))).length := by
   intro ts
   induction ts with
   | nil => intro _; exact Nat.zero_le _
   | cons t ts ih =>
    intro hg
    have := ih fun x hx => hg x (by simp [hx])
    simp only [List.map_cons, joinW.joinR, List.length_cons, List.length_append]; omega
  cases ts with
  | nil => simp
  | cons t ts =>
   have h1 := this ts fun x hx => tk0.good x (by simp [hx])
   have h2 := List.length_pos_iff.mpr (tk0.good t (by simp)).ne
   simp only [List.map_cons, joinW, List.length_append, List.length_cons]; omega
 have := zG6 (full := joinW (ts.map (·.text))) ts tk0.good 0 [] _ (Nat.zero_le _) rfl hK
 rw [hstart, this]; rfl
end Go.Pa
namespace Go.Ev
open Go Go.Pa
section
variable {tab : Nat → Option AFunc} {h : AH} (H : PT tab) {ts : List Tok} {en r i d : Nat}
include H in
theorem signed1_gp {s : Str} (hs : s = [45] ∨ s = [33]) : GP tab 168 [sv s, .int .i64 ((1 : Nat) : Int)] h fun w h1 => w = .tup [.int .i64 ((if s = [45] then 17 else 18 : Nat) : Int), .bool true] ∧ More h h1 := by
 have i0 : zAg [sv s, .int .i64 ((1 : Nat) : Int)] = zAc [sv s, .int .i64 ((1 : Nat) : Int)] := rfl
 refine GE.gp (ge_of H.t168 rfl ?_) (E := fun _ _ => False) fun _ _ hh => hh
 refine zAd (zAb fun Q1 hQ => ?_)
 simp (disch := omega) only [EL, ↓K3, ↓K1, reduceIte, Nat.reduceEqDiff, Nat.reduceAdd, Nat.reduceLeDiff, i0]
 refine hQ _ ?_
 clear hQ Q1
 refine zAd (zAb fun Q1 hQ => ?_)
 simp (disch := omega) only [EL, ↓K3, ↓K1, reduceIte, Nat.reduceEqDiff, Nat.reduceAdd, Nat.reduceLeDiff, i0]
 refine (signs_gp H).to fun v h1 q => ?_
 obtain ⟨rfl, m1, c, gc, ga⟩ := q
 simp (disch := omega) only [EL, ↓K3, ↓K1, reduceIte, Nat.reduceEqDiff, Nat.reduceAdd, Nat.reduceLeDiff, i0]
 refine hQ _ ?_
 clear hQ Q1
 simp only [zAa]
 refine zAd ?_
 refine zAu ?_
 have f1 : ¬ ((1 : Nat) : Int) < ((1 : Nat) : Int) := by decide
 have f2 : ¬ ((2 : Nat) : Int) < ((1 : Nat) : Int) := by decide
 have f3 : ¬ ((1 : Nat) : Int) = ((2 : Nat) : Int) := by decide
 have hne : ¬ s = [] := by rcases hs with rfl | rfl <;> simp
 refine zAd (zAb fun Q1 hQ => ?_)
 simp (disch := omega) only [EL, ↓K3, ↓K1, reduceIte, Nat.reduceEqDiff, Nat.reduceAdd, Nat.reduceLeDiff, i0, hne, f1, f2]
 refine hQ _ ?_
 clear hQ Q1
 refine wc_no (by simp +decide only [EL, reduceIte]) ?_
 refine zAd (zAb fun Q1 hQ => ?_)
 simp (disch := omega) only [EL, ↓K3, ↓K1, reduceIte, Nat.reduceEqDiff, Nat.reduceAdd, Nat.reduceLeDiff, i0]
 refine hQ _ ?_
 clear hQ Q1
 refine wc_no (by simp +decide only [EL, reduceIte]) ?_
 refine zAl ?_
 simp only [zAi, zAa]
 have s1 : ∀ h', zFn true 1 (.c (.sl h.next 0 19 (.known 19))) (some (.c (.int .i64 ((17 : Nat) : Int)))) none none .leaf [] h' = .val (.sl h.next 17 2 (.known 2)) h' := fun _ => rfl
 have s2 : ∀ loc tmp h', evOp (.sliceV true 1 (.t 0) (some (.c (.int .i64 ((17 : Nat) : Int)))) none none) loc tmp h' = zFn true 1 (.c (ev loc tmp (.t 0))) (some (.c (.int .i64 ((17 : Nat) : Int)))) none none .leaf [] h' := fun _ _ _ => rfl
 refine zAd (zAb fun Q1 hQ => ?_)
 simp (disch := omega) only [EL, ↓K3, ↓K1, reduceIte, Nat.reduceEqDiff, Nat.reduceAdd, Nat.reduceLeDiff, i0, s2, s1]
 have sa : StrA h1 (.sl h.next 17 2 (.known 2)) [[45], [33]] := ⟨h.next, 17, _, _, _, _, c, rfl, gc, fun i hi => by
  have hi' : i < 2 := hi
  rw [ga (17 + i) (by show 17 + i < 19; omega)]
  congr 1
  match i, hi' with
  | 0, _ => rfl
  | 1, _ => rfl⟩
 rw [ge_rw (zLr H sa (by decide))]
 simp (disch := omega) only [EL, ↓K3, ↓K1, reduceIte, Nat.reduceEqDiff, Nat.reduceAdd, Nat.reduceLeDiff, i0]
 refine hQ _ ?_
 clear hQ Q1
 simp only [zAa]
 have hx : zGh [[45], [33]] s = ((if s = [45] then 0 else 1 : Nat) : Int) := by rcases hs with rfl | rfl <;> rfl
 rw [hx]
 refine zAd ?_
 have f4 : ¬ ((if s = [45] then 0 else 1 : Nat) : Int) < ((0 : Nat) : Int) := by omega
 refine zAd (zAb fun Q1 hQ => ?_)
 simp (disch := omega) only [EL, ↓K3, ↓K1, reduceIte, Nat.reduceEqDiff, Nat.reduceAdd, Nat.reduceLeDiff, f4]
 refine hQ _ ?_
 clear hQ Q1
 refine wc_no (by simp +decide only [EL, reduceIte]) ?_
 refine zAl ?_
 simp only [zAa]
 have f5 : IntKind.i64.wrap (((if s = [45] then 0 else 1 : Nat) : Int) + ((17 : Nat) : Int)) = ((if s = [45] then 17 else 18 : Nat) : Int) := by rcases hs with rfl | rfl <;> rfl
 generalize ((if s = [45] then 0 else 1 : Nat) : Int) = z at *
 refine zAd (zAb fun Q1 hQ => ?_)
 simp (disch := omega) only [EL, ↓K3, ↓K1, reduceIte, Nat.reduceEqDiff, Nat.reduceAdd, Nat.reduceLeDiff, f5]
 refine hQ _ ?_
 clear hQ Q1
 refine zAj ?_
 try simp only [zAh, zAf]
 refine ⟨_, zAy (zAy zAm), ?_⟩
 simp (disch := omega) only [EL, ↓K3, ↓K1, reduceIte, Nat.reduceEqDiff, Nat.reduceAdd, Nat.reduceLeDiff, zDq]
 exact m1
def RBox (h : AH) (bx r : Nat) : Prop := bx < h.next ∧ bx ≠ r ∧ h.mem.get bx = some (.cells (cell1 (.ptr r 0)) 1 none false)
theorem RBox.mb {h h' : AH} {bx r : Nat} (x : RBox h bx r) (b : MoreBut r h h') : RBox h' bx r := ⟨Nat.lt_of_lt_of_le x.1 b.next, x.2.1, (b.keep bx x.1 x.2.1).trans x.2.2⟩
include H in
theorem unary1_ge {n bx : Nat} (IH : EX tab ts en n) (R : RS ts en h r i d) (hd : d ≤ 40) (B : RBox h bx r) (hi : i < ts.length) (ht : (now ts en i).text = [45] ∨ (now ts en i).text = [33]) :
  GS tab 167 [.ptr bx 0] ts en r i d h ((zBy ts en n (i + 1) d).bind fun k i' d => .ok (.mk 23 [] [] (if (now ts en i).text = [45] then 17 else 18) (now ts en i).pos [k]) i' d) fun t v h1 => okT t h.next v h1 := by
 intro y hy hne
 have i0 : zAg [.ptr bx 0] = zAc [.ptr bx 0] := rfl
 have hr := R.lt
 refine ge_of H.t167 rfl ?_
 refine zBi fun h1 n1 g1 m1 => ?_
 have R1 := R.more m1
 have B1 := B.mb (m1.but r)
 have gx1 := B1.2.2
 have hbx := B.1
 refine zAd (zAb fun Q1 hQ => ?_)
 simp (disch := omega) only [EL, ↓K3, ↓K1, reduceIte, Nat.reduceEqDiff, Nat.reduceAdd, Nat.reduceLeDiff, i0, gx1, zA1]
 refine (zCg H R1 hi).to fun v h2 q => ?_
 obtain ⟨rfl, R2, b2⟩ := q
 have nb2 := b2.next
 have B2 := B1.mb b2
 have c2 := (m1.but r).trans b2
 have rc2 := (b2.keep h.next (by omega) (by omega)).trans g1
 simp (disch := omega) only [EL, ↓K3, ↓K1, reduceIte, Nat.reduceEqDiff, Nat.reduceAdd, Nat.reduceLeDiff, i0]
 refine hQ _ ?_
 clear hQ Q1
 refine zC8 fun h3 n3 g3 m3 => ?_
 obtain ⟨ct, gt, k0, k1, k2⟩ := g3
 simp only [zAa]
 have R3 := R2.more m3
 have B3 := B2.mb (m3.but r)
 have gx3 := B3.2.2
 have rc3 := (m3.keep h.next (by omega)).trans rc2
 have c3 := c2.trans (m3.but r)
 generalize htx : (now ts en i).text = tx at *
 generalize (now ts en i).pos = pos at *
 refine zAd (zAb fun Q1 hQ => ?_)
 simp (disch := omega) only [EL, ↓K3, ↓K1, reduceIte, Nat.reduceEqDiff, Nat.reduceAdd, Nat.reduceLeDiff, i0, gt, k2, gx3, zA1]
 have m4 : More h3 (h3.add (.cells (zAc [.nilp]) 1 none false)) := More.add _ _
 have n4 : (h3.add (.cells (zAc [.nilp]) 1 none false)).next = h3.next + 1 := rfl
 have g4 : (h3.add (.cells (zAc [.nilp]) 1 none false)).mem.get h3.next = some (.cells (zAc [.nilp]) 1 none false) := by rw [AH.add_mem, T.get_put_self]
 generalize h3.add (.cells (zAc [.nilp]) 1 none false) = h4 at *
 have R4 := R3.more m4
 have rc4 := (m4.keep h.next (by omega)).trans rc3
 have gt4 := (m4.keep h2.next (by omega)).trans gt
 have c4 := c3.trans (m4.but r)
 refine (IH.unary R4 hd _ rfl (zAz hy hne)).mono (fun v h5 q => ?_) (fun v h5 e => ?_)
 rotate_left
 ·obtain ⟨p, er, hx, rfl, fr'⟩ := e
  rw [hx] at hy
  exact hQ _ ⟨p, er, hy.symm, rfl, MoreBut.trans c4 fr'⟩
 obtain ⟨kt, i, hx, lib5, R5, b5, q⟩ := q
 rw [hx, zAt] at hy
 have nb5 := MoreBut.next b5
 obtain ⟨u, rfl, tr⟩ := q
 have rc5 := (b5.keep h.next (by omega) (by omega)).trans rc4
 have gt5 := (b5.keep h2.next (by omega) (by omega)).trans gt4
 have g45 := (b5.keep h3.next (by omega) (by omega)).trans g4
 have c5 := c4.trans b5
 obtain ⟨ui, rfl, hu1, hu2⟩ := tr.ptr
 simp (disch := omega) only [EL, ↓K3, ↓K1, reduceIte, Nat.reduceEqDiff, Nat.reduceAdd, Nat.reduceLeDiff, i0, zA7, zA8, gt5, k2, same_int]
 refine (zDd H (kv := .sl h5.next 0 1 (.known 1)) (op := 23) (pos := pos) (fun _ => rfl) rfl).to fun v h7 q => ?_
 obtain ⟨ia, rfl, i1, i2, nc, m7⟩ := q
 have m6 : More h5 (h5.add (.cells (zAc [.ptr ui 0]) 1 none false)) := More.add _ _
 have g6 : (h5.add (.cells (zAc [.ptr ui 0]) 1 none false)).mem.get h5.next = some (.cells (zAc [.ptr ui 0]) 1 none false) := by rw [AH.add_mem, T.get_put_self]
 have n6 : (h5.add (.cells (zAc [.ptr ui 0]) 1 none false)).next = h5.next + 1 := rfl
 generalize h5.add (.cells (zAc [.ptr ui 0]) 1 none false) = h6 at *
 have n7 := m7.next
 have kd := zE4 (lo := h.next) (X := [h.next, h3.next, ia]) g6 (by omega) (by omega) (by simp; omega) (TreeR.keep m6.stay (fun k hk hl => ⟨by omega, by simp; omega, by omega⟩) tr)
 have kd7 := kd.keep m7.stay
 have mm := m6.trans m7
 have g47 := (mm.keep h3.next (by omega)).trans g45
 have rc7 := (mm.keep h.next (by omega)).trans rc5
 have gt7 := (mm.keep h2.next (by omega)).trans gt5
 have R7 := R5.more mm
 have c7 := c5.trans (mm.but r)
 simp (disch := omega) only [EL, ↓K3, ↓K1, reduceIte, Nat.reduceEqDiff, Nat.reduceAdd, Nat.reduceLeDiff, g47]
 refine hQ _ ?_
 clear hQ Q1
 simp only [zAa]
 have g48 : (h7.set h3.next (.cells (T.put (some (.ptr ia 0)) (zAc [.nilp]) 0) 1 none false)).mem.get h3.next = some (.cells (T.put (some (.ptr ia 0)) (zAc [.nilp]) 0) 1 none false) := AH.get_set
 have o8 : Only h3.next h7 (h7.set h3.next (.cells (T.put (some (.ptr ia 0)) (zAc [.nilp]) 0) 1 none false)) := Only.set
 generalize h7.set h3.next (.cells (T.put (some (.ptr ia 0)) (zAc [.nilp]) 0) 1 none false) = h8 at *
 have n8 := o8.next
 have nc8 := nc.keep (o8.keep ia (by omega))
 have kd8 := kd7.keep (o8.stay (by simp))
 have gt8 := (o8.keep h2.next (by omega)).trans gt7
 have rc8 := (o8.keep h.next (by omega)).trans rc7
 refine zAd (zAb fun Q1 hQ => ?_)
 simp (disch := omega) only [EL, ↓K3, ↓K1, reduceIte, Nat.reduceEqDiff, Nat.reduceAdd, Nat.reduceLeDiff, i0, g48, gt8, k1]
 refine (signed1_gp H ht).to fun v h9 q => ?_
 obtain ⟨rfl, m9⟩ := q
 have n9 := m9.next
 have g49 := (m9.keep h3.next (by omega)).trans g48
 have rc9 := (m9.keep h.next (by omega)).trans rc8
 have nc9 := nc8.keep (m9.keep ia (by omega))
 have kd9 := kd8.keep m9.stay
 obtain ⟨c', gn, d0, d1, d2, d3, d4, d5, _, _, ncN, _⟩ := nc9.set
 simp (disch := omega) only [EL, ↓K3, ↓K1, reduceIte, Nat.reduceEqDiff, Nat.reduceAdd, Nat.reduceLeDiff, i0, zA7, zA8, g49, zBj, gn, d3]
 refine hQ _ ?_
 clear hQ Q1
 simp only [zAa]
 have nc10 := ncN ((if tx = [45] then 17 else 18 : Nat) : Int)
 have o10 : Only ia h9 (h9.set ia (.cells (T.put (some (.int .i64 ((if tx = [45] then 17 else 18 : Nat) : Int))) c' 3) 6 none false)) := Only.set
 generalize h9.set ia (.cells (T.put (some (.int .i64 ((if tx = [45] then 17 else 18 : Nat) : Int))) c' 3) 6 none false) = h10 at *
 have n10 := o10.next
 refine zCu (b := h3.next) (rc := h.next) (by simp +decide only [EL, reduceIte]) ((o10.keep _ (by omega)).trans g49) (T.get_put_self _ _ _) (by simp +decide only [EL, reduceIte]) ((o10.keep _ (by omega)).trans rc9) (by rw [zAk]; rfl) fun h11 o11 => ?_
 refine ⟨_, _, hy.symm, by omega, o11.rs (o10.rs ((o8.rs R7 (by omega)).more m9) (by omega)) (by omega), o11.mb (o10.mb ((o8.mb c7 (by omega)).trans (m9.but r)) (by omega)) (Nat.le_refl _), _, rfl, ?_⟩
 have nc11 := nc10.keep (o11.keep ia (by omega))
 have e : (((if tx = [45] then 17 else 18 : Nat) : Int)) = (if tx = [45] then 17 else 18 : Int) := by split <;> rfl
 rw [e] at nc11
 exact ((kd9.keep (o10.stay (by simp))).keep (o11.stay (by simp))).tree2 nc11 (by show h.next ≤ ia; omega) (by rw [o11.next]; omega) (fun k hk _ => hk)
include H in
theorem unary_ge {n : Nat} (IH : ∀ m, m < n → EX tab ts en m) (R : RS ts en h r i d) (hd : d ≤ 40) : GS tab 152 [.ptr r 0] ts en r i d h (zBy ts en n i d) fun t v h1 => okT t h.next v h1 := by
 intro y hy hne
 cases n with
 | zero => exact absurd (by rw [← hy]; simp [zBy]) hne
 | succ n =>
 have i0 : zAg [.ptr r 0] = zAc [.ptr r 0] := rfl
 have hr := R.lt
 refine ge_of H.t152 rfl ?_
 refine zF5 (v := .ptr r 0) rfl (fun _ => zLz) fun h1 n1 g1 g2 m1 => ?_
 have R1 := R.more m1
 have B1 : RBox h1 h.next r := ⟨by omega, by omega, g1⟩
 unfold zBy at hy
 refine zAd ?_
 refine zAd (zAb fun Q1 hQ => ?_)
 simp (disch := omega) only [EL, ↓K3, ↓K1, reduceIte, Nat.reduceEqDiff, Nat.reduceAdd, Nat.reduceLeDiff, i0, g1, zA1]
 refine (is_gp H R1 _).to fun v h2 q => ?_
 obtain ⟨rfl, m2⟩ := q
 have n2 := m2.next
 have R2 := R1.more m2
 have B2 := B1.mb (m2.but r)
 have gx2 := B2.2.2
 have rc2 := (m2.keep (h.next + 1) (by omega)).trans g2
 have c2 : MoreBut r h h2 := (m1.trans m2).but r
 have sign : ∀ (l : T AV) (h3 : AH), l.get 1 = some (.ptr h.next 0) → l.get 3 = some (.ptr (h.next + 1) 0) → RS ts en h3 r i d → RBox h3 h.next r → h3.mem.get (h.next + 1) = some (.cells (zAc [.nilp]) (llen [.nilp]) none false) → MoreBut r h h3 → h1.next ≤ h3.next →
   (isT ts en [45] i || isT ts en [33] i) = true →
   WC tab (.seq (.ops [⟨.load (.l 1), none, none, []⟩, ⟨.mkFn 167 [] [.l 1], none, none, []⟩, ⟨.callF 120 [.t 1, .t 0], none, none, []⟩, ⟨.store 1 (.l 3) (.t 0), none, none, []⟩]) .ret) l [] h3 (zDv [.cellN 1 (.l 3)] (okP y ts en r i d h fun t v h1 => okT t h.next v h1) (erP y r h)) := by
  intro l h3 l1 l3 R3 B3 rc3 c3 n3 hs
  rw [hs, if_pos rfl] at hy
  have hi : i < ts.length := by
   rcases Bool.or_eq_true_iff.mp hs with h | h <;> exact is_lt h
  have ht : (now ts en i).text = [45] ∨ (now ts en i).text = [33] := by
   rcases Bool.or_eq_true_iff.mp hs with h | h
   ·unfold isT at h; simp at h; exact .inl h.1
   ·unfold isT at h; simp at h; exact .inr h.1
  have gx3 := B3.2.2
  refine zAd (zAb fun Q1 hQ => ?_)
  simp (disch := omega) only [EL, ↓K3, ↓K1, reduceIte, Nat.reduceEqDiff, Nat.reduceAdd, Nat.reduceLeDiff, l1, l3, gx3, zA1]
  refine (zHz H (F := 167) (caps := [.ptr h.next 0]) (k := fun i d => (zBy ts en n (i + 1) d).bind fun k i' d => .ok (.mk 23 [] [] (if (now ts en i).text = [45] then 17 else 18) (now ts en i).pos [k]) i' d) R3 hd (fun hd' h' R' b' => unary1_ge H (IH n (by omega)) R' hd' (B3.mb b') hi ht) y hy hne).mono (fun v h4 q => ?_) (fun v h4 e => ?_)
  rotate_left
  ·obtain ⟨p, er, hx, rfl, fr'⟩ := e
   exact hQ _ ⟨p, er, hx, rfl, MoreBut.trans c3 fr'⟩
  obtain ⟨t, i', hx, li, R4, b4, u, rfl, tr⟩ := q
  have n4 := b4.next
  have rc4 := (b4.keep (h.next + 1) (by omega) (by omega)).trans rc3
  refine ⟨rfl, ?_⟩
  refine zFy (rc := h.next + 1) (by simp +decide only [EL, reduceIte, l3]) rc4 (by rw [zAk]; rfl) fun h5 o5 g5 => hQ _ ?_
  obtain ⟨c5, gc5, gc50⟩ := g5
  refine zJt (rc := h.next + 1) (by simp +decide only [EL, reduceIte, l3]) gc5 gc50 ⟨t, i', hx, li, o5.rs R4 (by omega), o5.mb (c3.trans b4) (by omega), _, rfl, ?_⟩
  exact TreeR.keep (o5.stay (F := fun k => h3.next ≤ k) (by omega)) (fun k hk _ => by show h.next ≤ k; omega) tr
 cases hm : isT ts en [45] i with
 | true =>
  simp (disch := omega) only [EL, ↓K3, ↓K1, reduceIte, Nat.reduceEqDiff, Nat.reduceAdd, Nat.reduceLeDiff, i0, hm]
  refine hQ _ ?_
  clear hQ Q1
  simp only [zAa]
  refine wc_no (by simp +decide only [EL, reduceIte]) ?_
  refine zAl ?_
  simp only [zAa]
  exact sign _ h2 (by simp +decide only [EL, reduceIte]) (by simp +decide only [EL, reduceIte]) R2 B2 rc2 c2 n2 (by rw [hm]; rfl)
 | false =>
  simp (disch := omega) only [EL, ↓K3, ↓K1, reduceIte, Nat.reduceEqDiff, Nat.reduceAdd, Nat.reduceLeDiff, i0, hm, gx2, zA1]
  refine (is_gp H R2 _).to fun v h3 q => ?_
  obtain ⟨rfl, m3⟩ := q
  have n3 := m3.next
  have R3 := R2.more m3
  have B3 := B2.mb (m3.but r)
  have gx3 := B3.2.2
  have rc3 := (m3.keep (h.next + 1) (by omega)).trans rc2
  have c3 := c2.trans (m3.but r)
  simp (disch := omega) only [EL, ↓K3, ↓K1, reduceIte, Nat.reduceEqDiff, Nat.reduceAdd, Nat.reduceLeDiff, i0]
  refine hQ _ ?_
  clear hQ Q1
  simp only [zAa]
  cases hb : isT ts en [33] i with
  | true =>
   refine wc_no (by simp +decide only [EL, reduceIte, hb, Bool.not_true]) ?_
   refine zAl ?_
   simp only [zAa]
   exact sign _ h3 (by simp +decide only [EL, reduceIte]) (by simp +decide only [EL, reduceIte]) R3 B3 rc3 c3 (by omega) (by rw [hm, hb]; rfl)
  | false =>
   rw [hm, hb, if_neg (by simp)] at hy
   refine zAq (by simp +decide only [EL, reduceIte, hb, Bool.not_false]) ?_
   refine zAd (zAb fun Q1 hQ => ?_)
   simp (disch := omega) only [EL, ↓K3, ↓K1, reduceIte, Nat.reduceEqDiff, Nat.reduceAdd, Nat.reduceLeDiff, i0, gx3, zA1]
   refine ((IH n (by omega)).post R3 hd y hy hne).mono (fun v h4 q => ?_) (fun v h4 e => ?_)
   rotate_left
   ·obtain ⟨p, er, hx, rfl, fr'⟩ := e
    exact hQ _ ⟨p, er, hx, rfl, MoreBut.trans c3 fr'⟩
   obtain ⟨t, i', hx, li, R4, b4, u, rfl, tr⟩ := q
   have n4 := b4.next
   have rc4 := (b4.keep (h.next + 1) (by omega) (by omega)).trans rc3
   refine ⟨rfl, ?_⟩
   refine zFy (rc := h.next + 1) (by simp +decide only [EL, reduceIte]) rc4 (by rw [zAk]; rfl) fun h5 o5 g5 => hQ _ ?_
   obtain ⟨c5, gc5, gc50⟩ := g5
   refine zAj ?_
   try simp only [zAh, zAf]
   refine zA6 (id := h.next + 1) (by simp +decide only [EL, reduceIte]) gc5 (lst := [u]) (by rw [zAe, gc50]; rfl) ⟨t, i', hx, li, o5.rs R4 (by omega), o5.mb (c3.trans b4) (by omega), _, rfl, ?_⟩
   exact TreeR.keep (o5.stay (F := fun k => h3.next ≤ k) (by omega)) (fun k hk _ => by show h.next ≤ k; omega) tr
end
end Go.Ev
