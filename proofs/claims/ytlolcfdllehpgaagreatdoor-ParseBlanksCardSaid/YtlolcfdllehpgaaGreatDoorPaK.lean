/- PaW20 PaW21 EvDf PaW22 LxW1 LxW2 LxW3 LxW4 LxW5 -/
import Derived.Test.YtlolcfdllehpgaaGreatDoorPaJ
import Derived.Test.YtlolcfdllehpgaaGreatDoorPaG
import Derived.Test.YtlolcfdllehpgaaGreatDoorPaI
set_option linter.unusedSimpArgs false
set_option linter.unusedVariables false
set_option linter.unusedSectionVars false
set_option linter.defProp false
set_option maxRecDepth 100000
set_option maxHeartbeats 4000000
namespace Go.Ev
open Go Go.Pa
section
variable {tab : Nat → Option AFunc} {h : AH} (H : PT tab) {ts : List Tok} {en r i d : Nat}
structure SX (tab : Nat → Option AFunc) (ts : List Tok) (en n : Nat) : Prop where
 stmt : ∀ {h : AH} {r i d : Nat}, RS ts en h r i d → d ≤ 40 → GS tab 122 [.ptr r 0] ts en r i d h (stmtS ts en n i d) fun t v h1 => okT t h.next v h1
 branch : ∀ {h : AH} {r i d : Nat}, RS ts en h r i d → d ≤ 40 → GS tab 133 [.ptr r 0] ts en r i d h (zBr ts en n i d) fun t v h1 => okT t h.next v h1
 block : ∀ {h : AH} {r i d : Nat}, RS ts en h r i d → d ≤ 40 → GS tab 100 [.ptr r 0] ts en r i d h (zBw ts en n i d) fun t v h1 => okT t h.next v h1
include H in
theorem stmt_ge {n : Nat} (IH : ∀ m, m < n → SX tab ts en m) (R : RS ts en h r i d) (hd : d ≤ 40) : GS tab 122 [.ptr r 0] ts en r i d h (stmtS ts en n i d) fun t v h1 => okT t h.next v h1 := by
 intro y hy hne
 cases n with
 | zero => exact absurd (by rw [← hy]; simp [stmtS]) hne
 | succ n =>
 have i0 : zAg [.ptr r 0] = zAc [.ptr r 0] := rfl
 have hr := R.lt
 have f2 : ∀ (t : Tok) h', zB6 2 1 false (.c (tokV t)) .leaf [] h' = .val (.int .i64 (t.pos : Int)) h' := fun _ _ => rfl
 obtain ⟨z, hz⟩ : ∃ z, z = i := ⟨_, rfl⟩
 refine ge_of H.t122 rfl ?_
 refine zBi fun h1 n1 g1 m1 => ?_
 have R1 := R.more m1
 have rc1 := g1
 have c1 := m1.but r
 unfold stmtS at hy
 refine zAd ?_
 refine zAu ?_
 refine zAd (zAb fun Q1 hQ => ?_)
 simp (disch := omega) only [EL, ↓K3, ↓K1, reduceIte, Nat.reduceEqDiff, Nat.reduceAdd, Nat.reduceLeDiff, i0]
 refine (is_gp H R1 _).to fun v h2 q => ?_
 obtain ⟨rfl, m2⟩ := q
 have n2 := m2.next
 have R2 := R1.more m2
 have rc2 := (m2.keep h.next (by omega)).trans rc1
 have c2 := c1.trans (m2.but r)
 simp (disch := omega) only [EL, ↓K3, ↓K1, reduceIte, Nat.reduceEqDiff, Nat.reduceAdd, Nat.reduceLeDiff]
 refine hQ _ ?_
 clear hQ Q1
 try simp only [zAa]
 cases hA : isT ts en [105, 102] i with
 | true =>
  rw [hA, if_pos rfl] at hy
  refine zAq (by simp +decide only [EL, reduceIte, hA]) ?_
  refine zAd (zAb fun Q1 hQ => ?_)
  simp (disch := omega) only [EL, ↓K3, ↓K1, reduceIte, Nat.reduceEqDiff, Nat.reduceAdd, Nat.reduceLeDiff, i0]
  refine ((IH n (by omega)).branch R2 hd _ hy hne).mono (fun v h3 q => ?_) (fun v h3 e => ?_)
  rotate_left
  ·obtain ⟨p, er, hx, rfl, fr'⟩ := e
   exact hQ _ ⟨p, er, hx, rfl, MoreBut.trans c2 fr'⟩
  obtain ⟨e, i, hx, lib3, R3, b3, q⟩ := q
  have nb3 := MoreBut.next b3
  obtain ⟨u, rfl, tr⟩ := q
  obtain ⟨ui, rfl, hu1, hu2⟩ := tr.ptr
  have rc3 := (b3.keep h.next (by omega) (by omega)).trans rc2
  simp (disch := omega) only [EL, ↓K3, ↓K1, reduceIte, Nat.reduceEqDiff, Nat.reduceAdd, Nat.reduceLeDiff, i0, rc3]
  refine hQ _ ?_
  have o4 : Only h.next h3 (h3.set h.next (.cells (T.put (some (.ptr ui 0)) (zAc [.nilp]) 0) 1 none false)) := Only.set
  have gc4 : (h3.set h.next (.cells (T.put (some (.ptr ui 0)) (zAc [.nilp]) 0) 1 none false)).mem.get h.next = some (.cells (T.put (some (.ptr ui 0)) (zAc [.nilp]) 0) 1 none false) := AH.get_set
  generalize h3.set h.next (.cells (T.put (some (.ptr ui 0)) (zAc [.nilp]) 0) 1 none false) = h4 at *
  have n4 := o4.next
  refine zAj ?_
  try simp only [zAh, zAf]
  refine zA6 (id := h.next) (by simp +decide only [EL, reduceIte, i0]) gc4 (lst := [.ptr ui 0]) (by rw [zAe, T.get_put_self]; rfl) ?_
  refine ⟨_, _, hx, by omega, o4.rs R3 (by omega), o4.mb (c2.trans b3) (by omega), _, rfl, ?_⟩
  exact TreeR.keep (o4.stay (F := fun k => h2.next ≤ k) (by omega)) (fun k hk _ => by show h.next ≤ k; omega) tr
 | false =>
 rw [hA, if_neg (by simp)] at hy
 refine wc_no (by simp +decide only [EL, reduceIte, hA]) ?_
 refine zAd (zAb fun Q1 hQ => ?_)
 simp (disch := omega) only [EL, ↓K3, ↓K1, reduceIte, Nat.reduceEqDiff, Nat.reduceAdd, Nat.reduceLeDiff, i0]
 refine (is_gp H R2 _).to fun v h3 q => ?_
 obtain ⟨rfl, m3⟩ := q
 have n3 := m3.next
 have R3 := R2.more m3
 have rc3 := (m3.keep h.next (by omega)).trans rc2
 have c3 := c2.trans (m3.but r)
 simp (disch := omega) only [EL, ↓K3, ↓K1, reduceIte, Nat.reduceEqDiff, Nat.reduceAdd, Nat.reduceLeDiff]
 refine hQ _ ?_
 clear hQ Q1
 try simp only [zAa]
 cases hB : isT ts en [102, 111, 114] i with
 | true =>
  rw [hB, if_pos rfl] at hy
  refine zAq (by simp +decide only [EL, reduceIte, hB]) ?_
  refine zAd (zAb fun Q1 hQ => ?_)
  simp (disch := omega) only [EL, ↓K3, ↓K1, reduceIte, Nat.reduceEqDiff, Nat.reduceAdd, Nat.reduceLeDiff, i0]
  refine (zCg H R3 (is_lt hB)).to fun v h4 q => ?_
  obtain ⟨rfl, R4, b4⟩ := q
  have n4 := b4.next
  have rc4 := (b4.keep h.next (by omega) (by omega)).trans rc3
  have c4 := c3.trans b4
  simp (disch := omega) only [EL, ↓K3, ↓K1, reduceIte, Nat.reduceEqDiff, Nat.reduceAdd, Nat.reduceLeDiff, f2]
  refine ((zIo H n).expr 1 R4 hd (by omega) _ rfl (zAz hy hne)).mono (fun v h5 q => ?_) (fun v h5 e => ?_)
  rotate_left
  ·obtain ⟨p, er, hx, rfl, fr'⟩ := e
   rw [hx] at hy
   exact hQ _ ⟨p, er, hy.symm, rfl, MoreBut.trans c4 fr'⟩
  obtain ⟨e, i, hx, lib5, R5, b5, q⟩ := q
  rw [hx, zAt] at hy
  have nb5 := MoreBut.next b5
  obtain ⟨u, rfl, t5⟩ := q
  obtain ⟨ui, rfl, hu1, hu2⟩ := t5.ptr
  have rc5 := (b5.keep h.next (by omega) (by omega)).trans rc4
  have c5 := c4.trans b5
  simp (disch := omega) only [EL, ↓K3, ↓K1, reduceIte, Nat.reduceEqDiff, Nat.reduceAdd, Nat.reduceLeDiff]
  have m6 : More h5 (h5.add (.cells (zAc [.ptr ui 0]) 1 none false)) := More.add _ _
  have g6 : (h5.add (.cells (zAc [.ptr ui 0]) 1 none false)).mem.get h5.next = some (.cells (zAc [.ptr ui 0]) 1 none false) := by rw [AH.add_mem, T.get_put_self]
  have n6 : (h5.add (.cells (zAc [.ptr ui 0]) 1 none false)).next = h5.next + 1 := rfl
  generalize h5.add (.cells (zAc [.ptr ui 0]) 1 none false) = h6 at *
  refine (zDd H (kv := .sl h5.next 0 1 (.known 1)) (op := 11) (fun _ => rfl) rfl).to fun v h7 q => ?_
  obtain ⟨ia, rfl, i1, i2, nc, m7⟩ := q
  have n7 := m7.next
  have kd := zE4 (lo := h.next) (X := [h.next, h7.next, ia]) g6 (by omega) (by omega) (by simp; omega) (TreeR.keep m6.stay (fun k hk hl => ⟨by omega, by simp; omega, by omega⟩) t5)
  have kd7 := kd.keep m7.stay
  have mm := m6.trans m7
  have rc7 := (mm.keep h.next (by omega)).trans rc5
  have R7 := R5.more mm
  have c7 := c5.trans (mm.but r)
  simp (disch := omega) only [EL, ↓K3, ↓K1, reduceIte, Nat.reduceEqDiff, Nat.reduceAdd, Nat.reduceLeDiff]
  refine hQ _ ?_
  clear hQ Q1
  refine zBs fun h8 n8 g8 m8 => ?_
  obtain ⟨cb, gb, cb0⟩ := g8
  simp only [zAa]
  have R8 := R7.more m8
  have c8 := c7.trans (m8.but r)
  have nc8 := nc.keep (m8.keep ia i2)
  have rc8 := (m8.keep h.next (by omega)).trans rc7
  have bx8 : BoxN h8 h7.next ia := ⟨cb, gb, cb0⟩
  have k8 := kd7.keep m8.stay
  refine zAd ?_
  refine zF4 (K := 4) (b := h7.next) (id := ia) (lo := h.next) (X := [h.next, h7.next, ia]) (r := r) (f := 100) (args := [.ptr r 0]) (by simp +decide only [EL, reduceIte, i0]) bx8 nc8 k8 (by first | omega | simp) (by omega) (by intro k hk; simp at hk; omega) (by simp) (by simp) (by omega) (by omega) (by omega) (by omega) (fun tmp => ⟨.ptr r 0, by simp +decide only [EL, reduceIte, i0], by simp +decide only [EL, reduceIte, i0]⟩) ((IH n (by omega)).block R8 hd _ rfl (zAz hy hne)) (fun v h9 q => ?_) (fun v h9 e => ?_)
  rotate_left
  ·obtain ⟨p, er, hx, rfl, fr'⟩ := e
   rw [hx] at hy
   exact ⟨p, er, hy.symm, rfl, MoreBut.trans c8 fr'⟩
  obtain ⟨p, i, hx, li9, R9, b9, u, rfl, tr⟩ := q
  rw [hx, zAt] at hy
  have n9 := b9.next
  refine ⟨b9, u, p, rfl, tr, fun h10 kv' n10 keep nc10 k10 => ?_⟩
  have R10 := R9.keep n10 fun k hk => keep k (by have := R9.lt; omega) (.inl (by omega)) (by omega)
  have c10 : MoreBut r _ h10 := ⟨Nat.le_trans (MoreBut.trans c8 b9).next n10, fun k h1 h2 => by rw [keep k (by omega) (.inl (by omega)) (by omega)]; exact (MoreBut.trans c8 b9).keep k h1 h2⟩
  try simp only [zAa, zAi]
  have rc10 := (keep h.next (by omega) (.inr (by simp)) (by omega)).trans ((b9.keep h.next (by omega) (by omega)).trans rc8)
  have bx10 := bx8.keep ((keep h7.next (by omega) (.inr (by simp)) (by omega)).trans (b9.keep h7.next (by omega) (by omega)))
  obtain ⟨cx, gx, cx0⟩ := bx10
  refine zI1 (b := h7.next) (rc := h.next) (by simp +decide only [EL, reduceIte]) gx cx0 (by simp +decide only [EL, reduceIte, i0]) rc10 (by rw [zAk]; rfl) fun h11 o8 hq => ?_
  have n11 := o8.next
  simp only [zAh, zAf]
  refine hq _ _ ⟨_, _, hy.symm, by omega, o8.rs R10 (by omega), o8.mb c10 (Nat.le_refl _), _, rfl, ?_⟩
  exact (k10.keep (o8.stay (by simp))).tree2 (nc10.keep (o8.keep _ (by omega))) (by show h.next ≤ _; omega) (by omega) fun k hk _ => hk
 | false =>
 rw [hB, if_neg (by simp)] at hy
 refine wc_no (by simp +decide only [EL, reduceIte, hB]) ?_
 refine zAl ?_
 simp only [zAa, zAi]
 refine zAd (zAb fun Q1 hQ => ?_)
 simp (disch := omega) only [EL, ↓K3, ↓K1, reduceIte, Nat.reduceEqDiff, Nat.reduceAdd, Nat.reduceLeDiff, i0]
 refine (simple_ge H R3 hd _ rfl (zAz hy hne)).mono (fun v h4 q => ?_) (fun v h4 e => ?_)
 rotate_left
 ·obtain ⟨p, er, hx, rfl, fr'⟩ := e
  rw [hx] at hy
  exact hQ _ ⟨p, er, hy.symm, rfl, MoreBut.trans c3 fr'⟩
 obtain ⟨e, i, hx, lib4, R4, b4, q⟩ := q
 rw [hx, zAt] at hy
 have nb4 := MoreBut.next b4
 obtain ⟨u, rfl, tr⟩ := q
 have rc4 := (b4.keep h.next (by omega) (by omega)).trans rc3
 have c4 := c3.trans b4
 simp (disch := omega) only [EL, ↓K3, ↓K1, reduceIte, Nat.reduceEqDiff, Nat.reduceAdd, Nat.reduceLeDiff]
 refine hQ _ ?_
 clear hQ Q1
 refine zBs fun h5 n5 g5 m5 => ?_
 obtain ⟨cb, gb, cb0⟩ := g5
 simp only [zAa]
 have R5 := R4.more m5
 have rc5 := (m5.keep h.next (by omega)).trans rc4
 have c5 := c4.trans (m5.but r)
 refine zAd (zAb fun Q1 hQ => ?_)
 simp (disch := omega) only [EL, ↓K3, ↓K1, reduceIte, Nat.reduceEqDiff, Nat.reduceAdd, Nat.reduceLeDiff, i0]
 refine (zBo H R5 _ _ rfl (zAz hy hne)).mono (fun v h6 q => ?_) (fun v h6 e => ?_)
 rotate_left
 ·obtain ⟨p, er, hx, rfl, fr'⟩ := e
  rw [hx] at hy
  exact hQ _ ⟨p, er, hy.symm, rfl, MoreBut.trans c5 fr'⟩
 obtain ⟨pp, i, hx, lib6, R6, b6, q⟩ := q
 rw [hx, zAt] at hy
 have nb6 := MoreBut.next b6
 have rc6 := (b6.keep h.next (by omega) (by omega)).trans rc5
 have gb6 := (b6.keep h4.next (by omega) (by omega)).trans gb
 simp (disch := omega) only [EL, ↓K3, ↓K1, reduceIte, Nat.reduceEqDiff, Nat.reduceAdd, Nat.reduceLeDiff]
 refine hQ _ ?_
 clear hQ Q1
 try simp only [zAa]
 refine zCu (b := h4.next) (rc := h.next) (by simp +decide only [EL, reduceIte]) gb6 cb0 (by simp +decide only [EL, reduceIte]) rc6 (by rw [zAk]; rfl) fun h7 o7 => ?_
 refine ⟨_, _, hy.symm, by omega, o7.rs R6 (by omega), o7.mb (c5.trans b6) (by omega), _, rfl, ?_⟩
 exact TreeR.keep ((m5.stay (F := fun k => h3.next ≤ k ∧ k < h4.next)).trans ((b6.stay (by omega)).trans (o7.stay (by omega)))) (fun k hk _ => by show h.next ≤ k; omega) (tr.less (G := fun k => h3.next ≤ k ∧ k < h4.next) fun k hk hl => ⟨hk, hl⟩)
include H in
theorem branch_ge {n : Nat} (IH : ∀ m, m < n → SX tab ts en m) (R : RS ts en h r i d) (hd : d ≤ 40) : GS tab 133 [.ptr r 0] ts en r i d h (zBr ts en n i d) fun t v h1 => okT t h.next v h1 := by
 intro y hy hne
 cases n with
 | zero => exact absurd (by rw [← hy]; simp [zBr]) hne
 | succ n =>
 have i0 : zAg [.ptr r 0] = zAc [.ptr r 0] := rfl
 have hr := R.lt
 obtain ⟨z, hz⟩ : ∃ z, z = i := ⟨_, rfl⟩
 refine ge_of H.t133 rfl ?_
 refine zBi fun h1 n1 g1 m1 => ?_
 have R1 := R.more m1
 have rc1 := g1
 have c1 := m1.but r
 unfold zBr at hy
 refine zAd (zAb fun Q1 hQ => ?_)
 simp (disch := omega) only [EL, ↓K3, ↓K1, reduceIte, Nat.reduceEqDiff, Nat.reduceAdd, Nat.reduceLeDiff, i0]
 refine (zBo H R1 _ _ rfl (zAz hy hne)).mono (fun v h2 q => ?_) (fun v h2 e => ?_)
 rotate_left
 ·obtain ⟨p, er, hx, rfl, fr'⟩ := e
  rw [hx] at hy
  exact hQ _ ⟨p, er, hy.symm, rfl, MoreBut.trans c1 fr'⟩
 obtain ⟨pp, i, hx, lib2, R2, b2, q⟩ := q
 rw [hx, zAt] at hy
 have nb2 := MoreBut.next b2
 subst q
 have rc2 := (b2.keep h.next (by omega) (by omega)).trans rc1
 have c2 := c1.trans b2
 simp (disch := omega) only [EL, ↓K3, ↓K1, reduceIte, Nat.reduceEqDiff, Nat.reduceAdd, Nat.reduceLeDiff]
 refine hQ _ ?_
 clear hQ Q1
 try simp only [zAa]
 refine zAd (zAb fun Q1 hQ => ?_)
 simp (disch := omega) only [EL, ↓K3, ↓K1, reduceIte, Nat.reduceEqDiff, Nat.reduceAdd, Nat.reduceLeDiff, i0]
 refine ((zIo H n).expr 1 R2 hd (by omega) _ rfl (zAz hy hne)).mono (fun v h3 q => ?_) (fun v h3 e => ?_)
 rotate_left
 ·obtain ⟨p, er, hx, rfl, fr'⟩ := e
  rw [hx] at hy
  exact hQ _ ⟨p, er, hy.symm, rfl, MoreBut.trans c2 fr'⟩
 obtain ⟨e, i, hx, lib3, R3, b3, q⟩ := q
 rw [hx, zAt] at hy
 have nb3 := MoreBut.next b3
 obtain ⟨u, rfl, t3⟩ := q
 obtain ⟨ui, rfl, hu1, hu2⟩ := t3.ptr
 have rc3 := (b3.keep h.next (by omega) (by omega)).trans rc2
 have c3 := c2.trans b3
 simp (disch := omega) only [EL, ↓K3, ↓K1, reduceIte, Nat.reduceEqDiff, Nat.reduceAdd, Nat.reduceLeDiff]
 have m4 : More h3 (h3.add (.cells (zAc [.ptr ui 0]) 1 none false)) := More.add _ _
 have g4 : (h3.add (.cells (zAc [.ptr ui 0]) 1 none false)).mem.get h3.next = some (.cells (zAc [.ptr ui 0]) 1 none false) := by rw [AH.add_mem, T.get_put_self]
 have n4 : (h3.add (.cells (zAc [.ptr ui 0]) 1 none false)).next = h3.next + 1 := rfl
 generalize h3.add (.cells (zAc [.ptr ui 0]) 1 none false) = h4 at *
 refine (zDd H (kv := .sl h3.next 0 1 (.known 1)) (op := 10) (fun _ => rfl) rfl).to fun v h5 q => ?_
 obtain ⟨ia, rfl, i1, i2, nc, m5⟩ := q
 have n5 := m5.next
 have kd := zE4 (lo := h.next) (X := [h.next, h5.next, ia]) g4 (by omega) (by omega) (by simp; omega) (TreeR.keep m4.stay (fun k hk hl => ⟨by omega, by simp; omega, by omega⟩) t3)
 have kd5 := kd.keep m5.stay
 have mm := m4.trans m5
 have rc5 := (mm.keep h.next (by omega)).trans rc3
 have R5 := R3.more mm
 have c5 := c3.trans (mm.but r)
 simp (disch := omega) only [EL, ↓K3, ↓K1, reduceIte, Nat.reduceEqDiff, Nat.reduceAdd, Nat.reduceLeDiff]
 refine hQ _ ?_
 clear hQ Q1
 refine zBs fun h6 n6 g6 m6 => ?_
 obtain ⟨cb, gb, cb0⟩ := g6
 simp only [zAa]
 have R6 := R5.more m6
 have c6 := c5.trans (m6.but r)
 have nc6 := nc.keep (m6.keep ia i2)
 have rc6 := (m6.keep h.next (by omega)).trans rc5
 have bx6 : BoxN h6 h5.next ia := ⟨cb, gb, cb0⟩
 have k6 := kd5.keep m6.stay
 refine zAd ?_
 refine zF4 (K := 2) (b := h5.next) (id := ia) (lo := h.next) (X := [h.next, h5.next, ia]) (r := r) (f := 100) (args := [.ptr r 0]) (by simp +decide only [EL, reduceIte, i0]) bx6 nc6 k6 (by first | omega | simp) (by omega) (by intro k hk; simp at hk; omega) (by simp) (by simp) (by omega) (by omega) (by omega) (by omega) (fun tmp => ⟨.ptr r 0, by simp +decide only [EL, reduceIte, i0], by simp +decide only [EL, reduceIte, i0]⟩) ((IH n (by omega)).block R6 hd _ rfl (zAz hy hne)) (fun v h9 q => ?_) (fun v h9 e => ?_)
 rotate_left
 ·obtain ⟨p, er, hx, rfl, fr'⟩ := e
  rw [hx] at hy
  exact ⟨p, er, hy.symm, rfl, MoreBut.trans c6 fr'⟩
 obtain ⟨p, i, hx, li9, R9, b9, u, rfl, tr⟩ := q
 rw [hx, zAt] at hy
 have n9 := b9.next
 refine ⟨b9, u, p, rfl, tr, fun h10 kv' n10 keep nc10 k10 => ?_⟩
 have R10 := R9.keep n10 fun k hk => keep k (by have := R9.lt; omega) (.inl (by omega)) (by omega)
 have c10 : MoreBut r _ h10 := ⟨Nat.le_trans (MoreBut.trans c6 b9).next n10, fun k h1 h2 => by rw [keep k (by omega) (.inl (by omega)) (by omega)]; exact (MoreBut.trans c6 b9).keep k h1 h2⟩
 try simp only [zAa, zAi]
 have rc10 := (keep h.next (by omega) (.inr (by simp)) (by omega)).trans ((b9.keep h.next (by omega) (by omega)).trans rc6)
 have bx10 := bx6.keep ((keep h5.next (by omega) (.inr (by simp)) (by omega)).trans (b9.keep h5.next (by omega) (by omega)))
 clear keep
 refine zAd ?_
 refine zAd (zAb fun Q1 hQ => ?_)
 simp (disch := omega) only [EL, ↓K3, ↓K1, reduceIte, Nat.reduceEqDiff, Nat.reduceAdd, Nat.reduceLeDiff, i0]
 refine (zDz H R10 _).to fun v h11 q => ?_
 obtain ⟨rfl, R11, b11⟩ := q
 have n11 := b11.next
 have rc11 := (b11.keep h.next (by omega) (by omega)).trans rc10
 have bx11 := bx10.keep (b11.keep h5.next (by omega) (by omega))
 have nc11 := nc10.keep (b11.keep ia (by omega) (by omega))
 have k11 := k10.keep (b11.stay (F := fun k => h.next ≤ k ∧ k ∉ [h.next, h5.next, ia]) (by simp; omega))
 have c11 := c10.trans b11
 simp (disch := omega) only [EL, ↓K3, ↓K1, reduceIte, Nat.reduceEqDiff, Nat.reduceAdd, Nat.reduceLeDiff]
 refine hQ _ ?_
 clear hQ Q1
 try simp only [zAa]
 cases hE : isT ts en [101, 108, 115, 101] i with
 | false =>
  rw [hE, if_neg (by simp)] at hy R11
  refine wc_no (by simp +decide only [EL, reduceIte, hE]) ?_
  refine zAl ?_
  simp only [zAa]
  obtain ⟨cx, gx, cx0⟩ := bx11
  refine zCu (b := h5.next) (rc := h.next) (by simp +decide only [EL, reduceIte]) gx cx0 (by simp +decide only [EL, reduceIte]) rc11 (by rw [zAk]; rfl) fun h12 o8 => ?_
  have n12 := o8.next
  refine ⟨_, _, hy.symm, by omega, o8.rs R11 (by omega), o8.mb c11 (Nat.le_refl _), _, rfl, ?_⟩
  exact (k11.keep (o8.stay (by simp))).tree2 (nc11.keep (o8.keep _ (by omega))) (by show h.next ≤ _; omega) (by omega) fun k hk _ => hk
 | true =>
  rw [hE, if_pos rfl] at hy R11
  refine zAq (by simp +decide only [EL, reduceIte, hE]) ?_
  refine zAd (zAb fun Q1 hQ => ?_)
  simp (disch := omega) only [EL, ↓K3, ↓K1, reduceIte, Nat.reduceEqDiff, Nat.reduceAdd, Nat.reduceLeDiff, i0]
  refine hQ _ ?_
  clear hQ Q1
  try simp only [zAa]
  refine zAd ?_
  refine zAd (zAb fun Q1 hQ => ?_)
  simp (disch := omega) only [EL, ↓K3, ↓K1, reduceIte, Nat.reduceEqDiff, Nat.reduceAdd, Nat.reduceLeDiff, i0]
  refine (is_gp H R11 _).to fun v h12 q => ?_
  obtain ⟨rfl, m12⟩ := q
  have n12 := m12.next
  have R12 := R11.more m12
  have rc12 := (m12.keep h.next (by omega)).trans rc11
  have c12 := c11.trans (m12.but r)
  have bx12 := bx11.keep (m12.keep h5.next (by omega))
  have nc12 := nc11.keep (m12.keep ia (by omega))
  have k12 := k11.keep m12.stay
  simp (disch := omega) only [EL, ↓K3, ↓K1, reduceIte, Nat.reduceEqDiff, Nat.reduceAdd, Nat.reduceLeDiff]
  refine hQ _ ?_
  clear hQ Q1
  try simp only [zAa]
  cases hI : isT ts en [105, 102] (i + 1) with
  | true =>
   rw [hI, if_pos rfl] at hy
   refine zAq (by simp +decide only [EL, reduceIte, hI]) ?_
   refine zAb fun Q1 hQ => ?_
   simp (disch := omega) only [EL, ↓K3, ↓K1, reduceIte, Nat.reduceEqDiff, Nat.reduceAdd, Nat.reduceLeDiff, i0]
   refine hQ _ ?_
   clear hQ Q1
   simp only [zAa]
   refine zF4 (K := 2) (b := h5.next) (id := ia) (lo := h.next) (X := [h.next, h5.next, ia]) (r := r) (f := 133) (args := [.ptr r 0]) (by simp +decide only [EL, reduceIte, i0]) bx12 nc12 k12 (by first | omega | simp) (by omega) (by intro k hk; simp at hk; omega) (by simp) (by simp) (by omega) (by omega) (by omega) (by omega) (fun tmp => ⟨.fn 133 [.ptr r 0] [], by simp +decide only [EL, reduceIte, i0], by simp +decide only [EL, reduceIte, i0]⟩) ((IH n (by omega)).branch R12 hd _ rfl (zAz hy hne)) (fun v h9 q => ?_) (fun v h9 e => ?_)
   rotate_left
   ·obtain ⟨p, er, hx, rfl, fr'⟩ := e
    rw [hx] at hy
    exact ⟨p, er, hy.symm, rfl, MoreBut.trans c12 fr'⟩
   obtain ⟨p, i, hx, li9, R9, b9, u, rfl, tr⟩ := q
   rw [hx, zAt] at hy
   have n9 := b9.next
   refine ⟨b9, u, p, rfl, tr, fun h10 kv' n10 keep nc10 k10 => ?_⟩
   have R10 := R9.keep n10 fun k hk => keep k (by have := R9.lt; omega) (.inl (by omega)) (by omega)
   have c10 : MoreBut r _ h10 := ⟨Nat.le_trans (MoreBut.trans c12 b9).next n10, fun k h1 h2 => by rw [keep k (by omega) (.inl (by omega)) (by omega)]; exact (MoreBut.trans c12 b9).keep k h1 h2⟩
   try simp only [zAa, zAi]
   have rc14 := (keep h.next (by omega) (.inr (by simp)) (by omega)).trans ((b9.keep h.next (by omega) (by omega)).trans rc12)
   have bx14 := bx12.keep ((keep h5.next (by omega) (.inr (by simp)) (by omega)).trans (b9.keep h5.next (by omega) (by omega)))
   obtain ⟨cx, gx, cx0⟩ := bx14
   refine zCu (b := h5.next) (rc := h.next) (by simp +decide only [EL, reduceIte]) gx cx0 (by simp +decide only [EL, reduceIte]) rc14 (by rw [zAk]; rfl) fun h15 o8 => ?_
   have n15 := o8.next
   refine ⟨_, _, hy.symm, by omega, o8.rs R10 (by omega), o8.mb c10 (Nat.le_refl _), _, rfl, ?_⟩
   exact (k10.keep (o8.stay (by simp))).tree2 (nc10.keep (o8.keep _ (by omega))) (by show h.next ≤ _; omega) (by omega) fun k hk _ => hk
  | false =>
   rw [hI, if_neg (by simp)] at hy
   refine wc_no (by simp +decide only [EL, reduceIte, hI]) ?_
   refine zAl ?_
   simp only [zAa]
   refine zF4 (K := 2) (b := h5.next) (id := ia) (lo := h.next) (X := [h.next, h5.next, ia]) (r := r) (f := 100) (args := [.ptr r 0]) (by simp +decide only [EL, reduceIte, i0]) bx12 nc12 k12 (by first | omega | simp) (by omega) (by intro k hk; simp at hk; omega) (by simp) (by simp) (by omega) (by omega) (by omega) (by omega) (fun tmp => ⟨.fn 100 [.ptr r 0] [], by simp +decide only [EL, reduceIte, i0], by simp +decide only [EL, reduceIte, i0]⟩) ((IH n (by omega)).block R12 hd _ rfl (zAz hy hne)) (fun v h9 q => ?_) (fun v h9 e => ?_)
   rotate_left
   ·obtain ⟨p, er, hx, rfl, fr'⟩ := e
    rw [hx] at hy
    exact ⟨p, er, hy.symm, rfl, MoreBut.trans c12 fr'⟩
   obtain ⟨p, i, hx, li9, R9, b9, u, rfl, tr⟩ := q
   rw [hx, zAt] at hy
   have n9 := b9.next
   refine ⟨b9, u, p, rfl, tr, fun h10 kv' n10 keep nc10 k10 => ?_⟩
   have R10 := R9.keep n10 fun k hk => keep k (by have := R9.lt; omega) (.inl (by omega)) (by omega)
   have c10 : MoreBut r _ h10 := ⟨Nat.le_trans (MoreBut.trans c12 b9).next n10, fun k h1 h2 => by rw [keep k (by omega) (.inl (by omega)) (by omega)]; exact (MoreBut.trans c12 b9).keep k h1 h2⟩
   try simp only [zAa, zAi]
   have rc14 := (keep h.next (by omega) (.inr (by simp)) (by omega)).trans ((b9.keep h.next (by omega) (by omega)).trans rc12)
   have bx14 := bx12.keep ((keep h5.next (by omega) (.inr (by simp)) (by omega)).trans (b9.keep h5.next (by omega) (by omega)))
   obtain ⟨cx, gx, cx0⟩ := bx14
   refine zCu (b := h5.next) (rc := h.next) (by simp +decide only [EL, reduceIte]) gx cx0 (by simp +decide only [EL, reduceIte]) rc14 (by rw [zAk]; rfl) fun h15 o8 => ?_
   have n15 := o8.next
   refine ⟨_, _, hy.symm, by omega, o8.rs R10 (by omega), o8.mb c10 (Nat.le_refl _), _, rfl, ?_⟩
   exact (k10.keep (o8.stay (by simp))).tree2 (nc10.keep (o8.keep _ (by omega))) (by show h.next ≤ _; omega) (by omega) fun k hk _ => hk
include H in
theorem block1_ge {n bx : Nat} (IH : ∀ m, m < n → SX tab ts en m) (R : RS ts en h r i d) (hd : d ≤ 40) (B : RBox h bx r) (hi : i < ts.length) :
  GS tab 121 [.ptr bx 0] ts en r i d h ((zCb ts en n (i + 1) d []).bind fun k i' d => .ok (.mk 6 [] [] 0 (now ts en i).pos k) i' d) fun t v h1 => okT t h.next v h1 := by
 intro y hy hne
 have i0 : zAg [.ptr bx 0] = zAc [.ptr bx 0] := rfl
 have f2 : ∀ (t : Tok) h', zB6 2 1 false (.c (tokV t)) .leaf [] h' = .val (.int .i64 (t.pos : Int)) h' := fun _ _ => rfl
 have hr := R.lt
 obtain ⟨z, hz⟩ : ∃ z, z = i := ⟨_, rfl⟩
 refine ge_of H.t121 rfl ?_
 refine zBi fun h1 n1 g1 m1 => ?_
 have R1 := R.more m1
 have rc1 := g1
 have c1 := m1.but r
 have B1 := B.mb (m1.but r)
 have gx1 := B1.2.2
 have hbx := B.1
 refine zAd (zAb fun Q1 hQ => ?_)
 simp (disch := omega) only [EL, ↓K3, ↓K1, reduceIte, Nat.reduceEqDiff, Nat.reduceAdd, Nat.reduceLeDiff, i0, gx1, zA1]
 refine (zCg H R1 hi).to fun v h2 q => ?_
 obtain ⟨rfl, R2, b2⟩ := q
 have n2 := b2.next
 have rc2 := (b2.keep h.next (by omega) (by omega)).trans rc1
 have c2 := c1.trans b2
 simp (disch := omega) only [EL, ↓K3, ↓K1, reduceIte, Nat.reduceEqDiff, Nat.reduceAdd, Nat.reduceLeDiff, f2]
 refine (zDd H (kv := .nils) (op := 6) (fun _ => rfl) rfl).to fun v h3 q => ?_
 obtain ⟨ia, rfl, i1, i2, nc, m3⟩ := q
 have n3 := m3.next
 simp (disch := omega) only [EL, ↓K3, ↓K1, reduceIte, Nat.reduceEqDiff, Nat.reduceAdd, Nat.reduceLeDiff]
 refine hQ _ ?_
 clear hQ Q1
 refine zBs fun h4 n4 g4 m4 => ?_
 obtain ⟨cb, gb, cb0⟩ := g4
 simp only [zAa]
 have m24 := m3.trans m4
 have R4 := R2.more m24
 have B4 := (B1.mb b2).mb (m24.but r)
 have b4 := c2.trans (m24.but r)
 have nc4 := nc.keep (m4.keep ia i2)
 have rc4 := (m24.keep h.next (by omega)).trans rc2
 have bx4 : BoxN h4 h3.next ia := ⟨cb, gb, cb0⟩
 generalize (now ts en i).pos = pos at *
 refine zG0 (fun l d1 h7 => ∃ i ks kv, d1 = [] ∧ l.get 0 = some (.ptr bx 0) ∧ l.get 2 = some (.ptr h3.next 0) ∧ l.get 3 = some (.ptr h.next 0) ∧ RS ts en h7 r i d ∧ MoreBut r h h7 ∧ BoxN h7 h3.next ia ∧ NodeC h7 ia 6 [] [] 0 pos kv ∧ Kids h7 h.next [h.next, h3.next, ia] kv ks ∧
  h7.mem.get h.next = some (.cells (zAc [.nilp]) (llen [.nilp]) none false) ∧ y = .ok (.mk 6 [] [] 0 pos ks) i d ∧ h4.next ≤ h7.next ∧ z < i) ?_ ?_
 ·refine zAu ?_
  refine zCc (fun m l d1 h7 => ∃ i ks kv, m ≤ n ∧ d1 = [] ∧ l.get 0 = some (.ptr bx 0) ∧ l.get 2 = some (.ptr h3.next 0) ∧ l.get 3 = some (.ptr h.next 0) ∧ RS ts en h7 r i d ∧ MoreBut r h h7 ∧ RBox h7 bx r ∧ BoxN h7 h3.next ia ∧ NodeC h7 ia 6 [] [] 0 pos kv ∧ Kids h7 h.next [h.next, h3.next, ia] kv ks ∧
   h7.mem.get h.next = some (.cells (zAc [.nilp]) (llen [.nilp]) none false) ∧ h4.next ≤ h7.next ∧ z < i ∧ ks.length ≤ i ∧ (zCb ts en m i d ks).bind (fun k i d => .ok (.mk 6 [] [] 0 pos k) i d) = y) ?_ n ?_
  ·rintro m l d1 h7 ⟨i, ks, kv, hm, rfl, l0, l2, l3, R7, b7, B7, bx7, nc7, k7, rc7, n7, zi, kl, hy⟩
   cases m with
   | zero => exact absurd (by rw [← hy]; simp [zCb, PR.bind]) hne
   | succ m =>
    have le7 := R7.le
    have ln := R7.ln
    have gx7 := B7.2.2
    refine zAd ?_
    refine zAd (zAb fun Q1 hQ => ?_)
    simp (disch := omega) only [EL, ↓K3, ↓K1, reduceIte, Nat.reduceEqDiff, Nat.reduceAdd, Nat.reduceLeDiff, l0, gx7, zA1]
    refine (zDz H R7 _).to fun v h8 q => ?_
    obtain ⟨rfl, R8, b8⟩ := q
    have n8 := b8.next
    simp (disch := omega) only [EL, ↓K3, ↓K1, reduceIte, Nat.reduceEqDiff, Nat.reduceAdd, Nat.reduceLeDiff, l0]
    refine hQ _ ?_
    clear hQ Q1
    simp only [zAa]
    have B8 := B7.mb b8
    have gx8 := B8.2.2
    have rc8 := (b8.keep h.next (by omega) (by omega)).trans rc7
    have bx8 := bx7.keep (b8.keep h3.next (by omega) (by omega))
    have nc8 := nc7.keep (b8.keep ia (by omega) (by omega))
    have k8 := k7.keep (b8.stay (F := fun k => h.next ≤ k ∧ k ∉ [h.next, h3.next, ia]) (by simp; omega))
    have c8 := b7.trans b8
    unfold zCb at hy
    cases hc : isT ts en [125] i with
    | true =>
     rw [hc, if_pos rfl] at hy R8
     refine wc_no (by simp +decide only [EL, reduceIte, hc, Bool.not_true]) ?_
     refine zC1 ?_
     simp only [zBd, zBa, if_true, zAa]
     exact ⟨_, ks, kv, trivial, by simp +decide only [EL, reduceIte, l0], by simp +decide only [EL, reduceIte, l2], by simp +decide only [EL, reduceIte, l3], R8, c8, bx8, nc8, k8, rc8, hy.symm, by omega, by omega⟩
    | false =>
     rw [hc, if_neg (by simp)] at hy R8
     simp only [zEp] at hy
     refine zAq (by simp +decide only [EL, reduceIte, hc, Bool.not_false]) ?_
     refine zAl ?_
     simp only [zAa]
     refine zAu ?_
     refine zF4 (K := 2) (b := h3.next) (id := ia) (lo := h.next) (X := [h.next, h3.next, ia]) (r := r) (f := 122) (args := [.ptr r 0]) (by simp +decide only [EL, reduceIte, l0, l2, gx8, zA1]) bx8 nc8 k8 (by first | omega | simp) (by omega) (by intro k hk; simp at hk; omega) (by simp) (by simp) (by omega) (by omega) (by omega) (by omega) (fun tmp => ⟨.ptr r 0, by simp +decide only [EL, reduceIte, l0, l2, gx8, zA1], by simp +decide only [EL, reduceIte, l0, l2, gx8, zA1]⟩) ((IH m (by omega)).stmt R8 hd _ rfl (zAz hy hne)) (fun v h9 q => ?_) (fun v h9 e => ?_)
     rotate_left
     ·obtain ⟨p, er, hx, rfl, fr'⟩ := e
      rw [hx] at hy
      exact ⟨p, er, hy.symm, rfl, MoreBut.trans c8 fr'⟩
     obtain ⟨p, i, hx, li9, R9, b9, u, rfl, tr⟩ := q
     rw [hx, zAt] at hy
     have n9 := b9.next
     refine ⟨b9, u, p, rfl, tr, fun h10 kv' n10 keep nc10 k10 => ?_⟩
     have R10 := R9.keep n10 fun k hk => keep k (by have := R9.lt; omega) (.inl (by omega)) (by omega)
     have c10 : MoreBut r _ h10 := ⟨Nat.le_trans (MoreBut.trans c8 b9).next n10, fun k h1 h2 => by rw [keep k (by omega) (.inl (by omega)) (by omega)]; exact (MoreBut.trans c8 b9).keep k h1 h2⟩
     try simp only [zAa, zAi]
     have rc10 := (keep h.next (by omega) (.inr (by simp)) (by omega)).trans ((b9.keep h.next (by omega) (by omega)).trans rc8)
     have bx10 := bx8.keep ((keep h3.next (by omega) (.inr (by simp)) (by omega)).trans (b9.keep h3.next (by omega) (by omega)))
     have B10 := B.mb c10
     try simp only [zAi, zAa]
     exact ⟨m, by omega, _, _, _, by omega, trivial, by simp +decide only [EL, reduceIte, l0], by simp +decide only [EL, reduceIte, l2], by simp +decide only [EL, reduceIte, l3], R10, c10, B10, bx10, nc10, k10, rc10, by omega, by omega, by simp; omega, hy⟩
  ·exact ⟨_, [], .nils, Nat.le_refl _, rfl, by simp +decide only [EL, reduceIte, i0], by simp +decide only [EL, reduceIte, i0], by simp +decide only [EL, reduceIte, i0], R4, b4, B4, bx4, nc4, Kids.nils, rc4, by omega, by omega, by simp, hy⟩
 ·rintro l d1 h7 ⟨i, ks, kv, rfl, l0, l2, l3, R7, b7, bx7, nc7, k7, rc7, rfl, n7, zi⟩
  obtain ⟨cx, gx, cx0⟩ := bx7
  refine zCu (b := h3.next) (rc := h.next) (by simp +decide only [EL, reduceIte, l2]) gx cx0 (by simp +decide only [EL, reduceIte, l3]) rc7 (by rw [zAk]; rfl) fun h9 o9 => ?_
  have k9 := k7.keep (o9.stay (F := fun k => h.next ≤ k ∧ k ∉ [h.next, h3.next, ia]) (by simp))
  refine ⟨_, _, rfl, by omega, o9.rs R7 (by omega), o9.mb b7 (Nat.le_refl _), _, rfl, ?_⟩
  exact k9.tree (nc7.keep (o9.keep _ (by omega))) (by show h.next ≤ ia; omega) (by rw [o9.next]; omega) fun k hk => hk
include H in
theorem block_ge {n : Nat} (IH : ∀ m, m < n → SX tab ts en m) (R : RS ts en h r i d) (hd : d ≤ 40) : GS tab 100 [.ptr r 0] ts en r i d h (zBw ts en n i d) fun t v h1 => okT t h.next v h1 := by
 intro y hy hne
 cases n with
 | zero => exact absurd (by rw [← hy]; simp [zBw]) hne
 | succ n =>
 have i0 : zAg [.ptr r 0] = zAc [.ptr r 0] := rfl
 have hr := R.lt
 refine ge_of H.t100 rfl ?_
 refine zF5 (v := .ptr r 0) rfl (fun _ => zLz) fun h1 n1 g1 g2 m1 => ?_
 have R1 := R.more m1
 have B1 : RBox h1 h.next r := ⟨by omega, by omega, g1⟩
 unfold zBw at hy
 refine zAd ?_
 refine zAd (zAb fun Q1 hQ => ?_)
 simp (disch := omega) only [EL, ↓K3, ↓K1, reduceIte, Nat.reduceEqDiff, Nat.reduceAdd, Nat.reduceLeDiff, i0, g1, zA1]
 refine (is_gp H R1 _).to fun v h2 q => ?_
 obtain ⟨rfl, m2⟩ := q
 have n2 := m2.next
 have R2 := R1.more m2
 have B2 := B1.mb (m2.but r)
 have gx2 := B2.2.2
 have rc2 := (m2.keep (h.next + 1) (by omega)).trans g2
 have c2 : MoreBut r h h2 := (m1.trans m2).but r
 simp (disch := omega) only [EL, ↓K3, ↓K1, reduceIte, Nat.reduceEqDiff, Nat.reduceAdd, Nat.reduceLeDiff, i0]
 refine hQ _ ?_
 clear hQ Q1
 simp only [zAa]
 cases hc : isT ts en [123] i with
 | false =>
  rw [hc, if_neg (by simp)] at hy
  refine zAq (by simp +decide only [EL, reduceIte, hc, Bool.not_false]) ?_
  refine zAb fun Q1 hQ => ?_
  simp (disch := omega) only [EL, ↓K3, ↓K1, reduceIte, Nat.reduceEqDiff, Nat.reduceAdd, Nat.reduceLeDiff, i0, gx2, zA1]
  refine (zEt H R2).mono (fun v h3 q => q.elim) fun v h3 q => ?_
  exact hQ _ ⟨_, _, hy.symm, q.1, c2.trans (q.2.but r)⟩
 | true =>
  rw [hc, if_pos rfl] at hy
  refine wc_no (by simp +decide only [EL, reduceIte, hc, Bool.not_true]) ?_
  refine zAl ?_
  simp only [zAa]
  refine zAd (zAb fun Q1 hQ => ?_)
  simp (disch := omega) only [EL, ↓K3, ↓K1, reduceIte, Nat.reduceEqDiff, Nat.reduceAdd, Nat.reduceLeDiff, i0, gx2, zA1]
  refine (zHz H (F := 121) (caps := [.ptr h.next 0]) (k := fun i d => (zCb ts en n (i + 1) d []).bind fun k i' d => .ok (.mk 6 [] [] 0 (now ts en i).pos k) i' d) R2 hd (fun hd' h' R' b' => block1_ge H (fun m hm => IH m (by omega)) R' hd' (B2.mb b') (is_lt hc)) y hy hne).mono (fun v h4 q => ?_) (fun v h4 e => ?_)
  rotate_left
  ·obtain ⟨p, er, hx, rfl, fr'⟩ := e
   exact hQ _ ⟨p, er, hx, rfl, MoreBut.trans c2 fr'⟩
  obtain ⟨t, i', hx, li, R4, b4, u, rfl, tr⟩ := q
  have n4 := b4.next
  have rc4 := (b4.keep (h.next + 1) (by omega) (by omega)).trans rc2
  refine ⟨rfl, ?_⟩
  refine zFy (rc := h.next + 1) (by simp +decide only [EL, reduceIte]) rc4 (by rw [zAk]; rfl) fun h5 o5 g5 => hQ _ ?_
  obtain ⟨c5, gc5, gc50⟩ := g5
  refine zJt (rc := h.next + 1) (by simp +decide only [EL, reduceIte]) gc5 gc50 ⟨t, i', hx, li, o5.rs R4 (by omega), o5.mb (c2.trans b4) (by omega), _, rfl, ?_⟩
  exact TreeR.keep (o5.stay (F := fun k => h2.next ≤ k) (by omega)) (fun k hk _ => by show h.next ≤ k; omega) tr
include H in
theorem all_sx : ∀ n, SX tab ts en n := by
 intro n
 induction n using Nat.strongRecOn with
 | _ n IH => exact ⟨fun R hd => stmt_ge H IH R hd, fun R hd => branch_ge H IH R hd, fun R hd => block_ge H IH R hd⟩
end
end Go.Ev
namespace Go.Ev
open Go Go.Pa
section
variable {tab : Nat → Option AFunc} {h : AH} (H : PT tab) {ts : List Tok} {en r i d : Nat}
include H in
theorem func_ge {n : Nat} (R : RS ts en h r i d) (hd : d ≤ 40) : GS tab 72 [.ptr r 0] ts en r i d h (funcS ts en n i d) fun t v h1 => okT t h.next v h1 := by
 intro y hy hne
 have i0 : zAg [.ptr r 0] = zAc [.ptr r 0] := rfl
 have hr := R.lt
 obtain ⟨z, hz⟩ : ∃ z, z = i := ⟨_, rfl⟩
 refine ge_of H.t72 rfl ?_
 refine zBi fun h1 n1 g1 m1 => ?_
 have R1 := R.more m1
 have rc1 := g1
 have c1 := m1.but r
 unfold funcS at hy
 refine zAd (zAb fun Q1 hQ => ?_)
 simp (disch := omega) only [EL, ↓K3, ↓K1, reduceIte, Nat.reduceEqDiff, Nat.reduceAdd, Nat.reduceLeDiff, i0]
 refine (zG4 H R1 _ rfl (zAz hy hne)).mono (fun v h2 q => ?_) (fun v h2 e => ?_)
 rotate_left
 ·obtain ⟨p, er, hx, rfl, fr'⟩ := e
  rw [hx] at hy
  exact hQ _ ⟨p, er, hy.symm, rfl, MoreBut.trans c1 fr'⟩
 obtain ⟨t, i, hx, lib2, R2, b2, q⟩ := q
 rw [hx, zAt] at hy
 have nb2 := MoreBut.next b2
 obtain ⟨rfl, tb⟩ := q
 have rc2 := (b2.keep h.next (by omega) (by omega)).trans rc1
 have c2 := c1.trans b2
 simp (disch := omega) only [EL, ↓K3, ↓K1, reduceIte, Nat.reduceEqDiff, Nat.reduceAdd, Nat.reduceLeDiff]
 refine (zGe H (op := 4) (t := t) (kv := .nils) (fun _ => rfl) rfl).to fun v h3 q => ?_
 obtain ⟨ia, rfl, i1, i2, nc, m3⟩ := q
 have n3 := m3.next
 simp (disch := omega) only [EL, ↓K3, ↓K1, reduceIte, Nat.reduceEqDiff, Nat.reduceAdd, Nat.reduceLeDiff]
 refine hQ _ ?_
 clear hQ Q1
 refine zBs fun h4 n4 g4 m4 => ?_
 obtain ⟨cb, gb, cb0⟩ := g4
 simp only [zAa]
 have m24 := m3.trans m4
 have R4 := R2.more m24
 have c4 := c2.trans (m24.but r)
 have nc4 := nc.keep (m4.keep ia i2)
 have rc4 := (m24.keep h.next (by omega)).trans rc2
 have bx4 : BoxN h4 h3.next ia := ⟨cb, gb, cb0⟩
 refine zAd (zAb fun Q1 hQ => ?_)
 simp (disch := omega) only [EL, ↓K3, ↓K1, reduceIte, Nat.reduceEqDiff, Nat.reduceAdd, Nat.reduceLeDiff, i0]
 refine (zBo H R4 _ _ rfl (zAz hy hne)).mono (fun v h5 q => ?_) (fun v h5 e => ?_)
 rotate_left
 ·obtain ⟨p, er, hx, rfl, fr'⟩ := e
  rw [hx] at hy
  exact hQ _ ⟨p, er, hy.symm, rfl, MoreBut.trans c4 fr'⟩
 obtain ⟨p5, i, hx, lib5, R5, b5, q⟩ := q
 rw [hx, zAt] at hy
 have nb5 := MoreBut.next b5
 have rc5 := (b5.keep h.next (by omega) (by omega)).trans rc4
 have bx5 := bx4.keep (b5.keep h3.next (by omega) (by omega))
 have nc5 := nc4.keep (b5.keep ia (by omega) (by omega))
 have c5 := c4.trans b5
 simp (disch := omega) only [EL, ↓K3, ↓K1, reduceIte, Nat.reduceEqDiff, Nat.reduceAdd, Nat.reduceLeDiff]
 refine hQ _ ?_
 clear hQ Q1
 try simp only [zAa]
 let K : List Tree → Nat → Nat → PR Tree := fun k i d => (zA9 ts en [41] i d).bind fun _ i d =>
  (if isT ts en [123] i then .ok [] i d else typS ts en i d).bind fun ty i d => (zBw ts en n i d).bind fun b i d => .ok (.mk 4 t.text ty 0 t.pos (k ++ [b])) i d
 have hK : K = fun k i d => (zA9 ts en [41] i d).bind fun _ i d =>
  (if isT ts en [123] i then .ok [] i d else typS ts en i d).bind fun ty i d => (zBw ts en n i d).bind fun b i d => .ok (.mk 4 t.text ty 0 t.pos (k ++ [b])) i d := rfl
 change (zCe ts en n i d []).bind K = y at hy
 clear_value K
 refine zG0 (fun l d1 h7 => ∃ i ks kv, d1 = [] ∧ l.get 0 = some (.ptr r 0) ∧ l.get 2 = some (.ptr h3.next 0) ∧ l.get 6 = some (.ptr h.next 0) ∧ RS ts en h7 r i d ∧ MoreBut r h h7 ∧ BoxN h7 h3.next ia ∧ NodeC h7 ia 4 t.text [] 0 t.pos kv ∧ Kids h7 h.next [h.next, h3.next, ia] kv ks ∧
  h7.mem.get h.next = some (.cells (zAc [.nilp]) (llen [.nilp]) none false) ∧ y = K ks i d ∧ h5.next ≤ h7.next ∧ z < i ∧ ks.length ≤ i ∧ i < ts.length) ?_ ?_
 ·refine zAu ?_
  refine zCc (fun m l d1 h7 => ∃ i ks kv, d1 = [] ∧ l.get 0 = some (.ptr r 0) ∧ l.get 2 = some (.ptr h3.next 0) ∧ l.get 6 = some (.ptr h.next 0) ∧ RS ts en h7 r i d ∧ MoreBut r h h7 ∧ BoxN h7 h3.next ia ∧ NodeC h7 ia 4 t.text [] 0 t.pos kv ∧ Kids h7 h.next [h.next, h3.next, ia] kv ks ∧
   h7.mem.get h.next = some (.cells (zAc [.nilp]) (llen [.nilp]) none false) ∧ h5.next ≤ h7.next ∧ z < i ∧ ks.length ≤ i ∧ (zCe ts en m i d ks).bind K = y) ?_ n ?_
  ·rintro m l d1 h7 ⟨i, ks, kv, rfl, l0, l2, l3, R7, b7, bx7, nc7, k7, rc7, n7, zi, kl, hy⟩
   cases m with
   | zero => exact absurd (by rw [← hy]; simp [zCe, PR.bind]) hne
   | succ m =>
    have le7 := R7.le
    have ln := R7.ln
    refine zAd ?_
    refine zAd (zAb fun Q1 hQ => ?_)
    simp (disch := omega) only [EL, ↓K3, ↓K1, reduceIte, Nat.reduceEqDiff, Nat.reduceAdd, Nat.reduceLeDiff, l0]
    refine (is_gp H R7 _).to fun v h8 q => ?_
    obtain ⟨rfl, m8⟩ := q
    have n8 := m8.next
    simp (disch := omega) only [EL, ↓K3, ↓K1, reduceIte, Nat.reduceEqDiff, Nat.reduceAdd, Nat.reduceLeDiff, l0]
    refine hQ _ ?_
    clear hQ Q1
    simp only [zAa]
    have R8 := R7.more m8
    have rc8 := (m8.keep h.next (by omega)).trans rc7
    have bx8 := bx7.keep (m8.keep h3.next (by omega))
    have nc8 := nc7.keep (m8.keep ia (by omega))
    have k8 := k7.keep m8.stay
    have c8 := b7.trans (m8.but r)
    unfold zCe at hy
    cases hc : isT ts en [41] i with
    | true =>
     rw [hc, if_pos rfl, zAt] at hy
     refine wc_no (by simp +decide only [EL, reduceIte, hc, Bool.not_true]) ?_
     refine zC1 ?_
     simp only [zBd, zBa, if_true, zAa]
     exact ⟨_, ks, kv, trivial, by simp +decide only [EL, reduceIte, l0], by simp +decide only [EL, reduceIte, l2], by simp +decide only [EL, reduceIte, l3], R8, c8, bx8, nc8, k8, rc8, hy.symm, by omega, by omega, kl, is_lt hc⟩
    | false =>
     rw [hc, if_neg (by simp)] at hy
     simp only [zEp] at hy
     refine zAq (by simp +decide only [EL, reduceIte, hc, Bool.not_false]) ?_
     refine zAl ?_
     simp only [zAa]
     refine zAu ?_
     refine zAd ?_
     refine zF4 (K := 2) (b := h3.next) (id := ia) (lo := h.next) (X := [h.next, h3.next, ia]) (r := r) (f := 74) (args := [.ptr r 0, .int .i64 ((5 : Nat) : Int)]) (by simp +decide only [EL, reduceIte, l0, l2]) bx8 nc8 k8 (by first | omega | simp) (by omega) (by intro k hk; simp at hk; omega) (by simp) (by simp) (by omega) (by omega) (by omega) (by omega) (fun tmp => ⟨.ptr r 0, by simp +decide only [EL, reduceIte, l0, l2], by simp +decide only [EL, reduceIte, l0, l2]⟩) (part_ge H R8 5 _ rfl (zAz hy hne)) (fun v h9 q => ?_) (fun v h9 e => ?_)
     rotate_left
     ·obtain ⟨p, er, hx, rfl, fr'⟩ := e
      rw [hx] at hy
      exact ⟨p, er, hy.symm, rfl, MoreBut.trans c8 fr'⟩
     obtain ⟨p, i, hx, li9, R9, b9, u, rfl, tr⟩ := q
     rw [hx, zAt] at hy
     have n9 := b9.next
     refine ⟨b9, u, p, rfl, tr, fun h10 kv' n10 keep nc10 k10 => ?_⟩
     have R10 := R9.keep n10 fun k hk => keep k (by have := R9.lt; omega) (.inl (by omega)) (by omega)
     have c10 : MoreBut r _ h10 := ⟨Nat.le_trans (MoreBut.trans c8 b9).next n10, fun k h1 h2 => by rw [keep k (by omega) (.inl (by omega)) (by omega)]; exact (MoreBut.trans c8 b9).keep k h1 h2⟩
     try simp only [zAa, zAi]
     have rc10 := (keep h.next (by omega) (.inr (by simp)) (by omega)).trans ((b9.keep h.next (by omega) (by omega)).trans rc8)
     have bx10 := bx8.keep ((keep h3.next (by omega) (.inr (by simp)) (by omega)).trans (b9.keep h3.next (by omega) (by omega)))
     refine zAd (zAb fun Q1 hQ => ?_)
     simp (disch := omega) only [EL, ↓K3, ↓K1, reduceIte, Nat.reduceEqDiff, Nat.reduceAdd, Nat.reduceLeDiff, l0]
     refine (is_gp H R10 _).to fun v h11 q => ?_
     obtain ⟨rfl, m11⟩ := q
     have n11 := m11.next
     simp (disch := omega) only [EL, ↓K3, ↓K1, reduceIte, Nat.reduceEqDiff, Nat.reduceAdd, Nat.reduceLeDiff, l0]
     refine hQ _ ?_
     clear hQ Q1
     simp only [zAa]
     have R11 := R10.more m11
     have rc11 := (m11.keep h.next (by omega)).trans rc10
     have bx11 := bx10.keep (m11.keep h3.next (by omega))
     have nc11 := nc10.keep (m11.keep ia (by omega))
     have k11 := k10.keep m11.stay
     have c11 := c10.trans (m11.but r)
     cases hc2 : isT ts en [41] i with
     | true =>
      rw [hc2, if_pos rfl] at hy
      refine wc_no (by simp +decide only [EL, reduceIte, hc2, Bool.not_true]) ?_
      refine zAl ?_
      simp only [zAi, zAa]
      exact ⟨m, by omega, _, _, _, trivial, by simp +decide only [EL, reduceIte, l0], by simp +decide only [EL, reduceIte, l2], by simp +decide only [EL, reduceIte, l3], R11, c11, bx11, nc11, k11, rc11, by omega, by omega, by simp; omega, hy⟩
     | false =>
      rw [hc2, if_neg (by simp)] at hy
      simp only [zEp] at hy
      refine zAq (by simp +decide only [EL, reduceIte, hc2, Bool.not_false]) ?_
      refine zAd (zAb fun Q1 hQ => ?_)
      simp (disch := omega) only [EL, ↓K3, ↓K1, reduceIte, Nat.reduceEqDiff, Nat.reduceAdd, Nat.reduceLeDiff, l0]
      refine (zBo H R11 _ _ rfl (zAz hy hne)).mono (fun v h12 q => ?_) (fun v h12 e => ?_)
      rotate_left
      ·obtain ⟨p, er, hx, rfl, fr'⟩ := e
       rw [hx] at hy
       exact hQ _ ⟨p, er, hy.symm, rfl, MoreBut.trans c11 fr'⟩
      obtain ⟨p12, i, hx, lib12, R12, b12, q⟩ := q
      rw [hx, zAt] at hy
      have nb12 := MoreBut.next b12
      simp (disch := omega) only [EL, ↓K3, ↓K1, reduceIte, Nat.reduceEqDiff, Nat.reduceAdd, Nat.reduceLeDiff, l0]
      refine hQ _ ?_
      clear hQ Q1
      simp only [zAa]
      have rc12 := (b12.keep h.next (by omega) (by omega)).trans rc11
      have bx12 := bx11.keep (b12.keep h3.next (by omega) (by omega))
      have nc12 := nc11.keep (b12.keep ia (by omega) (by omega))
      have k12 := k11.keep (b12.stay (F := fun k => h.next ≤ k ∧ k ∉ [h.next, h3.next, ia]) (by simp; omega))
      have c12 := c11.trans b12
      refine zAd (zAb fun Q1 hQ => ?_)
      simp (disch := omega) only [EL, ↓K3, ↓K1, reduceIte, Nat.reduceEqDiff, Nat.reduceAdd, Nat.reduceLeDiff, l0]
      refine (is_gp H R12 _).to fun v h13 q => ?_
      obtain ⟨rfl, m13⟩ := q
      have n13 := m13.next
      simp (disch := omega) only [EL, ↓K3, ↓K1, reduceIte, Nat.reduceEqDiff, Nat.reduceAdd, Nat.reduceLeDiff, l0]
      refine hQ _ ?_
      clear hQ Q1
      simp only [zAa]
      have R13 := R12.more m13
      have c13 := c12.trans (m13.but r)
      cases hc3 : isT ts en [41] i with
      | true =>
       rw [hc3, if_pos rfl] at hy
       refine zAq (by simp +decide only [EL, reduceIte, hc3]) ?_
       refine zAb fun Q1 hQ => ?_
       simp (disch := omega) only [EL, ↓K3, ↓K1, reduceIte, Nat.reduceEqDiff, Nat.reduceAdd, Nat.reduceLeDiff, l0]
       refine (zEt H R13).mono (fun v h3 q => q.elim) fun v h3 q => ?_
       exact hQ _ ⟨_, _, hy.symm, q.1, c13.trans (q.2.but r)⟩
      | false =>
       rw [hc3, if_neg (by simp)] at hy
       refine wc_no (by simp +decide only [EL, reduceIte, hc3]) ?_
       refine zAl ?_
       simp only [zAi, zAa]
       exact ⟨m, by omega, _, _, _, trivial, by simp +decide only [EL, reduceIte, l0], by simp +decide only [EL, reduceIte, l2], by simp +decide only [EL, reduceIte, l3], R13, c13, bx12.keep (m13.keep h3.next (by omega)), nc12.keep (m13.keep ia (by omega)), k12.keep m13.stay, (m13.keep h.next (by omega)).trans rc12, by omega, by omega, by simp; omega, hy⟩
  ·exact ⟨_, [], .nils, rfl, by simp +decide only [EL, reduceIte, i0], by simp +decide only [EL, reduceIte, i0], by simp +decide only [EL, reduceIte, i0], R5, c5, bx5, nc5, Kids.nils, rc5, by omega, by omega, by simp, hy⟩
 ·rintro l d1 h7 ⟨i, ks, kv, rfl, l0, l2, l6, R7, b7, bx7, nc7, k7, rc7, hy, n7, zi, kl, hil⟩
  rw [hK] at hy
  have hy := hy.symm
  simp only [] at hy
  have ln7 := R7.ln
  refine zAd (zAb fun Q1 hQ => ?_)
  simp (disch := omega) only [EL, ↓K3, ↓K1, reduceIte, Nat.reduceEqDiff, Nat.reduceAdd, Nat.reduceLeDiff, l0]
  refine (zBo H R7 _ _ rfl (zAz hy hne)).mono (fun v h8 q => ?_) (fun v h8 e => ?_)
  rotate_left
  ·obtain ⟨p, er, hx, rfl, fr'⟩ := e
   rw [hx] at hy
   exact hQ _ ⟨p, er, hy.symm, rfl, MoreBut.trans b7 fr'⟩
  obtain ⟨p8, i, hx, lib8, R8, b8, q⟩ := q
  rw [hx, zAt] at hy
  have nb8 := MoreBut.next b8
  simp (disch := omega) only [EL, ↓K3, ↓K1, reduceIte, Nat.reduceEqDiff, Nat.reduceAdd, Nat.reduceLeDiff, l0]
  refine hQ _ ?_
  clear hQ Q1
  try simp only [zAa]
  have rc8 := (b8.keep h.next (by omega) (by omega)).trans rc7
  have bx8 := bx7.keep (b8.keep h3.next (by omega) (by omega))
  have nc8 := nc7.keep (b8.keep ia (by omega) (by omega))
  have k8 := k7.keep (b8.stay (F := fun k => h.next ≤ k ∧ k ∉ [h.next, h3.next, ia]) (by simp; omega))
  have c8 := b7.trans b8
  refine zG0 (fun l d1 h7 => ∃ i ty, d1 = [] ∧ l.get 0 = some (.ptr r 0) ∧ l.get 2 = some (.ptr h3.next 0) ∧ l.get 6 = some (.ptr h.next 0) ∧ RS ts en h7 r i d ∧ MoreBut r h h7 ∧ BoxN h7 h3.next ia ∧ NodeC h7 ia 4 t.text ty 0 t.pos kv ∧ Kids h7 h.next [h.next, h3.next, ia] kv ks ∧
   h7.mem.get h.next = some (.cells (zAc [.nilp]) (llen [.nilp]) none false) ∧ h5.next ≤ h7.next ∧ z < i ∧ (zBw ts en n i d).bind (fun b i d => .ok (.mk 4 t.text ty 0 t.pos (ks ++ [b])) i d) = y) ?_ ?_
  ·refine zAd (zAb fun Q1 hQ => ?_)
   simp (disch := omega) only [EL, ↓K3, ↓K1, reduceIte, Nat.reduceEqDiff, Nat.reduceAdd, Nat.reduceLeDiff, l0]
   refine (is_gp H R8 _).to fun v h9 q => ?_
   obtain ⟨rfl, m9⟩ := q
   have n9 := m9.next
   have R9 := R8.more m9
   have rc9 := (m9.keep h.next (by omega)).trans rc8
   have bx9 := bx8.keep (m9.keep h3.next (by omega))
   have nc9 := nc8.keep (m9.keep ia (by omega))
   have k9 := k8.keep m9.stay
   have c9 := c8.trans (m9.but r)
   simp (disch := omega) only [EL, ↓K3, ↓K1, reduceIte, Nat.reduceEqDiff, Nat.reduceAdd, Nat.reduceLeDiff]
   refine hQ _ ?_
   clear hQ Q1
   try simp only [zAa]
   cases hB : isT ts en [123] i with
   | true =>
    rw [hB, if_pos rfl, zAt] at hy
    refine wc_no (by simp +decide only [EL, reduceIte, hB, Bool.not_true]) ?_
    refine zAl ?_
    exact ⟨_, _, rfl, by simp +decide only [EL, reduceIte, l0], by simp +decide only [EL, reduceIte, l2], by simp +decide only [EL, reduceIte, l6], R9, c9, bx9, nc9, k9, rc9, by omega, by omega, hy⟩
   | false =>
    rw [hB, if_neg (by simp)] at hy
    refine zAq (by simp +decide only [EL, reduceIte, hB, Bool.not_false]) ?_
    obtain ⟨cb, gb, cb0⟩ := id bx9
    refine zAb fun Q1 hQ => ?_
    simp (disch := omega) only [EL, ↓K3, ↓K1, reduceIte, Nat.reduceEqDiff, Nat.reduceAdd, Nat.reduceLeDiff, l0, l2, gb, cb0]
    refine (typ_ge H R9 _ rfl (zAz hy hne)).mono (fun v h10 q => ?_) (fun v h10 e => ?_)
    rotate_left
    ·obtain ⟨p, er, hx, rfl, fr'⟩ := e
     rw [hx] at hy
     exact hQ _ ⟨p, er, hy.symm, rfl, MoreBut.trans c9 fr'⟩
    obtain ⟨ty, i, hx, lib10, R10, b10, q⟩ := q
    rw [hx, zAt] at hy
    have nb10 := MoreBut.next b10
    subst q
    have rc10 := (b10.keep h.next (by omega) (by omega)).trans rc9
    have bx10 := bx9.keep (b10.keep h3.next (by omega) (by omega))
    have nc10 := nc9.keep (b10.keep ia (by omega) (by omega))
    have k10 := k9.keep (b10.stay (F := fun k => h.next ≤ k ∧ k ∉ [h.next, h3.next, ia]) (by simp; omega))
    have c10 := c9.trans b10
    have gb10 := (b10.keep h3.next (by omega) (by omega)).trans gb
    obtain ⟨c', gn', e0, e1, e2, e3, e4, e5, ncT, _⟩ := nc10.set
    simp (disch := omega) only [EL, ↓K3, ↓K1, reduceIte, Nat.reduceEqDiff, Nat.reduceAdd, Nat.reduceLeDiff, l2, zA7, zA8, gb10, cb0, gn', e2, zBj]
    refine hQ _ ?_
    clear hQ Q1
    have o11 : Only ia h10 (h10.set ia (.cells (T.put (some (sv ty)) c' 2) 6 none false)) := Only.set
    have nc11 := ncT ty
    generalize (h10.set ia (.cells (T.put (some (sv ty)) c' 2) 6 none false)) = h11 at *
    have n11 := o11.next
    exact ⟨_, _, rfl, by simp +decide only [EL, reduceIte, l0], by simp +decide only [EL, reduceIte, l2], by simp +decide only [EL, reduceIte, l6], o11.rs R10 (by omega), o11.mb c10 (by omega), bx10.keep (o11.keep _ (by omega)), nc11, k10.keep (o11.stay (by simp)), (o11.keep _ (by omega)).trans rc10, by omega, by omega, hy⟩
  ·rintro l d1 h9 ⟨i, ty, rfl, l0, l2, l6, R9, c9, bx9, nc9, k9, rc9, n9, zi, hy⟩
   refine zAd ?_
   refine zF4 (K := 2) (b := h3.next) (id := ia) (lo := h.next) (X := [h.next, h3.next, ia]) (r := r) (f := 100) (args := [.ptr r 0]) (by simp +decide only [EL, reduceIte, l0, l2]) bx9 nc9 k9 (by first | omega | simp) (by omega) (by intro k hk; simp at hk; omega) (by simp) (by simp) (by omega) (by omega) (by omega) (by omega) (fun tmp => ⟨.ptr r 0, by simp +decide only [EL, reduceIte, l0, l2], by simp +decide only [EL, reduceIte, l0, l2]⟩) ((all_sx H n).block R9 hd _ rfl (zAz hy hne)) (fun v h9 q => ?_) (fun v h9 e => ?_)
   rotate_left
   ·obtain ⟨p, er, hx, rfl, fr'⟩ := e
    rw [hx] at hy
    exact ⟨p, er, hy.symm, rfl, MoreBut.trans c9 fr'⟩
   obtain ⟨p, i, hx, li9, R9, b9, u, rfl, tr⟩ := q
   rw [hx, zAt] at hy
   have n9 := b9.next
   refine ⟨b9, u, p, rfl, tr, fun h10 kv' n10 keep nc10 k10 => ?_⟩
   have R10 := R9.keep n10 fun k hk => keep k (by have := R9.lt; omega) (.inl (by omega)) (by omega)
   have c10 : MoreBut r _ h10 := ⟨Nat.le_trans (MoreBut.trans c9 b9).next n10, fun k h1 h2 => by rw [keep k (by omega) (.inl (by omega)) (by omega)]; exact (MoreBut.trans c9 b9).keep k h1 h2⟩
   try simp only [zAa, zAi]
   have rc14 := (keep h.next (by omega) (.inr (by simp)) (by omega)).trans ((b9.keep h.next (by omega) (by omega)).trans rc9)
   have bx14 := bx9.keep ((keep h3.next (by omega) (.inr (by simp)) (by omega)).trans (b9.keep h3.next (by omega) (by omega)))
   obtain ⟨cx, gx, cx0⟩ := bx14
   refine zCu (b := h3.next) (rc := h.next) (by simp +decide only [EL, reduceIte, l2]) gx cx0 (by simp +decide only [EL, reduceIte, l6]) rc14 (by rw [zAk]; rfl) fun h15 o8 => ?_
   have n15 := o8.next
   refine ⟨_, _, hy.symm, by omega, o8.rs R10 (by omega), o8.mb c10 (Nat.le_refl _), _, rfl, ?_⟩
   exact (k10.keep (o8.stay (by simp))).tree2 (nc10.keep (o8.keep _ (by omega))) (by show h.next ≤ _; omega) (by omega) fun k hk _ => hk
include H in
theorem decl_ge {n : Nat} (R : RS ts en h r i d) (hd : d ≤ 40) : GS tab 41 [.ptr r 0] ts en r i d h (declS ts en n i d) fun t v h1 => okT t h.next v h1 := by
 intro y hy hne
 have i0 : zAg [.ptr r 0] = zAc [.ptr r 0] := rfl
 have hr := R.lt
 obtain ⟨z, hz⟩ : ∃ z, z = i := ⟨_, rfl⟩
 refine ge_of H.t41 rfl ?_
 refine zBi fun h1 n1 g1 m1 => ?_
 have R1 := R.more m1
 have rc1 := g1
 have c1 := m1.but r
 unfold declS at hy
 refine zAd ?_
 refine zAu ?_
 refine zAd (zAb fun Q1 hQ => ?_)
 simp (disch := omega) only [EL, ↓K3, ↓K1, reduceIte, Nat.reduceEqDiff, Nat.reduceAdd, Nat.reduceLeDiff, i0]
 refine (zDz H R1 _).to fun v h2 q => ?_
 obtain ⟨rfl, R2, b2⟩ := q
 have n2 := b2.next
 have rc2 := (b2.keep h.next (by omega) (by omega)).trans rc1
 have c2 := c1.trans b2
 simp (disch := omega) only [EL, ↓K3, ↓K1, reduceIte, Nat.reduceEqDiff, Nat.reduceAdd, Nat.reduceLeDiff]
 refine hQ _ ?_
 clear hQ Q1
 try simp only [zAa]
 cases hA : isT ts en [116, 121, 112, 101] i with
 | true =>
  rw [hA, if_pos rfl] at hy R2
  refine zAq (by simp +decide only [EL, reduceIte, hA]) ?_
  refine zAd (zAb fun Q1 hQ => ?_)
  simp (disch := omega) only [EL, ↓K3, ↓K1, reduceIte, Nat.reduceEqDiff, Nat.reduceAdd, Nat.reduceLeDiff, i0]
  refine (struct_ge H R2 n _ hy hne).mono (fun v h3 q => ?_) (fun v h3 e => ?_)
  rotate_left
  ·obtain ⟨p, er, hx, rfl, fr'⟩ := e
   exact hQ _ ⟨p, er, hx, rfl, MoreBut.trans c2 fr'⟩
  obtain ⟨e, i, hx, lib3, R3, b3, q⟩ := q
  have nb3 := MoreBut.next b3
  obtain ⟨u, rfl, tr⟩ := q
  obtain ⟨ui, rfl, hu1, hu2⟩ := tr.ptr
  have rc3 := (b3.keep h.next (by omega) (by omega)).trans rc2
  simp (disch := omega) only [EL, ↓K3, ↓K1, reduceIte, Nat.reduceEqDiff, Nat.reduceAdd, Nat.reduceLeDiff, i0, rc3]
  refine hQ _ ?_
  have o4 : Only h.next h3 (h3.set h.next (.cells (T.put (some (.ptr ui 0)) (zAc [.nilp]) 0) 1 none false)) := Only.set
  have gc4 : (h3.set h.next (.cells (T.put (some (.ptr ui 0)) (zAc [.nilp]) 0) 1 none false)).mem.get h.next = some (.cells (T.put (some (.ptr ui 0)) (zAc [.nilp]) 0) 1 none false) := AH.get_set
  generalize h3.set h.next (.cells (T.put (some (.ptr ui 0)) (zAc [.nilp]) 0) 1 none false) = h4 at *
  have n4 := o4.next
  refine zAj ?_
  try simp only [zAh, zAf]
  refine zA6 (id := h.next) (by simp +decide only [EL, reduceIte, i0]) gc4 (lst := [.ptr ui 0]) (by rw [zAe, T.get_put_self]; rfl) ?_
  refine ⟨_, _, hx, by omega, o4.rs R3 (by omega), o4.mb (c2.trans b3) (by omega), _, rfl, ?_⟩
  exact TreeR.keep (o4.stay (F := fun k => h2.next ≤ k) (by omega)) (fun k hk _ => by show h.next ≤ k; omega) tr
 | false =>
 rw [hA, if_neg (by simp)] at hy R2
 refine wc_no (by simp +decide only [EL, reduceIte, hA]) ?_
 refine zAd (zAb fun Q1 hQ => ?_)
 simp (disch := omega) only [EL, ↓K3, ↓K1, reduceIte, Nat.reduceEqDiff, Nat.reduceAdd, Nat.reduceLeDiff, i0]
 refine (zDz H R2 _).to fun v h3 q => ?_
 obtain ⟨rfl, R3, b3⟩ := q
 have n3 := b3.next
 have rc3 := (b3.keep h.next (by omega) (by omega)).trans rc2
 have c3 := c2.trans b3
 simp (disch := omega) only [EL, ↓K3, ↓K1, reduceIte, Nat.reduceEqDiff, Nat.reduceAdd, Nat.reduceLeDiff]
 refine hQ _ ?_
 clear hQ Q1
 try simp only [zAa]
 cases hB : isT ts en [102, 117, 110, 99] i with
 | true =>
  rw [hB, if_pos rfl] at hy R3
  refine zAq (by simp +decide only [EL, reduceIte, hB]) ?_
  refine zAd (zAb fun Q1 hQ => ?_)
  simp (disch := omega) only [EL, ↓K3, ↓K1, reduceIte, Nat.reduceEqDiff, Nat.reduceAdd, Nat.reduceLeDiff, i0]
  refine (func_ge H R3 hd _ hy hne).mono (fun v h4 q => ?_) (fun v h4 e => ?_)
  rotate_left
  ·obtain ⟨p, er, hx, rfl, fr'⟩ := e
   exact hQ _ ⟨p, er, hx, rfl, MoreBut.trans c3 fr'⟩
  obtain ⟨e, i, hx, lib4, R4, b4, q⟩ := q
  have nb4 := MoreBut.next b4
  obtain ⟨u, rfl, tr⟩ := q
  obtain ⟨ui, rfl, hu1, hu2⟩ := tr.ptr
  have rc4 := (b4.keep h.next (by omega) (by omega)).trans rc3
  simp (disch := omega) only [EL, ↓K3, ↓K1, reduceIte, Nat.reduceEqDiff, Nat.reduceAdd, Nat.reduceLeDiff, i0, rc4]
  refine hQ _ ?_
  have o5 : Only h.next h4 (h4.set h.next (.cells (T.put (some (.ptr ui 0)) (zAc [.nilp]) 0) 1 none false)) := Only.set
  have gc5 : (h4.set h.next (.cells (T.put (some (.ptr ui 0)) (zAc [.nilp]) 0) 1 none false)).mem.get h.next = some (.cells (T.put (some (.ptr ui 0)) (zAc [.nilp]) 0) 1 none false) := AH.get_set
  generalize h4.set h.next (.cells (T.put (some (.ptr ui 0)) (zAc [.nilp]) 0) 1 none false) = h5 at *
  have n5 := o5.next
  refine zAj ?_
  try simp only [zAh, zAf]
  refine zA6 (id := h.next) (by simp +decide only [EL, reduceIte, i0]) gc5 (lst := [.ptr ui 0]) (by rw [zAe, T.get_put_self]; rfl) ?_
  refine ⟨_, _, hx, by omega, o5.rs R4 (by omega), o5.mb (c3.trans b4) (by omega), _, rfl, ?_⟩
  exact TreeR.keep (o5.stay (F := fun k => h3.next ≤ k) (by omega)) (fun k hk _ => by show h.next ≤ k; omega) tr
 | false =>
 rw [hB, if_neg (by simp)] at hy R3
 refine wc_no (by simp +decide only [EL, reduceIte, hB]) ?_
 refine zAd (zAb fun Q1 hQ => ?_)
 simp (disch := omega) only [EL, ↓K3, ↓K1, reduceIte, Nat.reduceEqDiff, Nat.reduceAdd, Nat.reduceLeDiff, i0]
 refine (zDz H R3 _).to fun v h4 q => ?_
 obtain ⟨rfl, R4, b4⟩ := q
 have n4 := b4.next
 have rc4 := (b4.keep h.next (by omega) (by omega)).trans rc3
 have c4 := c3.trans b4
 simp (disch := omega) only [EL, ↓K3, ↓K1, reduceIte, Nat.reduceEqDiff, Nat.reduceAdd, Nat.reduceLeDiff]
 refine hQ _ ?_
 clear hQ Q1
 try simp only [zAa]
 cases hC : isT ts en [118, 97, 114] i with
 | false =>
  rw [hC, if_neg (by simp)] at hy R4
  refine zAq (by simp +decide only [EL, reduceIte, hC, Bool.not_false]) ?_
  refine zAb fun Q1 hQ => ?_
  simp (disch := omega) only [EL, ↓K3, ↓K1, reduceIte, Nat.reduceEqDiff, Nat.reduceAdd, Nat.reduceLeDiff, i0]
  refine (zEt H R4).mono (fun v h6 q => q.elim) fun v h6 q => ?_
  exact hQ _ ⟨_, _, hy.symm, q.1, c4.trans (q.2.but r)⟩
 | true =>
  rw [hC, if_pos rfl] at hy R4
  refine wc_no (by simp +decide only [EL, reduceIte, hC, Bool.not_true]) ?_
  refine zAl ?_
  simp only [zAa, zAi]
  refine zAd (zAb fun Q1 hQ => ?_)
  simp (disch := omega) only [EL, ↓K3, ↓K1, reduceIte, Nat.reduceEqDiff, Nat.reduceAdd, Nat.reduceLeDiff, i0]
  refine (part_ge H R4 3 _ rfl (zAz hy hne)).mono (fun v h5 q => ?_) (fun v h5 e => ?_)
  rotate_left
  ·obtain ⟨p, er, hx, rfl, fr'⟩ := e
   rw [hx] at hy
   exact hQ _ ⟨p, er, hy.symm, rfl, MoreBut.trans c4 fr'⟩
  obtain ⟨e, i, hx, lib5, R5, b5, q⟩ := q
  rw [hx, zAt] at hy
  have nb5 := MoreBut.next b5
  obtain ⟨u, rfl, tr⟩ := q
  have rc5 := (b5.keep h.next (by omega) (by omega)).trans rc4
  have c5 := c4.trans b5
  simp (disch := omega) only [EL, ↓K3, ↓K1, reduceIte, Nat.reduceEqDiff, Nat.reduceAdd, Nat.reduceLeDiff]
  refine hQ _ ?_
  clear hQ Q1
  refine zBs fun h6 n6 g6 m6 => ?_
  obtain ⟨cb, gb, cb0⟩ := g6
  simp only [zAa]
  have R6 := R5.more m6
  have rc6 := (m6.keep h.next (by omega)).trans rc5
  have c6 := c5.trans (m6.but r)
  refine zAd (zAb fun Q1 hQ => ?_)
  simp (disch := omega) only [EL, ↓K3, ↓K1, reduceIte, Nat.reduceEqDiff, Nat.reduceAdd, Nat.reduceLeDiff, i0]
  refine (zBo H R6 _ _ rfl (zAz hy hne)).mono (fun v h7 q => ?_) (fun v h7 e => ?_)
  rotate_left
  ·obtain ⟨p, er, hx, rfl, fr'⟩ := e
   rw [hx] at hy
   exact hQ _ ⟨p, er, hy.symm, rfl, MoreBut.trans c6 fr'⟩
  obtain ⟨pp, i, hx, lib7, R7, b7, q⟩ := q
  rw [hx, zAt] at hy
  have nb7 := MoreBut.next b7
  have rc7 := (b7.keep h.next (by omega) (by omega)).trans rc6
  have gb7 := (b7.keep h5.next (by omega) (by omega)).trans gb
  simp (disch := omega) only [EL, ↓K3, ↓K1, reduceIte, Nat.reduceEqDiff, Nat.reduceAdd, Nat.reduceLeDiff]
  refine hQ _ ?_
  clear hQ Q1
  try simp only [zAa]
  refine zCu (b := h5.next) (rc := h.next) (by simp +decide only [EL, reduceIte]) gb7 cb0 (by simp +decide only [EL, reduceIte]) rc7 (by rw [zAk]; rfl) fun h8 o8 => ?_
  refine ⟨_, _, hy.symm, by omega, o8.rs R7 (by omega), o8.mb (c6.trans b7) (by omega), _, rfl, ?_⟩
  exact TreeR.keep ((m6.stay (F := fun k => h4.next ≤ k ∧ k < h5.next)).trans ((b7.stay (by omega)).trans (o8.stay (by omega)))) (fun k hk _ => by show h.next ≤ k; omega) (tr.less (G := fun k => h4.next ≤ k ∧ k < h5.next) fun k hk hl => ⟨hk, hl⟩)
end
end Go.Ev
namespace Go.Ev
open Go
section
variable {tab : Nat → Option AFunc} {loc : T AV} {h : AH} {m : Mode} {K : Mode → T AV → AH → Prop}
def WD (tab : Nat → Option AFunc) (c : ACode) (m : Mode) (loc : T AV) (h : AH) (K : Mode → T AV → AH → Prop) : Prop :=
 ∃ m' loc' h', (∃ n, ∀ k, n ≤ k → evD (evC tab k) c m loc h = .norm m' loc' h') ∧ K m' loc' h'
theorem wd_recov_ret {out : Option Nat} (x : K .ret (zAo out .nili loc) h) : WD tab (.recov out) .ret loc h K := ⟨_, _, _, ⟨0, fun _ _ => rfl⟩, x⟩
theorem wd_recov_pan {out : Option Nat} {v : AV} (x : K (.pan v true) (zAo out v loc) h) : WD tab (.recov out) (.pan v false) loc h K := ⟨_, _, _, ⟨0, fun _ _ => rfl⟩, x⟩
theorem wd_seq {a b : ACode} (x : WD tab a m loc h fun m l h => WD tab b m l h K) : WD tab (.seq a b) m loc h K := by
 obtain ⟨m1, l1, h1, ⟨n, hn⟩, m2, l2, h2, ⟨n', hn'⟩, x⟩ := x
 refine ⟨m2, l2, h2, ⟨n + n', fun k hk => ?_⟩, x⟩
 have e : ∀ r, evD (evC tab k) a m loc h = r → evD (evC tab k) (.seq a b) m loc h = DR.rec (motive := fun _ => DR) (fun m loc h => evD (evC tab k) b m loc h) DR.exit DR.ret DR.fail r := by
  intro r hr; subst hr; rfl
 rw [e _ (hn k (by omega))]
 exact hn' k (by omega)
theorem wd_skip (x : K m loc h) : WD tab .skip m loc h K := ⟨_, _, _, ⟨1, fun k hk => by cases k with | zero => omega | succ k => rfl⟩, x⟩
theorem wd_cond {c : Opd} {a b : ACode} {q : Bool} (e : ev loc [] c = .bool q) (x : if q then WD tab a m loc h K else WD tab b m loc h K) : WD tab (.cond c a b) m loc h K := by
 have e' : ∀ v, ev loc [] c = v → ∀ k, evD (evC tab k) (.cond c a b) m loc h = AV.rec (motive_1 := fun _ => DR) (motive_2 := fun _ => Unit) (DR.fail [82]) (fun q => bi q (evD (evC tab k) a m loc h) (evD (evC tab k) b m loc h)) (fun _ _ => DR.fail [82]) (fun _ _ => DR.fail [82]) (fun _ _ => DR.fail [82]) (DR.fail [82]) (fun _ _ _ _ => DR.fail [82]) (DR.fail [82]) (fun _ => DR.fail [82]) (DR.fail [82]) (fun _ _ _ _ _ => DR.fail [82]) (DR.fail [82]) (fun _ _ _ => DR.fail [82]) (DR.fail [82]) (fun _ _ => DR.fail [82]) (fun _ _ => DR.fail [82]) () (fun _ _ _ _ => ()) v := by
  intro v hv k; subst hv; rfl
 cases q with
 | true =>
  obtain ⟨m2, l2, h2, ⟨n', hn'⟩, x⟩ := x
  exact ⟨m2, l2, h2, ⟨n', fun k hk => by rw [e' _ e]; exact hn' k hk⟩, x⟩
 | false =>
  obtain ⟨m2, l2, h2, ⟨n', hn'⟩, x⟩ := x
  exact ⟨m2, l2, h2, ⟨n', fun k hk => by rw [e' _ e]; exact hn' k hk⟩, x⟩
def onPlain (m : Mode) (K : Mode → T AV → AH → Prop) : Res → Prop
 | .norm l [] h => K m l h
 | _ => False
theorem wd_ops {l : List AOper} (x : WC tab (.ops l) loc [] h (onPlain m K)) : WD tab (.ops l) m loc h K := by
 obtain ⟨r, hr, hq⟩ := x
 obtain ⟨n, hn⟩ := hr.at
 cases r with
 | norm l1 d1 h1 =>
  cases d1 with
  | cons _ _ => exact hq.elim
  | nil =>
   refine ⟨m, l1, h1, ⟨n, fun k hk => ?_⟩, hq⟩
   have e : ∀ r, evC tab k (.ops l) loc [] h = r → evD (evC tab k) (.ops l) m loc h = Res.rec (motive := fun _ => DR) (fun loc d h => List.rec (motive := fun _ => DR) (DR.norm m loc h) (fun _ _ _ => DR.fail [80]) d) (fun id loc d h => List.rec (motive := fun _ => DR) (DR.exit id m loc h) (fun _ _ _ => DR.fail [80]) d)
     (fun _ d h => List.rec (motive := fun _ => DR) (DR.ret m h) (fun _ _ _ => DR.fail [80]) d) (fun _ _ _ _ => DR.fail [81]) DR.fail r := by
    intro r hr; subst hr; rfl
   rw [e _ (hn k hk)]
 | fail l => exact hq.elim
 | exit id l d1 h1 => cases d1 <;> exact hq.elim
 | ret l d1 h1 => cases d1 <;> exact hq.elim
 | pan v l d1 h1 => cases d1 <;> exact hq.elim
def onEndD (tab : Nat → Option AFunc) (rs : List ARes) (Q : AV → AH → Prop) : Res → Prop
 | .norm l [.fn f0 first caps] h => ∃ n0 body0, tab f0 = some (.mk n0 body0 []) ∧ (lapp first caps).length = n0 ∧ WD tab body0 .ret (zAg (lapp first caps)) h fun m _ h2 => m = .ret ∧ ∃ vs, results rs l h2 = some vs ∧ Q (one vs) h2
 | .ret l [.fn f0 first caps] h => ∃ n0 body0, tab f0 = some (.mk n0 body0 []) ∧ (lapp first caps).length = n0 ∧ WD tab body0 .ret (zAg (lapp first caps)) h fun m _ h2 => m = .ret ∧ ∃ vs, results rs l h2 = some vs ∧ Q (one vs) h2
 | .pan v l [.fn f0 first caps] h => ∃ n0 body0, tab f0 = some (.mk n0 body0 []) ∧ (lapp first caps).length = n0 ∧ WD tab body0 (.pan v false) (zAg (lapp first caps)) h fun m _ h2 => (∃ w, m = .pan w true) ∧ ∃ vs, results rs l h2 = some vs ∧ Q (one vs) h2
 | _ => False
theorem runD_one {evc : ACode → T AV → List AV → AH → Res} {fin : Mode → AH → CR} {f0 n0 : Nat} {first caps : List AV} {body0 : ACode} {m m' : Mode} {l' : T AV} {h h' : AH} (ht : tab f0 = some (.mk n0 body0 [])) (hn : (lapp first caps).length = n0) (e : evD evc body0 m (zAg (lapp first caps)) h = .norm m' l' h') :
  runD tab evc fin [.fn f0 first caps] m h = Mode.rec (motive := fun _ => CR) (fin Mode.ret h') (fun v r => bi r (fin Mode.ret h') (fin (Mode.pan v r) h')) m' := by
 show obind (tab f0) _ _ = _
 rw [ht]
 show bi (Nat.beq n0 (llen (lapp first caps))) _ _ = _
 rw [zBt, hn, Nat.beq_refl]
 show DR.rec (motive := fun _ => CR) _ _ _ _ (evD evc body0 m (zAg (lapp first caps)) h) = _
 rw [e]
theorem ge_defer {f n : Nat} {body : ACode} {rs : List ARes} {args : List AV} {Q E : AV → AH → Prop} (ht : tab f = some (.mk n body rs)) (hn : args.length = n) (x : WC tab body (zAg args) [] h (onEndD tab rs Q)) : GE tab f args h Q E := by
 obtain ⟨r, hr, hq⟩ := x
 obtain ⟨m, hm⟩ := hr.at
 have e : ∀ k r, evC tab k body (zAg args) [] h = r → evF tab k f args h = (Res.rec (motive := fun _ => CR) (fun loc d h => runD tab (evC tab k) (zA3 rs loc) d Mode.ret h) (fun _ _ _ _ => CR.fail [88]) (fun loc d h => runD tab (evC tab k) (zA3 rs loc) d Mode.ret h)
   (fun v loc d h => runD tab (evC tab k) (zA3 rs loc) d (Mode.pan v false) h) (fun l => CR.fail (f :: l)) r) := by
  intro k r hr
  subst hr
  show obind (tab f) _ _ = _
  rw [ht]
  show bi (Nat.beq n (llen args)) _ _ = _
  rw [zBt, hn, Nat.beq_refl]
  rfl
 have fin : ∀ (l : T AV) (f0 : Nat) (first caps : List AV) (h1 : AH) (m0 : Mode), (∃ n0 body0, tab f0 = some (.mk n0 body0 []) ∧ (lapp first caps).length = n0 ∧ WD tab body0 m0 (zAg (lapp first caps)) h1 fun m _ h2 => (m = .ret ∨ ∃ w, m = .pan w true) ∧ ∃ vs, results rs l h2 = some vs ∧ Q (one vs) h2) →
   ∃ vs h2, Q (one vs) h2 ∧ ∃ n, ∀ k, n ≤ k → runD tab (evC tab k) (zA3 rs l) [.fn f0 first caps] m0 h1 = .ret (one vs) h2 := by
  rintro l f0 first caps h1 m0 ⟨n0, body0, t0, hl, m', l', h2, ⟨n, hn⟩, hm', vs, hv, hQ⟩
  refine ⟨vs, h2, hQ, n, fun k hk => ?_⟩
  rw [runD_one t0 hl (hn k hk)]
  rcases hm' with rfl | ⟨w, rfl⟩
  ·show obind (results rs l h2) _ _ = _
   rw [hv]; rfl
  ·show obind (results rs l h2) _ _ = _
   rw [hv]; rfl
 have one_fn : ∀ (d1 : List AV), (∃ f0 first caps, d1 = [.fn f0 first caps]) ∨ ∀ l h1 v, ¬ onEndD tab rs Q (.norm l d1 h1) ∧ ¬ onEndD tab rs Q (.ret l d1 h1) ∧ ¬ onEndD tab rs Q (.pan v l d1 h1) := by
  intro d1
  cases d1 with
  | nil => exact .inr fun _ _ _ => ⟨id, id, id⟩
  | cons a d1 =>
   cases d1 with
   | cons b d1 => exact .inr fun _ _ _ => by cases a <;> exact ⟨id, id, id⟩
   | nil =>
    cases a with
    | fn f0 fi ca => exact .inl ⟨f0, fi, ca, rfl⟩
    | _ => exact .inr fun _ _ _ => ⟨id, id, id⟩
 cases r with
 | norm l d1 h1 =>
  rcases one_fn d1 with ⟨f0, first, caps, rfl⟩ | hno
  rotate_left
  ·exact absurd hq (hno l h1 .bad).1
  obtain ⟨n0, body0, a1, a2, a3⟩ := hq
  obtain ⟨m', l', h2, a4, a5, a6⟩ := a3
  obtain ⟨vs, h3, hQ, n1, hn1⟩ := fin l f0 first caps h1 .ret ⟨n0, body0, a1, a2, m', l', h2, a4, .inl a5, a6⟩
  refine ⟨.ret (one vs) h3, ⟨trivial, m + n1, ?_⟩, hQ⟩
  rw [e _ _ (hm (m + n1) (by omega))]
  exact hn1 _ (by omega)
 | ret l d1 h1 =>
  rcases one_fn d1 with ⟨f0, first, caps, rfl⟩ | hno
  rotate_left
  ·exact absurd hq (hno l h1 .bad).2.1
  obtain ⟨n0, body0, a1, a2, a3⟩ := hq
  obtain ⟨m', l', h2, a4, a5, a6⟩ := a3
  obtain ⟨vs, h3, hQ, n1, hn1⟩ := fin l f0 first caps h1 .ret ⟨n0, body0, a1, a2, m', l', h2, a4, .inl a5, a6⟩
  refine ⟨.ret (one vs) h3, ⟨trivial, m + n1, ?_⟩, hQ⟩
  rw [e _ _ (hm (m + n1) (by omega))]
  exact hn1 _ (by omega)
 | pan v l d1 h1 =>
  rcases one_fn d1 with ⟨f0, first, caps, rfl⟩ | hno
  rotate_left
  ·exact absurd hq (hno l h1 v).2.2
  obtain ⟨n0, body0, a1, a2, a3⟩ := hq
  obtain ⟨m', l', h2, a4, a5, a6⟩ := a3
  obtain ⟨vs, h3, hQ, n1, hn1⟩ := fin l f0 first caps h1 (.pan v false) ⟨n0, body0, a1, a2, m', l', h2, a4, .inr a5, a6⟩
  refine ⟨.ret (one vs) h3, ⟨trivial, m + n1, ?_⟩, hQ⟩
  rw [e _ _ (hm (m + n1) (by omega))]
  exact hn1 _ (by omega)
 | exit id l d1 h1 => exact hq.elim
 | fail l => exact hq.elim
end
theorem zB0 {loc : T AV} {h : AH} {n k id s : Nat} {c : T AV} {p : Option Nat} {ro : Bool} {lst : List AV} {rs : List ARes} {vs : List AV} (hk : loc.get k = some (.ptr id 0)) (hg : h.mem.get id = some (.cells c s p ro)) (hl : loadL c n 0 = some lst) (hr : results rs loc h = some vs) :
  results (.cellN n (.l k) :: rs) loc h = some (.agg lst :: vs) := by
 have e : ∀ v, ev loc [] (.l k) = v → results (.cellN n (.l k) :: rs) loc h = obind (results rs loc h) Option.none fun l => AV.rec (motive_1 := fun _ => Option (List AV)) (motive_2 := fun _ => Unit) Option.none (fun _ => Option.none) (fun _ _ => Option.none) (fun _ _ => Option.none) (fun id off => obind (AH.get h id) Option.none fun o => AObj.rec (motive := fun _ => Option (List AV)) (fun c _ _ _ => obind (loadL c n off) Option.none fun v => some (AV.agg v :: l)) (fun _ _ => Option.none) (fun _ _ _ _ => Option.none) o) Option.none (fun _ _ _ _ => Option.none) Option.none (fun _ => Option.none) Option.none (fun _ _ _ _ _ => Option.none) Option.none (fun _ _ _ => Option.none) Option.none (fun _ _ => Option.none) (fun _ _ => Option.none) () (fun _ _ _ _ => ()) v := by
  intro v hv; subst hv; rfl
 rw [e (.ptr id 0) (by rw [evl, hk]; rfl), hr]
 show obind (AH.get h id) Option.none _ = _
 rw [AH.get_eq, hg]
 show obind (loadL c n 0) Option.none _ = _
 rw [hl]; rfl
theorem zBe {loc : T AV} {h : AH} {k : Nat} {v : AV} {rs : List ARes} {vs : List AV} (hk : loc.get k = some v) (hr : results rs loc h = some vs) : results (.val (.l k) :: rs) loc h = some (v :: vs) := by
 rw [zAy hr, evl, hk]; rfl
end Go.Ev
namespace Go.Ev
open Go Go.Pa
section
variable {tab : Nat → Option AFunc} {h : AH} (H : PT tab) {ts : List Tok} {en r i d : Nat}
def progV (y : PR (List Tree)) (lo : Nat) (v : AV) (h1 : AH) : Prop :=
 (∃ ks i d u, y = .ok ks i d ∧ v = .tup [.agg [u], .agg [.int .i64 ((0 : Nat) : Int), .int .i64 ((0 : Nat) : Int)]] ∧ TreeR h1 (fun k => lo ≤ k) u (.mk 1 [] [] 0 0 ks)) ∨
 (∃ p e, y = .err p e ∧ v = .tup [.agg [.nilp], .agg [.int .i64 (p : Int), .int .i64 (e : Int)]])
include H in
theorem prog_gp {n m : Nat} (R : RS ts en h r i d) (hd : d ≤ 40) {y : PR (List Tree)} (hy : progL ts en n m i d [] = y) (hne : y ≠ .out) : GP tab 25 [.ptr r 0] h fun v h1 => MoreBut r h h1 ∧ progV y h.next v h1 := by
 have i0 : zAg [.ptr r 0] = zAc [.ptr r 0] := rfl
 have hr := R.lt
 refine GE.gp (ge_defer H.t25 rfl ?_) (E := fun _ _ => False) fun _ _ => id
 refine zAd (zAb fun Q1 hQ => ?_)
 simp (disch := omega) only [EL, ↓K3, ↓K1, reduceIte, Nat.reduceEqDiff, Nat.reduceAdd, Nat.reduceLeDiff, i0]
 refine hQ _ ?_
 clear hQ Q1
 have m1 : More h ((h.add (.cells (zAc [.nilp]) 1 none false)).add (.cells (zAc [.int .i64 ((0 : Nat) : Int), .int .i64 ((0 : Nat) : Int)]) 2 none false)) := (More.add _ _).trans (More.add _ _)
 have n1 : ((h.add (.cells (zAc [.nilp]) 1 none false)).add (.cells (zAc [.int .i64 ((0 : Nat) : Int), .int .i64 ((0 : Nat) : Int)]) 2 none false)).next = h.next + 2 := rfl
 have g1 : ((h.add (.cells (zAc [.nilp]) 1 none false)).add (.cells (zAc [.int .i64 ((0 : Nat) : Int), .int .i64 ((0 : Nat) : Int)]) 2 none false)).mem.get h.next = some (.cells (zAc [.nilp]) 1 none false) := by
  rw [AH.add_mem, T.get_put_ne _ _ _ _ (by show h.next + 1 ≠ h.next; omega), AH.add_mem, T.get_put_self]
 have g2 : ((h.add (.cells (zAc [.nilp]) 1 none false)).add (.cells (zAc [.int .i64 ((0 : Nat) : Int), .int .i64 ((0 : Nat) : Int)]) 2 none false)).mem.get (h.next + 1) = some (.cells (zAc [.int .i64 ((0 : Nat) : Int), .int .i64 ((0 : Nat) : Int)]) 2 none false) := by
  rw [AH.add_mem]; exact T.get_put_self _ _ _
 generalize ((h.add (.cells (zAc [.nilp]) 1 none false)).add (.cells (zAc [.int .i64 ((0 : Nat) : Int), .int .i64 ((0 : Nat) : Int)]) 2 none false)) = h1 at *
 have R1 := R.more m1
 have c1 := m1.but r
 simp only [zAa]
 refine zAd (zAb fun Q1 hQ => ?_)
 simp (disch := omega) only [EL, ↓K3, ↓K1, reduceIte, Nat.reduceEqDiff, Nat.reduceAdd, Nat.reduceLeDiff, i0]
 refine hQ _ ?_
 clear hQ Q1
 have pan : ∀ (l : T AV) (p e : Nat) (h7 : AH), l.get 1 = some (.ptr h.next 0) → l.get 2 = some (.ptr (h.next + 1) 0) → MoreBut r h h7 → h1.next ≤ h7.next → (∃ c w, h7.mem.get h.next = some (.cells c 1 none false) ∧ c.get 0 = some w) → h7.mem.get (h.next + 1) = some (.cells (zAc [.int .i64 ((0 : Nat) : Int), .int .i64 ((0 : Nat) : Int)]) 2 none false) →
   y = .err p e → onEndD tab [.cellN 1 (.l 1), .cellN 2 (.l 2)] (fun v h1 => MoreBut r h h1 ∧ progV y h.next v h1) (.pan (stopV p e) l [.fn 39 [] [.ptr h.next 0, .ptr (h.next + 1) 0]] h7) := by
  intro l p e h7 l1 l2 c7 n7 ⟨cb, w, gb, cb0⟩ ge hye
  refine ⟨2, _, H.t39, rfl, wd_seq (wd_recov_pan ?_)⟩
  have j0 : zAg [.ptr h.next 0, .ptr (h.next + 1) 0] = zAc [.ptr h.next 0, .ptr (h.next + 1) 0] := rfl
  have eqn : ∀ h', oEq true .ifc (.c (stopV p e)) (.c .nili) .leaf [] h' = .val (.bool true) h' := fun _ => rfl
  have mvn : ∀ h', oMove (.c (stopV p e)) .leaf [] h' = .val (stopV p e) h' := fun _ => rfl
  have asn : ∀ z loc tmp h', evOp (.assert 54 false z (.t 0)) loc (stopV p e :: tmp) h' = .val (.agg [.int .i64 (p : Int), .int .i64 (e : Int)]) h' := fun _ _ _ _ => rfl
  refine wd_seq (wd_ops (zAb fun Q1 hQ => ?_))
  simp (disch := omega) only [EL, ↓K3, ↓K1, reduceIte, Nat.reduceEqDiff, Nat.reduceAdd, Nat.reduceLeDiff, j0, zCk, eqn, mvn]
  refine hQ _ ?_
  clear hQ Q1
  refine wd_cond (q := true) (by simp +decide only [EL, reduceIte]) ?_
  rw [if_pos rfl]
  refine wd_ops (zAb fun Q1 hQ => ?_)
  simp (disch := omega) only [EL, ↓K3, ↓K1, reduceIte, Nat.reduceEqDiff, Nat.reduceAdd, Nat.reduceLeDiff, j0, zCk, asn, mvn, gb, cb0, ge]
  refine hQ _ ?_
  have o8 : Only h.next h7 (h7.set h.next (.cells (T.put (some .nilp) cb 0) 1 none false)) := Only.set
  have gc8 : (h7.set h.next (.cells (T.put (some .nilp) cb 0) 1 none false)).mem.get h.next = some (.cells (T.put (some .nilp) cb 0) 1 none false) := AH.get_set
  generalize h7.set h.next (.cells (T.put (some .nilp) cb 0) 1 none false) = h8 at *
  have n8 := o8.next
  have o9 : Only (h.next + 1) h8 (h8.set (h.next + 1) (.cells (T.put (some (.int .i64 (e : Int))) (T.put (some (.int .i64 (p : Int))) (zAc [.int .i64 ((0 : Nat) : Int), .int .i64 ((0 : Nat) : Int)]) 0) 1) 2 none false)) := Only.set
  have gc9 : (h8.set (h.next + 1) (.cells (T.put (some (.int .i64 (e : Int))) (T.put (some (.int .i64 (p : Int))) (zAc [.int .i64 ((0 : Nat) : Int), .int .i64 ((0 : Nat) : Int)]) 0) 1) 2 none false)).mem.get (h.next + 1) = some (.cells (T.put (some (.int .i64 (e : Int))) (T.put (some (.int .i64 (p : Int))) (zAc [.int .i64 ((0 : Nat) : Int), .int .i64 ((0 : Nat) : Int)]) 0) 1) 2 none false) := AH.get_set
  generalize h8.set (h.next + 1) (.cells (T.put (some (.int .i64 (e : Int))) (T.put (some (.int .i64 (p : Int))) (zAc [.int .i64 ((0 : Nat) : Int), .int .i64 ((0 : Nat) : Int)]) 0) 1) 2 none false) = h9 at *
  refine ⟨⟨_, rfl⟩, _, zB0 l1 ((o9.keep h.next (by omega)).trans gc8) (lst := [.nilp]) (by rw [zAe, T.get_put_self]; rfl) (zB0 l2 gc9 (lst := [.int .i64 (p : Int), .int .i64 (e : Int)]) (by simp +decide only [EL, reduceIte, zAe]) zAm), o9.mb (o8.mb c7 (by omega)) (by omega), .inr ⟨p, e, hye, rfl⟩⟩
 simp only [zAa]
 refine zAd (zAb fun Q1 hQ => ?_)
 simp (disch := omega) only [EL, ↓K3, ↓K1, reduceIte, Nat.reduceEqDiff, Nat.reduceAdd, Nat.reduceLeDiff, i0]
 refine (zDd H (kv := .nils) (op := 1) (pos := 0) (fun _ => rfl) rfl).to fun v h2 q => ?_
 obtain ⟨ia, rfl, i1, i2, nc, m2⟩ := q
 have n2 := m2.next
 have g12 := (m2.keep h.next (by omega)).trans g1
 have g22 := (m2.keep (h.next + 1) (by omega)).trans g2
 have c2 := c1.trans (m2.but r)
 simp (disch := omega) only [EL, ↓K3, ↓K1, reduceIte, Nat.reduceEqDiff, Nat.reduceAdd, Nat.reduceLeDiff, g12]
 refine hQ _ ?_
 clear hQ Q1
 try simp only [zAa]
 have o3 : Only h.next h2 (h2.set h.next (.cells (T.put (some (.ptr ia 0)) (zAc [.nilp]) 0) 1 none false)) := Only.set
 have gb3 : (h2.set h.next (.cells (T.put (some (.ptr ia 0)) (zAc [.nilp]) 0) 1 none false)).mem.get h.next = some (.cells (T.put (some (.ptr ia 0)) (zAc [.nilp]) 0) 1 none false) := AH.get_set
 generalize h2.set h.next (.cells (T.put (some (.ptr ia 0)) (zAc [.nilp]) 0) 1 none false) = h3 at *
 have n3 := o3.next
 have bx3 : BoxN h3 h.next ia := ⟨_, gb3, T.get_put_self _ _ _⟩
 have nc3 := nc.keep (o3.keep ia (by omega))
 have g23 := (o3.keep (h.next + 1) (by omega)).trans g22
 have R3 := o3.rs (R1.more m2) (by omega)
 have c3 := o3.mb c2 (by omega)
 refine zG0 (fun l d1 h7 => ∃ i d ks kv, d1 = [.fn 39 [] [.ptr h.next 0, .ptr (h.next + 1) 0]] ∧ l.get 0 = some (.ptr r 0) ∧ l.get 1 = some (.ptr h.next 0) ∧ l.get 2 = some (.ptr (h.next + 1) 0) ∧ MoreBut r h h7 ∧ BoxN h7 h.next ia ∧ NodeC h7 ia 1 [] [] 0 0 kv ∧ Kids h7 h.next [h.next, h.next + 1, ia] kv ks ∧
  h7.mem.get (h.next + 1) = some (.cells (zAc [.int .i64 ((0 : Nat) : Int), .int .i64 ((0 : Nat) : Int)]) 2 none false) ∧ y = .ok ks i d ∧ h3.next ≤ h7.next) ?_ ?_
 ·refine zAu ?_
  refine zCc (fun k l d1 h7 => ∃ i ks kv, d1 = [.fn 39 [] [.ptr h.next 0, .ptr (h.next + 1) 0]] ∧ l.get 0 = some (.ptr r 0) ∧ l.get 1 = some (.ptr h.next 0) ∧ l.get 2 = some (.ptr (h.next + 1) 0) ∧ RS ts en h7 r i d ∧ MoreBut r h h7 ∧ BoxN h7 h.next ia ∧ NodeC h7 ia 1 [] [] 0 0 kv ∧ Kids h7 h.next [h.next, h.next + 1, ia] kv ks ∧
   h7.mem.get (h.next + 1) = some (.cells (zAc [.int .i64 ((0 : Nat) : Int), .int .i64 ((0 : Nat) : Int)]) 2 none false) ∧ progL ts en k m i d ks = y ∧ h3.next ≤ h7.next ∧ ks.length ≤ i) ?_ n ?_
  ·rintro k l d1 h7 ⟨i, ks, kv, rfl, l0, l1, l2, R7, c7, bx7, nc7, k7, g27, hy, n7, kl⟩
   cases k with
   | zero => exact absurd (by rw [← hy]; simp [progL]) hne
   | succ k =>
    have le7 := R7.le
    have ln := R7.ln
    obtain ⟨_, _, _, _, _, _, c, tl, c0, c1', c2', c3', c4', c5'⟩ := id R7
    have ltl : ∀ h', oLen .sl (.c tl) .leaf [] h' = .val (.int .i64 (ts.length : Int)) h' := by
     intro h'
     rcases c5' with ⟨rfl, rfl⟩ | ⟨id, cc, s, cap, rfl, _⟩
     ·rfl
     ·exact zIk
    unfold progL at hy
    refine zAd ?_
    refine zAd (zAb fun Q1 hQ => ?_)
    by_cases hi : i < ts.length
    ·rw [if_pos hi] at hy
     simp (disch := omega) only [EL, ↓K3, ↓K1, reduceIte, Nat.reduceEqDiff, Nat.reduceAdd, Nat.reduceLeDiff, l0, c0, c1', c2', ltl, hi]
     refine hQ _ ?_
     clear hQ Q1
     try simp only [zAa]
     refine zAq (by simp +decide only [EL, reduceIte, hi]) ?_
     refine zAl ?_
     simp only [zAa]
     refine zAu ?_
     refine zF4 (K := 1) (b := h.next) (id := ia) (lo := h.next) (X := [h.next, h.next + 1, ia]) (r := r) (f := 41) (args := [.ptr r 0]) (by simp +decide only [EL, reduceIte, l1]) bx7 nc7 k7 (by omega) (by omega) (by intro k hk; simp at hk; omega) (by simp) (by simp) (by omega) (by omega) (by omega) (by omega) (fun tmp => ⟨.ptr r 0, by simp +decide only [EL, reduceIte, l0], by simp +decide only [EL, reduceIte, l0]⟩) (decl_ge H R7 hd _ rfl (zAz hy hne)) (fun v h9 q => ?_) (fun v h9 e => ?_)
     rotate_left
     ·obtain ⟨p, er, hx, rfl, fr'⟩ := e
      rw [hx] at hy
      simp only [zC7, zCo]
      have n9 := MoreBut.next fr'
      obtain ⟨cb, gb, cb0⟩ := bx7
      exact pan _ p er h9 (by simp +decide only [EL, reduceIte, l1]) (by simp +decide only [EL, reduceIte, l2]) (MoreBut.trans c7 fr') (by omega) ⟨cb, _, (MoreBut.keep fr' h.next (by omega) (by omega)).trans gb, cb0⟩ ((MoreBut.keep fr' (h.next + 1) (by omega) (by omega)).trans g27) hy.symm
     obtain ⟨p, i, hx, li9, R9, b9, u, rfl, tr⟩ := q
     rw [hx, zAt] at hy
     have n9 := b9.next
     refine ⟨b9, u, p, rfl, tr, fun h10 kv' n10 keep nc10 k10 => ?_⟩
     have R10 := R9.keep n10 fun k hk => keep k (by have := R9.lt; omega) (.inl (by omega)) (by omega)
     have c10 : MoreBut r _ h10 := ⟨Nat.le_trans (MoreBut.trans c7 b9).next n10, fun k h1 h2 => by rw [keep k (by omega) (.inl (by omega)) (by omega)]; exact (MoreBut.trans c7 b9).keep k h1 h2⟩
     have bx10 := bx7.keep ((keep h.next (by omega) (.inr (by simp)) (by omega)).trans (b9.keep h.next (by omega) (by omega)))
     have g210 := ((keep (h.next + 1) (by omega) (.inr (by simp)) (by omega)).trans (b9.keep (h.next + 1) (by omega) (by omega))).trans g27
     try simp only [zAa, zAi]
     exact ⟨k, by omega, _, _, _, trivial, by simp +decide only [EL, reduceIte, l0], by simp +decide only [EL, reduceIte, l1], by simp +decide only [EL, reduceIte, l2], R10, c10, bx10, nc10, k10, g210, hy, by omega, by simp; omega⟩
    ·rw [if_neg hi] at hy
     simp (disch := omega) only [EL, ↓K3, ↓K1, reduceIte, Nat.reduceEqDiff, Nat.reduceAdd, Nat.reduceLeDiff, l0, c0, c1', c2', ltl, hi]
     refine hQ _ ?_
     clear hQ Q1
     try simp only [zAa]
     refine wc_no (by simp +decide only [EL, reduceIte, hi]) ?_
     refine zC1 ?_
     simp only [zBd, zBa, if_true, zAa]
     exact ⟨_, _, ks, kv, trivial, by simp +decide only [EL, reduceIte, l0], by simp +decide only [EL, reduceIte, l1], by simp +decide only [EL, reduceIte, l2], c7, bx7, nc7, k7, g27, hy.symm, by omega⟩
  ·exact ⟨_, [], .nils, rfl, by simp +decide only [EL, reduceIte, i0], by simp +decide only [EL, reduceIte, i0], by simp +decide only [EL, reduceIte, i0], R3, c3, bx3, nc3, Kids.nils, g23, hy, by omega, by simp⟩
 ·rintro l d1 h7 ⟨i, d, ks, kv, rfl, l0, l1, l2, c7, bx7, nc7, k7, g27, hy, n7⟩
  obtain ⟨cb, gb, cb0⟩ := bx7
  refine zAd (zAb fun Q1 hQ => ?_)
  simp (disch := omega) only [EL, ↓K3, ↓K1, reduceIte, Nat.reduceEqDiff, Nat.reduceAdd, Nat.reduceLeDiff, l1, l2, gb, cb0, g27, zAe, zA7, zA8]
  refine hQ _ ?_
  clear hQ Q1
  simp only [zAa]
  have o8 : Only h.next h7 (h7.set h.next (.cells (T.put (some (.ptr ia 0)) cb 0) 1 none false)) := Only.set
  have gc8 : (h7.set h.next (.cells (T.put (some (.ptr ia 0)) cb 0) 1 none false)).mem.get h.next = some (.cells (T.put (some (.ptr ia 0)) cb 0) 1 none false) := AH.get_set
  generalize h7.set h.next (.cells (T.put (some (.ptr ia 0)) cb 0) 1 none false) = h8 at *
  have n8 := o8.next
  have o9 : Only (h.next + 1) h8 (h8.set (h.next + 1) (.cells (T.put (some (.int .i64 ((0 : Nat) : Int))) (T.put (some (.int .i64 ((0 : Nat) : Int))) (zAc [.int .i64 ((0 : Nat) : Int), .int .i64 ((0 : Nat) : Int)]) 0) 1) 2 none false)) := Only.set
  have gc9 : (h8.set (h.next + 1) (.cells (T.put (some (.int .i64 ((0 : Nat) : Int))) (T.put (some (.int .i64 ((0 : Nat) : Int))) (zAc [.int .i64 ((0 : Nat) : Int), .int .i64 ((0 : Nat) : Int)]) 0) 1) 2 none false)).mem.get (h.next + 1) = some (.cells (T.put (some (.int .i64 ((0 : Nat) : Int))) (T.put (some (.int .i64 ((0 : Nat) : Int))) (zAc [.int .i64 ((0 : Nat) : Int), .int .i64 ((0 : Nat) : Int)]) 0) 1) 2 none false) := AH.get_set
  generalize h8.set (h.next + 1) (.cells (T.put (some (.int .i64 ((0 : Nat) : Int))) (T.put (some (.int .i64 ((0 : Nat) : Int))) (zAc [.int .i64 ((0 : Nat) : Int), .int .i64 ((0 : Nat) : Int)]) 0) 1) 2 none false) = h9 at *
  have n9 := o9.next
  have iln : ia < h7.next := by omega
  refine zAj ?_
  refine ⟨2, _, H.t39, rfl, wd_seq (wd_recov_ret ?_)⟩
  have j0 : zAg [.ptr h.next 0, .ptr (h.next + 1) 0] = zAc [.ptr h.next 0, .ptr (h.next + 1) 0] := rfl
  have eqn : ∀ h', oEq true .ifc (.c .nili) (.c .nili) .leaf [] h' = .val (.bool false) h' := fun _ => rfl
  have mvn : ∀ h', oMove (.c .nili) .leaf [] h' = .val .nili h' := fun _ => rfl
  refine wd_seq (wd_ops (zAb fun Q1 hQ => ?_))
  simp (disch := omega) only [EL, ↓K3, ↓K1, reduceIte, Nat.reduceEqDiff, Nat.reduceAdd, Nat.reduceLeDiff, j0, zCk, eqn, mvn]
  refine hQ _ ?_
  clear hQ Q1
  refine wd_cond (q := false) (by simp +decide only [EL, reduceIte]) ?_
  rw [if_neg (by simp)]
  refine wd_skip ⟨rfl, _, zB0 l1 ((o9.keep h.next (by omega)).trans gc8) (lst := [.ptr ia 0]) (by rw [zAe, T.get_put_self]; rfl) (zB0 l2 gc9 (lst := [.int .i64 ((0 : Nat) : Int), .int .i64 ((0 : Nat) : Int)]) (by simp +decide only [EL, reduceIte, zAe]) zAm), o9.mb (o8.mb c7 (by omega)) (by omega), .inl ⟨ks, i, d, .ptr ia 0, hy, rfl, ?_⟩⟩
  have k9 := (k7.keep (o8.stay (F := fun k => h.next ≤ k ∧ k ∉ [h.next, h.next + 1, ia]) (by simp))).keep (o9.stay (by simp))
  exact k9.tree2 ((nc7.keep (o8.keep _ (by omega))).keep (o9.keep _ (by omega))) (by show h.next ≤ ia; omega) (by omega) fun k hk _ => hk
end
end Go.Ev
namespace Go.Ev
open Go Go.Pa
section
variable {tab : Nat → Option AFunc} {h : AH} (H : PT tab)
abbrev byteV (c : UInt8) : AV := .int .u8 (c.toNat : Int)
include H in
theorem blank_gp {c : UInt8} : GP tab 62 [byteV c] h fun v h1 => v = .bool (zAr c) ∧ h1 = h := by
 have i0 : zAg [byteV c] = zAc [byteV c] := rfl
 refine GE.gp (ge_of H.t62 rfl ?_) (E := fun _ _ => False) fun _ _ hh => hh
 refine zAd (zAb fun Q1 hQ => ?_)
 simp (disch := omega) only [EL, ↓K3, ↓K1, reduceIte, Nat.reduceEqDiff, Nat.reduceAdd, Nat.reduceLeDiff, i0]
 refine hQ _ ?_
 clear hQ Q1
 refine zAd (zAb fun Q1 hQ => ?_)
 by_cases a1 : c.toNat = 32
 ·have e : zAr c = true := by simp [zAr, a1]
  simp (disch := omega) only [EL, ↓K3, ↓K1, reduceIte, Nat.reduceEqDiff, Nat.reduceAdd, Nat.reduceLeDiff, i0, a1]
  refine hQ _ ?_
  simp only [zAa]
  refine zAj ?_
  simp (disch := omega) only [EL, ↓K3, ↓K1, reduceIte, Nat.reduceEqDiff, Nat.reduceAdd, Nat.reduceLeDiff, e]
 by_cases a2 : c.toNat = 9
 ·have e : zAr c = true := by simp [zAr, a2]
  simp (disch := omega) only [EL, ↓K3, ↓K1, reduceIte, Nat.reduceEqDiff, Nat.reduceAdd, Nat.reduceLeDiff, i0, a2]
  refine hQ _ ?_
  simp only [zAa]
  refine zAj ?_
  simp (disch := omega) only [EL, ↓K3, ↓K1, reduceIte, Nat.reduceEqDiff, Nat.reduceAdd, Nat.reduceLeDiff, e]
 by_cases a3 : c.toNat = 10
 ·have e : zAr c = true := by simp [zAr, a3]
  simp (disch := omega) only [EL, ↓K3, ↓K1, reduceIte, Nat.reduceEqDiff, Nat.reduceAdd, Nat.reduceLeDiff, i0, a3]
  refine hQ _ ?_
  simp only [zAa]
  refine zAj ?_
  simp (disch := omega) only [EL, ↓K3, ↓K1, reduceIte, Nat.reduceEqDiff, Nat.reduceAdd, Nat.reduceLeDiff, e]
 by_cases a4 : c.toNat = 13
 ·have e : zAr c = true := by simp [zAr, a4]
  simp (disch := omega) only [EL, ↓K3, ↓K1, reduceIte, Nat.reduceEqDiff, Nat.reduceAdd, Nat.reduceLeDiff, i0, a4]
  refine hQ _ ?_
  simp only [zAa]
  refine zAj ?_
  simp (disch := omega) only [EL, ↓K3, ↓K1, reduceIte, Nat.reduceEqDiff, Nat.reduceAdd, Nat.reduceLeDiff, e]
 ·have e : zAr c = false := by simp [zAr, a1, a2, a3, a4]
  simp (disch := omega) only [EL, ↓K3, ↓K1, reduceIte, Nat.reduceEqDiff, Nat.reduceAdd, Nat.reduceLeDiff, i0, a1, a2, a3, a4]
  refine hQ _ ?_
  simp only [zAa]
  refine zAj ?_
  simp (disch := omega) only [EL, ↓K3, ↓K1, reduceIte, Nat.reduceEqDiff, Nat.reduceAdd, Nat.reduceLeDiff, e]
include H in
theorem skip1_gp {c : UInt8} : GP tab 64 [byteV c] h fun v h1 => v = .bool (notNl c) ∧ h1 = h := by
 have i0 : zAg [byteV c] = zAc [byteV c] := rfl
 refine GE.gp (ge_of H.t64 rfl ?_) (E := fun _ _ => False) fun _ _ hh => hh
 refine zAd (zAb fun Q1 hQ => ?_)
 simp (disch := omega) only [EL, ↓K3, ↓K1, reduceIte, Nat.reduceEqDiff, Nat.reduceAdd, Nat.reduceLeDiff, i0]
 refine hQ _ ?_
 clear hQ Q1
 refine zAd (zAb fun Q1 hQ => ?_)
 by_cases a1 : c.toNat = 10
 ·have e : notNl c = false := by simp [notNl, a1]
  simp (disch := omega) only [EL, ↓K3, ↓K1, reduceIte, Nat.reduceEqDiff, Nat.reduceAdd, Nat.reduceLeDiff, i0, a1]
  refine hQ _ ?_
  simp only [zAa]
  refine zAj ?_
  simp (disch := omega) only [EL, ↓K3, ↓K1, reduceIte, Nat.reduceEqDiff, Nat.reduceAdd, Nat.reduceLeDiff, e]
 ·have e : notNl c = true := by simp [notNl, a1]
  simp (disch := omega) only [EL, ↓K3, ↓K1, reduceIte, Nat.reduceEqDiff, Nat.reduceAdd, Nat.reduceLeDiff, i0, a1]
  refine hQ _ ?_
  simp only [zAa]
  refine zAj ?_
  simp (disch := omega) only [EL, ↓K3, ↓K1, reduceIte, Nat.reduceEqDiff, Nat.reduceAdd, Nat.reduceLeDiff, e]
include H in
theorem zLy {c : UInt8} : GP tab 67 [byteV c] h fun v h1 => v = .bool (zBb c) ∧ h1 = h := by
 have i0 : zAg [byteV c] = zAc [byteV c] := rfl
 refine GE.gp (ge_of H.t67 rfl ?_) (E := fun _ _ => False) fun _ _ hh => hh
 refine zAd (zAb fun Q1 hQ => ?_)
 simp (disch := omega) only [EL, ↓K3, ↓K1, reduceIte, Nat.reduceEqDiff, Nat.reduceAdd, Nat.reduceLeDiff, i0]
 refine hQ _ ?_
 clear hQ Q1
 refine zAd (zAb fun Q1 hQ => ?_)
 by_cases a1 : 48 ≤ c.toNat
 ·by_cases a2 : c.toNat ≤ 57
  ·have e : zBb c = true := by simp [zBb, a1, a2]
   simp (disch := omega) only [EL, ↓K3, ↓K1, reduceIte, Nat.reduceEqDiff, Nat.reduceAdd, Nat.reduceLeDiff, i0, a1, a2]
   refine hQ _ ?_
   simp only [zAa]
   refine zAj ?_
   simp (disch := omega) only [EL, ↓K3, ↓K1, reduceIte, Nat.reduceEqDiff, Nat.reduceAdd, Nat.reduceLeDiff, e]
  ·have e : zBb c = false := by simp [zBb, a2]
   simp (disch := omega) only [EL, ↓K3, ↓K1, reduceIte, Nat.reduceEqDiff, Nat.reduceAdd, Nat.reduceLeDiff, i0, a1, a2]
   refine hQ _ ?_
   simp only [zAa]
   refine zAj ?_
   simp (disch := omega) only [EL, ↓K3, ↓K1, reduceIte, Nat.reduceEqDiff, Nat.reduceAdd, Nat.reduceLeDiff, e]
 ·have e : zBb c = false := by simp [zBb, a1]
  simp (disch := omega) only [EL, ↓K3, ↓K1, reduceIte, Nat.reduceEqDiff, Nat.reduceAdd, Nat.reduceLeDiff, i0, a1]
  refine hQ _ ?_
  simp only [zAa]
  refine zAj ?_
  simp (disch := omega) only [EL, ↓K3, ↓K1, reduceIte, Nat.reduceEqDiff, Nat.reduceAdd, Nat.reduceLeDiff, e]
include H in
theorem zHp {c : UInt8} : GP tab 65 [byteV c] h fun v h1 => v = .bool (zB7 c) ∧ h1 = h := by
 have i0 : zAg [byteV c] = zAc [byteV c] := rfl
 refine GE.gp (ge_of H.t65 rfl ?_) (E := fun _ _ => False) fun _ _ hh => hh
 refine zAd (zAb fun Q1 hQ => ?_)
 simp (disch := omega) only [EL, ↓K3, ↓K1, reduceIte, Nat.reduceEqDiff, Nat.reduceAdd, Nat.reduceLeDiff, i0]
 refine hQ _ ?_
 clear hQ Q1
 refine zAd (zAb fun Q1 hQ => ?_)
 by_cases a1 : 97 ≤ c.toNat
 ·by_cases a2 : c.toNat ≤ 122
  ·have e : zB7 c = true := by simp [zB7, a1, a2]
   simp (disch := omega) only [EL, ↓K3, ↓K1, reduceIte, Nat.reduceEqDiff, Nat.reduceAdd, Nat.reduceLeDiff, i0, a1, a2]
   refine hQ _ ?_
   simp only [zAa]
   refine zAj ?_
   simp (disch := omega) only [EL, ↓K3, ↓K1, reduceIte, Nat.reduceEqDiff, Nat.reduceAdd, Nat.reduceLeDiff, e]
  ·have e : zB7 c = false := by simp [zB7, a2]; omega
   have a3 : 65 ≤ c.toNat := by omega
   have a4 : ¬ c.toNat ≤ 90 := by omega
   have a5 : ¬ c.toNat = 95 := by omega
   simp (disch := omega) only [EL, ↓K3, ↓K1, reduceIte, Nat.reduceEqDiff, Nat.reduceAdd, Nat.reduceLeDiff, i0, a1, a2, a3, a4, a5]
   refine hQ _ ?_
   simp only [zAa]
   refine zAj ?_
   simp (disch := omega) only [EL, ↓K3, ↓K1, reduceIte, Nat.reduceEqDiff, Nat.reduceAdd, Nat.reduceLeDiff, e]
 by_cases a3 : 65 ≤ c.toNat
 ·by_cases a4 : c.toNat ≤ 90
  ·have e : zB7 c = true := by simp [zB7, a3, a4]
   simp (disch := omega) only [EL, ↓K3, ↓K1, reduceIte, Nat.reduceEqDiff, Nat.reduceAdd, Nat.reduceLeDiff, i0, a1, a3, a4]
   refine hQ _ ?_
   simp only [zAa]
   refine zAj ?_
   simp (disch := omega) only [EL, ↓K3, ↓K1, reduceIte, Nat.reduceEqDiff, Nat.reduceAdd, Nat.reduceLeDiff, e]
  by_cases a5 : c.toNat = 95
  ·have e : zB7 c = true := by simp [zB7, a5]
   simp (disch := omega) only [EL, ↓K3, ↓K1, reduceIte, Nat.reduceEqDiff, Nat.reduceAdd, Nat.reduceLeDiff, i0, a1, a3, a4, a5]
   refine hQ _ ?_
   simp only [zAa]
   refine zAj ?_
   simp (disch := omega) only [EL, ↓K3, ↓K1, reduceIte, Nat.reduceEqDiff, Nat.reduceAdd, Nat.reduceLeDiff, e]
  ·have e : zB7 c = false := by simp [zB7, a1, a4, a5]
   simp (disch := omega) only [EL, ↓K3, ↓K1, reduceIte, Nat.reduceEqDiff, Nat.reduceAdd, Nat.reduceLeDiff, i0, a1, a3, a4, a5]
   refine hQ _ ?_
   simp only [zAa]
   refine zAj ?_
   simp (disch := omega) only [EL, ↓K3, ↓K1, reduceIte, Nat.reduceEqDiff, Nat.reduceAdd, Nat.reduceLeDiff, e]
 ·have a5 : ¬ c.toNat = 95 := by omega
  have e : zB7 c = false := by simp [zB7, a1, a3, a5]
  simp (disch := omega) only [EL, ↓K3, ↓K1, reduceIte, Nat.reduceEqDiff, Nat.reduceAdd, Nat.reduceLeDiff, i0, a1, a3, a5]
  refine hQ _ ?_
  simp only [zAa]
  refine zAj ?_
  simp (disch := omega) only [EL, ↓K3, ↓K1, reduceIte, Nat.reduceEqDiff, Nat.reduceAdd, Nat.reduceLeDiff, e]
include H in
theorem word1_gp {c : UInt8} : GP tab 90 [byteV c] h fun v h1 => v = .bool (zC2 c) ∧ h1 = h := by
 have i0 : zAg [byteV c] = zAc [byteV c] := rfl
 refine GE.gp (ge_of H.t90 rfl ?_) (E := fun _ _ => False) fun _ _ hh => hh
 refine zAd (zAb fun Q1 hQ => ?_)
 simp (disch := omega) only [EL, ↓K3, ↓K1, reduceIte, Nat.reduceEqDiff, Nat.reduceAdd, Nat.reduceLeDiff, i0]
 refine hQ _ ?_
 clear hQ Q1
 refine zAd (zAb fun Q1 hQ => ?_)
 simp (disch := omega) only [EL, ↓K3, ↓K1, reduceIte, Nat.reduceEqDiff, Nat.reduceAdd, Nat.reduceLeDiff, i0]
 rw [ge_rw (zHp H)]
 cases a1 : zB7 c with
 | true =>
  have e : zC2 c = true := by simp [zC2, a1]
  simp (disch := omega) only [EL, ↓K3, ↓K1, reduceIte, Nat.reduceEqDiff, Nat.reduceAdd, Nat.reduceLeDiff, i0, a1]
  refine hQ _ ?_
  simp only [zAa]
  refine zAj ?_
  simp (disch := omega) only [EL, ↓K3, ↓K1, reduceIte, Nat.reduceEqDiff, Nat.reduceAdd, Nat.reduceLeDiff, e]
 | false =>
  simp (disch := omega) only [EL, ↓K3, ↓K1, reduceIte, Nat.reduceEqDiff, Nat.reduceAdd, Nat.reduceLeDiff, i0]
  rw [ge_rw (zLy H)]
  have e : zC2 c = zBb c := by simp [zC2, a1]
  simp (disch := omega) only [EL, ↓K3, ↓K1, reduceIte, Nat.reduceEqDiff, Nat.reduceAdd, Nat.reduceLeDiff, i0, a1]
  refine hQ _ ?_
  simp only [zAa]
  refine zAj ?_
  simp (disch := omega) only [EL, ↓K3, ↓K1, reduceIte, Nat.reduceEqDiff, Nat.reduceAdd, Nat.reduceLeDiff, e]
end
end Go.Ev
namespace Go.Ev
open Go Go.Pa
theorem zJ7 {p : UInt8 → Bool} : ∀ {s : Str} {k : Nat}, (∀ i, i < k → ∃ c, s[i]? = some c ∧ p c = true) → (∀ c, s[k]? = some c → p c = false) → aheadN p s = k
 | [], 0, _, _ => rfl
 | [], k + 1, h, _ => by obtain ⟨c, hc, _⟩ := h 0 (by omega); cases hc
 | c :: s, 0, _, h => by unfold aheadN; rw [List.takeWhile_cons, h c rfl]; rfl
 | c :: s, k + 1, h, h' => by
  obtain ⟨c', hc, hp⟩ := h 0 (by omega)
  injection hc with hc; subst hc
  unfold aheadN
  rw [List.takeWhile_cons, if_pos hp, List.length_cons]
  congr 1
  exact zJ7 (fun i hi => h (i + 1) (by omega)) h'
section
variable {tab : Nat → Option AFunc} {h : AH} (H : PT tab)
include H in
theorem run_gp {f : Nat} {p : UInt8 → Bool} {s : Str} (hs : s.length ≤ 1000000) (hp : ∀ c, GP tab f [byteV c] h fun v h1 => v = .bool (p c) ∧ h1 = h) : GP tab 61 [sv s, .fn f [] []] h fun v h1 => v = .int .i64 (aheadN p s : Int) ∧ h1 = h := by
 have i0 : zAg [sv s, .fn f [] []] = zAc [sv s, .fn f [] []] := rfl
 refine GE.gp (ge_of H.t61 rfl ?_) (E := fun _ _ => False) fun _ _ hh => hh
 refine zAd (zAb fun Q1 hQ => ?_)
 simp (disch := omega) only [EL, ↓K3, ↓K1, reduceIte, Nat.reduceEqDiff, Nat.reduceAdd, Nat.reduceLeDiff, i0]
 refine hQ _ ?_
 clear hQ Q1
 refine zAd (zAb fun Q1 hQ => ?_)
 simp (disch := omega) only [EL, ↓K3, ↓K1, reduceIte, Nat.reduceEqDiff, Nat.reduceAdd, Nat.reduceLeDiff, i0]
 refine hQ _ ?_
 clear hQ Q1
 refine zG0 (fun l d1 h1 => d1 = [] ∧ h1 = h ∧ l.get 2 = some (.int .i64 (aheadN p s : Int))) ?_ ?_
 ·refine zAu ?_
  refine zCc (fun m l d1 h1 => ∃ k, m = s.length - k ∧ k ≤ s.length ∧ d1 = [] ∧ h1 = h ∧ l.get 0 = some (sv s) ∧ l.get 1 = some (.fn f [] []) ∧ l.get 2 = some (.int .i64 (k : Int)) ∧ ∀ i, i < k → ∃ c, s[i]? = some c ∧ p c = true) ?_ (s.length - 0) ?_
  ·rintro m l d1 h1 ⟨k, rfl, hk, rfl, rfl, l0, l1, l2, hall⟩
   refine zAd ?_
   refine zAd (zAb fun Q1 hQ => ?_)
   by_cases hlt : k < s.length
   ·have ix : ∀ h' : AH, oIdxS (.c (sv s)) (.c (.int .i64 (k : Int))) .leaf [] h' = .val (byteV s[k]) h' := fun h' => idx_sv (List.getElem?_eq_getElem hlt)
    simp (disch := omega) only [EL, ↓K3, ↓K1, reduceIte, Nat.reduceEqDiff, Nat.reduceAdd, Nat.reduceLeDiff, l0, l1, l2, hlt, ix]
    rw [ge_rw (hp s[k])]
    cases hpk : p s[k] with
    | true =>
     simp (disch := omega) only [EL, ↓K3, ↓K1, reduceIte, Nat.reduceEqDiff, Nat.reduceAdd, Nat.reduceLeDiff]
     refine hQ _ ?_
     simp only [zAa]
     refine zAq (by simp +decide only [EL, reduceIte]) ?_
     refine zAl ?_
     simp only [zAa]
     refine zAu ?_
     refine zAb fun Q1 hQ => ?_
     simp (disch := omega) only [EL, ↓K3, ↓K1, reduceIte, Nat.reduceEqDiff, Nat.reduceAdd, Nat.reduceLeDiff, l2]
     refine hQ _ ?_
     clear hQ Q1
     simp only [zAa, zAi]
     refine ⟨s.length - (k + 1), by omega, k + 1, rfl, hlt, trivial, trivial, by simp +decide only [EL, reduceIte, l0], by simp +decide only [EL, reduceIte, l1], by simp +decide only [EL, reduceIte], fun i hi => ?_⟩
     by_cases e : i = k
     ·subst e; exact ⟨_, List.getElem?_eq_getElem hlt, hpk⟩
     ·exact hall i (by omega)
    | false =>
     simp (disch := omega) only [EL, ↓K3, ↓K1, reduceIte, Nat.reduceEqDiff, Nat.reduceAdd, Nat.reduceLeDiff]
     refine hQ _ ?_
     simp only [zAa]
     refine wc_no (by simp +decide only [EL, reduceIte]) ?_
     refine zC1 ?_
     simp only [zBd, zBa, if_true, zAa]
     refine ⟨trivial, trivial, ?_⟩
     simp (disch := omega) only [EL, ↓K3, ↓K1, reduceIte, Nat.reduceEqDiff, Nat.reduceAdd, Nat.reduceLeDiff, l2]
     rw [zJ7 hall fun c hc => by rw [List.getElem?_eq_getElem hlt] at hc; injection hc with hc; subst hc; exact hpk]
   ·simp (disch := omega) only [EL, ↓K3, ↓K1, reduceIte, Nat.reduceEqDiff, Nat.reduceAdd, Nat.reduceLeDiff, l0, l1, l2, hlt]
    refine hQ _ ?_
    simp only [zAa]
    refine wc_no (by simp +decide only [EL, reduceIte]) ?_
    refine zC1 ?_
    simp only [zBd, zBa, if_true, zAa]
    refine ⟨trivial, trivial, ?_⟩
    simp (disch := omega) only [EL, ↓K3, ↓K1, reduceIte, Nat.reduceEqDiff, Nat.reduceAdd, Nat.reduceLeDiff, l2]
    rw [zJ7 hall fun c hc => by rw [List.getElem?_eq_none (by omega)] at hc; cases hc]
  ·exact ⟨0, rfl, Nat.zero_le _, rfl, rfl, by simp +decide only [EL, reduceIte, i0], by simp +decide only [EL, reduceIte, i0], by simp +decide only [EL, reduceIte, i0], fun i hi => by omega⟩
 ·rintro l d1 h1 ⟨rfl, rfl, l2⟩
  refine zAd (zAb fun Q1 hQ => ?_)
  simp (disch := omega) only [EL, ↓K3, ↓K1, reduceIte, Nat.reduceEqDiff, Nat.reduceAdd, Nat.reduceLeDiff, l2]
  refine hQ _ ?_
  clear hQ Q1
  refine zAj ?_
  simp (disch := omega) only [EL, ↓K3, ↓K1, reduceIte, Nat.reduceEqDiff, Nat.reduceAdd, Nat.reduceLeDiff]
end
end Go.Ev
namespace Go.Ev
open Go Go.Pa
section
variable {tab : Nat → Option AFunc} {h : AH} (H : PT tab)
include H in
theorem prefix_gp {a b : Str} : GP tab 63 [sv a, sv b] h fun v h1 => v = .bool (decide (b.isPrefixOf a = true)) ∧ h1 = h := by
 have i0 : zAg [sv a, sv b] = zAc [sv a, sv b] := rfl
 refine GE.gp (ge_of H.t63 rfl ?_) (E := fun _ _ => False) fun _ _ hh => hh
 refine zAd (zAb fun Q1 hQ => ?_)
 simp (disch := omega) only [EL, ↓K3, ↓K1, reduceIte, Nat.reduceEqDiff, Nat.reduceAdd, Nat.reduceLeDiff, i0]
 refine hQ _ ?_
 clear hQ Q1
 refine zAd (zAb fun Q1 hQ => ?_)
 simp (disch := omega) only [EL, ↓K3, ↓K1, reduceIte, Nat.reduceEqDiff, Nat.reduceAdd, Nat.reduceLeDiff, i0]
 rw [ge_rw (zIl H)]
 simp (disch := omega) only [EL, ↓K3, ↓K1, reduceIte, Nat.reduceEqDiff, Nat.reduceAdd, Nat.reduceLeDiff, i0]
 refine hQ _ ?_
 simp only [zAa]
 refine zAj ?_
 simp (disch := omega) only [EL, ↓K3, ↓K1, reduceIte, Nat.reduceEqDiff, Nat.reduceAdd, Nat.reduceLeDiff]
include H in
theorem skip_gp {s : Str} (hs : s.length ≤ 1000000) : GP tab 37 [sv s] h fun v h1 => v = .int .i64 (skipS s : Int) ∧ h1 = h := by
 have i0 : zAg [sv s] = zAc [sv s] := rfl
 refine GE.gp (ge_of H.t37 rfl ?_) (E := fun _ _ => False) fun _ _ hh => hh
 refine zAd (zAb fun Q1 hQ => ?_)
 simp (disch := omega) only [EL, ↓K3, ↓K1, reduceIte, Nat.reduceEqDiff, Nat.reduceAdd, Nat.reduceLeDiff, i0]
 refine hQ _ ?_
 clear hQ Q1
 refine zAd (zAb fun Q1 hQ => ?_)
 simp (disch := omega) only [EL, ↓K3, ↓K1, reduceIte, Nat.reduceEqDiff, Nat.reduceAdd, Nat.reduceLeDiff, i0]
 refine hQ _ ?_
 clear hQ Q1
 refine zAu ?_
 refine zCc (fun k l d1 h1 => ∃ n, n ≤ s.length ∧ s.length - n < k ∧ n + skipL k (s.drop n) = skipS s ∧ d1 = [] ∧ h1 = h ∧ l.get 0 = some (sv s) ∧ l.get 1 = some (.int .i64 (n : Int))) ?_ (s.length + 1) ?_
 ·rintro k l d1 h1 ⟨n, hn, hk, he, rfl, rfl, l0, l1⟩
  cases k with
  | zero => omega
  | succ k =>
   refine zAu ?_
   have a1 := zCq (p := zAr) (s := s.drop n)
   rw [List.length_drop] at a1
   have sl : ∀ h' : AH, zDe (.c (sv s)) (some (.c (.int .i64 (n : Int)))) none .leaf [] h' = .val (sv (s.drop n)) h' := fun h' => zHi hn
   refine zAd (zAb fun Q1 hQ => ?_)
   simp (disch := omega) only [EL, ↓K3, ↓K1, reduceIte, Nat.reduceEqDiff, Nat.reduceAdd, Nat.reduceLeDiff, l0, l1, sl]
   rw [ge_rw (run_gp H (by rw [List.length_drop]; omega) fun c => blank_gp H)]
   have w1 : IntKind.i64.wrap ((n : Int) + (aheadN zAr (s.drop n) : Int)) = ((n + aheadN zAr (s.drop n) : Nat) : Int) := by rw [zIr (by omega) (by omega)]; omega
   simp (disch := omega) only [EL, ↓K3, ↓K1, reduceIte, Nat.reduceEqDiff, Nat.reduceAdd, Nat.reduceLeDiff, l0, l1, w1]
   refine hQ _ ?_
   clear hQ Q1
   simp only [zAa]
   unfold skipL at he
   have sl2 : ∀ h' : AH, zDe (.c (sv s)) (some (.c (.int .i64 ((n + aheadN zAr (s.drop n) : Nat) : Int)))) none .leaf [] h' = .val (sv ((s.drop n).drop (aheadN zAr (s.drop n)))) h' := fun h' => by rw [zHi (by omega), List.drop_drop]
   obtain ⟨a, ha⟩ : ∃ a, a = aheadN zAr (s.drop n) := ⟨_, rfl⟩
   rw [← ha] at sl2 he a1 ⊢
   clear ha w1
   refine zAd ?_
   refine zAd (zAb fun Q1 hQ => ?_)
   simp (disch := omega) only [EL, ↓K3, ↓K1, reduceIte, Nat.reduceEqDiff, Nat.reduceAdd, Nat.reduceLeDiff, l0, l1, sl2]
   rw [ge_rw (prefix_gp H)]
   by_cases hp : ([47, 47] : Str).isPrefixOf ((s.drop n).drop a) = true
   ·rw [if_pos hp] at he
    simp (disch := omega) only [EL, ↓K3, ↓K1, reduceIte, Nat.reduceEqDiff, Nat.reduceAdd, Nat.reduceLeDiff, hp]
    refine hQ _ ?_
    clear hQ Q1
    simp only [zAa]
    refine wc_no (by simp +decide only [EL, reduceIte]) ?_
    refine zAl ?_
    simp only [zAa]
    refine zAb fun Q1 hQ => ?_
    simp (disch := omega) only [EL, ↓K3, ↓K1, reduceIte, Nat.reduceEqDiff, Nat.reduceAdd, Nat.reduceLeDiff, l0, l1, sl2]
    rw [ge_rw (run_gp H (by simp only [List.length_drop]; omega) fun c => skip1_gp H)]
    have b1 := zCq (p := notNl) (s := (s.drop n).drop a)
    have b2 : 1 ≤ aheadN notNl ((s.drop n).drop a) := by
     cases hd : (s.drop n).drop a with
     | nil => rw [hd] at hp; cases hp
     | cons c r =>
      rw [hd] at hp
      simp only [List.isPrefixOf, Bool.and_eq_true, beq_iff_eq] at hp
      obtain ⟨rfl, _⟩ := hp
      exact zCr (by decide)
    simp only [List.length_drop] at b1
    have w2 : IntKind.i64.wrap (((n + a : Nat) : Int) + (aheadN notNl ((s.drop n).drop a) : Int)) = ((n + a + aheadN notNl ((s.drop n).drop a) : Nat) : Int) := by rw [zIr (by omega) (by omega)]; omega
    simp (disch := omega) only [EL, ↓K3, ↓K1, reduceIte, Nat.reduceEqDiff, Nat.reduceAdd, Nat.reduceLeDiff, l0, l1, w2]
    refine hQ _ ?_
    clear hQ Q1
    simp only [zAa, zAi]
    refine ⟨k, by omega, n + a + aheadN notNl ((s.drop n).drop a), ?_, ?_, ?_, trivial, trivial, by simp +decide only [EL, reduceIte, l0], by simp +decide only [EL, reduceIte]⟩
    ·omega
    ·omega
    ·rw [← he]
     have : s.drop (n + a + aheadN notNl ((s.drop n).drop a)) = ((s.drop n).drop a).drop (aheadN notNl ((s.drop n).drop a)) := by simp only [List.drop_drop]
     rw [this]
     omega
   ·rw [if_neg hp] at he
    simp (disch := omega) only [EL, ↓K3, ↓K1, reduceIte, Nat.reduceEqDiff, Nat.reduceAdd, Nat.reduceLeDiff, hp]
    refine hQ _ ?_
    clear hQ Q1
    simp only [zAa]
    refine zAq (by simp +decide only [EL, reduceIte]) ?_
    refine zAd (zAb fun Q1 hQ => ?_)
    simp (disch := omega) only [EL, ↓K3, ↓K1, reduceIte, Nat.reduceEqDiff, Nat.reduceAdd, Nat.reduceLeDiff, l1]
    refine hQ _ ?_
    clear hQ Q1
    refine zAj ?_
    try simp only [zAh, zAf]
    rw [he]
    simp (disch := omega) only [EL, ↓K3, ↓K1, reduceIte, Nat.reduceEqDiff, Nat.reduceAdd, Nat.reduceLeDiff]
 ·exact ⟨0, by omega, by omega, by simp [skipS], rfl, rfl, by simp +decide only [EL, reduceIte, i0], by simp +decide only [EL, reduceIte, i0]⟩
end
end Go.Ev
namespace Go.Ev
open Go Go.Pa
theorem zH2 {p : UInt8 → Bool} : ∀ {s : Str}, s.take (aheadN p s) = s.takeWhile p
 | [] => rfl
 | c :: s => by
  unfold aheadN
  rw [List.takeWhile_cons]
  split
  ·rw [List.length_cons, List.take_succ_cons]; congr 1; exact zH2
  ·rfl
section
variable {tab : Nat → Option AFunc} {h : AH} (H : PT tab)
include H in
theorem keys_gp : GP tab 115 [] h fun v h1 => v = .sl h.next 0 16 (.known 16) ∧ More h h1 ∧ ∃ c, h1.mem.get h.next = some (.cells c 16 none false) ∧ ∀ i (hi : i < lexKeys.length), c.get i = some (sv lexKeys[i]) := by
 have i0 : zAg [] = zAc [] := rfl
 refine GE.gp (ge_of H.t115 rfl ?_) (E := fun _ _ => False) fun _ _ => id
 refine zAd (zAb fun Q1 hQ => ?_)
 simp (disch := omega) only [EL, ↓K3, ↓K1, reduceIte, Nat.reduceEqDiff, Nat.reduceAdd, Nat.reduceLeDiff, i0]
 refine hQ _ ?_
 clear hQ Q1
 refine zAd (zAb fun Q1 hQ => ?_)
 simp (disch := omega) only [EL, ↓K3, ↓K1, reduceIte, Nat.reduceEqDiff, Nat.reduceAdd, Nat.reduceLeDiff, i0]
 refine hQ _ ?_
 clear hQ Q1
 refine zAj ?_
 try simp only [zAh, zAf]
 simp (disch := omega) only [EL, ↓K3, ↓K1, reduceIte, Nat.reduceEqDiff, Nat.reduceAdd, Nat.reduceLeDiff]
 refine ⟨More.add _ _, _, rfl, ?_⟩
 intro i hi
 rw [zAk]
 have e : ([sv [116, 121, 112, 101], sv [115, 116, 114, 117, 99, 116], sv [102, 117, 110, 99], sv [118, 97, 114], sv [105, 102], sv [101, 108, 115, 101], sv [102, 111, 114], sv [114, 101, 116, 117, 114, 110], sv [112, 114, 105, 110, 116], sv [110, 101, 119], sv [110, 105, 108], sv [116, 114, 117, 101], sv [102, 97, 108, 115, 101], sv [105, 110, 116], sv [98, 111, 111, 108], sv [114, 101, 97, 100]] : List AV) = lexKeys.map sv := rfl
 rw [e, List.getElem?_map, List.getElem?_eq_getElem hi]; rfl
include H in
theorem lsigns_gp : GP tab 94 [] h fun v h1 => v = .sl h.next 0 28 (.known 28) ∧ More h h1 ∧ ∃ c, h1.mem.get h.next = some (.cells c 28 none false) ∧ ∀ i (hi : i < lexSigns.length), c.get i = some (sv lexSigns[i]) := by
 have i0 : zAg [] = zAc [] := rfl
 refine GE.gp (ge_of H.t94 rfl ?_) (E := fun _ _ => False) fun _ _ => id
 refine zAd (zAb fun Q1 hQ => ?_)
 simp (disch := omega) only [EL, ↓K3, ↓K1, reduceIte, Nat.reduceEqDiff, Nat.reduceAdd, Nat.reduceLeDiff, i0]
 refine hQ _ ?_
 clear hQ Q1
 refine zAd (zAb fun Q1 hQ => ?_)
 simp (disch := omega) only [EL, ↓K3, ↓K1, reduceIte, Nat.reduceEqDiff, Nat.reduceAdd, Nat.reduceLeDiff, i0]
 refine hQ _ ?_
 clear hQ Q1
 refine zAj ?_
 try simp only [zAh, zAf]
 simp (disch := omega) only [EL, ↓K3, ↓K1, reduceIte, Nat.reduceEqDiff, Nat.reduceAdd, Nat.reduceLeDiff]
 refine ⟨More.add _ _, _, rfl, ?_⟩
 intro i hi
 rw [zAk]
 have e : ([sv [60, 60], sv [62, 62], sv [61, 61], sv [33, 61], sv [60, 61], sv [62, 61], sv [38, 38], sv [124, 124], sv [58, 61], sv [43], sv [45], sv [42], sv [47], sv [37], sv [38], sv [124], sv [94], sv [60], sv [62], sv [33], sv [61], sv [46], sv [44], sv [59], sv [40], sv [41], sv [123], sv [125]] : List AV) = lexSigns.map sv := rfl
 rw [e, List.getElem?_map, List.getElem?_eq_getElem hi]; rfl
include H in
theorem contains_gp {v : AV} {xs : List Str} {s : Str} (a : StrA h v xs) (hl : xs.length < 1000) : GP tab 114 [v, sv s] h fun w h1 => w = .bool (decide (s ∈ xs)) ∧ h1 = h := by
 have i0 : zAg [v, sv s] = zAc [v, sv s] := rfl
 have mv : ∀ h', oMove (.c v) .leaf [] h' = .val v h' := by
  obtain ⟨_, _, _, _, _, _, _, rfl, _⟩ := a
  intro h'; rfl
 refine GE.gp (ge_of H.t114 rfl ?_) (E := fun _ _ => False) fun _ _ => id
 refine zAd (zAb fun Q1 hQ => ?_)
 simp (disch := omega) only [EL, ↓K3, ↓K1, reduceIte, Nat.reduceEqDiff, Nat.reduceAdd, Nat.reduceLeDiff, i0]
 refine hQ _ ?_
 clear hQ Q1
 refine zAd (zAb fun Q1 hQ => ?_)
 simp (disch := omega) only [EL, ↓K3, ↓K1, reduceIte, Nat.reduceEqDiff, Nat.reduceAdd, Nat.reduceLeDiff, i0, mv]
 rw [ge_rw (zLr H a hl)]
 have hx : ((0 : Nat) : Int) ≤ zGh xs s ↔ s ∈ xs := by
  unfold zGh
  split
  ·rename_i hm; exact ⟨fun _ => hm, fun _ => by omega⟩
  ·rename_i hm; exact ⟨fun e => by omega, fun e => absurd e hm⟩
 by_cases hm : s ∈ xs
 ·have h1 := hx.mpr hm
  simp (disch := omega) only [EL, ↓K3, ↓K1, reduceIte, Nat.reduceEqDiff, Nat.reduceAdd, Nat.reduceLeDiff, i0, h1]
  refine hQ _ ?_
  simp only [zAa]
  refine zAj ?_
  simp (disch := omega) only [EL, ↓K3, ↓K1, reduceIte, Nat.reduceEqDiff, Nat.reduceAdd, Nat.reduceLeDiff, hm]
 ·have h1 : ¬ ((0 : Nat) : Int) ≤ zGh xs s := fun e => hm (hx.mp e)
  simp (disch := omega) only [EL, ↓K3, ↓K1, reduceIte, Nat.reduceEqDiff, Nat.reduceAdd, Nat.reduceLeDiff, i0, h1]
  refine hQ _ ?_
  simp only [zAa]
  refine zAj ?_
  simp (disch := omega) only [EL, ↓K3, ↓K1, reduceIte, Nat.reduceEqDiff, Nat.reduceAdd, Nat.reduceLeDiff, hm]
include H in
theorem isKey_gp {s : Str} : GP tab 91 [sv s] h fun v h1 => v = .bool (decide (s ∈ lexKeys)) ∧ More h h1 := by
 have i0 : zAg [sv s] = zAc [sv s] := rfl
 refine GE.gp (ge_of H.t91 rfl ?_) (E := fun _ _ => False) fun _ _ => id
 refine zAd (zAb fun Q1 hQ => ?_)
 simp (disch := omega) only [EL, ↓K3, ↓K1, reduceIte, Nat.reduceEqDiff, Nat.reduceAdd, Nat.reduceLeDiff, i0]
 refine hQ _ ?_
 clear hQ Q1
 refine zAd (zAb fun Q1 hQ => ?_)
 simp (disch := omega) only [EL, ↓K3, ↓K1, reduceIte, Nat.reduceEqDiff, Nat.reduceAdd, Nat.reduceLeDiff, i0]
 refine (keys_gp H).to fun v h1 q => ?_
 obtain ⟨rfl, m1, c, gc, ga⟩ := q
 simp (disch := omega) only [EL, ↓K3, ↓K1, reduceIte, Nat.reduceEqDiff, Nat.reduceAdd, Nat.reduceLeDiff, i0]
 have g : GP tab 114 [.sl h.next 0 16 (.known 16), sv s] h1 (fun w h2 => w = .bool (decide (s ∈ lexKeys)) ∧ h2 = h1) := contains_gp H (xs := lexKeys) ⟨_, 0, _, _, _, _, c, rfl, gc, fun i hi => by rw [Nat.zero_add]; exact ga i hi⟩ (by decide)
 rw [ge_rw g]
 simp (disch := omega) only [EL, ↓K3, ↓K1, reduceIte, Nat.reduceEqDiff, Nat.reduceAdd, Nat.reduceLeDiff, i0]
 refine hQ _ ?_
 simp only [zAa]
 refine zAj ?_
 simp (disch := omega) only [EL, ↓K3, ↓K1, reduceIte, Nat.reduceEqDiff, Nat.reduceAdd, Nat.reduceLeDiff]
 exact m1
include H in
theorem word_lex {s : Str} (hs : s.length ≤ 1000000) : GP tab 66 [sv s] h fun v h1 => v = .tup [.agg [.int .i64 ((wordT s).1 : Int), sv (wordT s).2.1, .int .i64 ((0 : Nat) : Int)], .int .i64 ((wordT s).2.2 : Int)] ∧ More h h1 := by
 have i0 : zAg [sv s] = zAc [sv s] := rfl
 refine GE.gp (ge_of H.t66 rfl ?_) (E := fun _ _ => False) fun _ _ => id
 refine zAd (zAb fun Q1 hQ => ?_)
 simp (disch := omega) only [EL, ↓K3, ↓K1, reduceIte, Nat.reduceEqDiff, Nat.reduceAdd, Nat.reduceLeDiff, i0]
 refine hQ _ ?_
 clear hQ Q1
 have m1 : More h (h.add (.cells (zAc [.int .i64 ((0 : Nat) : Int), sv [], .int .i64 ((0 : Nat) : Int)]) 3 none false)) := More.add _ _
 have g1 : (h.add (.cells (zAc [.int .i64 ((0 : Nat) : Int), sv [], .int .i64 ((0 : Nat) : Int)]) 3 none false)).mem.get h.next = some (.cells (zAc [.int .i64 ((0 : Nat) : Int), sv [], .int .i64 ((0 : Nat) : Int)]) 3 none false) := by rw [AH.add_mem, T.get_put_self]
 have n1 : (h.add (.cells (zAc [.int .i64 ((0 : Nat) : Int), sv [], .int .i64 ((0 : Nat) : Int)]) 3 none false)).next = h.next + 1 := rfl
 generalize h.add (.cells (zAc [.int .i64 ((0 : Nat) : Int), sv [], .int .i64 ((0 : Nat) : Int)]) 3 none false) = h1 at *
 simp only [zAa]
 have sl : ∀ h' : AH, zDe (.c (sv s)) none (some (.c (.int .i64 (aheadN zC2 s : Int)))) .leaf [] h' = .val (sv (s.takeWhile zC2)) h' := fun h' => by rw [zI6 zCq, zH2]
 refine zAd (zAb fun Q1 hQ => ?_)
 simp (disch := omega) only [EL, ↓K3, ↓K1, reduceIte, Nat.reduceEqDiff, Nat.reduceAdd, Nat.reduceLeDiff, i0]
 rw [ge_rw (run_gp H hs fun c => word1_gp H)]
 simp (disch := omega) only [EL, ↓K3, ↓K1, reduceIte, Nat.reduceEqDiff, Nat.reduceAdd, Nat.reduceLeDiff, sl]
 refine hQ _ ?_
 clear hQ Q1
 refine zC8 fun h2 n2 g2 m2 => ?_
 obtain ⟨ct, gt, k0, k1, k2⟩ := g2
 simp only [zAa]
 have g12 := (m2.keep h.next (by omega)).trans g1
 have m02 := m1.trans m2
 obtain ⟨w, hw⟩ : ∃ w, w = s.takeWhile zC2 := ⟨_, rfl⟩
 rw [← hw] at k1
 have hwl : w.length ≤ s.length := by rw [hw]; exact zDa
 have hT : wordT s = (if w ∈ lexKeys then 2 else 1, w, if 12 < w.length then 4 else 0) := by rw [hw]; rfl
 rw [hT]
 clear hT
 refine zG0 (fun l d1 h3 => d1 = [] ∧ l.get 1 = some (.ptr h1.next 0) ∧ l.get 4 = some (.ptr h.next 0) ∧ l.get 5 = some (.int .i64 ((0 : Nat) : Int)) ∧ More h h3 ∧ h2.next ≤ h3.next ∧ h3.mem.get h.next = some (.cells (zAc [.int .i64 ((0 : Nat) : Int), sv [], .int .i64 ((0 : Nat) : Int)]) 3 none false) ∧
  ∃ c, h3.mem.get h1.next = some (.cells c 3 none false) ∧ c.get 0 = some (.int .i64 ((if w ∈ lexKeys then 2 else 1 : Nat) : Int)) ∧ c.get 1 = some (sv w) ∧ c.get 2 = some (.int .i64 ((0 : Nat) : Int))) ?_ ?_
 ·refine zAd (zAb fun Q1 hQ => ?_)
  simp (disch := omega) only [EL, ↓K3, ↓K1, reduceIte, Nat.reduceEqDiff, Nat.reduceAdd, Nat.reduceLeDiff, gt, k1]
  refine (isKey_gp H).to fun v h3 q => ?_
  obtain ⟨rfl, m3⟩ := q
  have n3 := m3.next
  have g13 := (m3.keep h.next (by omega)).trans g12
  have gt3 := (m3.keep h1.next (by omega)).trans gt
  simp (disch := omega) only [EL, ↓K3, ↓K1, reduceIte, Nat.reduceEqDiff, Nat.reduceAdd, Nat.reduceLeDiff]
  refine hQ _ ?_
  clear hQ Q1
  simp only [zAa]
  by_cases hk : w ∈ lexKeys
  ·refine zAq (by simp +decide only [EL, reduceIte, hk]) ?_
   refine zAb fun Q1 hQ => ?_
   simp (disch := omega) only [EL, ↓K3, ↓K1, reduceIte, Nat.reduceEqDiff, Nat.reduceAdd, Nat.reduceLeDiff, gt3, k0]
   refine hQ _ ?_
   clear hQ Q1
   have o4 : Only h1.next h3 (h3.set h1.next (.cells (T.put (some (.int .i64 ((2 : Nat) : Int))) ct 0) 3 none false)) := Only.set
   refine ⟨rfl, by simp +decide only [EL, reduceIte], by simp +decide only [EL, reduceIte, i0], by simp +decide only [EL, reduceIte, i0], (m02.trans m3).set (by omega) _, by rw [o4.next]; omega, (o4.keep _ (by omega)).trans g13, _, AH.get_set, ?_, ?_, ?_⟩
   ·rw [if_pos hk]; exact T.get_put_self _ _ _
   ·rw [T.get_put_ne _ _ _ _ (by omega)]; exact k1
   ·rw [T.get_put_ne _ _ _ _ (by omega)]; exact k2
  ·refine wc_no (by simp +decide only [EL, reduceIte, hk]) ?_
   refine zAl ?_
   refine ⟨rfl, by simp +decide only [EL, reduceIte], by simp +decide only [EL, reduceIte, i0], by simp +decide only [EL, reduceIte, i0], m02.trans m3, by omega, g13, _, gt3, ?_, k1, k2⟩
   rw [if_neg hk]; exact k0
 ·rintro l d1 h3 ⟨rfl, l1, l4, l5, m3, n3, g13, c, gc, c0, c1, c2⟩
  generalize (if w ∈ lexKeys then 2 else 1 : Nat) = kind at *
  refine zAd ?_
  refine zAd (zAb fun Q1 hQ => ?_)
  simp (disch := omega) only [EL, ↓K3, ↓K1, reduceIte, Nat.reduceEqDiff, Nat.reduceAdd, Nat.reduceLeDiff, l1, gc, c1]
  refine hQ _ ?_
  clear hQ Q1
  by_cases hl : 12 < w.length
  ·rw [if_pos hl]
   refine zAq (by simp +decide only [EL, reduceIte, hl]) ?_
   refine zAd (zAb fun Q1 hQ => ?_)
   simp (disch := omega) only [EL, ↓K3, ↓K1, reduceIte, Nat.reduceEqDiff, Nat.reduceAdd, Nat.reduceLeDiff, l1, l4, gc, c0, c1, c2, g13, zAe]
   refine hQ _ ?_
   clear hQ Q1
   refine zAj ?_
   try simp only [zAh, zAf]
   refine ⟨_, zB0 (by simp +decide only [EL, reduceIte, l4]) AH.get_set (lst := [.int .i64 (kind : Int), sv w, .int .i64 ((0 : Nat) : Int)]) (by simp +decide only [EL, reduceIte, zAe]) (zBe (v := .int .i64 ((4 : Nat) : Int)) (by simp +decide only [EL, reduceIte]) zAm), ?_⟩
   exact ⟨rfl, m3.set (Nat.le_refl _) _⟩
  ·rw [if_neg hl]
   refine wc_no (by simp +decide only [EL, reduceIte, hl]) ?_
   refine zAl ?_
   simp only [zAa]
   refine zAd (zAb fun Q1 hQ => ?_)
   simp (disch := omega) only [EL, ↓K3, ↓K1, reduceIte, Nat.reduceEqDiff, Nat.reduceAdd, Nat.reduceLeDiff, l1, l4, gc, c0, c1, c2, g13, zAe]
   refine hQ _ ?_
   clear hQ Q1
   refine zAj ?_
   try simp only [zAh, zAf]
   refine ⟨_, zB0 (by simp +decide only [EL, reduceIte, l4]) AH.get_set (lst := [.int .i64 (kind : Int), sv w, .int .i64 ((0 : Nat) : Int)]) (by simp +decide only [EL, reduceIte, zAe]) (zBe (v := .int .i64 ((0 : Nat) : Int)) (by simp +decide only [EL, reduceIte]) zAm), ?_⟩
   exact ⟨rfl, m3.set (Nat.le_refl _) _⟩
end
end Go.Ev
namespace Go.Ev
open Go Go.Pa
section
variable {tab : Nat → Option AFunc} {h : AH} (H : PT tab)
theorem digs_of {c : UInt8} {s : Str} (hc : zBb c = true) (hs : (c :: s).length ≤ 1000000) : Digs ((c :: s).takeWhile zBb) := by
 refine ⟨List.ne_nil_of_length_pos (zCr hc), ?_, Nat.le_trans zDa hs⟩
 intro x hx
 have hall := List.all_takeWhile (p := zBb) (l := c :: s)
 rw [List.all_eq_true] at hall
 simpa [zBb] using hall x hx
include H in
theorem number_lex {c : UInt8} {t : Str} (hc : zBb c = true) (hs : (c :: t).length ≤ 1000000) : GP tab 68 [sv (c :: t)] h fun v h1 => v = .tup [.agg [.int .i64 ((numT (c :: t)).1 : Int), sv (numT (c :: t)).2.1, .int .i64 ((0 : Nat) : Int)], .int .i64 ((numT (c :: t)).2.2 : Int)] ∧ More h h1 := by
 have dg := digs_of hc hs
 obtain ⟨s, hst⟩ : ∃ s, s = c :: t := ⟨_, rfl⟩
 rw [← hst] at dg hs ⊢
 have i0 : zAg [sv s] = zAc [sv s] := rfl
 refine GE.gp (ge_of H.t68 rfl ?_) (E := fun _ _ => False) fun _ _ => id
 refine zAd (zAb fun Q1 hQ => ?_)
 simp (disch := omega) only [EL, ↓K3, ↓K1, reduceIte, Nat.reduceEqDiff, Nat.reduceAdd, Nat.reduceLeDiff, i0]
 refine hQ _ ?_
 clear hQ Q1
 have m1 : More h (h.add (.cells (zAc [.int .i64 ((0 : Nat) : Int), sv [], .int .i64 ((0 : Nat) : Int)]) 3 none false)) := More.add _ _
 have g1 : (h.add (.cells (zAc [.int .i64 ((0 : Nat) : Int), sv [], .int .i64 ((0 : Nat) : Int)]) 3 none false)).mem.get h.next = some (.cells (zAc [.int .i64 ((0 : Nat) : Int), sv [], .int .i64 ((0 : Nat) : Int)]) 3 none false) := by rw [AH.add_mem, T.get_put_self]
 have n1 : (h.add (.cells (zAc [.int .i64 ((0 : Nat) : Int), sv [], .int .i64 ((0 : Nat) : Int)]) 3 none false)).next = h.next + 1 := rfl
 generalize h.add (.cells (zAc [.int .i64 ((0 : Nat) : Int), sv [], .int .i64 ((0 : Nat) : Int)]) 3 none false) = h1 at *
 simp only [zAa]
 have an := zCq (p := zBb) (s := s)
 have sl : ∀ h' : AH, zDe (.c (sv s)) none (some (.c (.int .i64 (aheadN zBb s : Int)))) .leaf [] h' = .val (sv (s.takeWhile zBb)) h' := fun h' => by rw [zI6 zCq, zH2]
 refine zAd (zAb fun Q1 hQ => ?_)
 simp (disch := omega) only [EL, ↓K3, ↓K1, reduceIte, Nat.reduceEqDiff, Nat.reduceAdd, Nat.reduceLeDiff, i0]
 rw [ge_rw (run_gp H hs fun c => zLy H)]
 simp (disch := omega) only [EL, ↓K3, ↓K1, reduceIte, Nat.reduceEqDiff, Nat.reduceAdd, Nat.reduceLeDiff]
 refine hQ _ ?_
 clear hQ Q1
 simp only [zAa]
 refine zAd (zAb fun Q1 hQ => ?_)
 simp (disch := omega) only [EL, ↓K3, ↓K1, reduceIte, Nat.reduceEqDiff, Nat.reduceAdd, Nat.reduceLeDiff, i0, sl]
 refine hQ _ ?_
 clear hQ Q1
 refine zC8 fun h2 n2 g2 m2 => ?_
 obtain ⟨ct, gt, k0, k1, k2⟩ := g2
 simp only [zAa]
 have g12 := (m2.keep h.next (by omega)).trans g1
 have m02 := m1.trans m2
 have hx : ∀ err : Nat, err = (numT s).2.2 → numT s = (3, s.takeWhile zBb, err) := fun err e => by rw [e]; rfl
 have hnum : (∃ c r, s.drop (aheadN zBb s) = c :: r ∧ zB7 c = true ∧ (numT s).2.2 = 1) ∨ ((∀ c, s[aheadN zBb s]? = some c → zB7 c = false) ∧ (numT s).2.2 = (numP (s.takeWhile zBb)).2) := by
  unfold numT
  simp only
  cases hd : s.drop (aheadN zBb s) with
  | nil =>
   refine .inr ⟨fun c hc => ?_, rfl⟩
   have := List.length_drop (i := aheadN zBb s) (l := s)
   rw [hd] at this
   rw [List.getElem?_eq_none (by simp at this; omega)] at hc; cases hc
  | cons c r =>
   simp only
   cases hl : zB7 c with
   | true => exact .inl ⟨c, r, rfl, hl, by simp⟩
   | false =>
    refine .inr ⟨fun c' hc' => ?_, by simp⟩
    have : s[aheadN zBb s]? = some c := by
     have e := List.getElem?_drop (xs := s) (i := aheadN zBb s) (j := 0)
     rw [hd] at e; simpa using e.symm
    rw [this] at hc'; injection hc' with hc'; subst hc'; exact hl
 clear sl
 obtain ⟨w, hw⟩ : ∃ w, w = s.takeWhile zBb := ⟨_, rfl⟩
 obtain ⟨n, hn⟩ : ∃ n, n = aheadN zBb s := ⟨_, rfl⟩
 rw [← hw] at k1 dg hnum hx
 rw [← hn] at an hnum ⊢
 clear hn
 refine zAd ?_
 have bad : (numT s).2.2 = 1 → ∀ (l : T AV) (Q : Res → Prop), l.get 3 = some (.ptr h1.next 0) → l.get 4 = some (.ptr h.next 0) → (∀ l' h', zDv [.cellN 3 (.l 4), .val (.l 6)] (fun v h1 => v = .tup [.agg [.int .i64 ((numT s).1 : Int), sv (numT s).2.1, .int .i64 ((0 : Nat) : Int)], .int .i64 ((numT s).2.2 : Int)] ∧ More h h1) (fun _ _ => False) (.ret l' [] h') → Q (.ret l' [] h')) →
   WC tab (.seq (.ops [⟨.loadN 3 (.l 3), none, none, []⟩, ⟨.store 3 (.l 4) (.t 0), none, none, []⟩, ⟨.move (.c (.int .i64 (.ofNat 1))), none, some 6, []⟩]) .ret) l [] h2 Q := by
  intro e l Q l3 l4 hq
  refine zAd (zAb fun Q1 hQ => ?_)
  simp (disch := omega) only [EL, ↓K3, ↓K1, reduceIte, Nat.reduceEqDiff, Nat.reduceAdd, Nat.reduceLeDiff, l3, l4, gt, k0, k1, k2, g12, zAe]
  refine hQ _ ?_
  simp only [zAa]
  refine zAj (hq _ _ ?_)
  refine ⟨_, zB0 (by simp +decide only [EL, reduceIte, l4]) AH.get_set (lst := [.int .i64 ((3 : Nat) : Int), sv w, .int .i64 ((0 : Nat) : Int)]) (by simp +decide only [EL, reduceIte, zAe]) (zBe (v := .int .i64 ((1 : Nat) : Int)) (by simp +decide only [EL, reduceIte]) zAm), ?_⟩
  rw [hx 1 e.symm]
  exact ⟨rfl, m02.set (Nat.le_refl _) _⟩
 refine zAd (zAb fun Q1 hQ => ?_)
 rcases hnum with ⟨c, r, hd, hl, he⟩ | ⟨hno, he⟩
 ·have hlt : n < s.length := by
   rcases Nat.lt_or_ge n s.length with e | e
   ·exact e
   ·rw [List.drop_eq_nil_of_le e] at hd; cases hd
  have ix : ∀ h' : AH, oIdxS (.c (sv s)) (.c (.int .i64 (n : Int))) .leaf [] h' = .val (byteV c) h' := fun h' => idx_sv (by
   have e := List.getElem?_drop (xs := s) (i := n) (j := 0)
   rw [hd] at e; simpa using e.symm)
  simp (disch := omega) only [EL, ↓K3, ↓K1, reduceIte, Nat.reduceEqDiff, Nat.reduceAdd, Nat.reduceLeDiff, i0, hlt, ix]
  rw [ge_rw (zHp H)]
  simp (disch := omega) only [EL, ↓K3, ↓K1, reduceIte, Nat.reduceEqDiff, Nat.reduceAdd, Nat.reduceLeDiff, hl]
  refine hQ _ ?_
  clear hQ Q1
  simp only [zAa]
  refine zAq (by simp +decide only [EL, reduceIte]) ?_
  exact bad he _ _ (by simp +decide only [EL, reduceIte]) (by simp +decide only [EL, reduceIte, i0]) fun l' h' q => by try simp only [zAh, zAf]; exact q
 ·have hgo : ∀ l' : T AV, l'.get 2 = some (.bool false) → l'.get 3 = some (.ptr h1.next 0) → l'.get 4 = some (.ptr h.next 0) → Q1 (.norm l' [] h2) := by
   intro l e2 l3 l4
   refine hQ _ ?_
   clear hQ Q1
   try simp only [zAa]
   refine wc_no (by simp +decide only [EL, reduceIte, e2]) ?_
   refine zAl ?_
   simp only [zAa]
   refine zAd (zAb fun Q1 hQ => ?_)
   simp (disch := omega) only [EL, ↓K3, ↓K1, reduceIte, Nat.reduceEqDiff, Nat.reduceAdd, Nat.reduceLeDiff, l3, gt, k1]
   rw [ge_rw (zJj H dg)]
   simp (disch := omega) only [EL, ↓K3, ↓K1, reduceIte, Nat.reduceEqDiff, Nat.reduceAdd, Nat.reduceLeDiff]
   refine hQ _ ?_
   clear hQ Q1
   try simp only [zAa]
   refine zAd (zAb fun Q1 hQ => ?_)
   simp (disch := omega) only [EL, ↓K3, ↓K1, reduceIte, Nat.reduceEqDiff, Nat.reduceAdd, Nat.reduceLeDiff, l3, l4, gt, k0, k1, k2, g12, zAe]
   refine hQ _ ?_
   clear hQ Q1
   refine zAj ?_
   try simp only [zAh, zAf]
   refine ⟨_, zB0 (by simp +decide only [EL, reduceIte, l4]) AH.get_set (lst := [.int .i64 ((3 : Nat) : Int), sv w, .int .i64 ((0 : Nat) : Int)]) (by simp +decide only [EL, reduceIte, zAe]) (zBe (v := .int .i64 ((numP w).2 : Int)) (by simp +decide only [EL, reduceIte]) zAm), ?_⟩
   rw [hx _ he.symm]
   exact ⟨rfl, m02.set (Nat.le_refl _) _⟩
  by_cases hlt : n < s.length
  ·have hl := hno _ (List.getElem?_eq_getElem hlt)
   have ix : ∀ h' : AH, oIdxS (.c (sv s)) (.c (.int .i64 (n : Int))) .leaf [] h' = .val (byteV s[n]) h' := fun h' => idx_sv (List.getElem?_eq_getElem hlt)
   simp (disch := omega) only [EL, ↓K3, ↓K1, reduceIte, Nat.reduceEqDiff, Nat.reduceAdd, Nat.reduceLeDiff, i0, hlt, ix]
   rw [ge_rw (zHp H)]
   simp (disch := omega) only [EL, ↓K3, ↓K1, reduceIte, Nat.reduceEqDiff, Nat.reduceAdd, Nat.reduceLeDiff, hl]
   exact hgo _ (by simp +decide only [EL, reduceIte]) (by simp +decide only [EL, reduceIte]) (by simp +decide only [EL, reduceIte, i0])
  ·simp (disch := omega) only [EL, ↓K3, ↓K1, reduceIte, Nat.reduceEqDiff, Nat.reduceAdd, Nat.reduceLeDiff, i0, hlt]
   exact hgo _ (by simp +decide only [EL, reduceIte]) (by simp +decide only [EL, reduceIte]) (by simp +decide only [EL, reduceIte, i0])
end
end Go.Ev
