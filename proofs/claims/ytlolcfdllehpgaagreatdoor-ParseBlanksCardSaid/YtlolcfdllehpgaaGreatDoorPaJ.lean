/- PaW14 PaW15 PaW16 PaW17 PaW18 PaW19 -/
import Derived.Test.YtlolcfdllehpgaaGreatDoorPaI
import Derived.Test.YtlolcfdllehpgaaGreatDoorPaH
set_option linter.unusedSimpArgs false
set_option linter.unusedVariables false
set_option linter.unusedSectionVars false
set_option linter.defProp false
set_option maxRecDepth 100000
set_option maxHeartbeats 4000000
namespace Go.Ev
open Go Go.Pa
section
variable {tab : Nat → Option AFunc} {h : AH} (H : PT tab) {ts : List Tok} {en r i d : Nat}
include H in
theorem post_ge {n : Nat} (IH : ∀ m, m < n → EX tab ts en m) (R : RS ts en h r i d) (hd : d ≤ 40) : GS tab 166 [.ptr r 0] ts en r i d h (postS ts en n i d) fun t v h1 => okT t h.next v h1 := by
 intro y hy hne
 cases n with
 | zero => exact absurd (by rw [← hy]; simp [postS]) hne
 | succ n =>
 have i0 : zAg [.ptr r 0] = zAc [.ptr r 0] := rfl
 have hr := R.lt
 obtain ⟨z, hz⟩ : ∃ z, z = i := ⟨_, rfl⟩
 refine ge_of H.t166 rfl ?_
 refine zBi fun h1 n1 g1 m1 => ?_
 have R1 := R.more m1
 unfold postS at hy
 refine zAd (zAb fun Q1 hQ => ?_)
 simp (disch := omega) only [EL, ↓K3, ↓K1, reduceIte, Nat.reduceEqDiff, Nat.reduceAdd, Nat.reduceLeDiff, i0]
 refine ((IH n (by omega)).prim R1 hd _ rfl (zAz hy hne)).mono (fun v h2 q => ?_) (fun v h2 e => ?_)
 rotate_left
 ·obtain ⟨p, er, hx, rfl, fr'⟩ := e
  rw [hx] at hy
  exact hQ _ ⟨p, er, hy.symm, rfl, MoreBut.trans (m1.but r) fr'⟩
 obtain ⟨lt, i, hx, lib2, R2, b2, q⟩ := q
 rw [hx, zAt] at hy
 have nb2 := MoreBut.next b2
 obtain ⟨u, rfl, tr⟩ := q
 simp (disch := omega) only [EL, ↓K3, ↓K1, reduceIte, Nat.reduceEqDiff, Nat.reduceAdd, Nat.reduceLeDiff, i0]
 refine hQ _ ?_
 clear hQ Q1
 refine zBs fun h3 n3 g3 m3 => ?_
 simp only [zAa]
 have R3 := R2.more m3
 have b3 := ((m1.but r).trans b2).trans (m3.but r)
 have rc3 := (m3.keep h.next (by omega)).trans ((b2.keep h.next (by omega) (by omega)).trans g1)
 have tr3 : TreeR h3 (fun k => h.next ≤ k ∧ k ∉ [h.next, h2.next]) u lt := TreeR.keep m3.stay (fun k hk hl => ⟨by omega, by simp; omega⟩) tr
 refine zG0 (fun l d1 h7 => ∃ i left u, d1 = [] ∧ l.get 2 = some (.ptr h2.next 0) ∧ l.get 3 = some (.ptr h.next 0) ∧ RS ts en h7 r i d ∧ MoreBut r h h7 ∧ (∃ c, h7.mem.get h2.next = some (.cells c 1 none false) ∧ c.get 0 = some u) ∧
  h7.mem.get h.next = some (.cells (zAc [.nilp]) (llen [.nilp]) none false) ∧ TreeR h7 (fun k => h.next ≤ k ∧ k ∉ [h.next, h2.next]) u left ∧ z < i ∧ y = .ok left i d) ?_ ?_
 ·refine zAu ?_
  refine zCc (fun m l d1 h7 => ∃ i left u, m ≤ n ∧ d1 = [] ∧ l.get 0 = some (.ptr r 0) ∧ l.get 2 = some (.ptr h2.next 0) ∧ l.get 3 = some (.ptr h.next 0) ∧ RS ts en h7 r i d ∧ MoreBut r h h7 ∧ (∃ c, h7.mem.get h2.next = some (.cells c 1 none false) ∧ c.get 0 = some u) ∧
   h7.mem.get h.next = some (.cells (zAc [.nilp]) (llen [.nilp]) none false) ∧ TreeR h7 (fun k => h.next ≤ k ∧ k ∉ [h.next, h2.next]) u left ∧ h3.next ≤ h7.next ∧ z < i ∧ postL ts en m i d left = y) ?_ n ?_
  ·rintro m l d1 h7 ⟨i, left, u, hm, rfl, l0, l2, l3, R7, b7, ⟨cb, gb, cb0⟩, rc7, tr7, n7, zi, hy⟩
   cases m with
   | zero => exact absurd (by rw [← hy]; simp [postL]) hne
   | succ m =>
   unfold postL at hy
   refine zAd ?_
   refine zAd (zAb fun Q1 hQ => ?_)
   simp (disch := omega) only [EL, ↓K3, ↓K1, reduceIte, Nat.reduceEqDiff, Nat.reduceAdd, Nat.reduceLeDiff, l0]
   refine (zDz H R7 _).to fun v h8 q => ?_
   obtain ⟨rfl, R8, b8⟩ := q
   have n8 := b8.next
   simp (disch := omega) only [EL, ↓K3, ↓K1, reduceIte, Nat.reduceEqDiff, Nat.reduceAdd, Nat.reduceLeDiff, l0]
   refine hQ _ ?_
   clear hQ Q1
   simp only [zAa]
   have gb8 := (b8.keep h2.next (by omega) (by omega)).trans gb
   have rc8 := (b8.keep h.next (by omega) (by omega)).trans rc7
   have tr8 := TreeR.keep (G := fun k => h.next ≤ k ∧ k ∉ [h.next, h2.next]) (b8.stay (by simp; omega)) (fun _ h _ => h) tr7
   have c8 := b7.trans b8
   cases hc : isT ts en [46] i with
   | false =>
    rw [hc, if_neg (by simp)] at hy
    rw [hc, if_neg (by simp)] at R8
    refine wc_no (by simp +decide only [EL, reduceIte, hc]) ?_
    refine zC1 ?_
    simp only [zBd, zBa, if_true, zAa]
    exact ⟨_, left, u, trivial, by simp +decide only [EL, reduceIte, l2], by simp +decide only [EL, reduceIte, l3], R8, c8, ⟨cb, gb8, cb0⟩, rc8, tr8, by omega, hy.symm⟩
   | true =>
    rw [hc, if_pos rfl] at hy
    rw [hc, if_pos rfl] at R8
    refine zAq (by simp +decide only [EL, reduceIte, hc]) ?_
    refine zAl ?_
    simp only [zAa]
    refine zAu ?_
    refine zAb fun Q1 hQ => ?_
    obtain ⟨ui, rfl, hu1, hu2⟩ := tr8.ptr
    simp (disch := omega) only [EL, ↓K3, ↓K1, reduceIte, Nat.reduceEqDiff, Nat.reduceAdd, Nat.reduceLeDiff, l0, l2, gb8, cb0, zAe]
    have m9 : More h8 (h8.add (.cells (zAc [.ptr ui 0]) 1 none false)) := More.add _ _
    have g9 : (h8.add (.cells (zAc [.ptr ui 0]) 1 none false)).mem.get h8.next = some (.cells (zAc [.ptr ui 0]) 1 none false) := by rw [AH.add_mem, T.get_put_self]
    have n9 : (h8.add (.cells (zAc [.ptr ui 0]) 1 none false)).next = h8.next + 1 := rfl
    generalize h8.add (.cells (zAc [.ptr ui 0]) 1 none false) = h9 at *
    have R9 := R8.more m9
    have c9 := c8.trans (m9.but r)
    refine (zG4 H R9 _ rfl (zAz hy hne)).mono (fun v h10 q => ?_) (fun v h10 e => ?_)
    rotate_left
    ·obtain ⟨p, er, hx, rfl, fr'⟩ := e
     rw [hx] at hy
     exact hQ _ ⟨p, er, hy.symm, rfl, MoreBut.trans c9 fr'⟩
    obtain ⟨w, i, hx, lib10, R10, b10, q⟩ := q
    rw [hx, zAt] at hy
    have nb10 := MoreBut.next b10
    obtain ⟨rfl, tb⟩ := q
    have m9b := m9.but r
    have gb10 := (b10.keep h2.next (by omega) (by omega)).trans ((m9.keep h2.next (by omega)).trans gb8)
    have rc10 := (b10.keep h.next (by omega) (by omega)).trans ((m9.keep h.next (by omega)).trans rc8)
    have g10 := (b10.keep h8.next (by omega) (by omega)).trans g9
    have tr10 := TreeR.keep (G := fun k => h.next ≤ k ∧ k ∉ [h.next, h2.next] ∧ k < h8.next) ((m9.stay (F := fun k => h.next ≤ k ∧ k ∉ [h.next, h2.next])).trans (b10.stay (by simp; omega))) (fun k h hl => ⟨h.1, h.2, hl⟩) tr8
    have c10 := c9.trans b10
    simp (disch := omega) only [EL, ↓K3, ↓K1, reduceIte, Nat.reduceEqDiff, Nat.reduceAdd, Nat.reduceLeDiff, zA7, zA8, l2, gb10, cb0, zAe, zBj]
    refine (zGe H (op := 20) (kv := .sl h8.next 0 1 (.known 1)) (fun _ => rfl) rfl).to fun v h11 q => ?_
    obtain ⟨ia, rfl, i1, i2, nc, m11⟩ := q
    have n11 := m11.next
    have kd := zE4 (lo := h.next) (X := [h.next, h2.next, ia]) g10 (by omega) (by omega) (by simp; omega) (tr10.less fun k hk _ => ⟨hk.1, by have := hk.2.1; have := hk.2.2; simp at *; omega, by have := hk.2.2; omega⟩)
    have kd11 := kd.keep m11.stay
    have gb11 := (m11.keep h2.next (by omega)).trans gb10
    have rc11 := (m11.keep h.next (by omega)).trans rc10
    simp (disch := omega) only [EL, ↓K3, ↓K1, reduceIte, Nat.reduceEqDiff, Nat.reduceAdd, Nat.reduceLeDiff, l2, gb11, cb0]
    refine hQ _ ?_
    clear hQ Q1
    simp only [zAa, zAi]
    have gb12 : (h11.set h2.next (.cells (T.put (some (.ptr ia 0)) cb 0) 1 none false)).mem.get h2.next = some (.cells (T.put (some (.ptr ia 0)) cb 0) 1 none false) := AH.get_set
    have o12 : Only h2.next h11 (h11.set h2.next (.cells (T.put (some (.ptr ia 0)) cb 0) 1 none false)) := Only.set
    generalize h11.set h2.next (.cells (T.put (some (.ptr ia 0)) cb 0) 1 none false) = h12 at *
    have n12 := o12.next
    have kd12 := kd11.keep (o12.stay (by simp))
    refine ⟨m, by omega, _, _, _, by omega, trivial, by simp +decide only [EL, reduceIte, l0], by simp +decide only [EL, reduceIte, l2], by simp +decide only [EL, reduceIte, l3], o12.rs (R10.more m11) (by omega), o12.mb (c10.trans (m11.but r)) (by omega), ⟨_, gb12, T.get_put_self _ _ _⟩, (o12.keep h.next (by omega)).trans rc11, kd12.tree2 (nc.keep (o12.keep ia (by omega))) ⟨by omega, by simp; omega⟩ (by omega) (fun k hk hx => ⟨hk, by simp at hx ⊢; omega⟩), by omega, by omega, hy⟩
  ·exact ⟨_, lt, u, Nat.le_refl _, rfl, by simp +decide only [EL, reduceIte, i0], by simp +decide only [EL, reduceIte, i0], by simp +decide only [EL, reduceIte, i0], R3, b3, g3, rc3, tr3, Nat.le_refl _, by omega, hy⟩
 ·rintro l d1 h7 ⟨i, left, u, rfl, l2, l3, R7, b7, ⟨cb, gb, cb0⟩, rc7, tr7, zi, hy⟩
  refine zCu (b := h2.next) (rc := h.next) l2 gb cb0 l3 rc7 (by rw [zAk]; rfl) fun h8 o8 => ?_
  exact ⟨_, _, hy, by omega, o8.rs R7 (by omega), o8.mb b7 (Nat.le_refl _), _, rfl, TreeR.keep (o8.stay (by simp)) (fun k hk _ => hk.1) tr7⟩
include H in
theorem brack1_ge {n bx : Nat} (IH : EX tab ts en n) (R : RS ts en h r i d) (hd : d ≤ 40) (B : RBox h bx r) (hi : i < ts.length) :
  GS tab 170 [.ptr bx 0] ts en r i d h ((exprS ts en n 1 (i + 1) d).bind fun e i d => (zA9 ts en [41] i d).bind fun _ i d => .ok e i d) fun t v h1 => okT t h.next v h1 := by
 intro y hy hne
 have i0 : zAg [.ptr bx 0] = zAc [.ptr bx 0] := rfl
 have hr := R.lt
 refine ge_of H.t170 rfl ?_
 refine zBi fun h1 n1 g1 m1 => ?_
 have R1 := R.more m1
 have B1 := B.mb (m1.but r)
 have gx1 := B1.2.2
 have hbx := B.1
 refine zAd (zAb fun Q1 hQ => ?_)
 simp (disch := omega) only [EL, ↓K3, ↓K1, reduceIte, Nat.reduceEqDiff, Nat.reduceAdd, Nat.reduceLeDiff, i0, gx1, zA1]
 refine (zCg H R1 hi).to fun v h2 q => ?_
 obtain ⟨rfl, R2, b2⟩ := q
 have nb2 := b2.next
 have B2 := B1.mb b2
 have gx2 := B2.2.2
 have c2 := (m1.but r).trans b2
 have rc2 := (b2.keep h.next (by omega) (by omega)).trans g1
 simp (disch := omega) only [EL, ↓K3, ↓K1, reduceIte, Nat.reduceEqDiff, Nat.reduceAdd, Nat.reduceLeDiff, i0]
 refine hQ _ ?_
 clear hQ Q1
 simp only [zAa]
 refine zAd (zAb fun Q1 hQ => ?_)
 simp (disch := omega) only [EL, ↓K3, ↓K1, reduceIte, Nat.reduceEqDiff, Nat.reduceAdd, Nat.reduceLeDiff, i0, gx2, zA1]
 refine (IH.expr 1 R2 hd (by omega) _ rfl (zAz hy hne)).mono (fun v h3 q => ?_) (fun v h3 e => ?_)
 rotate_left
 ·obtain ⟨p, er, hx, rfl, fr'⟩ := e
  rw [hx] at hy
  exact hQ _ ⟨p, er, hy.symm, rfl, MoreBut.trans c2 fr'⟩
 obtain ⟨et, i, hx, lib3, R3, b3, q⟩ := q
 rw [hx, zAt] at hy
 have nb3 := MoreBut.next b3
 obtain ⟨u, rfl, tr⟩ := q
 have B3 := B2.mb b3
 have rc3 := (b3.keep h.next (by omega) (by omega)).trans rc2
 simp (disch := omega) only [EL, ↓K3, ↓K1, reduceIte, Nat.reduceEqDiff, Nat.reduceAdd, Nat.reduceLeDiff, i0]
 refine hQ _ ?_
 clear hQ Q1
 refine zBs fun h4 n4 g4 m4 => ?_
 obtain ⟨cb, gb, cb0⟩ := g4
 simp only [zAa]
 have R4 := R3.more m4
 have B4 := B3.mb (m4.but r)
 have gx4 := B4.2.2
 have rc4 := (m4.keep h.next (by omega)).trans rc3
 have tr4 := TreeR.keep (G := fun k => h2.next ≤ k ∧ k < h3.next) m4.stay (fun _ h hl => ⟨h, hl⟩) tr
 have c4 := (c2.trans b3).trans (m4.but r)
 refine zAd (zAb fun Q1 hQ => ?_)
 simp (disch := omega) only [EL, ↓K3, ↓K1, reduceIte, Nat.reduceEqDiff, Nat.reduceAdd, Nat.reduceLeDiff, i0, gx4, zA1]
 refine (zBo H R4 _ _ rfl (zAz hy hne)).mono (fun v h5 q => ?_) (fun v h5 e => ?_)
 rotate_left
 ·obtain ⟨p, er, hx, rfl, fr'⟩ := e
  rw [hx] at hy
  exact hQ _ ⟨p, er, hy.symm, rfl, MoreBut.trans c4 fr'⟩
 obtain ⟨p5, i, hx, lib5, R5, b5, q⟩ := q
 rw [hx, zAt] at hy
 have nb5 := MoreBut.next b5
 simp (disch := omega) only [EL, ↓K3, ↓K1, reduceIte, Nat.reduceEqDiff, Nat.reduceAdd, Nat.reduceLeDiff, i0]
 refine hQ _ ?_
 clear hQ Q1
 simp only [zAa]
 have tr5 := TreeR.keep (G := fun k => h2.next ≤ k ∧ k < h3.next) (b5.stay (by omega)) (fun _ h _ => h) tr4
 refine zCu (b := h3.next) (rc := h.next) (by simp +decide only [EL, reduceIte]) ((b5.keep _ (by omega) (by omega)).trans gb) cb0 (by simp +decide only [EL, reduceIte]) ((b5.keep _ (by omega) (by omega)).trans rc4) (by rw [zAk]; rfl) fun h6 o6 => ?_
 exact ⟨_, _, hy.symm, by omega, o6.rs R5 (by omega), o6.mb (c4.trans b5) (Nat.le_refl _), _, rfl, TreeR.keep (o6.stay (by omega)) (fun k hk _ => by show h.next ≤ k; omega) tr5⟩
include H in
theorem brack_ge {n : Nat} (IH : ∀ m, m < n → EX tab ts en m) (R : RS ts en h r i d) (hd : d ≤ 40) : GS tab 154 [.ptr r 0] ts en r i d h (zA5 ts en n i d) fun t v h1 => okT t h.next v h1 := by
 intro y hy hne
 cases n with
 | zero => exact absurd (by rw [← hy]; simp [zA5]) hne
 | succ n =>
 have i0 : zAg [.ptr r 0] = zAc [.ptr r 0] := rfl
 have hr := R.lt
 refine ge_of H.t154 rfl ?_
 refine zF5 (v := .ptr r 0) rfl (fun _ => zLz) fun h1 n1 g1 g2 m1 => ?_
 have R1 := R.more m1
 have B1 : RBox h1 h.next r := ⟨by omega, by omega, g1⟩
 unfold zA5 at hy
 refine zAd ?_
 refine zAd (zAb fun Q1 hQ => ?_)
 simp (disch := omega) only [EL, ↓K3, ↓K1, reduceIte, Nat.reduceEqDiff, Nat.reduceAdd, Nat.reduceLeDiff, i0, g1, zA1]
 refine (is_gp H R1 _).to fun v h2 q => ?_
 obtain ⟨rfl, m2⟩ := q
 have n2 := m2.next
 have R2 := R1.more m2
 have B2 := B1.mb (m2.but r)
 have gx2 := B2.2.2
 have rc2 := (m2.keep (h.next + 1) (by omega)).trans g2
 have c2 : MoreBut r h h2 := (m1.trans m2).but r
 simp (disch := omega) only [EL, ↓K3, ↓K1, reduceIte, Nat.reduceEqDiff, Nat.reduceAdd, Nat.reduceLeDiff, i0]
 refine hQ _ ?_
 clear hQ Q1
 simp only [zAa]
 cases hc : isT ts en [40] i with
 | false =>
  rw [hc, if_neg (by simp)] at hy
  refine zAq (by simp +decide only [EL, reduceIte, hc, Bool.not_false]) ?_
  refine zAb fun Q1 hQ => ?_
  simp (disch := omega) only [EL, ↓K3, ↓K1, reduceIte, Nat.reduceEqDiff, Nat.reduceAdd, Nat.reduceLeDiff, i0, gx2, zA1]
  refine (zEt H R2).mono (fun v h3 q => q.elim) fun v h3 q => ?_
  exact hQ _ ⟨_, _, hy.symm, q.1, c2.trans (q.2.but r)⟩
 | true =>
  rw [hc, if_pos rfl] at hy
  refine wc_no (by simp +decide only [EL, reduceIte, hc, Bool.not_true]) ?_
  refine zAl ?_
  simp only [zAa]
  refine zAd (zAb fun Q1 hQ => ?_)
  simp (disch := omega) only [EL, ↓K3, ↓K1, reduceIte, Nat.reduceEqDiff, Nat.reduceAdd, Nat.reduceLeDiff, i0, gx2, zA1]
  refine (zHz H (F := 170) (caps := [.ptr h.next 0]) (k := fun i d => (exprS ts en n 1 (i + 1) d).bind fun e i d => (zA9 ts en [41] i d).bind fun _ i d => .ok e i d) R2 hd (fun hd' h' R' b' => brack1_ge H (IH n (by omega)) R' hd' (B2.mb b') (is_lt hc)) y hy hne).mono (fun v h4 q => ?_) (fun v h4 e => ?_)
  rotate_left
  ·obtain ⟨p, er, hx, rfl, fr'⟩ := e
   exact hQ _ ⟨p, er, hx, rfl, MoreBut.trans c2 fr'⟩
  obtain ⟨t, i', hx, li, R4, b4, u, rfl, tr⟩ := q
  have n4 := b4.next
  have rc4 := (b4.keep (h.next + 1) (by omega) (by omega)).trans rc2
  refine ⟨rfl, ?_⟩
  refine zFy (rc := h.next + 1) (by simp +decide only [EL, reduceIte]) rc4 (by rw [zAk]; rfl) fun h5 o5 g5 => hQ _ ?_
  obtain ⟨c5, gc5, gc50⟩ := g5
  refine zJt (rc := h.next + 1) (by simp +decide only [EL, reduceIte]) gc5 gc50 ⟨t, i', hx, li, o5.rs R4 (by omega), o5.mb (c2.trans b4) (by omega), _, rfl, ?_⟩
  exact TreeR.keep (o5.stay (F := fun k => h2.next ≤ k) (by omega)) (fun k hk _ => by show h.next ≤ k; omega) tr
end
end Go.Ev
namespace Go.Ev
open Go Go.Pa
section
variable {tab : Nat → Option AFunc} {h : AH} (H : PT tab) {ts : List Tok} {en r i d : Nat}
def TBox (h : AH) (tx r : Nat) (t : Tok) : Prop := tx < h.next ∧ tx ≠ r ∧ h.mem.get tx = some (.cells (zAc [.int .i64 (t.kind : Int), sv t.text, .int .i64 (t.pos : Int)]) 3 none false)
theorem TBox.mb {h h' : AH} {tx r : Nat} {t : Tok} (x : TBox h tx r t) (b : MoreBut r h h') : TBox h' tx r t := ⟨Nat.lt_of_lt_of_le x.1 b.next, x.2.1, (b.keep tx x.1 x.2.1).trans x.2.2⟩
include H in
theorem call1_ge {n bx tx : Nat} {t : Tok} (IH : ∀ m, m < n → EX tab ts en m) (R : RS ts en h r i d) (hd : d ≤ 40) (B : RBox h bx r) (TB : TBox h tx r t) (hi : i < ts.length) :
  GS tab 198 [.ptr bx 0, .ptr tx 0] ts en r i d h ((argsL ts en n (i + 1) d []).bind fun k i d => .ok (.mk 21 t.text [] 0 t.pos k) (i + 1) d) fun t v h1 => okT t h.next v h1 := by
 intro y hy hne
 have i0 : zAg [.ptr bx 0, .ptr tx 0] = zAc [.ptr bx 0, .ptr tx 0] := rfl
 have hr := R.lt
 obtain ⟨z, hz⟩ : ∃ z, z = i := ⟨_, rfl⟩
 refine ge_of H.t198 rfl ?_
 refine zBi fun h1 n1 g1 m1 => ?_
 have R1 := R.more m1
 have B1 := B.mb (m1.but r)
 have TB1 := TB.mb (m1.but r)
 have gx1 := B1.2.2
 have hbx := B.1
 have htx := TB.1
 refine zAd (zAb fun Q1 hQ => ?_)
 simp (disch := omega) only [EL, ↓K3, ↓K1, reduceIte, Nat.reduceEqDiff, Nat.reduceAdd, Nat.reduceLeDiff, i0, gx1, zA1]
 refine (zCg H R1 hi).to fun v h2 q => ?_
 obtain ⟨rfl, R2, b2⟩ := q
 have nb2 := b2.next
 have B2 := B1.mb b2
 have TB2 := TB1.mb b2
 have gt2 := TB2.2.2
 have c2 := (m1.but r).trans b2
 have rc2 := (b2.keep h.next (by omega) (by omega)).trans g1
 simp (disch := omega) only [EL, ↓K3, ↓K1, reduceIte, Nat.reduceEqDiff, Nat.reduceAdd, Nat.reduceLeDiff, i0]
 refine hQ _ ?_
 clear hQ Q1
 simp only [zAa]
 refine zAd (zAb fun Q1 hQ => ?_)
 simp (disch := omega) only [EL, ↓K3, ↓K1, reduceIte, Nat.reduceEqDiff, Nat.reduceAdd, Nat.reduceLeDiff, i0, gt2, zAe]
 refine (zGe H (op := 21) (t := t) (kv := .nils) (fun _ => rfl) rfl).to fun v h3 q => ?_
 obtain ⟨ia, rfl, i1, i2, nc, m3⟩ := q
 simp (disch := omega) only [EL, ↓K3, ↓K1, reduceIte, Nat.reduceEqDiff, Nat.reduceAdd, Nat.reduceLeDiff, i0]
 refine hQ _ ?_
 clear hQ Q1
 refine zBs fun h4 n4 g4 m4 => ?_
 obtain ⟨cb, gb, cb0⟩ := g4
 simp only [zAa]
 have m24 := m3.trans m4
 have n3 := m3.next
 have R4 := R2.more m24
 have B4 := B2.mb (m24.but r)
 have b4 := c2.trans (m24.but r)
 have nc4 := nc.keep (m4.keep ia i2)
 have rc4 := (m24.keep h.next (by omega)).trans rc2
 have bx4 : BoxN h4 h3.next ia := ⟨cb, gb, cb0⟩
 refine zG0 (fun l d1 h7 => ∃ i ks kv, d1 = [] ∧ l.get 0 = some (.ptr bx 0) ∧ l.get 3 = some (.ptr h3.next 0) ∧ l.get 6 = some (.ptr h.next 0) ∧ RS ts en h7 r i d ∧ MoreBut r h h7 ∧ RBox h7 bx r ∧ BoxN h7 h3.next ia ∧ NodeC h7 ia 21 t.text [] 0 t.pos kv ∧ Kids h7 h.next [h.next, h3.next, ia] kv ks ∧
  h7.mem.get h.next = some (.cells (zAc [.nilp]) (llen [.nilp]) none false) ∧ y = .ok (.mk 21 t.text [] 0 t.pos ks) (i + 1) d ∧ h4.next ≤ h7.next ∧ z < i ∧ i < ts.length) ?_ ?_
 ·refine zAu ?_
  refine zCc (fun m l d1 h7 => ∃ i ks kv, m ≤ n ∧ d1 = [] ∧ l.get 0 = some (.ptr bx 0) ∧ l.get 3 = some (.ptr h3.next 0) ∧ l.get 6 = some (.ptr h.next 0) ∧ RS ts en h7 r i d ∧ MoreBut r h h7 ∧ RBox h7 bx r ∧ BoxN h7 h3.next ia ∧ NodeC h7 ia 21 t.text [] 0 t.pos kv ∧ Kids h7 h.next [h.next, h3.next, ia] kv ks ∧
   h7.mem.get h.next = some (.cells (zAc [.nilp]) (llen [.nilp]) none false) ∧ h4.next ≤ h7.next ∧ z < i ∧ ks.length ≤ i ∧ (argsL ts en m i d ks).bind (fun k i d => .ok (.mk 21 t.text [] 0 t.pos k) (i + 1) d) = y) ?_ n ?_
  ·rintro m l d1 h7 ⟨i, ks, kv, hm, rfl, l0, l3, l6, R7, b7, B7, bx7, nc7, k7, rc7, n7, zi, kl, hy⟩
   cases m with
   | zero => exact absurd (by rw [← hy]; simp [argsL, PR.bind]) hne
   | succ m =>
    have le7 := R7.le
    have ln := R7.ln
    have gx7 := B7.2.2
    refine zAd ?_
    refine zAd (zAb fun Q1 hQ => ?_)
    simp (disch := omega) only [EL, ↓K3, ↓K1, reduceIte, Nat.reduceEqDiff, Nat.reduceAdd, Nat.reduceLeDiff, l0, gx7, zA1]
    refine (is_gp H R7 _).to fun v h8 q => ?_
    obtain ⟨rfl, m8⟩ := q
    have n8 := m8.next
    simp (disch := omega) only [EL, ↓K3, ↓K1, reduceIte, Nat.reduceEqDiff, Nat.reduceAdd, Nat.reduceLeDiff, l0]
    refine hQ _ ?_
    clear hQ Q1
    simp only [zAa]
    have R8 := R7.more m8
    have B8 := B7.mb (m8.but r)
    have gx8 := B8.2.2
    have rc8 := (m8.keep h.next (by omega)).trans rc7
    have bx8 := bx7.keep (m8.keep h3.next (by omega))
    have nc8 := nc7.keep (m8.keep ia (by omega))
    have k8 := k7.keep m8.stay
    have c8 := b7.trans (m8.but r)
    unfold argsL at hy
    cases hc : isT ts en [41] i with
    | true =>
     rw [hc, if_pos rfl] at hy
     refine wc_no (by simp +decide only [EL, reduceIte, hc, Bool.not_true]) ?_
     refine zC1 ?_
     simp only [zBd, zBa, if_true, zAa]
     exact ⟨_, ks, kv, trivial, by simp +decide only [EL, reduceIte, l0], by simp +decide only [EL, reduceIte, l3], by simp +decide only [EL, reduceIte, l6], R8, c8, B8, bx8, nc8, k8, rc8, hy.symm, by omega, by omega, is_lt hc⟩
    | false =>
     rw [hc, if_neg (by simp)] at hy
     simp only [zEp] at hy
     refine zAq (by simp +decide only [EL, reduceIte, hc, Bool.not_false]) ?_
     refine zAl ?_
     simp only [zAa]
     refine zAu ?_
     refine zAd ?_
     refine zF4 (K := 3) (b := h3.next) (id := ia) (lo := h.next) (X := [h.next, h3.next, ia]) (r := r) (f := 134) (args := [.ptr r 0, .int .i64 ((1 : Nat) : Int)]) (by simp +decide only [EL, reduceIte, l0, l3, gx8, zA1]) bx8 nc8 k8 (by first | omega | simp) (by omega) (by intro k hk; simp at hk; omega) (by simp) (by simp) (by omega) (by omega) (by omega) (by omega) (fun tmp => ⟨.ptr r 0, by simp +decide only [EL, reduceIte, l0, l3, gx8, zA1], by simp +decide only [EL, reduceIte, l0, l3, gx8, zA1]⟩) ((IH m (by omega)).expr 1 R8 hd (by omega) _ rfl (zAz hy hne)) (fun v h9 q => ?_) (fun v h9 e => ?_)
     rotate_left
     ·obtain ⟨p, er, hx, rfl, fr'⟩ := e
      rw [hx] at hy
      exact ⟨p, er, hy.symm, rfl, MoreBut.trans c8 fr'⟩
     obtain ⟨p, i, hx, li9, R9, b9, u, rfl, tr⟩ := q
     rw [hx, zAt] at hy
     have n9 := b9.next
     refine ⟨b9, u, p, rfl, tr, fun h10 kv' n10 keep nc10 k10 => ?_⟩
     have R10 := R9.keep n10 fun k hk => keep k (by have := R9.lt; omega) (.inl (by omega)) (by omega)
     have c10 : MoreBut r _ h10 := ⟨Nat.le_trans (MoreBut.trans c8 b9).next n10, fun k h1 h2 => by rw [keep k (by omega) (.inl (by omega)) (by omega)]; exact (MoreBut.trans c8 b9).keep k h1 h2⟩
     try simp only [zAa, zAi]
     have rc10 := (keep h.next (by omega) (.inr (by simp)) (by omega)).trans ((b9.keep h.next (by omega) (by omega)).trans rc8)
     have bx10 := bx8.keep ((keep h3.next (by omega) (.inr (by simp)) (by omega)).trans (b9.keep h3.next (by omega) (by omega)))
     have B10 := B.mb c10
     have gx10 := B10.2.2
     refine zAd (zAb fun Q1 hQ => ?_)
     simp (disch := omega) only [EL, ↓K3, ↓K1, reduceIte, Nat.reduceEqDiff, Nat.reduceAdd, Nat.reduceLeDiff, l0, gx10, zA1]
     refine (is_gp H R10 _).to fun v h11 q => ?_
     obtain ⟨rfl, m11⟩ := q
     have n11 := m11.next
     simp (disch := omega) only [EL, ↓K3, ↓K1, reduceIte, Nat.reduceEqDiff, Nat.reduceAdd, Nat.reduceLeDiff, l0]
     refine hQ _ ?_
     clear hQ Q1
     simp only [zAa]
     have R11 := R10.more m11
     have B11 := B10.mb (m11.but r)
     have gx11 := B11.2.2
     have rc11 := (m11.keep h.next (by omega)).trans rc10
     have bx11 := bx10.keep (m11.keep h3.next (by omega))
     have nc11 := nc10.keep (m11.keep ia (by omega))
     have k11 := k10.keep m11.stay
     have c11 := c10.trans (m11.but r)
     cases hc2 : isT ts en [41] i with
     | true =>
      rw [hc2, if_pos rfl] at hy
      refine wc_no (by simp +decide only [EL, reduceIte, hc2, Bool.not_true]) ?_
      refine zAl ?_
      simp only [zAi, zAa]
      exact ⟨m, by omega, _, _, _, by omega, trivial, by simp +decide only [EL, reduceIte, l0], by simp +decide only [EL, reduceIte, l3], by simp +decide only [EL, reduceIte, l6], R11, c11, B11, bx11, nc11, k11, rc11, by omega, by omega, by simp; omega, hy⟩
     | false =>
      rw [hc2, if_neg (by simp)] at hy
      simp only [zEp] at hy
      refine zAq (by simp +decide only [EL, reduceIte, hc2, Bool.not_false]) ?_
      refine zAd (zAb fun Q1 hQ => ?_)
      simp (disch := omega) only [EL, ↓K3, ↓K1, reduceIte, Nat.reduceEqDiff, Nat.reduceAdd, Nat.reduceLeDiff, l0, gx11, zA1]
      refine (zBo H R11 _ _ rfl (zAz hy hne)).mono (fun v h12 q => ?_) (fun v h12 e => ?_)
      rotate_left
      ·obtain ⟨p, er, hx, rfl, fr'⟩ := e
       rw [hx] at hy
       exact hQ _ ⟨p, er, hy.symm, rfl, MoreBut.trans c11 fr'⟩
      obtain ⟨p12, i, hx, lib12, R12, b12, q⟩ := q
      rw [hx, zAt] at hy
      have nb12 := MoreBut.next b12
      simp (disch := omega) only [EL, ↓K3, ↓K1, reduceIte, Nat.reduceEqDiff, Nat.reduceAdd, Nat.reduceLeDiff, l0]
      refine hQ _ ?_
      clear hQ Q1
      simp only [zAa]
      have B12 := B11.mb b12
      have gx12 := B12.2.2
      have rc12 := (b12.keep h.next (by omega) (by omega)).trans rc11
      have bx12 := bx11.keep (b12.keep h3.next (by omega) (by omega))
      have nc12 := nc11.keep (b12.keep ia (by omega) (by omega))
      have k12 := k11.keep (b12.stay (F := fun k => h.next ≤ k ∧ k ∉ [h.next, h3.next, ia]) (by simp; omega))
      have c12 := c11.trans b12
      refine zAd (zAb fun Q1 hQ => ?_)
      simp (disch := omega) only [EL, ↓K3, ↓K1, reduceIte, Nat.reduceEqDiff, Nat.reduceAdd, Nat.reduceLeDiff, l0, gx12, zA1]
      refine (is_gp H R12 _).to fun v h13 q => ?_
      obtain ⟨rfl, m13⟩ := q
      have n13 := m13.next
      simp (disch := omega) only [EL, ↓K3, ↓K1, reduceIte, Nat.reduceEqDiff, Nat.reduceAdd, Nat.reduceLeDiff, l0]
      refine hQ _ ?_
      clear hQ Q1
      simp only [zAa]
      have R13 := R12.more m13
      have B13 := B12.mb (m13.but r)
      have gx13 := B13.2.2
      have c13 := c12.trans (m13.but r)
      cases hc3 : isT ts en [41] i with
      | true =>
       rw [hc3, if_pos rfl] at hy
       refine zAq (by simp +decide only [EL, reduceIte, hc3]) ?_
       refine zAb fun Q1 hQ => ?_
       simp (disch := omega) only [EL, ↓K3, ↓K1, reduceIte, Nat.reduceEqDiff, Nat.reduceAdd, Nat.reduceLeDiff, l0, gx13, zA1]
       refine (zEt H R13).mono (fun v h3 q => q.elim) fun v h3 q => ?_
       exact hQ _ ⟨_, _, hy.symm, q.1, c13.trans (q.2.but r)⟩
      | false =>
       rw [hc3, if_neg (by simp)] at hy
       refine wc_no (by simp +decide only [EL, reduceIte, hc3]) ?_
       refine zAl ?_
       simp only [zAi, zAa]
       exact ⟨m, by omega, _, _, _, by omega, trivial, by simp +decide only [EL, reduceIte, l0], by simp +decide only [EL, reduceIte, l3], by simp +decide only [EL, reduceIte, l6], R13, c13, B13, bx12.keep (m13.keep h3.next (by omega)), nc12.keep (m13.keep ia (by omega)), k12.keep m13.stay, (m13.keep h.next (by omega)).trans rc12, by omega, by omega, by simp; omega, hy⟩
  ·exact ⟨_, [], .nils, Nat.le_refl _, rfl, by simp +decide only [EL, reduceIte, i0], by simp +decide only [EL, reduceIte, i0], by simp +decide only [EL, reduceIte, i0], R4, b4, B4, bx4, nc4, Kids.nils, rc4, by omega, by omega, by simp, hy⟩
 ·rintro l d1 h7 ⟨i, ks, kv, rfl, l0, l3, l6, R7, b7, B7, bx7, nc7, k7, rc7, hy, n7, zi, hil⟩
  have gx7 := B7.2.2
  refine zAd (zAb fun Q1 hQ => ?_)
  simp (disch := omega) only [EL, ↓K3, ↓K1, reduceIte, Nat.reduceEqDiff, Nat.reduceAdd, Nat.reduceLeDiff, l0, gx7, zA1]
  refine (zCg H R7 hil).to fun v h8 q => ?_
  obtain ⟨rfl, R8, b8⟩ := q
  have n8 := b8.next
  simp (disch := omega) only [EL, ↓K3, ↓K1, reduceIte, Nat.reduceEqDiff, Nat.reduceAdd, Nat.reduceLeDiff, l0]
  refine hQ _ ?_
  clear hQ Q1
  simp only [zAa]
  obtain ⟨cx, gx, cx0⟩ := bx7.keep (b8.keep h3.next (by omega) (by omega))
  have rc8 := (b8.keep h.next (by omega) (by omega)).trans rc7
  have nc8 := nc7.keep (b8.keep ia (by omega) (by omega))
  have k8 := k7.keep (b8.stay (F := fun k => h.next ≤ k ∧ k ∉ [h.next, h3.next, ia]) (by simp; omega))
  refine zCu (b := h3.next) (rc := h.next) (by simp +decide only [EL, reduceIte, l3]) gx cx0 (by simp +decide only [EL, reduceIte, l6]) rc8 (by rw [zAk]; rfl) fun h9 o9 => ?_
  have k9 := k8.keep (o9.stay (F := fun k => h.next ≤ k ∧ k ∉ [h.next, h3.next, ia]) (by simp))
  refine ⟨_, _, hy, by omega, o9.rs R8 (by omega), o9.mb (b7.trans b8) (Nat.le_refl _), _, rfl, ?_⟩
  exact k9.tree (nc8.keep (o9.keep _ (by omega))) (by show h.next ≤ ia; omega) (by rw [o9.next]; omega) fun k hk => hk
include H in
theorem call_ge {n : Nat} (IH : ∀ m, m < n → EX tab ts en m) (t : Tok) (R : RS ts en h r i d) (hd : d ≤ 40) (hc : isT ts en [40] i = true) : GS tab 196 [.ptr r 0, tokV t] ts en r i d h (callS ts en n t i d) fun t v h1 => okT t h.next v h1 := by
 intro y hy hne
 cases n with
 | zero => exact absurd (by rw [← hy]; simp [callS]) hne
 | succ n =>
 have i0 : zAg [.ptr r 0, tokV t] = zAc [.ptr r 0, tokV t] := rfl
 have hr := R.lt
 refine ge_of H.t196 rfl ?_
 refine zAd (zAb fun Q1 hQ => ?_)
 simp (disch := omega) only [EL, ↓K3, ↓K1, reduceIte, Nat.reduceEqDiff, Nat.reduceAdd, Nat.reduceLeDiff, i0]
 refine hQ _ ?_
 clear hQ Q1
 have m1 : More h (((h.add (.cells (.log 1 0 (some (.ptr r 0)) .leaf) 1 none false)).add (.cells (zAc [.int .i64 (t.kind : Int), sv t.text, .int .i64 (t.pos : Int)]) 3 none false)).add (.cells (zAc [.nilp]) 1 none false)) := ((More.add _ _).trans (More.add _ _)).trans (More.add _ _)
 have n1 : (((h.add (.cells (.log 1 0 (some (.ptr r 0)) .leaf) 1 none false)).add (.cells (zAc [.int .i64 (t.kind : Int), sv t.text, .int .i64 (t.pos : Int)]) 3 none false)).add (.cells (zAc [.nilp]) 1 none false)).next = h.next + 3 := rfl
 have g1 : (((h.add (.cells (.log 1 0 (some (.ptr r 0)) .leaf) 1 none false)).add (.cells (zAc [.int .i64 (t.kind : Int), sv t.text, .int .i64 (t.pos : Int)]) 3 none false)).add (.cells (zAc [.nilp]) 1 none false)).mem.get h.next = some (.cells (cell1 (.ptr r 0)) 1 none false) := by
  rw [AH.add_mem, T.get_put_ne _ _ _ _ (by show h.next + 2 ≠ h.next; omega), AH.add_mem, T.get_put_ne _ _ _ _ (by show h.next + 1 ≠ h.next; omega), AH.add_mem, T.get_put_self]; rfl
 have g2 : (((h.add (.cells (.log 1 0 (some (.ptr r 0)) .leaf) 1 none false)).add (.cells (zAc [.int .i64 (t.kind : Int), sv t.text, .int .i64 (t.pos : Int)]) 3 none false)).add (.cells (zAc [.nilp]) 1 none false)).mem.get (h.next + 1) = some (.cells (zAc [.int .i64 (t.kind : Int), sv t.text, .int .i64 (t.pos : Int)]) 3 none false) := by
  rw [AH.add_mem, T.get_put_ne _ _ _ _ (by show h.next + 2 ≠ h.next + 1; omega), AH.add_mem]; exact T.get_put_self _ _ _
 have g3 : (((h.add (.cells (.log 1 0 (some (.ptr r 0)) .leaf) 1 none false)).add (.cells (zAc [.int .i64 (t.kind : Int), sv t.text, .int .i64 (t.pos : Int)]) 3 none false)).add (.cells (zAc [.nilp]) 1 none false)).mem.get (h.next + 2) = some (.cells (zAc [.nilp]) 1 none false) := by
  rw [AH.add_mem]; exact T.get_put_self _ _ _
 generalize (((h.add (.cells (.log 1 0 (some (.ptr r 0)) .leaf) 1 none false)).add (.cells (zAc [.int .i64 (t.kind : Int), sv t.text, .int .i64 (t.pos : Int)]) 3 none false)).add (.cells (zAc [.nilp]) 1 none false)) = h1 at *
 have R1 := R.more m1
 have B1 : RBox h1 h.next r := ⟨by omega, by omega, g1⟩
 have T1 : TBox h1 (h.next + 1) r t := ⟨by omega, by omega, g2⟩
 unfold callS at hy
 refine zAd (zAb fun Q1 hQ => ?_)
 simp (disch := omega) only [EL, ↓K3, ↓K1, reduceIte, Nat.reduceEqDiff, Nat.reduceAdd, Nat.reduceLeDiff, i0, g1, zA1]
 refine (zHz H (F := 198) (caps := [.ptr h.next 0, .ptr (h.next + 1) 0]) (k := fun i d => (argsL ts en n (i + 1) d []).bind fun k i d => .ok (.mk 21 t.text [] 0 t.pos k) (i + 1) d) R1 hd (fun hd' h' R' b' => call1_ge H (fun m hm => IH m (by omega)) R' hd' (B1.mb b') (T1.mb b') (is_lt hc)) y hy hne).mono (fun v h4 q => ?_) (fun v h4 e => ?_)
 rotate_left
 ·obtain ⟨p, er, hx, rfl, fr'⟩ := e
  exact hQ _ ⟨p, er, hx, rfl, MoreBut.trans (m1.but r) fr'⟩
 obtain ⟨t', i', hx, li, R4, b4, u, rfl, tr⟩ := q
 have n4 := b4.next
 have rc4 := (b4.keep (h.next + 2) (by omega) (by omega)).trans g3
 refine ⟨rfl, ?_⟩
 refine zFy (rc := h.next + 2) (by simp +decide only [EL, reduceIte]) rc4 (by rw [zAk]; rfl) fun h5 o5 g5 => hQ _ ?_
 obtain ⟨c5, gc5, gc50⟩ := g5
 refine zJt (rc := h.next + 2) (by simp +decide only [EL, reduceIte]) gc5 gc50 ⟨t', i', hx, li, o5.rs R4 (by omega), o5.mb ((m1.but r).trans b4) (by omega), _, rfl, ?_⟩
 exact TreeR.keep (o5.stay (F := fun k => h1.next ≤ k) (by omega)) (fun k hk _ => by show h.next ≤ k; omega) tr
end
end Go.Ev
namespace Go.Ev
open Go Go.Pa
section
variable {tab : Nat → Option AFunc} {h : AH} (H : PT tab) {ts : List Tok} {en r i d : Nat}
theorem leafT {h : AH} {lo ia op : Nat} {name typ : Str} {n : Int} {pos : Nat} (nc : NodeC h ia op name typ n pos .nils) (h1 : lo ≤ ia) (h2 : ia < h.next) : TreeR h (fun k => lo ≤ k) (.ptr ia 0) (.mk op name typ n pos []) := Kids.tree (lo := lo) (X := []) Kids.nils nc h1 h2 fun k hk => hk
include H in
theorem named_ge {n : Nat} (IH : EX tab ts en n) (R : RS ts en h r i d) (hd : d ≤ 40) (hk : (now ts en i).kind = 1) : GS tab 191 [.ptr r 0] ts en r i d h (if isT ts en [40] (i + 1) then callS ts en n (now ts en i) (i + 1) d else .ok (.mk 18 (now ts en i).text [] 0 (now ts en i).pos []) (i + 1) d) fun t v h1 => okT t h.next v h1 := by
 intro y hy hne
 have i0 : zAg [.ptr r 0] = zAc [.ptr r 0] := rfl
 have hr := R.lt
 have hw : wordS ts en i d = .ok (now ts en i) (i + 1) d := by unfold wordS; rw [if_pos hk]
 refine ge_of H.t191 rfl ?_
 refine zBi fun h1 n1 g1 m1 => ?_
 have R1 := R.more m1
 refine zAd (zAb fun Q1 hQ => ?_)
 simp (disch := omega) only [EL, ↓K3, ↓K1, reduceIte, Nat.reduceEqDiff, Nat.reduceAdd, Nat.reduceLeDiff, i0]
 refine (zG4 H R1 _ hw (by simp)).mono (fun v h2 q => ?_) (fun v h2 e => ?_)
 rotate_left
 ·obtain ⟨p, er, hx, _⟩ := e; cases hx
 obtain ⟨t, i', hx, li2, R2, b2, rfl, tb⟩ := q
 injection hx with hx1 hx2
 subst hx1; subst hx2
 have nb2 := b2.next
 have c2 := (m1.but r).trans b2
 have rc2 := (b2.keep h.next (by omega) (by omega)).trans g1
 simp (disch := omega) only [EL, ↓K3, ↓K1, reduceIte, Nat.reduceEqDiff, Nat.reduceAdd, Nat.reduceLeDiff, i0]
 refine hQ _ ?_
 clear hQ Q1
 refine zC8 fun h3 n3 g3 m3 => ?_
 obtain ⟨ct, gt, k0, k1, k2⟩ := g3
 simp only [zAa]
 have R3 := R2.more m3
 have rc3 := (m3.keep h.next (by omega)).trans rc2
 have c3 := c2.trans (m3.but r)
 refine zAd ?_
 refine zAd (zAb fun Q1 hQ => ?_)
 simp (disch := omega) only [EL, ↓K3, ↓K1, reduceIte, Nat.reduceEqDiff, Nat.reduceAdd, Nat.reduceLeDiff, i0]
 refine (is_gp H R3 _).to fun v h4 q => ?_
 obtain ⟨rfl, m4⟩ := q
 have n4 := m4.next
 have R4 := R3.more m4
 have rc4 := (m4.keep h.next (by omega)).trans rc3
 have gt4 := (m4.keep h2.next (by omega)).trans gt
 have c4 := c3.trans (m4.but r)
 simp (disch := omega) only [EL, ↓K3, ↓K1, reduceIte, Nat.reduceEqDiff, Nat.reduceAdd, Nat.reduceLeDiff, i0]
 refine hQ _ ?_
 clear hQ Q1
 simp only [zAa]
 cases hc : isT ts en [40] (i + 1) with
 | true =>
  rw [hc, if_pos rfl] at hy
  refine zAq (by simp +decide only [EL, reduceIte, hc]) ?_
  refine zAd (zAb fun Q1 hQ => ?_)
  simp (disch := omega) only [EL, ↓K3, ↓K1, reduceIte, Nat.reduceEqDiff, Nat.reduceAdd, Nat.reduceLeDiff, i0, gt4, k0, k1, k2, zAe]
  refine (IH.call (now ts en i) R4 hd hc y hy hne).mono (fun v h5 q => ?_) (fun v h5 e => ?_)
  rotate_left
  ·obtain ⟨p, er, hx, rfl, fr'⟩ := e
   exact hQ _ ⟨p, er, hx, rfl, MoreBut.trans c4 fr'⟩
  obtain ⟨t, i', hx, li, R5, b5, u, rfl, tr⟩ := q
  have n5 := b5.next
  have rc5 := (b5.keep h.next (by omega) (by omega)).trans rc4
  refine ⟨rfl, ?_⟩
  refine zFy (rc := h.next) (by simp +decide only [EL, reduceIte]) rc5 (by rw [zAk]; rfl) fun h6 o6 g6 => hQ _ ?_
  obtain ⟨c6, gc6, gc60⟩ := g6
  refine zAj ?_
  try simp only [zAh, zAf]
  refine zA6 (id := h.next) (by simp +decide only [EL, reduceIte]) gc6 (lst := [u]) (by rw [zAe, gc60]; rfl) ⟨t, i', hx, by omega, o6.rs R5 (by omega), o6.mb (c4.trans b5) (by omega), _, rfl, ?_⟩
  exact TreeR.keep (o6.stay (F := fun k => h4.next ≤ k) (by omega)) (fun k hk _ => by show h.next ≤ k; omega) tr
 | false =>
  rw [hc, if_neg (by simp)] at hy
  refine wc_no (by simp +decide only [EL, reduceIte, hc]) ?_
  refine zAl ?_
  simp only [zAa]
  refine zAd (zAb fun Q1 hQ => ?_)
  simp (disch := omega) only [EL, ↓K3, ↓K1, reduceIte, Nat.reduceEqDiff, Nat.reduceAdd, Nat.reduceLeDiff, i0, gt4, k0, k1, k2, zAe]
  refine (zGe H (op := 18) (t := now ts en i) (kv := .nils) (fun _ => rfl) rfl).to fun v h5 q => ?_
  obtain ⟨ia, rfl, i1, i2, nc, m5⟩ := q
  have n5 := m5.next
  have rc5 := (m5.keep h.next (by omega)).trans rc4
  refine ⟨rfl, ?_⟩
  refine zFy (rc := h.next) (by simp +decide only [EL, reduceIte]) rc5 (by rw [zAk]; rfl) fun h6 o6 g6 => hQ _ ?_
  obtain ⟨c6, gc6, gc60⟩ := g6
  have n6 := o6.next
  refine zJt (rc := h.next) (by simp +decide only [EL, reduceIte]) gc6 gc60 ⟨_, _, hy.symm, by omega, o6.rs (R4.more m5) (by omega), o6.mb (c4.trans (m5.but r)) (by omega), _, rfl, leafT (nc.keep (o6.keep ia (by omega))) (by omega) (by omega)⟩
include H in
theorem prim_ge {n : Nat} (IH : ∀ m, m < n → EX tab ts en m) (R : RS ts en h r i d) (hd : d ≤ 40) : GS tab 180 [.ptr r 0] ts en r i d h (primS ts en n i d) fun t v h1 => okT t h.next v h1 := by
 intro y hy hne
 cases n with
 | zero => exact absurd (by rw [← hy]; simp [primS]) hne
 | succ n =>
 have i0 : zAg [.ptr r 0] = zAc [.ptr r 0] := rfl
 have hr := R.lt
 refine ge_of H.t180 rfl ?_
 refine zBi fun h1 n1 g1 m1 => ?_
 have R1 := R.more m1
 unfold primS at hy
 have f0 : ∀ h', zB6 0 1 false (.c (tokV (now ts en i))) .leaf [] h' = .val (.int .i64 ((now ts en i).kind : Int)) h' := fun _ => rfl
 refine zAd ?_
 refine zAu ?_
 refine zAd (zAb fun Q1 hQ => ?_)
 simp (disch := omega) only [EL, ↓K3, ↓K1, reduceIte, Nat.reduceEqDiff, Nat.reduceAdd, Nat.reduceLeDiff, i0]
 refine (zHm H R1).to fun v h2 q => ?_
 obtain ⟨rfl, m2⟩ := q
 have n2 := m2.next
 have R2 := R1.more m2
 have rc2 := (m2.keep h.next (by omega)).trans g1
 have c2 := (m1.trans m2).but r
 by_cases k3 : (now ts en i).kind = 3
 ·rw [if_pos k3] at hy
  simp (disch := omega) only [EL, ↓K3, ↓K1, reduceIte, Nat.reduceEqDiff, Nat.reduceAdd, Nat.reduceLeDiff, i0, f0, k3]
  refine hQ _ ?_
  clear hQ Q1
  simp only [zAa]
  refine zAq (by simp +decide only [EL, reduceIte]) ?_
  have hi : i < ts.length := by
   rcases Nat.lt_or_ge i ts.length with h | h
   ·exact h
   ·rw [zCd (by omega)] at k3; cases k3
  obtain ⟨dg, d0⟩ := R.num i k3
  refine zAd (zAb fun Q1 hQ => ?_)
  simp (disch := omega) only [EL, ↓K3, ↓K1, reduceIte, Nat.reduceEqDiff, Nat.reduceAdd, Nat.reduceLeDiff, i0]
  refine (zCg H R2 hi).to fun v h3 q => ?_
  obtain ⟨rfl, R3, b3⟩ := q
  have n3 := b3.next
  have rc3 := (b3.keep h.next (by omega) (by omega)).trans rc2
  simp (disch := omega) only [EL, ↓K3, ↓K1, reduceIte, Nat.reduceEqDiff, Nat.reduceAdd, Nat.reduceLeDiff]
  refine (number_gp H dg).to fun v h4 q => ?_
  obtain ⟨⟨u, rfl, tr⟩, m4⟩ := q
  have rc4 := (m4.keep h.next (by omega)).trans rc3
  have n4 := m4.next
  refine ⟨rfl, ?_⟩
  refine zFy (rc := h.next) (by simp +decide only [EL, reduceIte]) rc4 (by rw [zAk]; rfl) fun h6 o6 g6 => hQ _ ?_
  obtain ⟨c6, gc6, gc60⟩ := g6
  have n6 := o6.next
  refine zAj ?_
  try simp only [zAh, zAf]
  rw [numVal_eq d0] at tr
  refine zA6 (id := h.next) (by simp +decide only [EL, reduceIte]) gc6 (lst := [u]) (by rw [zAe, gc60]; rfl) ⟨_, _, hy.symm, by omega, o6.rs (R3.more m4) (by omega), o6.mb ((c2.trans b3).trans (m4.but r)) (by omega), _, rfl, ?_⟩
  exact TreeR.keep (o6.stay (F := fun k => h3.next ≤ k) (by omega)) (fun k hk _ => by show h.next ≤ k; omega) tr
 rw [if_neg k3] at hy
 have k3' : ¬ ((now ts en i).kind : Int) = ((3 : Nat) : Int) := by omega
 simp (disch := omega) only [EL, ↓K3, ↓K1, reduceIte, Nat.reduceEqDiff, Nat.reduceAdd, Nat.reduceLeDiff, i0, f0, k3', k3]
 refine hQ _ ?_
 clear hQ Q1
 simp only [zAa]
 refine wc_no (by simp +decide only [EL, reduceIte]) ?_
 refine zAd (zAb fun Q1 hQ => ?_)
 simp (disch := omega) only [EL, ↓K3, ↓K1, reduceIte, Nat.reduceEqDiff, Nat.reduceAdd, Nat.reduceLeDiff, i0]
 refine (zHm H R2).to fun v h3 q => ?_
 obtain ⟨rfl, m3⟩ := q
 have n3 := m3.next
 have R3 := R2.more m3
 have rc3 := (m3.keep h.next (by omega)).trans rc2
 have c3 := c2.trans (m3.but r)
 by_cases k1 : (now ts en i).kind = 1
 ·rw [if_pos k1] at hy
  simp (disch := omega) only [EL, ↓K3, ↓K1, reduceIte, Nat.reduceEqDiff, Nat.reduceAdd, Nat.reduceLeDiff, i0, f0, k1]
  refine hQ _ ?_
  clear hQ Q1
  simp only [zAa]
  refine zAq (by simp +decide only [EL, reduceIte]) ?_
  refine zAd (zAb fun Q1 hQ => ?_)
  simp (disch := omega) only [EL, ↓K3, ↓K1, reduceIte, Nat.reduceEqDiff, Nat.reduceAdd, Nat.reduceLeDiff, i0]
  refine (named_ge H (IH n (by omega)) R3 hd k1 y hy hne).mono (fun v h4 q => ?_) (fun v h4 e => ?_)
  rotate_left
  ·obtain ⟨p, er, hx, rfl, fr'⟩ := e
   exact hQ _ ⟨p, er, hx, rfl, MoreBut.trans c3 fr'⟩
  obtain ⟨t, i', hx, li, R4, b4, u, rfl, tr⟩ := q
  have n4 := b4.next
  have rc4 := (b4.keep h.next (by omega) (by omega)).trans rc3
  refine ⟨rfl, ?_⟩
  refine zFy (rc := h.next) (by simp +decide only [EL, reduceIte]) rc4 (by rw [zAk]; rfl) fun h6 o6 g6 => hQ _ ?_
  obtain ⟨c6, gc6, gc60⟩ := g6
  refine zAj ?_
  try simp only [zAh, zAf]
  refine zA6 (id := h.next) (by simp +decide only [EL, reduceIte]) gc6 (lst := [u]) (by rw [zAe, gc60]; rfl) ⟨t, i', hx, by omega, o6.rs R4 (by omega), o6.mb (c3.trans b4) (by omega), _, rfl, ?_⟩
  exact TreeR.keep (o6.stay (F := fun k => h3.next ≤ k) (by omega)) (fun k hk _ => by show h.next ≤ k; omega) tr
 rw [if_neg k1] at hy
 have k1' : ¬ ((now ts en i).kind : Int) = ((1 : Nat) : Int) := by omega
 simp (disch := omega) only [EL, ↓K3, ↓K1, reduceIte, Nat.reduceEqDiff, Nat.reduceAdd, Nat.reduceLeDiff, i0, f0, k1', k1]
 refine hQ _ ?_
 clear hQ Q1
 simp only [zAa]
 refine wc_no (by simp +decide only [EL, reduceIte]) ?_
 refine zAd (zAb fun Q1 hQ => ?_)
 simp (disch := omega) only [EL, ↓K3, ↓K1, reduceIte, Nat.reduceEqDiff, Nat.reduceAdd, Nat.reduceLeDiff, i0]
 refine (is_gp H R3 _).to fun v h4 q => ?_
 obtain ⟨rfl, m4⟩ := q
 have n4 := m4.next
 have R4 := R3.more m4
 have rc4 := (m4.keep h.next (by omega)).trans rc3
 have c4 := c3.trans (m4.but r)
 simp (disch := omega) only [EL, ↓K3, ↓K1, reduceIte, Nat.reduceEqDiff, Nat.reduceAdd, Nat.reduceLeDiff, i0]
 refine hQ _ ?_
 clear hQ Q1
 simp only [zAa]
 cases hb : isT ts en [40] i with
 | true =>
  rw [hb, if_pos rfl] at hy
  refine zAq (by simp +decide only [EL, reduceIte, hb]) ?_
  refine zAd (zAb fun Q1 hQ => ?_)
  simp (disch := omega) only [EL, ↓K3, ↓K1, reduceIte, Nat.reduceEqDiff, Nat.reduceAdd, Nat.reduceLeDiff, i0]
  refine ((IH n (by omega)).brack R4 hd y hy hne).mono (fun v h5 q => ?_) (fun v h5 e => ?_)
  rotate_left
  ·obtain ⟨p, er, hx, rfl, fr'⟩ := e
   exact hQ _ ⟨p, er, hx, rfl, MoreBut.trans c4 fr'⟩
  obtain ⟨t, i', hx, li, R5, b5, u, rfl, tr⟩ := q
  have n5 := b5.next
  have rc5 := (b5.keep h.next (by omega) (by omega)).trans rc4
  refine ⟨rfl, ?_⟩
  refine zFy (rc := h.next) (by simp +decide only [EL, reduceIte]) rc5 (by rw [zAk]; rfl) fun h6 o6 g6 => hQ _ ?_
  obtain ⟨c6, gc6, gc60⟩ := g6
  refine zAj ?_
  try simp only [zAh, zAf]
  refine zA6 (id := h.next) (by simp +decide only [EL, reduceIte]) gc6 (lst := [u]) (by rw [zAe, gc60]; rfl) ⟨t, i', hx, by omega, o6.rs R5 (by omega), o6.mb (c4.trans b5) (by omega), _, rfl, ?_⟩
  exact TreeR.keep (o6.stay (F := fun k => h4.next ≤ k) (by omega)) (fun k hk _ => by show h.next ≤ k; omega) tr
 | false =>
  rw [hb, if_neg (by simp)] at hy
  refine wc_no (by simp +decide only [EL, reduceIte, hb]) ?_
  have kend : ∀ (l : T AV) (h5 : AH) (Q : Res → Prop), l.get 0 = some (.ptr r 0) → l.get 2 = some (.ptr h.next 0) → RS ts en h5 r i d → h5.mem.get h.next = some (.cells (zAc [.nilp]) (llen [.nilp]) none false) → MoreBut r h h5 → h1.next ≤ h5.next → i < ts.length → keyS ts en i d = y →
    (∀ l' h6, zDv [.cellN 1 (.l 2)] (okP y ts en r i d h fun t v h1 => okT t h.next v h1) (erP y r h) (.ret l' [] h6) → Q (.ret l' [] h6)) → (∀ v l' h6, erP y r h v h6 → Q (.pan v l' [] h6)) →
    WC tab (.seq (.ops [⟨.move (.l 0), none, none, []⟩, ⟨.callF 192 [.t 0], none, none, []⟩, ⟨.store 1 (.l 2) (.t 0), none, none, []⟩]) .ret) l [] h5 Q := by
   intro l h5 Q l0 l2 R5 rc5 c5 n5 hi hk hret hpan
   refine zAd (zAb fun Q1 hQ => ?_)
   simp (disch := omega) only [EL, ↓K3, ↓K1, reduceIte, Nat.reduceEqDiff, Nat.reduceAdd, Nat.reduceLeDiff, l0]
   refine (key_ge H R5 hi y hk hne).mono (fun v h6 q => ?_) (fun v h6 e => ?_)
   rotate_left
   ·obtain ⟨p, er, hx, rfl, fr'⟩ := e
    exact hQ _ (hpan _ _ _ ⟨p, er, hx, rfl, MoreBut.trans c5 fr'⟩)
   obtain ⟨t, i', hx, li, R6, b6, u, rfl, tr⟩ := q
   have n6 := b6.next
   have rc6 := (b6.keep h.next (by omega) (by omega)).trans rc5
   refine ⟨rfl, ?_⟩
   refine zFy (rc := h.next) (by simp +decide only [EL, reduceIte, l2]) rc6 (by rw [zAk]; rfl) fun h7 o7 g7 => hQ _ ?_
   obtain ⟨c7, gc7, gc70⟩ := g7
   refine zAj (hret _ _ (zA6 (id := h.next) (by simp +decide only [EL, reduceIte, l2]) gc7 (lst := [u]) (by rw [zAe, gc70]; rfl) ⟨t, i', hx, by omega, o7.rs R6 (by omega), o7.mb (c5.trans b6) (by omega), _, rfl, ?_⟩))
   exact TreeR.keep (o7.stay (F := fun k => h5.next ≤ k) (by omega)) (fun k hk _ => by show h.next ≤ k; omega) tr
  refine zAd (zAb fun Q1 hQ => ?_)
  simp (disch := omega) only [EL, ↓K3, ↓K1, reduceIte, Nat.reduceEqDiff, Nat.reduceAdd, Nat.reduceLeDiff, i0]
  refine (is_gp H R4 _).to fun v h5 q => ?_
  obtain ⟨rfl, m5⟩ := q
  have n5 := m5.next
  have R5 := R4.more m5
  have rc5 := (m5.keep h.next (by omega)).trans rc4
  have c5 := c4.trans (m5.but r)
  cases hA : isT ts en [110, 105, 108] i with
  | true =>
   rw [hA, Bool.true_or, Bool.true_or, Bool.true_or, Bool.true_or, if_pos rfl] at hy
   simp (disch := omega) only [EL, ↓K3, ↓K1, reduceIte, Nat.reduceEqDiff, Nat.reduceAdd, Nat.reduceLeDiff, i0, hA]
   refine hQ _ ?_
   clear hQ Q1
   simp only [zAa]
   refine zAq (by simp +decide only [EL, reduceIte]) ?_
   refine kend _ h5 _ (by simp +decide only [EL, reduceIte, i0]) (by simp +decide only [EL, reduceIte]) R5 rc5 c5 (by omega) (is_lt hA) hy (fun l' h6 q => ?_) (fun v l' h6 e => ?_)
   ·simp only [zAh, zAf]; exact q
   ·simp only [zC7, zCo]; exact e
  | false =>
  simp (disch := omega) only [EL, ↓K3, ↓K1, reduceIte, Nat.reduceEqDiff, Nat.reduceAdd, Nat.reduceLeDiff, i0, hA]
  refine (is_gp H R5 _).to fun v h6 q => ?_
  obtain ⟨rfl, m6⟩ := q
  have n6 := m6.next
  have R6 := R5.more m6
  have rc6 := (m6.keep h.next (by omega)).trans rc5
  have c6 := c5.trans (m6.but r)
  cases hB : isT ts en [116, 114, 117, 101] i with
  | true =>
   rw [hA, hB, Bool.false_or, Bool.true_or, Bool.true_or, Bool.true_or, if_pos rfl] at hy
   simp (disch := omega) only [EL, ↓K3, ↓K1, reduceIte, Nat.reduceEqDiff, Nat.reduceAdd, Nat.reduceLeDiff, i0, hB]
   refine hQ _ ?_
   clear hQ Q1
   simp only [zAa]
   refine zAq (by simp +decide only [EL, reduceIte]) ?_
   refine kend _ h6 _ (by simp +decide only [EL, reduceIte, i0]) (by simp +decide only [EL, reduceIte]) R6 rc6 c6 (by omega) (is_lt hB) hy (fun l' h6 q => ?_) (fun v l' h6 e => ?_)
   ·simp only [zAh, zAf]; exact q
   ·simp only [zC7, zCo]; exact e
  | false =>
  simp (disch := omega) only [EL, ↓K3, ↓K1, reduceIte, Nat.reduceEqDiff, Nat.reduceAdd, Nat.reduceLeDiff, i0, hB]
  refine (is_gp H R6 _).to fun v h7 q => ?_
  obtain ⟨rfl, m7⟩ := q
  have n7 := m7.next
  have R7 := R6.more m7
  have rc7 := (m7.keep h.next (by omega)).trans rc6
  have c7 := c6.trans (m7.but r)
  cases hC : isT ts en [102, 97, 108, 115, 101] i with
  | true =>
   rw [hA, hB, hC, Bool.false_or, Bool.false_or, Bool.true_or, Bool.true_or, if_pos rfl] at hy
   simp (disch := omega) only [EL, ↓K3, ↓K1, reduceIte, Nat.reduceEqDiff, Nat.reduceAdd, Nat.reduceLeDiff, i0, hC]
   refine hQ _ ?_
   clear hQ Q1
   simp only [zAa]
   refine zAq (by simp +decide only [EL, reduceIte]) ?_
   refine kend _ h7 _ (by simp +decide only [EL, reduceIte, i0]) (by simp +decide only [EL, reduceIte]) R7 rc7 c7 (by omega) (is_lt hC) hy (fun l' h6 q => ?_) (fun v l' h6 e => ?_)
   ·simp only [zAh, zAf]; exact q
   ·simp only [zC7, zCo]; exact e
  | false =>
  simp (disch := omega) only [EL, ↓K3, ↓K1, reduceIte, Nat.reduceEqDiff, Nat.reduceAdd, Nat.reduceLeDiff, i0, hC]
  refine (is_gp H R7 _).to fun v h8 q => ?_
  obtain ⟨rfl, m8⟩ := q
  have n8 := m8.next
  have R8 := R7.more m8
  have rc8 := (m8.keep h.next (by omega)).trans rc7
  have c8 := c7.trans (m8.but r)
  cases hD : isT ts en [110, 101, 119] i with
  | true =>
   rw [hA, hB, hC, hD, Bool.false_or, Bool.false_or, Bool.false_or, Bool.true_or, if_pos rfl] at hy
   simp (disch := omega) only [EL, ↓K3, ↓K1, reduceIte, Nat.reduceEqDiff, Nat.reduceAdd, Nat.reduceLeDiff, i0, hD]
   refine hQ _ ?_
   clear hQ Q1
   simp only [zAa]
   refine zAq (by simp +decide only [EL, reduceIte]) ?_
   refine kend _ h8 _ (by simp +decide only [EL, reduceIte, i0]) (by simp +decide only [EL, reduceIte]) R8 rc8 c8 (by omega) (is_lt hD) hy (fun l' h6 q => ?_) (fun v l' h6 e => ?_)
   ·simp only [zAh, zAf]; exact q
   ·simp only [zC7, zCo]; exact e
  | false =>
  simp (disch := omega) only [EL, ↓K3, ↓K1, reduceIte, Nat.reduceEqDiff, Nat.reduceAdd, Nat.reduceLeDiff, i0, hD]
  refine (is_gp H R8 _).to fun v h9 q => ?_
  obtain ⟨rfl, m9⟩ := q
  have n9 := m9.next
  have R9 := R8.more m9
  have rc9 := (m9.keep h.next (by omega)).trans rc8
  have c9 := c8.trans (m9.but r)
  rw [hA, hB, hC, hD, Bool.false_or, Bool.false_or, Bool.false_or, Bool.false_or] at hy
  simp (disch := omega) only [EL, ↓K3, ↓K1, reduceIte, Nat.reduceEqDiff, Nat.reduceAdd, Nat.reduceLeDiff, i0]
  refine hQ _ ?_
  clear hQ Q1
  simp only [zAa]
  cases hE : isT ts en [114, 101, 97, 100] i with
  | true =>
   rw [hE, if_pos rfl] at hy
   refine zAq (by simp +decide only [EL, reduceIte, hE]) ?_
   refine kend _ h9 _ (by simp +decide only [EL, reduceIte, i0]) (by simp +decide only [EL, reduceIte]) R9 rc9 c9 (by omega) (is_lt hE) hy (fun l' h6 q => ?_) (fun v l' h6 e => ?_)
   ·simp only [zAh, zAf]; exact q
   ·simp only [zC7, zCo]; exact e
  | false =>
   rw [hE, if_neg (by simp)] at hy
   refine wc_no (by simp +decide only [EL, reduceIte, hE]) ?_
   refine zAl ?_
   simp only [zAi, zAa]
   refine zAd (zAb fun Q1 hQ => ?_)
   simp (disch := omega) only [EL, ↓K3, ↓K1, reduceIte, Nat.reduceEqDiff, Nat.reduceAdd, Nat.reduceLeDiff, i0]
   refine (zEt H R9).mono (fun v h3 q => q.elim) fun v h3 q => ?_
   exact hQ _ ⟨_, _, hy.symm, q.1, c9.trans (q.2.but r)⟩
include H in
theorem zIo : ∀ n, EX tab ts en n := by
 intro n
 induction n using Nat.strongRecOn with
 | ind n IH => exact ⟨fun least R hd hl => expr_ge H IH R hd least hl, fun R hd => unary_ge H IH R hd, fun R hd => post_ge H IH R hd, fun R hd => prim_ge H IH R hd, fun t R hd hc => call_ge H IH t R hd hc, fun R hd => brack_ge H IH R hd⟩
end
end Go.Ev
namespace Go.Ev
open Go Go.Pa
section
variable {tab : Nat → Option AFunc} {h : AH} (H : PT tab) {ts : List Tok} {en r i d : Nat}
abbrev dataV (op : Nat) (name typ : Str) (n : Int) (pos : Nat) (kv : AV) : AV := .agg [.int .i64 (op : Int), sv name, sv typ, .int .i64 n, .int .i64 (pos : Int), kv]
include H in
theorem zKl {ia op pos : Nat} {name typ : Str} {n : Int} {kv : AV} (nc : NodeC h ia op name typ n pos kv) (hi : ia < h.next) (hkv : ∀ h' : AH, oMove (.c kv) .leaf [] h' = .val kv h') : GP tab 28 [.agg [.ptr ia 0]] h fun v h1 => v = dataV op name typ n pos kv ∧ More h h1 := by
 refine GE.gp (ge_of H.t28 rfl ?_) (E := fun _ _ => False) fun _ _ hh => hh
 refine zC9 (l := [.ptr ia 0]) rfl fun h1 n1 g1 g2 m1 => ?_
 obtain ⟨c, gn, c0, c1, c2, c3, c4, c5, _⟩ := (nc.keep (m1.keep ia hi)).set
 have i0 : zAg [.agg [.ptr ia 0]] = zAc [.agg [.ptr ia 0]] := rfl
 refine zAd ?_
 refine zAd (zAb fun Q1 hQ => ?_)
 simp (disch := omega) only [EL, ↓K3, ↓K1, reduceIte, Nat.reduceEqDiff, Nat.reduceAdd, Nat.reduceLeDiff, i0, g1]
 refine hQ _ ?_
 clear hQ Q1
 refine wc_no (by simp +decide only [EL, reduceIte]) ?_
 refine zAl ?_
 simp only [zAa]
 refine zAd (zAb fun Q1 hQ => ?_)
 simp (disch := omega) only [EL, ↓K3, ↓K1, reduceIte, Nat.reduceEqDiff, Nat.reduceAdd, Nat.reduceLeDiff, i0, g1, g2, gn, c0, c1, c2, c3, c4, c5, zAe]
 refine hQ _ ?_
 clear hQ Q1
 refine zAj ?_
 try simp only [zAh, zAf]
 refine zA6 (id := h.next + 1) (by simp +decide only [EL, reduceIte]) AH.get_set (lst := [.int .i64 (op : Int), sv name, sv typ, .int .i64 n, .int .i64 (pos : Int), kv]) (by simp +decide only [EL, reduceIte, zAe]) ⟨rfl, m1.set (by omega) _⟩
include H in
theorem zJn : GP tab 28 [.agg [.nilp]] h fun v h1 => v = dataV 0 [] [] 0 0 .nils ∧ More h h1 := by
 refine GE.gp (ge_of H.t28 rfl ?_) (E := fun _ _ => False) fun _ _ hh => hh
 refine zC9 (l := [.nilp]) rfl fun h1 n1 g1 g2 m1 => ?_
 have i0 : zAg [.agg [.nilp]] = zAc [.agg [.nilp]] := rfl
 refine zAd ?_
 refine zAd (zAb fun Q1 hQ => ?_)
 simp (disch := omega) only [EL, ↓K3, ↓K1, reduceIte, Nat.reduceEqDiff, Nat.reduceAdd, Nat.reduceLeDiff, i0, g1]
 refine hQ _ ?_
 clear hQ Q1
 refine zAq (by simp +decide only [EL, reduceIte]) ?_
 refine zAd (zAb fun Q1 hQ => ?_)
 simp (disch := omega) only [EL, ↓K3, ↓K1, reduceIte, Nat.reduceEqDiff, Nat.reduceAdd, Nat.reduceLeDiff, i0, g2]
 refine hQ _ ?_
 clear hQ Q1
 refine zAj ?_
 try simp only [zAh, zAf]
 refine zA6 (id := h.next + 1) (by simp +decide only [EL, reduceIte]) AH.get_set (lst := [.int .i64 ((0 : Nat) : Int), sv [], sv [], .int .i64 ((0 : Nat) : Int), .int .i64 ((0 : Nat) : Int), .nils]) (by simp +decide only [EL, reduceIte, zAe]) ⟨rfl, m1.set (by omega) _⟩
theorem TreeR.node {h : AH} {F : Nat → Prop} {u : AV} {t : Tree} (x : TreeR h F u t) : ∃ ia kv cs, u = .ptr ia 0 ∧ ia < h.next ∧ F ia ∧ NodeC h ia t.op t.name t.typ t.n t.pos kv ∧ Arr h F kv cs ∧ TreesR h F cs t.kids := by
 cases t with
 | mk op name typ n pos kids => obtain ⟨id, kv, cs, h1, h2, h3, h4, h5, h6⟩ := x; exact ⟨id, kv, cs, h1, h3, h2, h4, h5, h6⟩
theorem Arr.move {h h' : AH} {F : Nat → Prop} {v : AV} {cs : List AV} (x : Arr h F v cs) : oMove (.c v) .leaf [] h' = .val v h' := by cases x <;> rfl
include H in
theorem nop_gp {F : Nat → Prop} {u : AV} {t : Tree} (x : TreeR h F u t) : GP tab 13 [.agg [u]] h fun v h1 => v = .int .i64 (t.op : Int) ∧ More h h1 := by
 obtain ⟨ia, kv, cs, rfl, hi, _, nc, ar, tr⟩ := x.node
 have le : ∀ h' : AH, oLen .sl (.c kv) .leaf [] h' = .val (.int .i64 (t.kids.length : Int)) h' := fun h' => by rw [ar.len, tr.len]
 refine GE.gp (ge_of H.t13 rfl ?_) (E := fun _ _ => False) fun _ _ hh => hh
 have i0 : zAg [.agg [.ptr ia 0]] = zAc [.agg [.ptr ia 0]] := rfl
 refine zAd (zAb fun Q1 hQ => ?_)
 simp (disch := omega) only [EL, ↓K3, ↓K1, reduceIte, Nat.reduceEqDiff, Nat.reduceAdd, Nat.reduceLeDiff, i0]
 refine hQ _ ?_
 clear hQ Q1
 have m1 : More h (h.add (.cells (zAc [.ptr ia 0]) 1 none false)) := More.add _ _
 have g1 : (h.add (.cells (zAc [.ptr ia 0]) 1 none false)).mem.get h.next = some (.cells (zAc [.ptr ia 0]) 1 none false) := by rw [AH.add_mem, T.get_put_self]
 generalize h.add (.cells (zAc [.ptr ia 0]) 1 none false) = h1 at *
 have nc1 := nc.keep (m1.keep ia hi)
 refine zAd (zAb fun Q1 hQ => ?_)
 simp (disch := omega) only [EL, ↓K3, ↓K1, reduceIte, Nat.reduceEqDiff, Nat.reduceAdd, Nat.reduceLeDiff, i0, g1, zAe]
 refine (zKl H nc1 (Nat.lt_of_lt_of_le hi m1.next) fun h' => ar.move).to fun v h2 q => ?_
 obtain ⟨rfl, m2⟩ := q
 have f1 : ∀ h' : AH, zB6 0 1 false (.c (dataV t.op t.name t.typ t.n t.pos kv)) .leaf [] h' = .val (.int .i64 (t.op : Int)) h' := fun _ => rfl
 simp (disch := omega) only [EL, ↓K3, ↓K1, reduceIte, Nat.reduceEqDiff, Nat.reduceAdd, Nat.reduceLeDiff, f1, le]
 refine hQ _ ?_
 refine zAj ?_
 simp (disch := omega) only [EL, ↓K3, ↓K1, reduceIte, Nat.reduceEqDiff, Nat.reduceAdd, Nat.reduceLeDiff]
 exact m1.trans m2
include H in
theorem zIv {F : Nat → Prop} {u : AV} {t : Tree} (x : TreeR h F u t) : GP tab 33 [.agg [u]] h fun v h1 => v = sv t.name ∧ More h h1 := by
 obtain ⟨ia, kv, cs, rfl, hi, _, nc, ar, tr⟩ := x.node
 have le : ∀ h' : AH, oLen .sl (.c kv) .leaf [] h' = .val (.int .i64 (t.kids.length : Int)) h' := fun h' => by rw [ar.len, tr.len]
 refine GE.gp (ge_of H.t33 rfl ?_) (E := fun _ _ => False) fun _ _ hh => hh
 have i0 : zAg [.agg [.ptr ia 0]] = zAc [.agg [.ptr ia 0]] := rfl
 refine zAd (zAb fun Q1 hQ => ?_)
 simp (disch := omega) only [EL, ↓K3, ↓K1, reduceIte, Nat.reduceEqDiff, Nat.reduceAdd, Nat.reduceLeDiff, i0]
 refine hQ _ ?_
 clear hQ Q1
 have m1 : More h (h.add (.cells (zAc [.ptr ia 0]) 1 none false)) := More.add _ _
 have g1 : (h.add (.cells (zAc [.ptr ia 0]) 1 none false)).mem.get h.next = some (.cells (zAc [.ptr ia 0]) 1 none false) := by rw [AH.add_mem, T.get_put_self]
 generalize h.add (.cells (zAc [.ptr ia 0]) 1 none false) = h1 at *
 have nc1 := nc.keep (m1.keep ia hi)
 refine zAd (zAb fun Q1 hQ => ?_)
 simp (disch := omega) only [EL, ↓K3, ↓K1, reduceIte, Nat.reduceEqDiff, Nat.reduceAdd, Nat.reduceLeDiff, i0, g1, zAe]
 refine (zKl H nc1 (Nat.lt_of_lt_of_le hi m1.next) fun h' => ar.move).to fun v h2 q => ?_
 obtain ⟨rfl, m2⟩ := q
 have f1 : ∀ h' : AH, zB6 1 1 false (.c (dataV t.op t.name t.typ t.n t.pos kv)) .leaf [] h' = .val (sv t.name) h' := fun _ => rfl
 simp (disch := omega) only [EL, ↓K3, ↓K1, reduceIte, Nat.reduceEqDiff, Nat.reduceAdd, Nat.reduceLeDiff, f1, le]
 refine hQ _ ?_
 refine zAj ?_
 simp (disch := omega) only [EL, ↓K3, ↓K1, reduceIte, Nat.reduceEqDiff, Nat.reduceAdd, Nat.reduceLeDiff]
 exact m1.trans m2
include H in
theorem ntyp_gp {F : Nat → Prop} {u : AV} {t : Tree} (x : TreeR h F u t) : GP tab 34 [.agg [u]] h fun v h1 => v = sv t.typ ∧ More h h1 := by
 obtain ⟨ia, kv, cs, rfl, hi, _, nc, ar, tr⟩ := x.node
 have le : ∀ h' : AH, oLen .sl (.c kv) .leaf [] h' = .val (.int .i64 (t.kids.length : Int)) h' := fun h' => by rw [ar.len, tr.len]
 refine GE.gp (ge_of H.t34 rfl ?_) (E := fun _ _ => False) fun _ _ hh => hh
 have i0 : zAg [.agg [.ptr ia 0]] = zAc [.agg [.ptr ia 0]] := rfl
 refine zAd (zAb fun Q1 hQ => ?_)
 simp (disch := omega) only [EL, ↓K3, ↓K1, reduceIte, Nat.reduceEqDiff, Nat.reduceAdd, Nat.reduceLeDiff, i0]
 refine hQ _ ?_
 clear hQ Q1
 have m1 : More h (h.add (.cells (zAc [.ptr ia 0]) 1 none false)) := More.add _ _
 have g1 : (h.add (.cells (zAc [.ptr ia 0]) 1 none false)).mem.get h.next = some (.cells (zAc [.ptr ia 0]) 1 none false) := by rw [AH.add_mem, T.get_put_self]
 generalize h.add (.cells (zAc [.ptr ia 0]) 1 none false) = h1 at *
 have nc1 := nc.keep (m1.keep ia hi)
 refine zAd (zAb fun Q1 hQ => ?_)
 simp (disch := omega) only [EL, ↓K3, ↓K1, reduceIte, Nat.reduceEqDiff, Nat.reduceAdd, Nat.reduceLeDiff, i0, g1, zAe]
 refine (zKl H nc1 (Nat.lt_of_lt_of_le hi m1.next) fun h' => ar.move).to fun v h2 q => ?_
 obtain ⟨rfl, m2⟩ := q
 have f1 : ∀ h' : AH, zB6 2 1 false (.c (dataV t.op t.name t.typ t.n t.pos kv)) .leaf [] h' = .val (sv t.typ) h' := fun _ => rfl
 simp (disch := omega) only [EL, ↓K3, ↓K1, reduceIte, Nat.reduceEqDiff, Nat.reduceAdd, Nat.reduceLeDiff, f1, le]
 refine hQ _ ?_
 refine zAj ?_
 simp (disch := omega) only [EL, ↓K3, ↓K1, reduceIte, Nat.reduceEqDiff, Nat.reduceAdd, Nat.reduceLeDiff]
 exact m1.trans m2
include H in
theorem nn_gp {F : Nat → Prop} {u : AV} {t : Tree} (x : TreeR h F u t) : GP tab 23 [.agg [u]] h fun v h1 => v = .int .i64 t.n ∧ More h h1 := by
 obtain ⟨ia, kv, cs, rfl, hi, _, nc, ar, tr⟩ := x.node
 have le : ∀ h' : AH, oLen .sl (.c kv) .leaf [] h' = .val (.int .i64 (t.kids.length : Int)) h' := fun h' => by rw [ar.len, tr.len]
 refine GE.gp (ge_of H.t23 rfl ?_) (E := fun _ _ => False) fun _ _ hh => hh
 have i0 : zAg [.agg [.ptr ia 0]] = zAc [.agg [.ptr ia 0]] := rfl
 refine zAd (zAb fun Q1 hQ => ?_)
 simp (disch := omega) only [EL, ↓K3, ↓K1, reduceIte, Nat.reduceEqDiff, Nat.reduceAdd, Nat.reduceLeDiff, i0]
 refine hQ _ ?_
 clear hQ Q1
 have m1 : More h (h.add (.cells (zAc [.ptr ia 0]) 1 none false)) := More.add _ _
 have g1 : (h.add (.cells (zAc [.ptr ia 0]) 1 none false)).mem.get h.next = some (.cells (zAc [.ptr ia 0]) 1 none false) := by rw [AH.add_mem, T.get_put_self]
 generalize h.add (.cells (zAc [.ptr ia 0]) 1 none false) = h1 at *
 have nc1 := nc.keep (m1.keep ia hi)
 refine zAd (zAb fun Q1 hQ => ?_)
 simp (disch := omega) only [EL, ↓K3, ↓K1, reduceIte, Nat.reduceEqDiff, Nat.reduceAdd, Nat.reduceLeDiff, i0, g1, zAe]
 refine (zKl H nc1 (Nat.lt_of_lt_of_le hi m1.next) fun h' => ar.move).to fun v h2 q => ?_
 obtain ⟨rfl, m2⟩ := q
 have f1 : ∀ h' : AH, zB6 3 1 false (.c (dataV t.op t.name t.typ t.n t.pos kv)) .leaf [] h' = .val (.int .i64 t.n) h' := fun _ => rfl
 simp (disch := omega) only [EL, ↓K3, ↓K1, reduceIte, Nat.reduceEqDiff, Nat.reduceAdd, Nat.reduceLeDiff, f1, le]
 refine hQ _ ?_
 refine zAj ?_
 simp (disch := omega) only [EL, ↓K3, ↓K1, reduceIte, Nat.reduceEqDiff, Nat.reduceAdd, Nat.reduceLeDiff]
 exact m1.trans m2
include H in
theorem npos_gp {F : Nat → Prop} {u : AV} {t : Tree} (x : TreeR h F u t) : GP tab 24 [.agg [u]] h fun v h1 => v = .int .i64 (t.pos : Int) ∧ More h h1 := by
 obtain ⟨ia, kv, cs, rfl, hi, _, nc, ar, tr⟩ := x.node
 have le : ∀ h' : AH, oLen .sl (.c kv) .leaf [] h' = .val (.int .i64 (t.kids.length : Int)) h' := fun h' => by rw [ar.len, tr.len]
 refine GE.gp (ge_of H.t24 rfl ?_) (E := fun _ _ => False) fun _ _ hh => hh
 have i0 : zAg [.agg [.ptr ia 0]] = zAc [.agg [.ptr ia 0]] := rfl
 refine zAd (zAb fun Q1 hQ => ?_)
 simp (disch := omega) only [EL, ↓K3, ↓K1, reduceIte, Nat.reduceEqDiff, Nat.reduceAdd, Nat.reduceLeDiff, i0]
 refine hQ _ ?_
 clear hQ Q1
 have m1 : More h (h.add (.cells (zAc [.ptr ia 0]) 1 none false)) := More.add _ _
 have g1 : (h.add (.cells (zAc [.ptr ia 0]) 1 none false)).mem.get h.next = some (.cells (zAc [.ptr ia 0]) 1 none false) := by rw [AH.add_mem, T.get_put_self]
 generalize h.add (.cells (zAc [.ptr ia 0]) 1 none false) = h1 at *
 have nc1 := nc.keep (m1.keep ia hi)
 refine zAd (zAb fun Q1 hQ => ?_)
 simp (disch := omega) only [EL, ↓K3, ↓K1, reduceIte, Nat.reduceEqDiff, Nat.reduceAdd, Nat.reduceLeDiff, i0, g1, zAe]
 refine (zKl H nc1 (Nat.lt_of_lt_of_le hi m1.next) fun h' => ar.move).to fun v h2 q => ?_
 obtain ⟨rfl, m2⟩ := q
 have f1 : ∀ h' : AH, zB6 4 1 false (.c (dataV t.op t.name t.typ t.n t.pos kv)) .leaf [] h' = .val (.int .i64 (t.pos : Int)) h' := fun _ => rfl
 simp (disch := omega) only [EL, ↓K3, ↓K1, reduceIte, Nat.reduceEqDiff, Nat.reduceAdd, Nat.reduceLeDiff, f1, le]
 refine hQ _ ?_
 refine zAj ?_
 simp (disch := omega) only [EL, ↓K3, ↓K1, reduceIte, Nat.reduceEqDiff, Nat.reduceAdd, Nat.reduceLeDiff]
 exact m1.trans m2
include H in
theorem zIw {F : Nat → Prop} {u : AV} {t : Tree} (x : TreeR h F u t) : GP tab 14 [.agg [u]] h fun v h1 => v = .int .i64 (t.kids.length : Int) ∧ More h h1 := by
 obtain ⟨ia, kv, cs, rfl, hi, _, nc, ar, tr⟩ := x.node
 have le : ∀ h' : AH, oLen .sl (.c kv) .leaf [] h' = .val (.int .i64 (t.kids.length : Int)) h' := fun h' => by rw [ar.len, tr.len]
 refine GE.gp (ge_of H.t14 rfl ?_) (E := fun _ _ => False) fun _ _ hh => hh
 have i0 : zAg [.agg [.ptr ia 0]] = zAc [.agg [.ptr ia 0]] := rfl
 refine zAd (zAb fun Q1 hQ => ?_)
 simp (disch := omega) only [EL, ↓K3, ↓K1, reduceIte, Nat.reduceEqDiff, Nat.reduceAdd, Nat.reduceLeDiff, i0]
 refine hQ _ ?_
 clear hQ Q1
 have m1 : More h (h.add (.cells (zAc [.ptr ia 0]) 1 none false)) := More.add _ _
 have g1 : (h.add (.cells (zAc [.ptr ia 0]) 1 none false)).mem.get h.next = some (.cells (zAc [.ptr ia 0]) 1 none false) := by rw [AH.add_mem, T.get_put_self]
 generalize h.add (.cells (zAc [.ptr ia 0]) 1 none false) = h1 at *
 have nc1 := nc.keep (m1.keep ia hi)
 refine zAd (zAb fun Q1 hQ => ?_)
 simp (disch := omega) only [EL, ↓K3, ↓K1, reduceIte, Nat.reduceEqDiff, Nat.reduceAdd, Nat.reduceLeDiff, i0, g1, zAe]
 refine (zKl H nc1 (Nat.lt_of_lt_of_le hi m1.next) fun h' => ar.move).to fun v h2 q => ?_
 obtain ⟨rfl, m2⟩ := q
 have f1 : ∀ h' : AH, zB6 5 1 false (.c (dataV t.op t.name t.typ t.n t.pos kv)) .leaf [] h' = .val (kv) h' := fun _ => (by cases ar with | nils => rfl | sl => rfl)
 simp (disch := omega) only [EL, ↓K3, ↓K1, reduceIte, Nat.reduceEqDiff, Nat.reduceAdd, Nat.reduceLeDiff, f1, le]
 refine hQ _ ?_
 refine zAj ?_
 simp (disch := omega) only [EL, ↓K3, ↓K1, reduceIte, Nat.reduceEqDiff, Nat.reduceAdd, Nat.reduceLeDiff]
 exact m1.trans m2
include H in
theorem nkid_gp {F : Nat → Prop} {u : AV} {t : Tree} (x : TreeR h F u t) (k : Int) : GP tab 20 [.agg [u], .int .i64 k] h fun v h1 => More h h1 ∧ ((∃ (j : Nat) (hj : j < t.kids.length) (w : AV), k = (j : Int) ∧ v = .agg [w] ∧ TreeR h F w t.kids[j]) ∨ ((k < 0 ∨ (t.kids.length : Int) ≤ k) ∧ v = .agg [.nilp])) := by
 obtain ⟨ia, kv, cs, rfl, hi, _, nc, ar, tr⟩ := x.node
 refine GE.gp (ge_of H.t20 rfl ?_) (E := fun _ _ => False) fun _ _ hh => hh
 have i0 : zAg [.agg [.ptr ia 0], .int .i64 k] = zAc [.agg [.ptr ia 0], .int .i64 k] := rfl
 refine zC9 (l := [.ptr ia 0]) rfl fun h1 n1 g1 g2 m1 => ?_
 have x1 : TreeR h1 F (.ptr ia 0) t := TreeR.keep m1.stay (fun _ h _ => h) x
 have e0 : ((0 : Nat) : Int) = 0 := rfl
 refine zAd ?_
 refine zAd (zAb fun Q1 hQ => ?_)
 by_cases hk : k < 0
 ·have hk' : k < ((0 : Nat) : Int) := hk
  simp (disch := omega) only [EL, ↓K3, ↓K1, reduceIte, Nat.reduceEqDiff, Nat.reduceAdd, Nat.reduceLeDiff, i0, hk']
  refine hQ _ ?_
  clear hQ Q1
  simp only [zAa]
  refine zAq (by simp +decide only [EL, reduceIte]) ?_
  refine zAd (zAb fun Q1 hQ => ?_)
  simp (disch := omega) only [EL, ↓K3, ↓K1, reduceIte, Nat.reduceEqDiff, Nat.reduceAdd, Nat.reduceLeDiff, i0, g2]
  refine hQ _ ?_
  clear hQ Q1
  refine zAj ?_
  try simp only [zAh, zAf]
  exact zA6 (id := h.next + 1) (by simp +decide only [EL, reduceIte]) AH.get_set (lst := [.nilp]) (by simp +decide only [EL, reduceIte, zAe]) ⟨m1.set (by omega) _, .inr ⟨.inl hk, rfl⟩⟩
 ·have hk' : ¬ k < ((0 : Nat) : Int) := hk
  simp (disch := omega) only [EL, ↓K3, ↓K1, reduceIte, Nat.reduceEqDiff, Nat.reduceAdd, Nat.reduceLeDiff, i0, hk', g1, zAe]
  refine (zIw H x1).to fun v h2 q => ?_
  obtain ⟨rfl, m2⟩ := q
  simp (disch := omega) only [EL, ↓K3, ↓K1, reduceIte, Nat.reduceEqDiff, Nat.reduceAdd, Nat.reduceLeDiff]
  refine hQ _ ?_
  clear hQ Q1
  simp only [zAa]
  have g12 := (m2.keep h.next (by omega)).trans g1
  have g22 := (m2.keep (h.next + 1) (by omega)).trans g2
  by_cases hj : (t.kids.length : Int) ≤ k
  ·refine zAq (by simp +decide only [EL, reduceIte, hj]) ?_
   refine zAd (zAb fun Q1 hQ => ?_)
   simp (disch := omega) only [EL, ↓K3, ↓K1, reduceIte, Nat.reduceEqDiff, Nat.reduceAdd, Nat.reduceLeDiff, i0, g22]
   refine hQ _ ?_
   clear hQ Q1
   refine zAj ?_
   try simp only [zAh, zAf]
   have n2 := m2.next
   exact zA6 (id := h.next + 1) (by simp +decide only [EL, reduceIte]) AH.get_set (lst := [.nilp]) (by simp +decide only [EL, reduceIte, zAe]) ⟨(m1.trans m2).set (by omega) _, .inr ⟨.inr hj, rfl⟩⟩
  ·refine wc_no (by simp +decide only [EL, reduceIte, hj]) ?_
   refine zAl ?_
   simp only [zAa]
   obtain ⟨j, rfl⟩ := Int.eq_ofNat_of_zero_le (show 0 ≤ k by omega)
   have hj' : j < t.kids.length := by omega
   obtain ⟨w, hw, tw⟩ := tr.get j hj'
   have hjc : j < cs.length := by rw [tr.len]; exact hj'
   obtain ⟨ka, ks, kc, kcap, rfl, hkF, hkl, hkg, hkj⟩ := ar.open hjc
   rw [hw] at hkj
   have mm := m1.trans m2
   obtain ⟨c, gn, c0, c1, c2, c3, c4, c5, _⟩ := (nc.keep (mm.keep ia hi)).set
   have kg2 := (mm.keep ka hkl).trans hkg
   obtain ⟨wi, rfl, _⟩ := tw.ptr
   have hjc2 : j < cs.length := hjc
   refine zAd (zAb fun Q1 hQ => ?_)
   simp (disch := omega) only [EL, ↓K3, ↓K1, reduceIte, Nat.reduceEqDiff, Nat.reduceAdd, Nat.reduceLeDiff, i0, g12, g22, gn, c5, kg2, hkj, zAe, Nat.mul_one]
   refine hQ _ ?_
   clear hQ Q1
   refine zAj ?_
   try simp only [zAh, zAf]
   exact zA6 (id := h.next + 1) (by simp +decide only [EL, reduceIte]) AH.get_set (lst := [.ptr wi 0]) (by simp +decide only [EL, reduceIte, zAe]) ⟨mm.set (by omega) _, .inl ⟨j, hj', _, rfl, rfl, tw⟩⟩
end
end Go.Ev
namespace Go.Ev
open Go Go.Pa
section
variable {tab : Nat → Option AFunc} {h : AH} (H : PT tab) {ts : List Tok} {en r i d : Nat}
include H in
theorem change_ge {n : Nat} (R : RS ts en h r i d) (hd : d ≤ 40) : GS tab 156 [.ptr r 0] ts en r i d h (zC4 ts en n i d) fun t v h1 => okT t h.next v h1 := by
 intro y hy hne
 have i0 : zAg [.ptr r 0] = zAc [.ptr r 0] := rfl
 have e0 : (AV.str 0 0) = sv [] := rfl
 have hr := R.lt
 obtain ⟨z, hz⟩ : ∃ z, z = i := ⟨_, rfl⟩
 refine ge_of H.t156 rfl ?_
 refine zBi fun h1 n1 g1 m1 => ?_
 have R1 := R.more m1
 unfold zC4 at hy
 refine zAd (zAb fun Q1 hQ => ?_)
 simp (disch := omega) only [EL, ↓K3, ↓K1, reduceIte, Nat.reduceEqDiff, Nat.reduceAdd, Nat.reduceLeDiff, i0]
 refine (is_gp H R1 _).to fun v h2 q => ?_
 obtain ⟨rfl, m2⟩ := q
 have n2 := m2.next
 have R2 := R1.more m2
 have rc2 := (m2.keep h.next (by omega)).trans g1
 have c2 := (m1.trans m2).but r
 simp (disch := omega) only [EL, ↓K3, ↓K1, reduceIte, Nat.reduceEqDiff, Nat.reduceAdd, Nat.reduceLeDiff, i0]
 refine hQ _ ?_
 clear hQ Q1
 simp only [zAa]
 refine zAd (zAb fun Q1 hQ => ?_)
 simp (disch := omega) only [EL, ↓K3, ↓K1, reduceIte, Nat.reduceEqDiff, Nat.reduceAdd, Nat.reduceLeDiff, i0]
 obtain ⟨fst, hfst⟩ : ∃ b, b = isT ts en [40] i := ⟨_, rfl⟩
 rw [← hfst] at hy ⊢
 refine ((zIo H n).post R2 hd _ rfl (zAz hy hne)).mono (fun v h3 q => ?_) (fun v h3 e => ?_)
 rotate_left
 ·obtain ⟨p, er, hx, rfl, fr'⟩ := e
  rw [hx] at hy
  exact hQ _ ⟨p, er, hy.symm, rfl, MoreBut.trans c2 fr'⟩
 obtain ⟨lt, i, hx, li3, R3, b3, u, rfl, tr⟩ := q
 have hfk := field_kid hx
 rw [hx, zAt] at hy
 have n3 := b3.next
 have rc3 := (b3.keep h.next (by omega) (by omega)).trans rc2
 simp (disch := omega) only [EL, ↓K3, ↓K1, reduceIte, Nat.reduceEqDiff, Nat.reduceAdd, Nat.reduceLeDiff, i0]
 refine hQ _ ?_
 clear hQ Q1
 refine zBs fun h4 n4 g4 m4 => ?_
 obtain ⟨cb, gb, cb0⟩ := g4
 simp only [zAa]
 have R4 := R3.more m4
 have rc4 := (m4.keep h.next (by omega)).trans rc3
 have c4 := (c2.trans b3).trans (m4.but r)
 have tr4 : TreeR h4 (fun k => h.next < k ∧ k < h3.next) u lt := TreeR.keep m4.stay (fun k hk hl => ⟨by omega, hl⟩) tr
 have bad : ∀ (l : T AV) (h5 : AH) (Q : Res → Prop), l.get 0 = some (.ptr r 0) → RS ts en h5 r i d → MoreBut r h h5 → failP ts en i = y → (∀ v l' h6, erP y r h v h6 → Q (.pan v l' [] h6)) →
   WC tab (.ops [⟨.move (.l 0), none, none, []⟩, ⟨.callF 73 [.t 0], none, none, []⟩]) l [] h5 Q := by
  intro l h5 Q l0 R5 c5 hy hq
  refine zAb fun Q1 hQ => ?_
  simp (disch := omega) only [EL, ↓K3, ↓K1, reduceIte, Nat.reduceEqDiff, Nat.reduceAdd, Nat.reduceLeDiff, l0]
  refine (zEt H R5).mono (fun v h6 q => q.elim) fun v h6 q => ?_
  exact hQ _ (hq _ _ _ ⟨_, _, hy.symm, q.1, c5.trans (q.2.but r)⟩)
 obtain ⟨_, hle, _, _, _, _, c, tl, c0, c1', c2', c3', _, ta⟩ := id R4
 have hin : i - 1 < ts.length := by omega
 have hnow : now ts en (i - 1) = ts[i - 1] := zFz hin
 refine zAd ?_
 refine zAd ?_
 by_cases hf : fst = true ∧ (now ts en (i - 1)).text = [41]
 ·obtain ⟨hf1, hf2⟩ := hf
  rw [if_pos (by simp [hf1, hf2])] at hy
  rcases ta with ⟨rfl, _⟩ | ⟨ia, cc, s, cap, rfl, hid, gt, ct⟩
  ·cases hin
  obtain ⟨ct1, ct2, ct3⟩ := ct (i - 1) hin
  have et : ts[i - 1].text = [41] := by rw [← hnow]; exact hf2
  have hw : IntKind.i64.wrap ((i : Int) - ((1 : Nat) : Int)) = ((i - 1 : Nat) : Int) := zIq (by omega) (by have := R.ln; omega)
  rw [et] at ct2
  refine zAb fun Q1 hQ => ?_
  simp (disch := omega) only [EL, ↓K3, ↓K1, reduceIte, Nat.reduceEqDiff, Nat.reduceAdd, Nat.reduceLeDiff, i0, hf1, c0, c1', c2', hw, gt, ct2]
  refine hQ _ ?_
  clear hQ Q1
  simp only [zAa]
  refine zAq (by simp +decide only [EL, reduceIte]) ?_
  exact bad _ _ _ (by simp +decide only [EL, reduceIte, i0]) R4 c4 hy fun v l' h6 e => e
 ·rw [if_neg (by simpa using hf)] at hy
  have gb4 : h4.mem.get h3.next = some (.cells cb 1 none false) := gb
  obtain ⟨ui, rfl, hu1, hu2⟩ := tr4.ptr
  refine zAb fun Q1 hQ => ?_
  have hgo : ∀ l' : T AV, l'.get 0 = some (.ptr r 0) → l'.get 2 = some (.bool false) → l'.get 3 = some (.ptr h3.next 0) → l'.get 5 = some (.ptr h.next 0) → Q1 (.norm l' [] h4) := by
   intro l' e0 e2 e3 e5
   refine hQ _ ?_
   clear hQ Q1
   try simp only [zAa]
   refine wc_no (by simp +decide only [EL, reduceIte, e2]) ?_
   refine zAl ?_
   simp only [zAa]
   refine zAd ?_
   refine zAu ?_
   refine zAd (zAb fun Q1 hQ => ?_)
   simp (disch := omega) only [EL, ↓K3, ↓K1, reduceIte, Nat.reduceEqDiff, Nat.reduceAdd, Nat.reduceLeDiff, e3, gb4, cb0, zAe]
   refine (nop_gp H tr4).to fun v h5 q => ?_
   obtain ⟨rfl, m5⟩ := q
   have n5 := m5.next
   have R5 := R4.more m5
   have rc5 := (m5.keep h.next (by omega)).trans rc4
   have c5 := c4.trans (m5.but r)
   have gb5 := (m5.keep h3.next (by omega)).trans gb4
   have tr5 : TreeR h5 (fun k => h.next < k ∧ k < h3.next) (.ptr ui 0) lt := TreeR.keep m5.stay (fun k hk _ => hk) tr4
   have hgo2 : ∀ (l' : T AV) (h7 : AH), l'.get 0 = some (.ptr r 0) → l'.get 4 = some (.bool false) → l'.get 3 = some (.ptr h3.next 0) → l'.get 5 = some (.ptr h.next 0) → h4.next ≤ h7.next → RS ts en h7 r i d → h7.mem.get h.next = some (.cells (zAc [.nilp]) (llen [.nilp]) none false) → MoreBut r h h7 → h7.mem.get h3.next = some (.cells cb 1 none false) → TreeR h7 (fun k => h.next < k ∧ k < h3.next) (.ptr ui 0) lt →
     (if lt.op = 18 then
     (zA9 ts en [61] i d).bind fun x i d =>
      (exprS ts en n 1 i d).bind fun e i d => PR.ok (Tree.mk 8 lt.name [] 0 lt.pos [e]) i d
    else
     if lt.op = 20 then
      (zA9 ts en [61] i d).bind fun x i d =>
       (exprS ts en n 1 i d).bind fun e i d =>
        PR.ok (Tree.mk 9 lt.name [] 0 lt.pos [lt.kids.getD 0 (Tree.mk 0 [] [] 0 0 []), e]) i d
     else failP ts en i) = y → Q1 (.norm l' [] h7) := by
    clear gb5 tr5 R5 rc5 c5 m5 n5 rc4 c4 R4 m4 c0 c1' c2' c3' ta
    clear h5
    intro l' h7 e0 e4 e3 e5 n7 R7 rc7 c7 gb7 tr7 hy
    refine hQ _ ?_
    clear hQ Q1
    try simp only [zAa]
    refine wc_no (by simp +decide only [EL, reduceIte, e4]) ?_
    refine zAd (zAb fun Q1 hQ => ?_)
    simp (disch := omega) only [EL, ↓K3, ↓K1, reduceIte, Nat.reduceEqDiff, Nat.reduceAdd, Nat.reduceLeDiff, e3, gb7, cb0, zAe]
    refine (nop_gp H tr7).to fun v h8 q => ?_
    obtain ⟨rfl, m8⟩ := q
    have n8 := m8.next
    have R8 := R7.more m8
    have rc8 := (m8.keep h.next (by omega)).trans rc7
    have c8 := c7.trans (m8.but r)
    have gb8 := (m8.keep h3.next (by omega)).trans gb7
    have tr8 : TreeR h8 (fun k => h.next < k ∧ k < h3.next) (.ptr ui 0) lt := TreeR.keep m8.stay (fun k hk _ => hk) tr7
    by_cases o18 : lt.op = 18
    ·rw [if_pos o18] at hy
     simp (disch := omega) only [EL, ↓K3, ↓K1, reduceIte, Nat.reduceEqDiff, Nat.reduceAdd, Nat.reduceLeDiff, e0, o18]
     refine hQ _ ?_
     clear hQ Q1
     try simp only [zAa]
     refine zAq (by simp +decide only [EL, reduceIte]) ?_
     refine zAd (zAb fun Q1 hQ => ?_)
     simp (disch := omega) only [EL, ↓K3, ↓K1, reduceIte, Nat.reduceEqDiff, Nat.reduceAdd, Nat.reduceLeDiff, e0]
     refine (zBo H R8 _ _ rfl (zAz hy hne)).mono (fun v h9 q => ?_) (fun v h9 e => ?_)
     rotate_left
     ·obtain ⟨p, er, hx, rfl, fr'⟩ := e
      rw [hx] at hy
      exact hQ _ ⟨p, er, hy.symm, rfl, MoreBut.trans c8 fr'⟩
     obtain ⟨pp, i, hx, lib9, R9, b9, q⟩ := q
     rw [hx, zAt] at hy
     have nb9 := MoreBut.next b9
     have rc9 := (b9.keep h.next (by omega) (by omega)).trans rc8
     have gb9 := (b9.keep h3.next (by omega) (by omega)).trans gb8
     have tr9 : TreeR h9 (fun k => h.next < k ∧ k < h3.next) (.ptr ui 0) lt := TreeR.keep (b9.stay (by omega)) (fun k hk _ => hk) tr8
     have c9 := c8.trans b9
     simp (disch := omega) only [EL, ↓K3, ↓K1, reduceIte, Nat.reduceEqDiff, Nat.reduceAdd, Nat.reduceLeDiff]
     refine hQ _ ?_
     clear hQ Q1
     try simp only [zAa]
     refine zAd (zAb fun Q1 hQ => ?_)
     simp (disch := omega) only [EL, ↓K3, ↓K1, reduceIte, Nat.reduceEqDiff, Nat.reduceAdd, Nat.reduceLeDiff, e0, e3, gb9, cb0, zAe]
     refine (zIv H tr9).to fun v h10 q => ?_
     obtain ⟨rfl, m10⟩ := q
     have n10 := m10.next
     have R10 := R9.more m10
     have rc10 := (m10.keep h.next (by omega)).trans rc9
     have c10 := c9.trans (m10.but r)
     have gb10 := (m10.keep h3.next (by omega)).trans gb9
     have tr10 : TreeR h10 (fun k => h.next < k ∧ k < h3.next) (.ptr ui 0) lt := TreeR.keep m10.stay (fun k hk _ => hk) tr9
     simp (disch := omega) only [EL, ↓K3, ↓K1, reduceIte, Nat.reduceEqDiff, Nat.reduceAdd, Nat.reduceLeDiff, e3, zA7, zA8, gb10, cb0, zAe, zBj]
     refine (npos_gp H tr10).to fun v h11 q => ?_
     obtain ⟨rfl, m11⟩ := q
     have n11 := m11.next
     have R11 := R10.more m11
     have rc11 := (m11.keep h.next (by omega)).trans rc10
     have c11 := c10.trans (m11.but r)
     have gb11 := (m11.keep h3.next (by omega)).trans gb10
     have tr11 : TreeR h11 (fun k => h.next < k ∧ k < h3.next) (.ptr ui 0) lt := TreeR.keep m11.stay (fun k hk _ => hk) tr10
     simp (disch := omega) only [EL, ↓K3, ↓K1, reduceIte, Nat.reduceEqDiff, Nat.reduceAdd, Nat.reduceLeDiff, e0]
     refine ((zIo H n).expr 1 R11 hd (by omega) _ rfl (zAz hy hne)).mono (fun v h12 q => ?_) (fun v h12 e => ?_)
     rotate_left
     ·obtain ⟨p, er, hx, rfl, fr'⟩ := e
      rw [hx] at hy
      exact hQ _ ⟨p, er, hy.symm, rfl, MoreBut.trans c11 fr'⟩
     obtain ⟨e, i, hx, lib12, R12, b12, q⟩ := q
     rw [hx, zAt] at hy
     have nb12 := MoreBut.next b12
     obtain ⟨u, rfl, te⟩ := q
     obtain ⟨uj, rfl, hj1, hj2⟩ := te.ptr
     have rc12 := (b12.keep h.next (by omega) (by omega)).trans rc11
     have c12 := c11.trans b12
     simp (disch := omega) only [EL, ↓K3, ↓K1, reduceIte, Nat.reduceEqDiff, Nat.reduceAdd, Nat.reduceLeDiff]
     have m13 : More h12 (h12.add (.cells (zAc [.ptr uj 0]) 1 none false)) := More.add _ _
     have g13 : (h12.add (.cells (zAc [.ptr uj 0]) 1 none false)).mem.get h12.next = some (.cells (zAc [.ptr uj 0]) 1 none false) := by rw [AH.add_mem, T.get_put_self]
     have n13 : (h12.add (.cells (zAc [.ptr uj 0]) 1 none false)).next = h12.next + 1 := rfl
     generalize h12.add (.cells (zAc [.ptr uj 0]) 1 none false) = h13 at *
     have m14 : More h13 (h13.add (.cells (zAc [.int .i64 ((8 : Nat) : Int), sv lt.name, sv [], .int .i64 ((0 : Nat) : Int), .int .i64 (lt.pos : Int), .sl h12.next 0 1 (.known 1)]) 6 none false)) := More.add _ _
     have g14 : (h13.add (.cells (zAc [.int .i64 ((8 : Nat) : Int), sv lt.name, sv [], .int .i64 ((0 : Nat) : Int), .int .i64 (lt.pos : Int), .sl h12.next 0 1 (.known 1)]) 6 none false)).mem.get h13.next = some (.cells (zAc [.int .i64 ((8 : Nat) : Int), sv lt.name, sv [], .int .i64 ((0 : Nat) : Int), .int .i64 (lt.pos : Int), .sl h12.next 0 1 (.known 1)]) 6 none false) := by rw [AH.add_mem, T.get_put_self]
     have n14 : (h13.add (.cells (zAc [.int .i64 ((8 : Nat) : Int), sv lt.name, sv [], .int .i64 ((0 : Nat) : Int), .int .i64 (lt.pos : Int), .sl h12.next 0 1 (.known 1)]) 6 none false)).next = h13.next + 1 := rfl
     generalize h13.add (.cells (zAc [.int .i64 ((8 : Nat) : Int), sv lt.name, sv [], .int .i64 ((0 : Nat) : Int), .int .i64 (lt.pos : Int), .sl h12.next 0 1 (.known 1)]) 6 none false) = h14 at *
     have nc14 : NodeC h14 (h12.next + 1) 8 lt.name [] 0 lt.pos (.sl h12.next 0 1 (.known 1)) := ⟨_, by rw [← n13]; exact g14, rfl, rfl, rfl, rfl, rfl, rfl⟩
     have kd := zE4 (lo := h.next) (X := [h.next, h12.next + 1]) g13 (by omega) (by omega) (by simp; omega) (TreeR.keep m13.stay (fun k hk hl => ⟨by omega, by simp; omega, by omega⟩) te)
     have kd14 := kd.keep m14.stay
     have mm := m13.trans m14
     have rc14 := (mm.keep h.next (by omega)).trans rc12
     simp (disch := omega) only [EL, ↓K3, ↓K1, reduceIte, Nat.reduceEqDiff, Nat.reduceAdd, Nat.reduceLeDiff, e5, rc14]
     refine hQ _ ?_
     have o15 : Only h.next h14 (h14.set h.next (.cells (T.put (some (.ptr (h12.next + 1) 0)) (zAc [.nilp]) 0) 1 none false)) := Only.set
     have gc15 : (h14.set h.next (.cells (T.put (some (.ptr (h12.next + 1) 0)) (zAc [.nilp]) 0) 1 none false)).mem.get h.next = some (.cells (T.put (some (.ptr (h12.next + 1) 0)) (zAc [.nilp]) 0) 1 none false) := AH.get_set
     generalize h14.set h.next (.cells (T.put (some (.ptr (h12.next + 1) 0)) (zAc [.nilp]) 0) 1 none false) = h15 at *
     have n15 := o15.next
     refine zAj ?_
     try simp only [zAh, zAf]
     refine zA6 (id := h.next) (by simp +decide only [EL, reduceIte, e5]) gc15 (lst := [.ptr (h12.next + 1) 0]) (by rw [zAe, T.get_put_self]; rfl) ?_
     refine ⟨_, _, hy.symm, by omega, o15.rs (R12.more mm) (by omega), o15.mb (c12.trans (mm.but r)) (by omega), _, rfl, ?_⟩
     exact (kd14.keep (o15.stay (by simp))).tree2 (nc14.keep (o15.keep _ (by omega))) (by show h.next ≤ _; omega) (by omega) fun k hk _ => hk
    ·rw [if_neg o18] at hy
     have o18' : ¬ (lt.op : Int) = ((18 : Nat) : Int) := by omega
     simp (disch := omega) only [EL, ↓K3, ↓K1, reduceIte, Nat.reduceEqDiff, Nat.reduceAdd, Nat.reduceLeDiff, e0, o18']
     refine hQ _ ?_
     clear hQ Q1
     try simp only [zAa]
     refine wc_no (by simp +decide only [EL, reduceIte]) ?_
     refine zAd (zAb fun Q1 hQ => ?_)
     simp (disch := omega) only [EL, ↓K3, ↓K1, reduceIte, Nat.reduceEqDiff, Nat.reduceAdd, Nat.reduceLeDiff, e3, gb8, cb0, zAe]
     refine (nop_gp H tr8).to fun v h9 q => ?_
     obtain ⟨rfl, m9⟩ := q
     have n9 := m9.next
     have R9 := R8.more m9
     have rc9 := (m9.keep h.next (by omega)).trans rc8
     have c9 := c8.trans (m9.but r)
     have gb9 := (m9.keep h3.next (by omega)).trans gb8
     have tr9 : TreeR h9 (fun k => h.next < k ∧ k < h3.next) (.ptr ui 0) lt := TreeR.keep m9.stay (fun k hk _ => hk) tr8
     by_cases o20 : lt.op = 20
     ·rw [if_pos o20] at hy
      obtain ⟨k0, kr, hkk⟩ := hfk o20
      simp (disch := omega) only [EL, ↓K3, ↓K1, reduceIte, Nat.reduceEqDiff, Nat.reduceAdd, Nat.reduceLeDiff, e0, o20]
      refine hQ _ ?_
      clear hQ Q1
      try simp only [zAa]
      refine zAq (by simp +decide only [EL, reduceIte]) ?_
      refine zAd (zAb fun Q1 hQ => ?_)
      simp (disch := omega) only [EL, ↓K3, ↓K1, reduceIte, Nat.reduceEqDiff, Nat.reduceAdd, Nat.reduceLeDiff, e0]
      refine (zBo H R9 _ _ rfl (zAz hy hne)).mono (fun v h10 q => ?_) (fun v h10 e => ?_)
      rotate_left
      ·obtain ⟨p, er, hx, rfl, fr'⟩ := e
       rw [hx] at hy
       exact hQ _ ⟨p, er, hy.symm, rfl, MoreBut.trans c9 fr'⟩
      obtain ⟨pp, i, hx, lib10, R10, b10, q⟩ := q
      rw [hx, zAt] at hy
      have nb10 := MoreBut.next b10
      have rc10 := (b10.keep h.next (by omega) (by omega)).trans rc9
      have gb10 := (b10.keep h3.next (by omega) (by omega)).trans gb9
      have tr10 : TreeR h10 (fun k => h.next < k ∧ k < h3.next) (.ptr ui 0) lt := TreeR.keep (b10.stay (by omega)) (fun k hk _ => hk) tr9
      have c10 := c9.trans b10
      simp (disch := omega) only [EL, ↓K3, ↓K1, reduceIte, Nat.reduceEqDiff, Nat.reduceAdd, Nat.reduceLeDiff]
      refine hQ _ ?_
      clear hQ Q1
      try simp only [zAa]
      refine zAd (zAb fun Q1 hQ => ?_)
      simp (disch := omega) only [EL, ↓K3, ↓K1, reduceIte, Nat.reduceEqDiff, Nat.reduceAdd, Nat.reduceLeDiff, e0, e3, gb10, cb0, zAe]
      refine (zIv H tr10).to fun v h11 q => ?_
      obtain ⟨rfl, m11⟩ := q
      have n11 := m11.next
      have R11 := R10.more m11
      have rc11 := (m11.keep h.next (by omega)).trans rc10
      have c11 := c10.trans (m11.but r)
      have gb11 := (m11.keep h3.next (by omega)).trans gb10
      have tr11 : TreeR h11 (fun k => h.next < k ∧ k < h3.next) (.ptr ui 0) lt := TreeR.keep m11.stay (fun k hk _ => hk) tr10
      simp (disch := omega) only [EL, ↓K3, ↓K1, reduceIte, Nat.reduceEqDiff, Nat.reduceAdd, Nat.reduceLeDiff, e3, zA7, zA8, gb11, cb0, zAe, zBj]
      refine (npos_gp H tr11).to fun v h12 q => ?_
      obtain ⟨rfl, m12⟩ := q
      have n12 := m12.next
      have R12 := R11.more m12
      have rc12 := (m12.keep h.next (by omega)).trans rc11
      have c12 := c11.trans (m12.but r)
      have gb12 := (m12.keep h3.next (by omega)).trans gb11
      have tr12 : TreeR h12 (fun k => h.next < k ∧ k < h3.next) (.ptr ui 0) lt := TreeR.keep m12.stay (fun k hk _ => hk) tr11
      simp (disch := omega) only [EL, ↓K3, ↓K1, reduceIte, Nat.reduceEqDiff, Nat.reduceAdd, Nat.reduceLeDiff, e3, zA7, zA8, gb12, cb0, zAe, zBj]
      refine (nkid_gp H tr12 0).to fun v h13 q => ?_
      obtain ⟨m13, q⟩ := q
      have n13 := m13.next
      have R13 := R12.more m13
      have rc13 := (m13.keep h.next (by omega)).trans rc12
      have c13 := c12.trans (m13.but r)
      rcases q with ⟨j, hj, w, e1, rfl, tk⟩ | ⟨hb, _⟩
      rotate_left
      ·rw [hkk] at hb; simp at hb; omega
      obtain rfl : j = 0 := by omega
      have ek : lt.kids.getD 0 (Tree.mk 0 [] [] 0 0 []) = lt.kids[0] := by rw [List.getD_eq_getElem?_getD, List.getElem?_eq_getElem hj]; rfl
      rw [ek] at hy
      obtain ⟨uk, rfl, hk1, hk2⟩ := tk.ptr
      simp (disch := omega) only [EL, ↓K3, ↓K1, reduceIte, Nat.reduceEqDiff, Nat.reduceAdd, Nat.reduceLeDiff, e0]
      refine ((zIo H n).expr 1 R13 hd (by omega) _ rfl (zAz hy hne)).mono (fun v h14 q => ?_) (fun v h14 e => ?_)
      rotate_left
      ·obtain ⟨p, er, hx, rfl, fr'⟩ := e
       rw [hx] at hy
       exact hQ _ ⟨p, er, hy.symm, rfl, MoreBut.trans c13 fr'⟩
      obtain ⟨e, i, hx, lib14, R14, b14, q⟩ := q
      rw [hx, zAt] at hy
      have nb14 := MoreBut.next b14
      obtain ⟨u, rfl, te⟩ := q
      obtain ⟨uj, rfl, hj1, hj2⟩ := te.ptr
      have rc14 := (b14.keep h.next (by omega) (by omega)).trans rc13
      have tk14 : TreeR h14 (fun k => h.next < k ∧ k < h3.next) (.ptr uk 0) lt.kids[0] := TreeR.keep (b14.stay (by omega)) (fun k hk _ => hk) (TreeR.keep (G := fun k => h.next < k ∧ k < h3.next) m13.stay (fun k hk _ => hk) tk)
      have c14 := c13.trans b14
      simp (disch := omega) only [EL, ↓K3, ↓K1, reduceIte, Nat.reduceEqDiff, Nat.reduceAdd, Nat.reduceLeDiff]
      have m15 : More h14 (h14.add (.cells (zAc [.ptr uk 0, .ptr uj 0]) 2 none false)) := More.add _ _
      have g15 : (h14.add (.cells (zAc [.ptr uk 0, .ptr uj 0]) 2 none false)).mem.get h14.next = some (.cells (zAc [.ptr uk 0, .ptr uj 0]) 2 none false) := by rw [AH.add_mem, T.get_put_self]
      have n15 : (h14.add (.cells (zAc [.ptr uk 0, .ptr uj 0]) 2 none false)).next = h14.next + 1 := rfl
      generalize h14.add (.cells (zAc [.ptr uk 0, .ptr uj 0]) 2 none false) = h15 at *
      have m16 : More h15 (h15.add (.cells (zAc [.int .i64 ((9 : Nat) : Int), sv lt.name, sv [], .int .i64 ((0 : Nat) : Int), .int .i64 (lt.pos : Int), .sl h14.next 0 2 (.known 2)]) 6 none false)) := More.add _ _
      have g16 : (h15.add (.cells (zAc [.int .i64 ((9 : Nat) : Int), sv lt.name, sv [], .int .i64 ((0 : Nat) : Int), .int .i64 (lt.pos : Int), .sl h14.next 0 2 (.known 2)]) 6 none false)).mem.get h15.next = some (.cells (zAc [.int .i64 ((9 : Nat) : Int), sv lt.name, sv [], .int .i64 ((0 : Nat) : Int), .int .i64 (lt.pos : Int), .sl h14.next 0 2 (.known 2)]) 6 none false) := by rw [AH.add_mem, T.get_put_self]
      have n16 : (h15.add (.cells (zAc [.int .i64 ((9 : Nat) : Int), sv lt.name, sv [], .int .i64 ((0 : Nat) : Int), .int .i64 (lt.pos : Int), .sl h14.next 0 2 (.known 2)]) 6 none false)).next = h15.next + 1 := rfl
      generalize h15.add (.cells (zAc [.int .i64 ((9 : Nat) : Int), sv lt.name, sv [], .int .i64 ((0 : Nat) : Int), .int .i64 (lt.pos : Int), .sl h14.next 0 2 (.known 2)]) 6 none false) = h16 at *
      have nc16 : NodeC h16 (h14.next + 1) 9 lt.name [] 0 lt.pos (.sl h14.next 0 2 (.known 2)) := ⟨_, by rw [← n15]; exact g16, rfl, rfl, rfl, rfl, rfl, rfl⟩
      have kd := kids_of2 (lo := h.next) (X := [h.next, h14.next + 1]) g15 (by omega) (by omega) (by simp; omega) (TreeR.keep m15.stay (fun k hk hl => ⟨by omega, by simp; omega, by omega⟩) tk14) (TreeR.keep m15.stay (fun k hk hl => ⟨by omega, by simp; omega, by omega⟩) te)
      have kd16 := kd.keep m16.stay
      have mm := m15.trans m16
      have rc16 := (mm.keep h.next (by omega)).trans rc14
      simp (disch := omega) only [EL, ↓K3, ↓K1, reduceIte, Nat.reduceEqDiff, Nat.reduceAdd, Nat.reduceLeDiff, e5, rc16]
      refine hQ _ ?_
      have o17 : Only h.next h16 (h16.set h.next (.cells (T.put (some (.ptr (h14.next + 1) 0)) (zAc [.nilp]) 0) 1 none false)) := Only.set
      have gc17 : (h16.set h.next (.cells (T.put (some (.ptr (h14.next + 1) 0)) (zAc [.nilp]) 0) 1 none false)).mem.get h.next = some (.cells (T.put (some (.ptr (h14.next + 1) 0)) (zAc [.nilp]) 0) 1 none false) := AH.get_set
      generalize h16.set h.next (.cells (T.put (some (.ptr (h14.next + 1) 0)) (zAc [.nilp]) 0) 1 none false) = h17 at *
      have n17 := o17.next
      refine zAj ?_
      try simp only [zAh, zAf]
      refine zA6 (id := h.next) (by simp +decide only [EL, reduceIte, e5]) gc17 (lst := [.ptr (h14.next + 1) 0]) (by rw [zAe, T.get_put_self]; rfl) ?_
      refine ⟨_, _, hy.symm, by omega, o17.rs (R14.more mm) (by omega), o17.mb (c14.trans (mm.but r)) (by omega), _, rfl, ?_⟩
      exact (kd16.keep (o17.stay (by simp))).tree2 (nc16.keep (o17.keep _ (by omega))) (by show h.next ≤ _; omega) (by omega) fun k hk _ => hk
     ·rw [if_neg o20] at hy
      have o20' : ¬ (lt.op : Int) = ((20 : Nat) : Int) := by omega
      simp (disch := omega) only [EL, ↓K3, ↓K1, reduceIte, Nat.reduceEqDiff, Nat.reduceAdd, Nat.reduceLeDiff, e0, o20']
      refine hQ _ ?_
      clear hQ Q1
      try simp only [zAa]
      refine wc_no (by simp +decide only [EL, reduceIte]) ?_
      refine zAl ?_
      simp only [zAa, zAi]
      refine zAd (zAb fun Q1 hQ => ?_)
      simp (disch := omega) only [EL, ↓K3, ↓K1, reduceIte, Nat.reduceEqDiff, Nat.reduceAdd, Nat.reduceLeDiff, e0]
      refine (zEt H R9).mono (fun v h6 q => q.elim) fun v h6 q => ?_
      exact hQ _ ⟨_, _, hy.symm, q.1, c9.trans (q.2.but r)⟩
   by_cases o21 : lt.op = 21
   ·simp (disch := omega) only [EL, ↓K3, ↓K1, reduceIte, Nat.reduceEqDiff, Nat.reduceAdd, Nat.reduceLeDiff, e0, o21]
    refine (is_gp H R5 _).to fun v h6 q => ?_
    obtain ⟨rfl, m6⟩ := q
    have n6 := m6.next
    have R6 := R5.more m6
    have rc6 := (m6.keep h.next (by omega)).trans rc5
    have c6 := c5.trans (m6.but r)
    have gb6 := (m6.keep h3.next (by omega)).trans gb5
    have tr6 : TreeR h6 (fun k => h.next < k ∧ k < h3.next) (.ptr ui 0) lt := TreeR.keep m6.stay (fun k hk _ => hk) tr5
    cases hq : isT ts en [61] i with
    | true =>
     rw [if_neg (by simp [hq])] at hy
     simp (disch := omega) only [EL, ↓K3, ↓K1, reduceIte, Nat.reduceEqDiff, Nat.reduceAdd, Nat.reduceLeDiff, e0, hq]
     exact hgo2 _ h6 (by simp +decide only [EL, reduceIte, e0]) (by simp +decide only [EL, reduceIte]) (by simp +decide only [EL, reduceIte, e3]) (by simp +decide only [EL, reduceIte, e5]) (by omega) R6 rc6 c6 gb6 tr6 hy
    | false =>
     rw [if_pos (by simp [hq, o21])] at hy
     simp (disch := omega) only [EL, ↓K3, ↓K1, reduceIte, Nat.reduceEqDiff, Nat.reduceAdd, Nat.reduceLeDiff, e0, hq]
     clear hgo2
     refine hQ _ ?_
     clear hQ Q1
     try simp only [zAa]
     refine zAq (by simp +decide only [EL, reduceIte]) ?_
     refine zAd (zAb fun Q1 hQ => ?_)
     simp (disch := omega) only [EL, ↓K3, ↓K1, reduceIte, Nat.reduceEqDiff, Nat.reduceAdd, Nat.reduceLeDiff, e3, gb6, cb0, zAe]
     have m7 : More h6 (h6.add (.cells (zAc [.ptr ui 0]) 1 none false)) := More.add _ _
     have g7 : (h6.add (.cells (zAc [.ptr ui 0]) 1 none false)).mem.get h6.next = some (.cells (zAc [.ptr ui 0]) 1 none false) := by rw [AH.add_mem, T.get_put_self]
     have n7 : (h6.add (.cells (zAc [.ptr ui 0]) 1 none false)).next = h6.next + 1 := rfl
     generalize h6.add (.cells (zAc [.ptr ui 0]) 1 none false) = h7 at *
     have tr7 : TreeR h7 (fun k => h.next < k ∧ k < h3.next) (.ptr ui 0) lt := TreeR.keep m7.stay (fun k hk _ => hk) tr6
     have gb7 := (m7.keep h3.next (by omega)).trans gb6
     refine (npos_gp H tr7).to fun v h8 q => ?_
     obtain ⟨rfl, m8⟩ := q
     have n8 := m8.next
     have gb8 := (m8.keep h3.next (by omega)).trans gb7
     have tr8 : TreeR h8 (fun k => h.next < k ∧ k < h3.next) (.ptr ui 0) lt := TreeR.keep m8.stay (fun k hk _ => hk) tr7
     have g8 := (m8.keep h6.next (by omega)).trans g7
     simp (disch := omega) only [EL, ↓K3, ↓K1, reduceIte, Nat.reduceEqDiff, Nat.reduceAdd, Nat.reduceLeDiff, e3, zA7, zA8, gb8, cb0, zAe, zBj]
     refine (zDd H (kv := .sl h6.next 0 1 (.known 1)) (op := 14) (pos := lt.pos) (fun _ => rfl) rfl).to fun v h9 q => ?_
     obtain ⟨ia, rfl, i1, i2, nc, m9⟩ := q
     have n9 := m9.next
     have kd := zE4 (lo := h.next) (X := [h.next, ia]) g8 (by omega) (by omega) (by simp; omega) (TreeR.keep (Stay.refl _ _) (fun k hk hl => ⟨by omega, by simp; omega, by omega⟩) tr8)
     have kd9 := kd.keep m9.stay
     have mm := (m7.trans m8).trans m9
     have rc9 := (mm.keep h.next (by omega)).trans rc6
     simp (disch := omega) only [EL, ↓K3, ↓K1, reduceIte, Nat.reduceEqDiff, Nat.reduceAdd, Nat.reduceLeDiff, e5, rc9]
     refine hQ _ ?_
     have o17 : Only h.next h9 (h9.set h.next (.cells (T.put (some (.ptr ia 0)) (zAc [.nilp]) 0) 1 none false)) := Only.set
     have gc17 : (h9.set h.next (.cells (T.put (some (.ptr ia 0)) (zAc [.nilp]) 0) 1 none false)).mem.get h.next = some (.cells (T.put (some (.ptr ia 0)) (zAc [.nilp]) 0) 1 none false) := AH.get_set
     generalize h9.set h.next (.cells (T.put (some (.ptr ia 0)) (zAc [.nilp]) 0) 1 none false) = h17 at *
     have n17 := o17.next
     refine zAj ?_
     try simp only [zAh, zAf]
     refine zA6 (id := h.next) (by simp +decide only [EL, reduceIte, e5]) gc17 (lst := [.ptr ia 0]) (by rw [zAe, T.get_put_self]; rfl) ?_
     refine ⟨_, _, hy.symm, by omega, o17.rs (R6.more mm) (by omega), o17.mb (c6.trans (mm.but r)) (by omega), _, rfl, ?_⟩
     exact (kd9.keep (o17.stay (by simp))).tree2 (nc.keep (o17.keep _ (by omega))) (by show h.next ≤ _; omega) (by omega) fun k hk _ => hk
   ·have o21' : ¬ (lt.op : Int) = ((21 : Nat) : Int) := by omega
    rw [if_neg (by simp [o21])] at hy
    simp (disch := omega) only [EL, ↓K3, ↓K1, reduceIte, Nat.reduceEqDiff, Nat.reduceAdd, Nat.reduceLeDiff, e0, o21']
    exact hgo2 _ h5 (by simp +decide only [EL, reduceIte, e0]) (by simp +decide only [EL, reduceIte]) (by simp +decide only [EL, reduceIte, e3]) (by simp +decide only [EL, reduceIte, e5]) (by omega) R5 rc5 c5 gb5 tr5 hy
  cases hf1 : fst with
  | false =>
   simp (disch := omega) only [EL, ↓K3, ↓K1, reduceIte, Nat.reduceEqDiff, Nat.reduceAdd, Nat.reduceLeDiff, i0, hf1]
   exact hgo _ (by simp +decide only [EL, reduceIte, i0]) (by simp +decide only [EL, reduceIte]) (by simp +decide only [EL, reduceIte]) (by simp +decide only [EL, reduceIte])
  | true =>
   rcases ta with ⟨rfl, _⟩ | ⟨ia, cc, s, cap, rfl, hid, gt, ct⟩
   ·cases hin
   obtain ⟨ct1, ct2, ct3⟩ := ct (i - 1) hin
   have hw : IntKind.i64.wrap ((i : Int) - ((1 : Nat) : Int)) = ((i - 1 : Nat) : Int) := zIq (by omega) (by have := R.ln; omega)
   have et : ts[i - 1].text ≠ [41] := by rw [← hnow]; exact fun e => hf ⟨hf1, e⟩
   simp (disch := omega) only [EL, ↓K3, ↓K1, reduceIte, Nat.reduceEqDiff, Nat.reduceAdd, Nat.reduceLeDiff, i0, hf1, c0, c1', c2', hw, gt, ct2]
   exact hgo _ (by simp +decide only [EL, reduceIte, i0]) (by simp +decide only [EL, reduceIte, et]) (by simp +decide only [EL, reduceIte]) (by simp +decide only [EL, reduceIte])
end
end Go.Ev
namespace Go.Ev
open Go Go.Pa
section
variable {tab : Nat → Option AFunc} {h : AH} (H : PT tab) {ts : List Tok} {en r i d : Nat}
include H in
theorem simple_ge {n : Nat} (R : RS ts en h r i d) (hd : d ≤ 40) : GS tab 135 [.ptr r 0] ts en r i d h (zDc ts en n i d) fun t v h1 => okT t h.next v h1 := by
 intro y hy hne
 have i0 : zAg [.ptr r 0] = zAc [.ptr r 0] := rfl
 have hr := R.lt
 have f0 : ∀ (t : Tok) h', zB6 0 1 false (.c (tokV t)) .leaf [] h' = .val (.int .i64 (t.kind : Int)) h' := fun _ _ => rfl
 have f1 : ∀ (t : Tok) h', zB6 1 1 false (.c (tokV t)) .leaf [] h' = .val (sv t.text) h' := fun _ _ => rfl
 have f2 : ∀ (t : Tok) h', zB6 2 1 false (.c (tokV t)) .leaf [] h' = .val (.int .i64 (t.pos : Int)) h' := fun _ _ => rfl
 obtain ⟨z, hz⟩ : ∃ z, z = i := ⟨_, rfl⟩
 refine ge_of H.t135 rfl ?_
 refine zBi fun h1 n1 g1 m1 => ?_
 have R1 := R.more m1
 have rc1 := g1
 have c1 := m1.but r
 unfold zDc at hy
 refine zAd ?_
 refine zAu ?_
 refine zAd (zAb fun Q1 hQ => ?_)
 simp (disch := omega) only [EL, ↓K3, ↓K1, reduceIte, Nat.reduceEqDiff, Nat.reduceAdd, Nat.reduceLeDiff, i0]
 refine (is_gp H R1 _).to fun v h2 q => ?_
 obtain ⟨rfl, m2⟩ := q
 have n2 := m2.next
 have R2 := R1.more m2
 have rc2 := (m2.keep h.next (by omega)).trans rc1
 have c2 := c1.trans (m2.but r)
 simp (disch := omega) only [EL, ↓K3, ↓K1, reduceIte, Nat.reduceEqDiff, Nat.reduceAdd, Nat.reduceLeDiff]
 refine hQ _ ?_
 clear hQ Q1
 try simp only [zAa]
 cases hA : isT ts en [112, 114, 105, 110, 116] i with
 | true =>
  rw [hA, if_pos rfl] at hy
  refine zAq (by simp +decide only [EL, reduceIte, hA]) ?_
  refine zAd (zAb fun Q1 hQ => ?_)
  simp (disch := omega) only [EL, ↓K3, ↓K1, reduceIte, Nat.reduceEqDiff, Nat.reduceAdd, Nat.reduceLeDiff, i0]
  refine (zCg H R2 (is_lt hA)).to fun v h3 q => ?_
  obtain ⟨rfl, R3, b3⟩ := q
  have n3 := b3.next
  have rc3 := (b3.keep h.next (by omega) (by omega)).trans rc2
  have c3 := c2.trans b3
  simp (disch := omega) only [EL, ↓K3, ↓K1, reduceIte, Nat.reduceEqDiff, Nat.reduceAdd, Nat.reduceLeDiff, f2]
  refine hQ _ ?_
  clear hQ Q1
  try simp only [zAa]
  refine zAd (zAb fun Q1 hQ => ?_)
  simp (disch := omega) only [EL, ↓K3, ↓K1, reduceIte, Nat.reduceEqDiff, Nat.reduceAdd, Nat.reduceLeDiff, i0]
  refine ((zIo H n).brack R3 hd _ rfl (zAz hy hne)).mono (fun v h4 q => ?_) (fun v h4 e => ?_)
  rotate_left
  ·obtain ⟨p, er, hx, rfl, fr'⟩ := e
   rw [hx] at hy
   exact hQ _ ⟨p, er, hy.symm, rfl, MoreBut.trans c3 fr'⟩
  obtain ⟨e, i, hx, lib4, R4, b4, q⟩ := q
  rw [hx, zAt] at hy
  have nb4 := MoreBut.next b4
  obtain ⟨u, rfl, t4⟩ := q
  obtain ⟨ui, rfl, hu1, hu2⟩ := t4.ptr
  have rc4 := (b4.keep h.next (by omega) (by omega)).trans rc3
  have c4 := c3.trans b4
  simp (disch := omega) only [EL, ↓K3, ↓K1, reduceIte, Nat.reduceEqDiff, Nat.reduceAdd, Nat.reduceLeDiff]
  have m5 : More h4 (h4.add (.cells (zAc [.ptr ui 0]) 1 none false)) := More.add _ _
  have g5 : (h4.add (.cells (zAc [.ptr ui 0]) 1 none false)).mem.get h4.next = some (.cells (zAc [.ptr ui 0]) 1 none false) := by rw [AH.add_mem, T.get_put_self]
  have n5 : (h4.add (.cells (zAc [.ptr ui 0]) 1 none false)).next = h4.next + 1 := rfl
  generalize h4.add (.cells (zAc [.ptr ui 0]) 1 none false) = h5 at *
  refine (zDd H (kv := .sl h4.next 0 1 (.known 1)) (op := 12) (fun _ => rfl) rfl).to fun v h6 q => ?_
  obtain ⟨ia, rfl, i1, i2, nc, m6⟩ := q
  have n6 := m6.next
  have kd := zE4 (lo := h.next) (X := [h.next, ia]) g5 (by omega) (by omega) (by simp; omega) (TreeR.keep m5.stay (fun k hk hl => ⟨by omega, by simp; omega, by omega⟩) t4)
  have kd6 := kd.keep m6.stay
  have mm := m5.trans m6
  have rc6 := (mm.keep h.next (by omega)).trans rc4
  simp (disch := omega) only [EL, ↓K3, ↓K1, reduceIte, Nat.reduceEqDiff, Nat.reduceAdd, Nat.reduceLeDiff, i0, rc6]
  refine hQ _ ?_
  have o7 : Only h.next h6 (h6.set h.next (.cells (T.put (some (.ptr ia 0)) (zAc [.nilp]) 0) 1 none false)) := Only.set
  have gc7 : (h6.set h.next (.cells (T.put (some (.ptr ia 0)) (zAc [.nilp]) 0) 1 none false)).mem.get h.next = some (.cells (T.put (some (.ptr ia 0)) (zAc [.nilp]) 0) 1 none false) := AH.get_set
  generalize h6.set h.next (.cells (T.put (some (.ptr ia 0)) (zAc [.nilp]) 0) 1 none false) = h7 at *
  have n7 := o7.next
  refine zAj ?_
  try simp only [zAh, zAf]
  refine zA6 (id := h.next) (by simp +decide only [EL, reduceIte, i0]) gc7 (lst := [.ptr ia 0]) (by rw [zAe, T.get_put_self]; rfl) ?_
  refine ⟨_, _, hy.symm, by omega, o7.rs (R4.more mm) (by omega), o7.mb (c4.trans (mm.but r)) (by omega), _, rfl, ?_⟩
  exact (kd6.keep (o7.stay (by simp))).tree2 (nc.keep (o7.keep _ (by omega))) (by show h.next ≤ _; omega) (by omega) fun k hk _ => hk
 | false =>
 rw [hA, if_neg (by simp)] at hy
 refine wc_no (by simp +decide only [EL, reduceIte, hA]) ?_
 refine zAd (zAb fun Q1 hQ => ?_)
 simp (disch := omega) only [EL, ↓K3, ↓K1, reduceIte, Nat.reduceEqDiff, Nat.reduceAdd, Nat.reduceLeDiff, i0]
 refine (is_gp H R2 _).to fun v h3 q => ?_
 obtain ⟨rfl, m3⟩ := q
 have n3 := m3.next
 have R3 := R2.more m3
 have rc3 := (m3.keep h.next (by omega)).trans rc2
 have c3 := c2.trans (m3.but r)
 simp (disch := omega) only [EL, ↓K3, ↓K1, reduceIte, Nat.reduceEqDiff, Nat.reduceAdd, Nat.reduceLeDiff]
 refine hQ _ ?_
 clear hQ Q1
 try simp only [zAa]
 cases hB : isT ts en [114, 101, 116, 117, 114, 110] i with
 | true =>
  rw [hB, if_pos rfl] at hy
  refine zAq (by simp +decide only [EL, reduceIte, hB]) ?_
  refine zAd (zAb fun Q1 hQ => ?_)
  simp (disch := omega) only [EL, ↓K3, ↓K1, reduceIte, Nat.reduceEqDiff, Nat.reduceAdd, Nat.reduceLeDiff, i0]
  refine (zCg H R3 (is_lt hB)).to fun v h4 q => ?_
  obtain ⟨rfl, R4, b4⟩ := q
  have n4 := b4.next
  have rc4 := (b4.keep h.next (by omega) (by omega)).trans rc3
  have c4 := c3.trans b4
  simp (disch := omega) only [EL, ↓K3, ↓K1, reduceIte, Nat.reduceEqDiff, Nat.reduceAdd, Nat.reduceLeDiff, f2]
  refine (zDd H (kv := .nils) (op := 13) (fun _ => rfl) rfl).to fun v h5 q => ?_
  obtain ⟨ia, rfl, i1, i2, nc, m5⟩ := q
  have n5 := m5.next
  simp (disch := omega) only [EL, ↓K3, ↓K1, reduceIte, Nat.reduceEqDiff, Nat.reduceAdd, Nat.reduceLeDiff]
  refine hQ _ ?_
  clear hQ Q1
  refine zBs fun h6 n6 g6 m6 => ?_
  obtain ⟨cb, gb, cb0⟩ := g6
  simp only [zAa]
  have mm := m5.trans m6
  have R6 := R4.more mm
  have c6 := c4.trans (mm.but r)
  have nc6 := nc.keep (m6.keep ia i2)
  have rc6 := (mm.keep h.next (by omega)).trans rc4
  have bx6 : BoxN h6 h5.next ia := ⟨cb, gb, cb0⟩
  refine zAd ?_
  refine zAd (zAb fun Q1 hQ => ?_)
  simp (disch := omega) only [EL, ↓K3, ↓K1, reduceIte, Nat.reduceEqDiff, Nat.reduceAdd, Nat.reduceLeDiff, i0]
  refine (is_gp H R6 _).to fun v h7 q => ?_
  obtain ⟨rfl, m7⟩ := q
  have n7 := m7.next
  have R7 := R6.more m7
  have rc7 := (m7.keep h.next (by omega)).trans rc6
  have c7 := c6.trans (m7.but r)
  simp (disch := omega) only [EL, ↓K3, ↓K1, reduceIte, Nat.reduceEqDiff, Nat.reduceAdd, Nat.reduceLeDiff]
  refine hQ _ ?_
  clear hQ Q1
  try simp only [zAa]
  have bx7 := bx6.keep (m7.keep h5.next (by omega))
  have nc7 := nc6.keep (m7.keep ia (by omega))
  cases hC : isT ts en [59] (i + 1) with
  | true =>
   rw [hC, if_pos rfl] at hy
   refine wc_no (by simp +decide only [EL, reduceIte, hC, Bool.not_true]) ?_
   refine zAl ?_
   simp only [zAa]
   obtain ⟨cx, gx, cx0⟩ := bx7
   refine zI1 (b := h5.next) (rc := h.next) (by simp +decide only [EL, reduceIte]) gx cx0 (by simp +decide only [EL, reduceIte, i0]) rc7 (by rw [zAk]; rfl) fun h8 o8 hq => ?_
   have n8 := o8.next
   simp only [zAh, zAf]
   refine hq _ _ ⟨_, _, hy.symm, by omega, o8.rs R7 (by omega), o8.mb c7 (Nat.le_refl _), _, rfl, ?_⟩
   exact leafT (nc7.keep (o8.keep _ (by omega))) (by omega) (by omega)
  | false =>
   rw [hC, if_neg (by simp)] at hy
   refine zAq (by simp +decide only [EL, reduceIte, hC, Bool.not_false]) ?_
   refine zF4 (K := 6) (b := h5.next) (id := ia) (lo := h.next) (X := [h.next, h5.next, ia]) (r := r) (f := 134) (args := [.ptr r 0, .int .i64 ((1 : Nat) : Int)]) (by simp +decide only [EL, reduceIte, i0]) bx7 nc7 (Kids.nils (lo := h.next) (X := [h.next, h5.next, ia])) (by first | omega | simp) (by omega) (by intro k hk; simp at hk; omega) (by simp) (by simp) (by omega) (by omega) (by omega) (by omega) (fun tmp => ⟨.ptr r 0, by simp +decide only [EL, reduceIte, i0], by simp +decide only [EL, reduceIte, i0]⟩) ((zIo H n).expr 1 R7 hd (by omega) _ rfl (zAz hy hne)) (fun v h9 q => ?_) (fun v h9 e => ?_)
   rotate_left
   ·obtain ⟨p, er, hx, rfl, fr'⟩ := e
    rw [hx] at hy
    exact ⟨p, er, hy.symm, rfl, MoreBut.trans c7 fr'⟩
   obtain ⟨p, i, hx, li9, R9, b9, u, rfl, tr⟩ := q
   rw [hx, zAt] at hy
   have n9 := b9.next
   refine ⟨b9, u, p, rfl, tr, fun h10 kv' n10 keep nc10 k10 => ?_⟩
   have R10 := R9.keep n10 fun k hk => keep k (by have := R9.lt; omega) (.inl (by omega)) (by omega)
   have c10 : MoreBut r _ h10 := ⟨Nat.le_trans (MoreBut.trans c7 b9).next n10, fun k h1 h2 => by rw [keep k (by omega) (.inl (by omega)) (by omega)]; exact (MoreBut.trans c7 b9).keep k h1 h2⟩
   try simp only [zAa, zAi]
   have rc10 := (keep h.next (by omega) (.inr (by simp)) (by omega)).trans ((b9.keep h.next (by omega) (by omega)).trans rc7)
   have bx10 := bx7.keep ((keep h5.next (by omega) (.inr (by simp)) (by omega)).trans (b9.keep h5.next (by omega) (by omega)))
   obtain ⟨cx, gx, cx0⟩ := bx10
   refine zI1 (b := h5.next) (rc := h.next) (by simp +decide only [EL, reduceIte]) gx cx0 (by simp +decide only [EL, reduceIte, i0]) rc10 (by rw [zAk]; rfl) fun h8 o8 hq => ?_
   have n8 := o8.next
   simp only [zAh, zAf]
   refine hq _ _ ⟨_, _, hy.symm, by omega, o8.rs R10 (by omega), o8.mb c10 (Nat.le_refl _), _, rfl, ?_⟩
   exact (k10.keep (o8.stay (by simp))).tree2 (nc10.keep (o8.keep _ (by omega))) (by show h.next ≤ _; omega) (by omega) fun k hk _ => hk
 | false =>
 rw [hB, if_neg (by simp)] at hy
 refine wc_no (by simp +decide only [EL, reduceIte, hB]) ?_
 have last : ∀ (l : T AV) (h5 : AH) (Q1 : Res → Prop), l.get 0 = some (.ptr r 0) → l.get 3 = some (.ptr h.next 0) → RS ts en h5 r i d → h5.mem.get h.next = some (.cells (zAc [.nilp]) 1 none false) → MoreBut r h h5 → h1.next ≤ h5.next → zC4 ts en n i d = y →
   (∀ l' h6, zDv [.cellN 1 (.l 3)] (okP y ts en r i d h fun t v h1 => okT t h.next v h1) (erP y r h) (.ret l' [] h6) → Q1 (.ret l' [] h6)) → (∀ v l' h6, erP y r h v h6 → Q1 (.pan v l' [] h6)) →
   WC tab (.seq (.ops [⟨.move (.l 0), none, none, []⟩, ⟨.callF 156 [.t 0], none, none, []⟩, ⟨.store 1 (.l 3) (.t 0), none, none, []⟩]) .ret) l [] h5 Q1 := by
  intro l h5 Q l0 l3 R5 rc5 c5 n15 hk hret hpan
  refine zAd (zAb fun Q1 hQ => ?_)
  simp (disch := omega) only [EL, ↓K3, ↓K1, reduceIte, Nat.reduceEqDiff, Nat.reduceAdd, Nat.reduceLeDiff, l0]
  refine (change_ge H R5 hd y hk hne).mono (fun v h6 q => ?_) (fun v h6 e => ?_)
  rotate_left
  ·obtain ⟨p, er, hx, rfl, fr'⟩ := e
   exact hQ _ (hpan _ _ _ ⟨p, er, hx, rfl, MoreBut.trans c5 fr'⟩)
  obtain ⟨t, i', hx, li, R6, b6, u, rfl, tr⟩ := q
  have n5 := c5.next
  have n6 := b6.next
  have rc6 := (b6.keep h.next (by omega) (by omega)).trans rc5
  refine ⟨rfl, ?_⟩
  refine zFy (rc := h.next) (by simp +decide only [EL, reduceIte, l3]) rc6 (by rw [zAk]; rfl) fun h7 o7 g7 => hQ _ ?_
  obtain ⟨c7, gc7, gc70⟩ := g7
  refine zAj (hret _ _ (zA6 (id := h.next) (by simp +decide only [EL, reduceIte, l3]) gc7 (lst := [u]) (by rw [zAe, gc70]; rfl) ⟨t, i', hx, by omega, o7.rs R6 (by omega), o7.mb (c5.trans b6) (by omega), _, rfl, ?_⟩))
  exact TreeR.keep (o7.stay (F := fun k => h5.next ≤ k) (by omega)) (fun k hk _ => by show h.next ≤ k; omega) tr
 refine zAd (zAb fun Q1 hQ => ?_)
 simp (disch := omega) only [EL, ↓K3, ↓K1, reduceIte, Nat.reduceEqDiff, Nat.reduceAdd, Nat.reduceLeDiff, i0]
 refine (zHm H R3).to fun v h4 q => ?_
 obtain ⟨rfl, m4⟩ := q
 have n4 := m4.next
 have R4 := R3.more m4
 have rc4 := (m4.keep h.next (by omega)).trans rc3
 have c4 := c3.trans (m4.but r)
 have nochange : ¬ ((now ts en i).kind = 1 ∧ (now ts en (i + 1)).kind = 4 ∧ (now ts en (i + 1)).text = [58, 61]) → ∀ (l' : T AV) (h7 : AH), l'.get 0 = some (.ptr r 0) → l'.get 7 = some (.bool false) → l'.get 3 = some (.ptr h.next 0) → RS ts en h7 r i d → h7.mem.get h.next = some (.cells (zAc [.nilp]) 1 none false) → MoreBut r h h7 → h1.next ≤ h7.next → Q1 (.norm l' [] h7) := by
  intro hno l' h7 e0 e7 e3 R7 rc7 c7 n7
  rw [if_neg hno] at hy
  refine hQ _ ?_
  clear hQ Q1
  try simp only [zAa]
  refine wc_no (by simp +decide only [EL, reduceIte, e7]) ?_
  refine zAl ?_
  simp only [zAa, zAi]
  refine last _ _ _ e0 e3 R7 rc7 c7 n7 hy (fun l' h6 q => ?_) (fun v l' h6 e => ?_)
  ·try simp only [zAh, zAf]
   exact q
  ·try simp only [zC7, zCo]
   exact e
 by_cases k1 : (now ts en i).kind = 1
 rotate_left
 ·have k1' : ¬ ((now ts en i).kind : Int) = ((1 : Nat) : Int) := by omega
  simp (disch := omega) only [EL, ↓K3, ↓K1, reduceIte, Nat.reduceEqDiff, Nat.reduceAdd, Nat.reduceLeDiff, i0, f0, k1']
  exact nochange (fun e => k1 e.1) _ _ (by simp +decide only [EL, reduceIte, i0]) (by simp +decide only [EL, reduceIte]) (by simp +decide only [EL, reduceIte]) R4 rc4 c4 (by omega)
 simp (disch := omega) only [EL, ↓K3, ↓K1, reduceIte, Nat.reduceEqDiff, Nat.reduceAdd, Nat.reduceLeDiff, i0, f0, k1]
 refine (ahead_gp H R4).to fun v h5 q => ?_
 obtain ⟨rfl, m5⟩ := q
 have n5 := m5.next
 have R5 := R4.more m5
 have rc5 := (m5.keep h.next (by omega)).trans rc4
 have c5 := c4.trans (m5.but r)
 by_cases k4 : (now ts en (i + 1)).kind = 4
 rotate_left
 ·have k4' : ¬ ((now ts en (i + 1)).kind : Int) = ((4 : Nat) : Int) := by omega
  simp (disch := omega) only [EL, ↓K3, ↓K1, reduceIte, Nat.reduceEqDiff, Nat.reduceAdd, Nat.reduceLeDiff, i0, f0, k4']
  exact nochange (fun e => k4 e.2.1) _ _ (by simp +decide only [EL, reduceIte, i0]) (by simp +decide only [EL, reduceIte]) (by simp +decide only [EL, reduceIte]) R5 rc5 c5 (by omega)
 simp (disch := omega) only [EL, ↓K3, ↓K1, reduceIte, Nat.reduceEqDiff, Nat.reduceAdd, Nat.reduceLeDiff, i0, f0, k4]
 refine (ahead_gp H R5).to fun v h6 q => ?_
 obtain ⟨rfl, m6⟩ := q
 have n6 := m6.next
 have R6 := R5.more m6
 have rc6 := (m6.keep h.next (by omega)).trans rc5
 have c6 := c5.trans (m6.but r)
 by_cases kt : (now ts en (i + 1)).text = [58, 61]
 rotate_left
 ·simp (disch := omega) only [EL, ↓K3, ↓K1, reduceIte, Nat.reduceEqDiff, Nat.reduceAdd, Nat.reduceLeDiff, i0, f1, kt]
  exact nochange (fun e => kt e.2.2) _ _ (by simp +decide only [EL, reduceIte, i0]) (by simp +decide only [EL, reduceIte]) (by simp +decide only [EL, reduceIte]) R6 rc6 c6 (by omega)
 rw [if_pos ⟨k1, k4, kt⟩] at hy
 simp (disch := omega) only [EL, ↓K3, ↓K1, reduceIte, Nat.reduceEqDiff, Nat.reduceAdd, Nat.reduceLeDiff, i0, f1, kt]
 clear nochange
 refine hQ _ ?_
 clear hQ Q1
 try simp only [zAa]
 refine zAq (by simp +decide only [EL, reduceIte]) ?_
 have hi1 : i + 1 < ts.length := by
  rcases Nat.lt_or_ge (i + 1) ts.length with h | h
  ·exact h
  ·rw [zCd (by omega)] at k4; cases k4
 refine zAd (zAb fun Q1 hQ => ?_)
 simp (disch := omega) only [EL, ↓K3, ↓K1, reduceIte, Nat.reduceEqDiff, Nat.reduceAdd, Nat.reduceLeDiff, i0]
 refine (zCg H R6 (by omega)).to fun v h7 q => ?_
 obtain ⟨rfl, R7, b7⟩ := q
 have n7 := b7.next
 have rc7 := (b7.keep h.next (by omega) (by omega)).trans rc6
 have c7 := c6.trans b7
 simp (disch := omega) only [EL, ↓K3, ↓K1, reduceIte, Nat.reduceEqDiff, Nat.reduceAdd, Nat.reduceLeDiff]
 refine hQ _ ?_
 clear hQ Q1
 refine zC8 fun h8 n8 g8 m8 => ?_
 obtain ⟨ct, gt, k0, k1, k2⟩ := g8
 simp only [zAa]
 have R8 := R7.more m8
 have rc8 := (m8.keep h.next (by omega)).trans rc7
 have c8 := c7.trans (m8.but r)
 refine zAd (zAb fun Q1 hQ => ?_)
 simp (disch := omega) only [EL, ↓K3, ↓K1, reduceIte, Nat.reduceEqDiff, Nat.reduceAdd, Nat.reduceLeDiff, i0]
 refine (zCg H R8 hi1).to fun v h9 q => ?_
 obtain ⟨rfl, R9, b9⟩ := q
 have n9 := b9.next
 have rc9 := (b9.keep h.next (by omega) (by omega)).trans rc8
 have c9 := c8.trans b9
 have gt9 := (b9.keep h7.next (by omega) (by omega)).trans gt
 simp (disch := omega) only [EL, ↓K3, ↓K1, reduceIte, Nat.reduceEqDiff, Nat.reduceAdd, Nat.reduceLeDiff]
 refine hQ _ ?_
 clear hQ Q1
 try simp only [zAa]
 refine zAd (zAb fun Q1 hQ => ?_)
 simp (disch := omega) only [EL, ↓K3, ↓K1, reduceIte, Nat.reduceEqDiff, Nat.reduceAdd, Nat.reduceLeDiff, i0, gt9, k0, k1, k2, zAe]
 obtain rfl := hz
 refine ((zIo H n).expr 1 R9 hd (by omega) _ rfl (zAz hy hne)).mono (fun v h10 q => ?_) (fun v h10 e => ?_)
 rotate_left
 ·obtain ⟨p, er, hx, rfl, fr'⟩ := e
  rw [hx] at hy
  exact hQ _ ⟨p, er, hy.symm, rfl, MoreBut.trans c9 fr'⟩
 obtain ⟨e, i, hx, lib10, R10, b10, q⟩ := q
 rw [hx, zAt] at hy
 have nb10 := MoreBut.next b10
 obtain ⟨u, rfl, t10⟩ := q
 obtain ⟨ui, rfl, hu1, hu2⟩ := t10.ptr
 have rc10 := (b10.keep h.next (by omega) (by omega)).trans rc9
 have c10 := c9.trans b10
 have gt10 := (b10.keep h7.next (by omega) (by omega)).trans gt9
 simp (disch := omega) only [EL, ↓K3, ↓K1, reduceIte, Nat.reduceEqDiff, Nat.reduceAdd, Nat.reduceLeDiff, zA7, zA8, gt10, k0, k1, k2, zAe]
 have m11 : More h10 (h10.add (.cells (zAc [.ptr ui 0]) 1 none false)) := More.add _ _
 have g11 : (h10.add (.cells (zAc [.ptr ui 0]) 1 none false)).mem.get h10.next = some (.cells (zAc [.ptr ui 0]) 1 none false) := by rw [AH.add_mem, T.get_put_self]
 have n11 : (h10.add (.cells (zAc [.ptr ui 0]) 1 none false)).next = h10.next + 1 := rfl
 generalize h10.add (.cells (zAc [.ptr ui 0]) 1 none false) = h11 at *
 refine (zGe H (t := now ts en z) (kv := .sl h10.next 0 1 (.known 1)) (op := 7) (fun _ => rfl) rfl).to fun v h12 q => ?_
 obtain ⟨ia, rfl, i1, i2, nc, m12⟩ := q
 have n12 := m12.next
 have kd := zE4 (lo := h.next) (X := [h.next, ia]) g11 (by omega) (by omega) (by simp; omega) (TreeR.keep m11.stay (fun k hk hl => ⟨by omega, by simp; omega, by omega⟩) t10)
 have kd12 := kd.keep m12.stay
 have mm := m11.trans m12
 have rc12 := (mm.keep h.next (by omega)).trans rc10
 simp (disch := omega) only [EL, ↓K3, ↓K1, reduceIte, Nat.reduceEqDiff, Nat.reduceAdd, Nat.reduceLeDiff, i0, rc12]
 refine hQ _ ?_
 have o13 : Only h.next h12 (h12.set h.next (.cells (T.put (some (.ptr ia 0)) (zAc [.nilp]) 0) 1 none false)) := Only.set
 have gc13 : (h12.set h.next (.cells (T.put (some (.ptr ia 0)) (zAc [.nilp]) 0) 1 none false)).mem.get h.next = some (.cells (T.put (some (.ptr ia 0)) (zAc [.nilp]) 0) 1 none false) := AH.get_set
 generalize h12.set h.next (.cells (T.put (some (.ptr ia 0)) (zAc [.nilp]) 0) 1 none false) = h13 at *
 have n13 := o13.next
 refine zAj ?_
 try simp only [zAh, zAf]
 refine zA6 (id := h.next) (by simp +decide only [EL, reduceIte, i0]) gc13 (lst := [.ptr ia 0]) (by rw [zAe, T.get_put_self]; rfl) ?_
 refine ⟨_, _, hy.symm, by omega, o13.rs (R10.more mm) (by omega), o13.mb (c10.trans (mm.but r)) (by omega), _, rfl, ?_⟩
 exact (kd12.keep (o13.stay (by simp))).tree2 (nc.keep (o13.keep _ (by omega))) (by show h.next ≤ _; omega) (by omega) fun k hk _ => hk
end
end Go.Ev
