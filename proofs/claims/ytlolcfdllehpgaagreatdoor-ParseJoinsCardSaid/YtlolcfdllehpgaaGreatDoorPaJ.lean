/- PaW18 PaW19 PaW20 PaW21 EvDf -/
import Derived.Test.YtlolcfdllehpgaaGreatDoorPaI
import Derived.Test.YtlolcfdllehpgaaGreatDoorPaG
set_option linter.unusedSimpArgs false
set_option linter.unusedVariables false
set_option linter.unusedSectionVars false
set_option linter.defProp false
set_option maxRecDepth 100000
set_option maxHeartbeats 4000000
namespace Go.Ev
open Go Go.Pa
section
variable {tab : Nat → Option AFunc} {h : AH} (H : PT tab) {ts : List Tok} {en r i d : Nat}
include H in
theorem change_ge {n : Nat} (R : RS ts en h r i d) (hd : d ≤ 40) : GS tab 156 [.ptr r 0] ts en r i d h (zCj ts en n i d) fun t v h1 => okT t h.next v h1 := by
 intro y hy hne
 have i0 : zAh [.ptr r 0] = zAd [.ptr r 0] := rfl
 have e0 : (AV.str 0 0) = sv [] := rfl
 have hr := R.lt
 obtain ⟨z, hz⟩ : ∃ z, z = i := ⟨_, rfl⟩
 refine ge_of H.t156 rfl ?_
 refine zBk fun h1 n1 g1 m1 => ?_
 have R1 := R.more m1
 unfold zCj at hy
 refine zAc (zAb fun Q1 hQ => ?_)
 simp (disch := omega) only [EL, ↓K3, ↓K1, reduceIte, Nat.reduceEqDiff, Nat.reduceAdd, Nat.reduceLeDiff, i0]
 refine (is_gp H R1 _).to fun v h2 q => ?_
 obtain ⟨rfl, m2⟩ := q
 have n2 := m2.next
 have R2 := R1.more m2
 have rc2 := (m2.keep h.next (by omega)).trans g1
 have c2 := (m1.trans m2).but r
 simp (disch := omega) only [EL, ↓K3, ↓K1, reduceIte, Nat.reduceEqDiff, Nat.reduceAdd, Nat.reduceLeDiff, i0]
 refine hQ _ ?_
 clear hQ Q1
 simp only [zAa]
 refine zAc (zAb fun Q1 hQ => ?_)
 simp (disch := omega) only [EL, ↓K3, ↓K1, reduceIte, Nat.reduceEqDiff, Nat.reduceAdd, Nat.reduceLeDiff, i0]
 obtain ⟨fst, hfst⟩ : ∃ b, b = isT ts en [40] i := ⟨_, rfl⟩
 rw [← hfst] at hy ⊢
 refine ((zIr H n).post R2 hd _ rfl (zA2 hy hne)).mono (fun v h3 q => ?_) (fun v h3 e => ?_)
 rotate_left
 ·obtain ⟨p, er, hx, rfl, fr'⟩ := e
  rw [hx] at hy
  exact hQ _ ⟨p, er, hy.symm, rfl, MoreBut.trans c2 fr'⟩
 obtain ⟨lt, i, hx, li3, R3, b3, u, rfl, tr⟩ := q
 have hfk := field_kid hx
 rw [hx, zAv] at hy
 have n3 := b3.next
 have rc3 := (b3.keep h.next (by omega) (by omega)).trans rc2
 simp (disch := omega) only [EL, ↓K3, ↓K1, reduceIte, Nat.reduceEqDiff, Nat.reduceAdd, Nat.reduceLeDiff, i0]
 refine hQ _ ?_
 clear hQ Q1
 refine zBp fun h4 n4 g4 m4 => ?_
 obtain ⟨cb, gb, cb0⟩ := g4
 simp only [zAa]
 have R4 := R3.more m4
 have rc4 := (m4.keep h.next (by omega)).trans rc3
 have c4 := (c2.trans b3).trans (m4.but r)
 have tr4 : TreeR h4 (fun k => h.next < k ∧ k < h3.next) u lt := TreeR.keep m4.stay (fun k hk hl => ⟨by omega, hl⟩) tr
 have bad : ∀ (l : T AV) (h5 : AH) (Q : Res → Prop), l.get 0 = some (.ptr r 0) → RS ts en h5 r i d → MoreBut r h h5 → failP ts en i = y → (∀ v l' h6, erP y r h v h6 → Q (.pan v l' [] h6)) →
   WC tab (.ops [⟨.move (.l 0), none, none, []⟩, ⟨.callF 73 [.t 0], none, none, []⟩]) l [] h5 Q := by
  intro l h5 Q l0 R5 c5 hy hq
  refine zAb fun Q1 hQ => ?_
  simp (disch := omega) only [EL, ↓K3, ↓K1, reduceIte, Nat.reduceEqDiff, Nat.reduceAdd, Nat.reduceLeDiff, l0]
  refine (zEr H R5).mono (fun v h6 q => q.elim) fun v h6 q => ?_
  exact hQ _ (hq _ _ _ ⟨_, _, hy.symm, q.1, c5.trans (q.2.but r)⟩)
 obtain ⟨_, hle, _, _, _, _, c, tl, c0, c1', c2', c3', _, ta⟩ := id R4
 have hin : i - 1 < ts.length := by omega
 have hnow : now ts en (i - 1) = ts[i - 1] := zHm hin
 refine zAc ?_
 refine zAc ?_
 by_cases hf : fst = true ∧ (now ts en (i - 1)).text = [41]
 ·obtain ⟨hf1, hf2⟩ := hf
  rw [if_pos (by simp [hf1, hf2])] at hy
  rcases ta with ⟨rfl, _⟩ | ⟨ia, cc, s, cap, rfl, hid, gt, ct⟩
  ·cases hin
  obtain ⟨ct1, ct2, ct3⟩ := ct (i - 1) hin
  have et : ts[i - 1].text = [41] := by rw [← hnow]; exact hf2
  have hw : IntKind.i64.wrap ((i : Int) - ((1 : Nat) : Int)) = ((i - 1 : Nat) : Int) := zHe (by omega) (by have := R.ln; omega)
  rw [et] at ct2
  refine zAb fun Q1 hQ => ?_
  simp (disch := omega) only [EL, ↓K3, ↓K1, reduceIte, Nat.reduceEqDiff, Nat.reduceAdd, Nat.reduceLeDiff, i0, hf1, c0, c1', c2', hw, gt, ct2]
  refine hQ _ ?_
  clear hQ Q1
  simp only [zAa]
  refine zAt (by simp +decide only [EL, reduceIte]) ?_
  exact bad _ _ _ (by simp +decide only [EL, reduceIte, i0]) R4 c4 hy fun v l' h6 e => e
 ·rw [if_neg (by simpa using hf)] at hy
  have gb4 : h4.mem.get h3.next = some (.cells cb 1 none false) := gb
  obtain ⟨ui, rfl, hu1, hu2⟩ := tr4.ptr
  refine zAb fun Q1 hQ => ?_
  have hgo : ∀ l' : T AV, l'.get 0 = some (.ptr r 0) → l'.get 2 = some (.bool false) → l'.get 3 = some (.ptr h3.next 0) → l'.get 5 = some (.ptr h.next 0) → Q1 (.norm l' [] h4) := by
   intro l' e0 e2 e3 e5
   refine hQ _ ?_
   clear hQ Q1
   simp only [zAa]
   refine wc_no (by simp +decide only [EL, reduceIte, e2]) ?_
   refine zAm ?_
   simp only [zAa]
   refine zAc ?_
   refine zAy ?_
   refine zAc (zAb fun Q1 hQ => ?_)
   simp (disch := omega) only [EL, ↓K3, ↓K1, reduceIte, Nat.reduceEqDiff, Nat.reduceAdd, Nat.reduceLeDiff, e3, gb4, cb0, zAe]
   refine (nop_gp H tr4).to fun v h5 q => ?_
   obtain ⟨rfl, m5⟩ := q
   have n5 := m5.next
   have R5 := R4.more m5
   have rc5 := (m5.keep h.next (by omega)).trans rc4
   have c5 := c4.trans (m5.but r)
   have gb5 := (m5.keep h3.next (by omega)).trans gb4
   have tr5 : TreeR h5 (fun k => h.next < k ∧ k < h3.next) (.ptr ui 0) lt := TreeR.keep m5.stay (fun k hk _ => hk) tr4
   have hgo2 : ∀ (l' : T AV) (h7 : AH), l'.get 0 = some (.ptr r 0) → l'.get 4 = some (.bool false) → l'.get 3 = some (.ptr h3.next 0) → l'.get 5 = some (.ptr h.next 0) → h4.next ≤ h7.next → RS ts en h7 r i d → h7.mem.get h.next = some (.cells (zAd [.nilp]) (llen [.nilp]) none false) → MoreBut r h h7 → h7.mem.get h3.next = some (.cells cb 1 none false) → TreeR h7 (fun k => h.next < k ∧ k < h3.next) (.ptr ui 0) lt →
     (if lt.op = 18 then
     (zBb ts en [61] i d).bind fun x i d =>
      (exprS ts en n 1 i d).bind fun e i d => PR.ok (Tree.mk 8 lt.name [] 0 lt.pos [e]) i d
    else
     if lt.op = 20 then
      (zBb ts en [61] i d).bind fun x i d =>
       (exprS ts en n 1 i d).bind fun e i d =>
        PR.ok (Tree.mk 9 lt.name [] 0 lt.pos [lt.kids.getD 0 (Tree.mk 0 [] [] 0 0 []), e]) i d
     else failP ts en i) = y → Q1 (.norm l' [] h7) := by
    clear gb5 tr5 R5 rc5 c5 m5 n5 rc4 c4 R4 m4 c0 c1' c2' c3' ta
    clear h5
    intro l' h7 e0 e4 e3 e5 n7 R7 rc7 c7 gb7 tr7 hy
    refine hQ _ ?_
    clear hQ Q1
    simp only [zAa]
    refine wc_no (by simp +decide only [EL, reduceIte, e4]) ?_
    refine zAc (zAb fun Q1 hQ => ?_)
    simp (disch := omega) only [EL, ↓K3, ↓K1, reduceIte, Nat.reduceEqDiff, Nat.reduceAdd, Nat.reduceLeDiff, e3, gb7, cb0, zAe]
    refine (nop_gp H tr7).to fun v h8 q => ?_
    obtain ⟨rfl, m8⟩ := q
    have n8 := m8.next
    have R8 := R7.more m8
    have rc8 := (m8.keep h.next (by omega)).trans rc7
    have c8 := c7.trans (m8.but r)
    have gb8 := (m8.keep h3.next (by omega)).trans gb7
    have tr8 : TreeR h8 (fun k => h.next < k ∧ k < h3.next) (.ptr ui 0) lt := TreeR.keep m8.stay (fun k hk _ => hk) tr7
    by_cases o18 : lt.op = 18
    ·rw [if_pos o18] at hy
     simp (disch := omega) only [EL, ↓K3, ↓K1, reduceIte, Nat.reduceEqDiff, Nat.reduceAdd, Nat.reduceLeDiff, e0, o18]
     refine hQ _ ?_
     clear hQ Q1
     simp only [zAa]
     refine zAt (by simp +decide only [EL, reduceIte]) ?_
     refine zAc (zAb fun Q1 hQ => ?_)
     simp (disch := omega) only [EL, ↓K3, ↓K1, reduceIte, Nat.reduceEqDiff, Nat.reduceAdd, Nat.reduceLeDiff, e0]
     refine (zBs H R8 _ _ rfl (zA2 hy hne)).mono (fun v h9 q => ?_) (fun v h9 e => ?_)
     rotate_left
     ·obtain ⟨p, er, hx, rfl, fr'⟩ := e
      rw [hx] at hy
      exact hQ _ ⟨p, er, hy.symm, rfl, MoreBut.trans c8 fr'⟩
     obtain ⟨pp, i, hx, lib9, R9, b9, q⟩ := q
     rw [hx, zAv] at hy
     have nb9 := MoreBut.next b9
     have rc9 := (b9.keep h.next (by omega) (by omega)).trans rc8
     have gb9 := (b9.keep h3.next (by omega) (by omega)).trans gb8
     have tr9 : TreeR h9 (fun k => h.next < k ∧ k < h3.next) (.ptr ui 0) lt := TreeR.keep (b9.stay (by omega)) (fun k hk _ => hk) tr8
     have c9 := c8.trans b9
     simp (disch := omega) only [EL, ↓K3, ↓K1, reduceIte, Nat.reduceEqDiff, Nat.reduceAdd, Nat.reduceLeDiff]
     refine hQ _ ?_
     clear hQ Q1
     simp only [zAa]
     refine zAc (zAb fun Q1 hQ => ?_)
     simp (disch := omega) only [EL, ↓K3, ↓K1, reduceIte, Nat.reduceEqDiff, Nat.reduceAdd, Nat.reduceLeDiff, e0, e3, gb9, cb0, zAe]
     refine (zIx H tr9).to fun v h10 q => ?_
     obtain ⟨rfl, m10⟩ := q
     have n10 := m10.next
     have R10 := R9.more m10
     have rc10 := (m10.keep h.next (by omega)).trans rc9
     have c10 := c9.trans (m10.but r)
     have gb10 := (m10.keep h3.next (by omega)).trans gb9
     have tr10 : TreeR h10 (fun k => h.next < k ∧ k < h3.next) (.ptr ui 0) lt := TreeR.keep m10.stay (fun k hk _ => hk) tr9
     simp (disch := omega) only [EL, ↓K3, ↓K1, reduceIte, Nat.reduceEqDiff, Nat.reduceAdd, Nat.reduceLeDiff, e3, zA6, zA7, gb10, cb0, zAe, zAw]
     refine (npos_gp H tr10).to fun v h11 q => ?_
     obtain ⟨rfl, m11⟩ := q
     have n11 := m11.next
     have R11 := R10.more m11
     have rc11 := (m11.keep h.next (by omega)).trans rc10
     have c11 := c10.trans (m11.but r)
     have gb11 := (m11.keep h3.next (by omega)).trans gb10
     have tr11 : TreeR h11 (fun k => h.next < k ∧ k < h3.next) (.ptr ui 0) lt := TreeR.keep m11.stay (fun k hk _ => hk) tr10
     simp (disch := omega) only [EL, ↓K3, ↓K1, reduceIte, Nat.reduceEqDiff, Nat.reduceAdd, Nat.reduceLeDiff, e0]
     refine ((zIr H n).expr 1 R11 hd (by omega) _ rfl (zA2 hy hne)).mono (fun v h12 q => ?_) (fun v h12 e => ?_)
     rotate_left
     ·obtain ⟨p, er, hx, rfl, fr'⟩ := e
      rw [hx] at hy
      exact hQ _ ⟨p, er, hy.symm, rfl, MoreBut.trans c11 fr'⟩
     obtain ⟨e, i, hx, lib12, R12, b12, q⟩ := q
     rw [hx, zAv] at hy
     have nb12 := MoreBut.next b12
     obtain ⟨u, rfl, te⟩ := q
     obtain ⟨uj, rfl, hj1, hj2⟩ := te.ptr
     have rc12 := (b12.keep h.next (by omega) (by omega)).trans rc11
     have c12 := c11.trans b12
     simp (disch := omega) only [EL, ↓K3, ↓K1, reduceIte, Nat.reduceEqDiff, Nat.reduceAdd, Nat.reduceLeDiff]
     have m13 : More h12 (h12.add (.cells (zAd [.ptr uj 0]) 1 none false)) := More.add _ _
     have g13 : (h12.add (.cells (zAd [.ptr uj 0]) 1 none false)).mem.get h12.next = some (.cells (zAd [.ptr uj 0]) 1 none false) := by rw [AH.add_mem, T.get_put_self]
     have n13 : (h12.add (.cells (zAd [.ptr uj 0]) 1 none false)).next = h12.next + 1 := rfl
     generalize h12.add (.cells (zAd [.ptr uj 0]) 1 none false) = h13 at *
     have m14 : More h13 (h13.add (.cells (zAd [.int .i64 ((8 : Nat) : Int), sv lt.name, sv [], .int .i64 ((0 : Nat) : Int), .int .i64 (lt.pos : Int), .sl h12.next 0 1 (.known 1)]) 6 none false)) := More.add _ _
     have g14 : (h13.add (.cells (zAd [.int .i64 ((8 : Nat) : Int), sv lt.name, sv [], .int .i64 ((0 : Nat) : Int), .int .i64 (lt.pos : Int), .sl h12.next 0 1 (.known 1)]) 6 none false)).mem.get h13.next = some (.cells (zAd [.int .i64 ((8 : Nat) : Int), sv lt.name, sv [], .int .i64 ((0 : Nat) : Int), .int .i64 (lt.pos : Int), .sl h12.next 0 1 (.known 1)]) 6 none false) := by rw [AH.add_mem, T.get_put_self]
     have n14 : (h13.add (.cells (zAd [.int .i64 ((8 : Nat) : Int), sv lt.name, sv [], .int .i64 ((0 : Nat) : Int), .int .i64 (lt.pos : Int), .sl h12.next 0 1 (.known 1)]) 6 none false)).next = h13.next + 1 := rfl
     generalize h13.add (.cells (zAd [.int .i64 ((8 : Nat) : Int), sv lt.name, sv [], .int .i64 ((0 : Nat) : Int), .int .i64 (lt.pos : Int), .sl h12.next 0 1 (.known 1)]) 6 none false) = h14 at *
     have nc14 : NodeC h14 (h12.next + 1) 8 lt.name [] 0 lt.pos (.sl h12.next 0 1 (.known 1)) := ⟨_, by rw [← n13]; exact g14, rfl, rfl, rfl, rfl, rfl, rfl⟩
     have kd := zE3 (lo := h.next) (X := [h.next, h12.next + 1]) g13 (by omega) (by omega) (by simp; omega) (TreeR.keep m13.stay (fun k hk hl => ⟨by omega, by simp; omega, by omega⟩) te)
     have kd14 := kd.keep m14.stay
     have mm := m13.trans m14
     have rc14 := (mm.keep h.next (by omega)).trans rc12
     simp (disch := omega) only [EL, ↓K3, ↓K1, reduceIte, Nat.reduceEqDiff, Nat.reduceAdd, Nat.reduceLeDiff, e5, rc14]
     refine hQ _ ?_
     have o15 : Only h.next h14 (h14.set h.next (.cells (T.put (some (.ptr (h12.next + 1) 0)) (zAd [.nilp]) 0) 1 none false)) := Only.set
     have gc15 : (h14.set h.next (.cells (T.put (some (.ptr (h12.next + 1) 0)) (zAd [.nilp]) 0) 1 none false)).mem.get h.next = some (.cells (T.put (some (.ptr (h12.next + 1) 0)) (zAd [.nilp]) 0) 1 none false) := AH.get_set
     generalize h14.set h.next (.cells (T.put (some (.ptr (h12.next + 1) 0)) (zAd [.nilp]) 0) 1 none false) = h15 at *
     have n15 := o15.next
     refine zAj ?_
     try simp only [zAg, zAf]
     refine zBc (id := h.next) (by simp +decide only [EL, reduceIte, e5]) gc15 (lst := [.ptr (h12.next + 1) 0]) (by rw [zAe, T.get_put_self]; rfl) ?_
     refine ⟨_, _, hy.symm, by omega, o15.rs (R12.more mm) (by omega), o15.mb (c12.trans (mm.but r)) (by omega), _, rfl, ?_⟩
     exact (kd14.keep (o15.stay (by simp))).tree2 (nc14.keep (o15.keep _ (by omega))) (by show h.next ≤ _; omega) (by omega) fun k hk _ => hk
    ·rw [if_neg o18] at hy
     have o18' : ¬ (lt.op : Int) = ((18 : Nat) : Int) := by omega
     simp (disch := omega) only [EL, ↓K3, ↓K1, reduceIte, Nat.reduceEqDiff, Nat.reduceAdd, Nat.reduceLeDiff, e0, o18']
     refine hQ _ ?_
     clear hQ Q1
     simp only [zAa]
     refine wc_no (by simp +decide only [EL, reduceIte]) ?_
     refine zAc (zAb fun Q1 hQ => ?_)
     simp (disch := omega) only [EL, ↓K3, ↓K1, reduceIte, Nat.reduceEqDiff, Nat.reduceAdd, Nat.reduceLeDiff, e3, gb8, cb0, zAe]
     refine (nop_gp H tr8).to fun v h9 q => ?_
     obtain ⟨rfl, m9⟩ := q
     have n9 := m9.next
     have R9 := R8.more m9
     have rc9 := (m9.keep h.next (by omega)).trans rc8
     have c9 := c8.trans (m9.but r)
     have gb9 := (m9.keep h3.next (by omega)).trans gb8
     have tr9 : TreeR h9 (fun k => h.next < k ∧ k < h3.next) (.ptr ui 0) lt := TreeR.keep m9.stay (fun k hk _ => hk) tr8
     by_cases o20 : lt.op = 20
     ·rw [if_pos o20] at hy
      obtain ⟨k0, kr, hkk⟩ := hfk o20
      simp (disch := omega) only [EL, ↓K3, ↓K1, reduceIte, Nat.reduceEqDiff, Nat.reduceAdd, Nat.reduceLeDiff, e0, o20]
      refine hQ _ ?_
      clear hQ Q1
      simp only [zAa]
      refine zAt (by simp +decide only [EL, reduceIte]) ?_
      refine zAc (zAb fun Q1 hQ => ?_)
      simp (disch := omega) only [EL, ↓K3, ↓K1, reduceIte, Nat.reduceEqDiff, Nat.reduceAdd, Nat.reduceLeDiff, e0]
      refine (zBs H R9 _ _ rfl (zA2 hy hne)).mono (fun v h10 q => ?_) (fun v h10 e => ?_)
      rotate_left
      ·obtain ⟨p, er, hx, rfl, fr'⟩ := e
       rw [hx] at hy
       exact hQ _ ⟨p, er, hy.symm, rfl, MoreBut.trans c9 fr'⟩
      obtain ⟨pp, i, hx, lib10, R10, b10, q⟩ := q
      rw [hx, zAv] at hy
      have nb10 := MoreBut.next b10
      have rc10 := (b10.keep h.next (by omega) (by omega)).trans rc9
      have gb10 := (b10.keep h3.next (by omega) (by omega)).trans gb9
      have tr10 : TreeR h10 (fun k => h.next < k ∧ k < h3.next) (.ptr ui 0) lt := TreeR.keep (b10.stay (by omega)) (fun k hk _ => hk) tr9
      have c10 := c9.trans b10
      simp (disch := omega) only [EL, ↓K3, ↓K1, reduceIte, Nat.reduceEqDiff, Nat.reduceAdd, Nat.reduceLeDiff]
      refine hQ _ ?_
      clear hQ Q1
      simp only [zAa]
      refine zAc (zAb fun Q1 hQ => ?_)
      simp (disch := omega) only [EL, ↓K3, ↓K1, reduceIte, Nat.reduceEqDiff, Nat.reduceAdd, Nat.reduceLeDiff, e0, e3, gb10, cb0, zAe]
      refine (zIx H tr10).to fun v h11 q => ?_
      obtain ⟨rfl, m11⟩ := q
      have n11 := m11.next
      have R11 := R10.more m11
      have rc11 := (m11.keep h.next (by omega)).trans rc10
      have c11 := c10.trans (m11.but r)
      have gb11 := (m11.keep h3.next (by omega)).trans gb10
      have tr11 : TreeR h11 (fun k => h.next < k ∧ k < h3.next) (.ptr ui 0) lt := TreeR.keep m11.stay (fun k hk _ => hk) tr10
      simp (disch := omega) only [EL, ↓K3, ↓K1, reduceIte, Nat.reduceEqDiff, Nat.reduceAdd, Nat.reduceLeDiff, e3, zA6, zA7, gb11, cb0, zAe, zAw]
      refine (npos_gp H tr11).to fun v h12 q => ?_
      obtain ⟨rfl, m12⟩ := q
      have n12 := m12.next
      have R12 := R11.more m12
      have rc12 := (m12.keep h.next (by omega)).trans rc11
      have c12 := c11.trans (m12.but r)
      have gb12 := (m12.keep h3.next (by omega)).trans gb11
      have tr12 : TreeR h12 (fun k => h.next < k ∧ k < h3.next) (.ptr ui 0) lt := TreeR.keep m12.stay (fun k hk _ => hk) tr11
      simp (disch := omega) only [EL, ↓K3, ↓K1, reduceIte, Nat.reduceEqDiff, Nat.reduceAdd, Nat.reduceLeDiff, e3, zA6, zA7, gb12, cb0, zAe, zAw]
      refine (nkid_gp H tr12 0).to fun v h13 q => ?_
      obtain ⟨m13, q⟩ := q
      have n13 := m13.next
      have R13 := R12.more m13
      have rc13 := (m13.keep h.next (by omega)).trans rc12
      have c13 := c12.trans (m13.but r)
      rcases q with ⟨j, hj, w, e1, rfl, tk⟩ | ⟨hb, _⟩
      rotate_left
      ·rw [hkk] at hb; simp at hb; omega
      obtain rfl : j = 0 := by omega
      have ek : lt.kids.getD 0 (Tree.mk 0 [] [] 0 0 []) = lt.kids[0] := by rw [List.getD_eq_getElem?_getD, List.getElem?_eq_getElem hj]; rfl
      rw [ek] at hy
      obtain ⟨uk, rfl, hk1, hk2⟩ := tk.ptr
      simp (disch := omega) only [EL, ↓K3, ↓K1, reduceIte, Nat.reduceEqDiff, Nat.reduceAdd, Nat.reduceLeDiff, e0]
      refine ((zIr H n).expr 1 R13 hd (by omega) _ rfl (zA2 hy hne)).mono (fun v h14 q => ?_) (fun v h14 e => ?_)
      rotate_left
      ·obtain ⟨p, er, hx, rfl, fr'⟩ := e
       rw [hx] at hy
       exact hQ _ ⟨p, er, hy.symm, rfl, MoreBut.trans c13 fr'⟩
      obtain ⟨e, i, hx, lib14, R14, b14, q⟩ := q
      rw [hx, zAv] at hy
      have nb14 := MoreBut.next b14
      obtain ⟨u, rfl, te⟩ := q
      obtain ⟨uj, rfl, hj1, hj2⟩ := te.ptr
      have rc14 := (b14.keep h.next (by omega) (by omega)).trans rc13
      have tk14 : TreeR h14 (fun k => h.next < k ∧ k < h3.next) (.ptr uk 0) lt.kids[0] := TreeR.keep (b14.stay (by omega)) (fun k hk _ => hk) (TreeR.keep (G := fun k => h.next < k ∧ k < h3.next) m13.stay (fun k hk _ => hk) tk)
      have c14 := c13.trans b14
      simp (disch := omega) only [EL, ↓K3, ↓K1, reduceIte, Nat.reduceEqDiff, Nat.reduceAdd, Nat.reduceLeDiff]
      have m15 : More h14 (h14.add (.cells (zAd [.ptr uk 0, .ptr uj 0]) 2 none false)) := More.add _ _
      have g15 : (h14.add (.cells (zAd [.ptr uk 0, .ptr uj 0]) 2 none false)).mem.get h14.next = some (.cells (zAd [.ptr uk 0, .ptr uj 0]) 2 none false) := by rw [AH.add_mem, T.get_put_self]
      have n15 : (h14.add (.cells (zAd [.ptr uk 0, .ptr uj 0]) 2 none false)).next = h14.next + 1 := rfl
      generalize h14.add (.cells (zAd [.ptr uk 0, .ptr uj 0]) 2 none false) = h15 at *
      have m16 : More h15 (h15.add (.cells (zAd [.int .i64 ((9 : Nat) : Int), sv lt.name, sv [], .int .i64 ((0 : Nat) : Int), .int .i64 (lt.pos : Int), .sl h14.next 0 2 (.known 2)]) 6 none false)) := More.add _ _
      have g16 : (h15.add (.cells (zAd [.int .i64 ((9 : Nat) : Int), sv lt.name, sv [], .int .i64 ((0 : Nat) : Int), .int .i64 (lt.pos : Int), .sl h14.next 0 2 (.known 2)]) 6 none false)).mem.get h15.next = some (.cells (zAd [.int .i64 ((9 : Nat) : Int), sv lt.name, sv [], .int .i64 ((0 : Nat) : Int), .int .i64 (lt.pos : Int), .sl h14.next 0 2 (.known 2)]) 6 none false) := by rw [AH.add_mem, T.get_put_self]
      have n16 : (h15.add (.cells (zAd [.int .i64 ((9 : Nat) : Int), sv lt.name, sv [], .int .i64 ((0 : Nat) : Int), .int .i64 (lt.pos : Int), .sl h14.next 0 2 (.known 2)]) 6 none false)).next = h15.next + 1 := rfl
      generalize h15.add (.cells (zAd [.int .i64 ((9 : Nat) : Int), sv lt.name, sv [], .int .i64 ((0 : Nat) : Int), .int .i64 (lt.pos : Int), .sl h14.next 0 2 (.known 2)]) 6 none false) = h16 at *
      have nc16 : NodeC h16 (h14.next + 1) 9 lt.name [] 0 lt.pos (.sl h14.next 0 2 (.known 2)) := ⟨_, by rw [← n15]; exact g16, rfl, rfl, rfl, rfl, rfl, rfl⟩
      have kd := kids_of2 (lo := h.next) (X := [h.next, h14.next + 1]) g15 (by omega) (by omega) (by simp; omega) (TreeR.keep m15.stay (fun k hk hl => ⟨by omega, by simp; omega, by omega⟩) tk14) (TreeR.keep m15.stay (fun k hk hl => ⟨by omega, by simp; omega, by omega⟩) te)
      have kd16 := kd.keep m16.stay
      have mm := m15.trans m16
      have rc16 := (mm.keep h.next (by omega)).trans rc14
      simp (disch := omega) only [EL, ↓K3, ↓K1, reduceIte, Nat.reduceEqDiff, Nat.reduceAdd, Nat.reduceLeDiff, e5, rc16]
      refine hQ _ ?_
      have o17 : Only h.next h16 (h16.set h.next (.cells (T.put (some (.ptr (h14.next + 1) 0)) (zAd [.nilp]) 0) 1 none false)) := Only.set
      have gc17 : (h16.set h.next (.cells (T.put (some (.ptr (h14.next + 1) 0)) (zAd [.nilp]) 0) 1 none false)).mem.get h.next = some (.cells (T.put (some (.ptr (h14.next + 1) 0)) (zAd [.nilp]) 0) 1 none false) := AH.get_set
      generalize h16.set h.next (.cells (T.put (some (.ptr (h14.next + 1) 0)) (zAd [.nilp]) 0) 1 none false) = h17 at *
      have n17 := o17.next
      refine zAj ?_
      try simp only [zAg, zAf]
      refine zBc (id := h.next) (by simp +decide only [EL, reduceIte, e5]) gc17 (lst := [.ptr (h14.next + 1) 0]) (by rw [zAe, T.get_put_self]; rfl) ?_
      refine ⟨_, _, hy.symm, by omega, o17.rs (R14.more mm) (by omega), o17.mb (c14.trans (mm.but r)) (by omega), _, rfl, ?_⟩
      exact (kd16.keep (o17.stay (by simp))).tree2 (nc16.keep (o17.keep _ (by omega))) (by show h.next ≤ _; omega) (by omega) fun k hk _ => hk
     ·rw [if_neg o20] at hy
      have o20' : ¬ (lt.op : Int) = ((20 : Nat) : Int) := by omega
      simp (disch := omega) only [EL, ↓K3, ↓K1, reduceIte, Nat.reduceEqDiff, Nat.reduceAdd, Nat.reduceLeDiff, e0, o20']
      refine hQ _ ?_
      clear hQ Q1
      simp only [zAa]
      refine wc_no (by simp +decide only [EL, reduceIte]) ?_
      refine zAm ?_
      simp only [zAa, zAi]
      refine zAc (zAb fun Q1 hQ => ?_)
      simp (disch := omega) only [EL, ↓K3, ↓K1, reduceIte, Nat.reduceEqDiff, Nat.reduceAdd, Nat.reduceLeDiff, e0]
      refine (zEr H R9).mono (fun v h6 q => q.elim) fun v h6 q => ?_
      exact hQ _ ⟨_, _, hy.symm, q.1, c9.trans (q.2.but r)⟩
   by_cases o21 : lt.op = 21
   ·simp (disch := omega) only [EL, ↓K3, ↓K1, reduceIte, Nat.reduceEqDiff, Nat.reduceAdd, Nat.reduceLeDiff, e0, o21]
    refine (is_gp H R5 _).to fun v h6 q => ?_
    obtain ⟨rfl, m6⟩ := q
    have n6 := m6.next
    have R6 := R5.more m6
    have rc6 := (m6.keep h.next (by omega)).trans rc5
    have c6 := c5.trans (m6.but r)
    have gb6 := (m6.keep h3.next (by omega)).trans gb5
    have tr6 : TreeR h6 (fun k => h.next < k ∧ k < h3.next) (.ptr ui 0) lt := TreeR.keep m6.stay (fun k hk _ => hk) tr5
    cases hq : isT ts en [61] i with
    | true =>
     rw [if_neg (by simp [hq])] at hy
     simp (disch := omega) only [EL, ↓K3, ↓K1, reduceIte, Nat.reduceEqDiff, Nat.reduceAdd, Nat.reduceLeDiff, e0, hq]
     exact hgo2 _ h6 (by simp +decide only [EL, reduceIte, e0]) (by simp +decide only [EL, reduceIte]) (by simp +decide only [EL, reduceIte, e3]) (by simp +decide only [EL, reduceIte, e5]) (by omega) R6 rc6 c6 gb6 tr6 hy
    | false =>
     rw [if_pos (by simp [hq, o21])] at hy
     simp (disch := omega) only [EL, ↓K3, ↓K1, reduceIte, Nat.reduceEqDiff, Nat.reduceAdd, Nat.reduceLeDiff, e0, hq]
     clear hgo2
     refine hQ _ ?_
     clear hQ Q1
     simp only [zAa]
     refine zAt (by simp +decide only [EL, reduceIte]) ?_
     refine zAc (zAb fun Q1 hQ => ?_)
     simp (disch := omega) only [EL, ↓K3, ↓K1, reduceIte, Nat.reduceEqDiff, Nat.reduceAdd, Nat.reduceLeDiff, e3, gb6, cb0, zAe]
     have m7 : More h6 (h6.add (.cells (zAd [.ptr ui 0]) 1 none false)) := More.add _ _
     have g7 : (h6.add (.cells (zAd [.ptr ui 0]) 1 none false)).mem.get h6.next = some (.cells (zAd [.ptr ui 0]) 1 none false) := by rw [AH.add_mem, T.get_put_self]
     have n7 : (h6.add (.cells (zAd [.ptr ui 0]) 1 none false)).next = h6.next + 1 := rfl
     generalize h6.add (.cells (zAd [.ptr ui 0]) 1 none false) = h7 at *
     have tr7 : TreeR h7 (fun k => h.next < k ∧ k < h3.next) (.ptr ui 0) lt := TreeR.keep m7.stay (fun k hk _ => hk) tr6
     have gb7 := (m7.keep h3.next (by omega)).trans gb6
     refine (npos_gp H tr7).to fun v h8 q => ?_
     obtain ⟨rfl, m8⟩ := q
     have n8 := m8.next
     have gb8 := (m8.keep h3.next (by omega)).trans gb7
     have tr8 : TreeR h8 (fun k => h.next < k ∧ k < h3.next) (.ptr ui 0) lt := TreeR.keep m8.stay (fun k hk _ => hk) tr7
     have g8 := (m8.keep h6.next (by omega)).trans g7
     simp (disch := omega) only [EL, ↓K3, ↓K1, reduceIte, Nat.reduceEqDiff, Nat.reduceAdd, Nat.reduceLeDiff, e3, zA6, zA7, gb8, cb0, zAe, zAw]
     refine (zDh H (kv := .sl h6.next 0 1 (.known 1)) (op := 14) (pos := lt.pos) (fun _ => rfl) rfl).to fun v h9 q => ?_
     obtain ⟨ia, rfl, i1, i2, nc, m9⟩ := q
     have n9 := m9.next
     have kd := zE3 (lo := h.next) (X := [h.next, ia]) g8 (by omega) (by omega) (by simp; omega) (TreeR.keep (Stay.refl _ _) (fun k hk hl => ⟨by omega, by simp; omega, by omega⟩) tr8)
     have kd9 := kd.keep m9.stay
     have mm := (m7.trans m8).trans m9
     have rc9 := (mm.keep h.next (by omega)).trans rc6
     simp (disch := omega) only [EL, ↓K3, ↓K1, reduceIte, Nat.reduceEqDiff, Nat.reduceAdd, Nat.reduceLeDiff, e5, rc9]
     refine hQ _ ?_
     have o17 : Only h.next h9 (h9.set h.next (.cells (T.put (some (.ptr ia 0)) (zAd [.nilp]) 0) 1 none false)) := Only.set
     have gc17 : (h9.set h.next (.cells (T.put (some (.ptr ia 0)) (zAd [.nilp]) 0) 1 none false)).mem.get h.next = some (.cells (T.put (some (.ptr ia 0)) (zAd [.nilp]) 0) 1 none false) := AH.get_set
     generalize h9.set h.next (.cells (T.put (some (.ptr ia 0)) (zAd [.nilp]) 0) 1 none false) = h17 at *
     have n17 := o17.next
     refine zAj ?_
     try simp only [zAg, zAf]
     refine zBc (id := h.next) (by simp +decide only [EL, reduceIte, e5]) gc17 (lst := [.ptr ia 0]) (by rw [zAe, T.get_put_self]; rfl) ?_
     refine ⟨_, _, hy.symm, by omega, o17.rs (R6.more mm) (by omega), o17.mb (c6.trans (mm.but r)) (by omega), _, rfl, ?_⟩
     exact (kd9.keep (o17.stay (by simp))).tree2 (nc.keep (o17.keep _ (by omega))) (by show h.next ≤ _; omega) (by omega) fun k hk _ => hk
   ·have o21' : ¬ (lt.op : Int) = ((21 : Nat) : Int) := by omega
    rw [if_neg (by simp [o21])] at hy
    simp (disch := omega) only [EL, ↓K3, ↓K1, reduceIte, Nat.reduceEqDiff, Nat.reduceAdd, Nat.reduceLeDiff, e0, o21']
    exact hgo2 _ h5 (by simp +decide only [EL, reduceIte, e0]) (by simp +decide only [EL, reduceIte]) (by simp +decide only [EL, reduceIte, e3]) (by simp +decide only [EL, reduceIte, e5]) (by omega) R5 rc5 c5 gb5 tr5 hy
  cases hf1 : fst with
  | false =>
   simp (disch := omega) only [EL, ↓K3, ↓K1, reduceIte, Nat.reduceEqDiff, Nat.reduceAdd, Nat.reduceLeDiff, i0, hf1]
   exact hgo _ (by simp +decide only [EL, reduceIte, i0]) (by simp +decide only [EL, reduceIte]) (by simp +decide only [EL, reduceIte]) (by simp +decide only [EL, reduceIte])
  | true =>
   rcases ta with ⟨rfl, _⟩ | ⟨ia, cc, s, cap, rfl, hid, gt, ct⟩
   ·cases hin
   obtain ⟨ct1, ct2, ct3⟩ := ct (i - 1) hin
   have hw : IntKind.i64.wrap ((i : Int) - ((1 : Nat) : Int)) = ((i - 1 : Nat) : Int) := zHe (by omega) (by have := R.ln; omega)
   have et : ts[i - 1].text ≠ [41] := by rw [← hnow]; exact fun e => hf ⟨hf1, e⟩
   simp (disch := omega) only [EL, ↓K3, ↓K1, reduceIte, Nat.reduceEqDiff, Nat.reduceAdd, Nat.reduceLeDiff, i0, hf1, c0, c1', c2', hw, gt, ct2]
   exact hgo _ (by simp +decide only [EL, reduceIte, i0]) (by simp +decide only [EL, reduceIte, et]) (by simp +decide only [EL, reduceIte]) (by simp +decide only [EL, reduceIte])
end
end Go.Ev
namespace Go.Ev
open Go Go.Pa
section
variable {tab : Nat → Option AFunc} {h : AH} (H : PT tab) {ts : List Tok} {en r i d : Nat}
include H in
theorem simple_ge {n : Nat} (R : RS ts en h r i d) (hd : d ≤ 40) : GS tab 135 [.ptr r 0] ts en r i d h (zCp ts en n i d) fun t v h1 => okT t h.next v h1 := by
 intro y hy hne
 have i0 : zAh [.ptr r 0] = zAd [.ptr r 0] := rfl
 have hr := R.lt
 have f0 : ∀ (t : Tok) h', zCr 0 1 false (.c (tokV t)) .leaf [] h' = .val (.int .i64 (t.kind : Int)) h' := fun _ _ => rfl
 have f1 : ∀ (t : Tok) h', zCr 1 1 false (.c (tokV t)) .leaf [] h' = .val (sv t.text) h' := fun _ _ => rfl
 have f2 : ∀ (t : Tok) h', zCr 2 1 false (.c (tokV t)) .leaf [] h' = .val (.int .i64 (t.pos : Int)) h' := fun _ _ => rfl
 obtain ⟨z, hz⟩ : ∃ z, z = i := ⟨_, rfl⟩
 refine ge_of H.t135 rfl ?_
 refine zBk fun h1 n1 g1 m1 => ?_
 have R1 := R.more m1
 have rc1 := g1
 have c1 := m1.but r
 unfold zCp at hy
 refine zAc ?_
 refine zAy ?_
 refine zAc (zAb fun Q1 hQ => ?_)
 simp (disch := omega) only [EL, ↓K3, ↓K1, reduceIte, Nat.reduceEqDiff, Nat.reduceAdd, Nat.reduceLeDiff, i0]
 refine (is_gp H R1 _).to fun v h2 q => ?_
 obtain ⟨rfl, m2⟩ := q
 have n2 := m2.next
 have R2 := R1.more m2
 have rc2 := (m2.keep h.next (by omega)).trans rc1
 have c2 := c1.trans (m2.but r)
 simp (disch := omega) only [EL, ↓K3, ↓K1, reduceIte, Nat.reduceEqDiff, Nat.reduceAdd, Nat.reduceLeDiff]
 refine hQ _ ?_
 clear hQ Q1
 simp only [zAa]
 cases hA : isT ts en [112, 114, 105, 110, 116] i with
 | true =>
  rw [hA, if_pos rfl] at hy
  refine zAt (by simp +decide only [EL, reduceIte, hA]) ?_
  refine zAc (zAb fun Q1 hQ => ?_)
  simp (disch := omega) only [EL, ↓K3, ↓K1, reduceIte, Nat.reduceEqDiff, Nat.reduceAdd, Nat.reduceLeDiff, i0]
  refine (zCm H R2 (is_lt hA)).to fun v h3 q => ?_
  obtain ⟨rfl, R3, b3⟩ := q
  have n3 := b3.next
  have rc3 := (b3.keep h.next (by omega) (by omega)).trans rc2
  have c3 := c2.trans b3
  simp (disch := omega) only [EL, ↓K3, ↓K1, reduceIte, Nat.reduceEqDiff, Nat.reduceAdd, Nat.reduceLeDiff, f2]
  refine hQ _ ?_
  clear hQ Q1
  simp only [zAa]
  refine zAc (zAb fun Q1 hQ => ?_)
  simp (disch := omega) only [EL, ↓K3, ↓K1, reduceIte, Nat.reduceEqDiff, Nat.reduceAdd, Nat.reduceLeDiff, i0]
  refine ((zIr H n).brack R3 hd _ rfl (zA2 hy hne)).mono (fun v h4 q => ?_) (fun v h4 e => ?_)
  rotate_left
  ·obtain ⟨p, er, hx, rfl, fr'⟩ := e
   rw [hx] at hy
   exact hQ _ ⟨p, er, hy.symm, rfl, MoreBut.trans c3 fr'⟩
  obtain ⟨e, i, hx, lib4, R4, b4, q⟩ := q
  rw [hx, zAv] at hy
  have nb4 := MoreBut.next b4
  obtain ⟨u, rfl, t4⟩ := q
  obtain ⟨ui, rfl, hu1, hu2⟩ := t4.ptr
  have rc4 := (b4.keep h.next (by omega) (by omega)).trans rc3
  have c4 := c3.trans b4
  simp (disch := omega) only [EL, ↓K3, ↓K1, reduceIte, Nat.reduceEqDiff, Nat.reduceAdd, Nat.reduceLeDiff]
  have m5 : More h4 (h4.add (.cells (zAd [.ptr ui 0]) 1 none false)) := More.add _ _
  have g5 : (h4.add (.cells (zAd [.ptr ui 0]) 1 none false)).mem.get h4.next = some (.cells (zAd [.ptr ui 0]) 1 none false) := by rw [AH.add_mem, T.get_put_self]
  have n5 : (h4.add (.cells (zAd [.ptr ui 0]) 1 none false)).next = h4.next + 1 := rfl
  generalize h4.add (.cells (zAd [.ptr ui 0]) 1 none false) = h5 at *
  refine (zDh H (kv := .sl h4.next 0 1 (.known 1)) (op := 12) (fun _ => rfl) rfl).to fun v h6 q => ?_
  obtain ⟨ia, rfl, i1, i2, nc, m6⟩ := q
  have n6 := m6.next
  have kd := zE3 (lo := h.next) (X := [h.next, ia]) g5 (by omega) (by omega) (by simp; omega) (TreeR.keep m5.stay (fun k hk hl => ⟨by omega, by simp; omega, by omega⟩) t4)
  have kd6 := kd.keep m6.stay
  have mm := m5.trans m6
  have rc6 := (mm.keep h.next (by omega)).trans rc4
  simp (disch := omega) only [EL, ↓K3, ↓K1, reduceIte, Nat.reduceEqDiff, Nat.reduceAdd, Nat.reduceLeDiff, i0, rc6]
  refine hQ _ ?_
  have o7 : Only h.next h6 (h6.set h.next (.cells (T.put (some (.ptr ia 0)) (zAd [.nilp]) 0) 1 none false)) := Only.set
  have gc7 : (h6.set h.next (.cells (T.put (some (.ptr ia 0)) (zAd [.nilp]) 0) 1 none false)).mem.get h.next = some (.cells (T.put (some (.ptr ia 0)) (zAd [.nilp]) 0) 1 none false) := AH.get_set
  generalize h6.set h.next (.cells (T.put (some (.ptr ia 0)) (zAd [.nilp]) 0) 1 none false) = h7 at *
  have n7 := o7.next
  refine zAj ?_
  try simp only [zAg, zAf]
  refine zBc (id := h.next) (by simp +decide only [EL, reduceIte, i0]) gc7 (lst := [.ptr ia 0]) (by rw [zAe, T.get_put_self]; rfl) ?_
  refine ⟨_, _, hy.symm, by omega, o7.rs (R4.more mm) (by omega), o7.mb (c4.trans (mm.but r)) (by omega), _, rfl, ?_⟩
  exact (kd6.keep (o7.stay (by simp))).tree2 (nc.keep (o7.keep _ (by omega))) (by show h.next ≤ _; omega) (by omega) fun k hk _ => hk
 | false =>
 rw [hA, if_neg (by simp)] at hy
 refine wc_no (by simp +decide only [EL, reduceIte, hA]) ?_
 refine zAc (zAb fun Q1 hQ => ?_)
 simp (disch := omega) only [EL, ↓K3, ↓K1, reduceIte, Nat.reduceEqDiff, Nat.reduceAdd, Nat.reduceLeDiff, i0]
 refine (is_gp H R2 _).to fun v h3 q => ?_
 obtain ⟨rfl, m3⟩ := q
 have n3 := m3.next
 have R3 := R2.more m3
 have rc3 := (m3.keep h.next (by omega)).trans rc2
 have c3 := c2.trans (m3.but r)
 simp (disch := omega) only [EL, ↓K3, ↓K1, reduceIte, Nat.reduceEqDiff, Nat.reduceAdd, Nat.reduceLeDiff]
 refine hQ _ ?_
 clear hQ Q1
 simp only [zAa]
 cases hB : isT ts en [114, 101, 116, 117, 114, 110] i with
 | true =>
  rw [hB, if_pos rfl] at hy
  refine zAt (by simp +decide only [EL, reduceIte, hB]) ?_
  refine zAc (zAb fun Q1 hQ => ?_)
  simp (disch := omega) only [EL, ↓K3, ↓K1, reduceIte, Nat.reduceEqDiff, Nat.reduceAdd, Nat.reduceLeDiff, i0]
  refine (zCm H R3 (is_lt hB)).to fun v h4 q => ?_
  obtain ⟨rfl, R4, b4⟩ := q
  have n4 := b4.next
  have rc4 := (b4.keep h.next (by omega) (by omega)).trans rc3
  have c4 := c3.trans b4
  simp (disch := omega) only [EL, ↓K3, ↓K1, reduceIte, Nat.reduceEqDiff, Nat.reduceAdd, Nat.reduceLeDiff, f2]
  refine (zDh H (kv := .nils) (op := 13) (fun _ => rfl) rfl).to fun v h5 q => ?_
  obtain ⟨ia, rfl, i1, i2, nc, m5⟩ := q
  have n5 := m5.next
  simp (disch := omega) only [EL, ↓K3, ↓K1, reduceIte, Nat.reduceEqDiff, Nat.reduceAdd, Nat.reduceLeDiff]
  refine hQ _ ?_
  clear hQ Q1
  refine zBp fun h6 n6 g6 m6 => ?_
  obtain ⟨cb, gb, cb0⟩ := g6
  simp only [zAa]
  have mm := m5.trans m6
  have R6 := R4.more mm
  have c6 := c4.trans (mm.but r)
  have nc6 := nc.keep (m6.keep ia i2)
  have rc6 := (mm.keep h.next (by omega)).trans rc4
  have bx6 : BoxN h6 h5.next ia := ⟨cb, gb, cb0⟩
  refine zAc ?_
  refine zAc (zAb fun Q1 hQ => ?_)
  simp (disch := omega) only [EL, ↓K3, ↓K1, reduceIte, Nat.reduceEqDiff, Nat.reduceAdd, Nat.reduceLeDiff, i0]
  refine (is_gp H R6 _).to fun v h7 q => ?_
  obtain ⟨rfl, m7⟩ := q
  have n7 := m7.next
  have R7 := R6.more m7
  have rc7 := (m7.keep h.next (by omega)).trans rc6
  have c7 := c6.trans (m7.but r)
  simp (disch := omega) only [EL, ↓K3, ↓K1, reduceIte, Nat.reduceEqDiff, Nat.reduceAdd, Nat.reduceLeDiff]
  refine hQ _ ?_
  clear hQ Q1
  simp only [zAa]
  have bx7 := bx6.keep (m7.keep h5.next (by omega))
  have nc7 := nc6.keep (m7.keep ia (by omega))
  cases hC : isT ts en [59] (i + 1) with
  | true =>
   rw [hC, if_pos rfl] at hy
   refine wc_no (by simp +decide only [EL, reduceIte, hC, Bool.not_true]) ?_
   refine zAm ?_
   simp only [zAa]
   obtain ⟨cx, gx, cx0⟩ := bx7
   refine zI3 (b := h5.next) (rc := h.next) (by simp +decide only [EL, reduceIte]) gx cx0 (by simp +decide only [EL, reduceIte, i0]) rc7 (by rw [zAk]; rfl) fun h8 o8 hq => ?_
   have n8 := o8.next
   simp only [zAg, zAf]
   refine hq _ _ ⟨_, _, hy.symm, by omega, o8.rs R7 (by omega), o8.mb c7 (Nat.le_refl _), _, rfl, ?_⟩
   exact leafT (nc7.keep (o8.keep _ (by omega))) (by omega) (by omega)
  | false =>
   rw [hC, if_neg (by simp)] at hy
   refine zAt (by simp +decide only [EL, reduceIte, hC, Bool.not_false]) ?_
   refine zF4 (K := 6) (b := h5.next) (id := ia) (lo := h.next) (X := [h.next, h5.next, ia]) (r := r) (f := 134) (args := [.ptr r 0, .int .i64 ((1 : Nat) : Int)]) (by simp +decide only [EL, reduceIte, i0]) bx7 nc7 (Kids.nils (lo := h.next) (X := [h.next, h5.next, ia])) (by first | omega | simp) (by omega) (by intro k hk; simp at hk; omega) (by simp) (by simp) (by omega) (by omega) (by omega) (by omega) (fun tmp => ⟨.ptr r 0, by simp +decide only [EL, reduceIte, i0], by simp +decide only [EL, reduceIte, i0]⟩) ((zIr H n).expr 1 R7 hd (by omega) _ rfl (zA2 hy hne)) (fun v h9 q => ?_) (fun v h9 e => ?_)
   rotate_left
   ·obtain ⟨p, er, hx, rfl, fr'⟩ := e
    rw [hx] at hy
    exact ⟨p, er, hy.symm, rfl, MoreBut.trans c7 fr'⟩
   obtain ⟨p, i, hx, li9, R9, b9, u, rfl, tr⟩ := q
   rw [hx, zAv] at hy
   have n9 := b9.next
   refine ⟨b9, u, p, rfl, tr, fun h10 kv' n10 keep nc10 k10 => ?_⟩
   have R10 := R9.keep n10 fun k hk => keep k (by have := R9.lt; omega) (.inl (by omega)) (by omega)
   have c10 : MoreBut r _ h10 := ⟨Nat.le_trans (MoreBut.trans c7 b9).next n10, fun k h1 h2 => by rw [keep k (by omega) (.inl (by omega)) (by omega)]; exact (MoreBut.trans c7 b9).keep k h1 h2⟩
   simp only [zAa]
   have rc10 := (keep h.next (by omega) (.inr (by simp)) (by omega)).trans ((b9.keep h.next (by omega) (by omega)).trans rc7)
   have bx10 := bx7.keep ((keep h5.next (by omega) (.inr (by simp)) (by omega)).trans (b9.keep h5.next (by omega) (by omega)))
   obtain ⟨cx, gx, cx0⟩ := bx10
   refine zI3 (b := h5.next) (rc := h.next) (by simp +decide only [EL, reduceIte]) gx cx0 (by simp +decide only [EL, reduceIte, i0]) rc10 (by rw [zAk]; rfl) fun h8 o8 hq => ?_
   have n8 := o8.next
   simp only [zAg, zAf]
   refine hq _ _ ⟨_, _, hy.symm, by omega, o8.rs R10 (by omega), o8.mb c10 (Nat.le_refl _), _, rfl, ?_⟩
   exact (k10.keep (o8.stay (by simp))).tree2 (nc10.keep (o8.keep _ (by omega))) (by show h.next ≤ _; omega) (by omega) fun k hk _ => hk
 | false =>
 rw [hB, if_neg (by simp)] at hy
 refine wc_no (by simp +decide only [EL, reduceIte, hB]) ?_
 have last : ∀ (l : T AV) (h5 : AH) (Q1 : Res → Prop), l.get 0 = some (.ptr r 0) → l.get 3 = some (.ptr h.next 0) → RS ts en h5 r i d → h5.mem.get h.next = some (.cells (zAd [.nilp]) 1 none false) → MoreBut r h h5 → h1.next ≤ h5.next → zCj ts en n i d = y →
   (∀ l' h6, zDz [.cellN 1 (.l 3)] (okP y ts en r i d h fun t v h1 => okT t h.next v h1) (erP y r h) (.ret l' [] h6) → Q1 (.ret l' [] h6)) → (∀ v l' h6, erP y r h v h6 → Q1 (.pan v l' [] h6)) →
   WC tab (.seq (.ops [⟨.move (.l 0), none, none, []⟩, ⟨.callF 156 [.t 0], none, none, []⟩, ⟨.store 1 (.l 3) (.t 0), none, none, []⟩]) .ret) l [] h5 Q1 := by
  intro l h5 Q l0 l3 R5 rc5 c5 n15 hk hret hpan
  refine zAc (zAb fun Q1 hQ => ?_)
  simp (disch := omega) only [EL, ↓K3, ↓K1, reduceIte, Nat.reduceEqDiff, Nat.reduceAdd, Nat.reduceLeDiff, l0]
  refine (change_ge H R5 hd y hk hne).mono (fun v h6 q => ?_) (fun v h6 e => ?_)
  rotate_left
  ·obtain ⟨p, er, hx, rfl, fr'⟩ := e
   exact hQ _ (hpan _ _ _ ⟨p, er, hx, rfl, MoreBut.trans c5 fr'⟩)
  obtain ⟨t, i', hx, li, R6, b6, u, rfl, tr⟩ := q
  have n5 := c5.next
  have n6 := b6.next
  have rc6 := (b6.keep h.next (by omega) (by omega)).trans rc5
  refine ⟨rfl, ?_⟩
  refine zF0 (rc := h.next) (by simp +decide only [EL, reduceIte, l3]) rc6 (by rw [zAk]; rfl) fun h7 o7 g7 => hQ _ ?_
  obtain ⟨c7, gc7, gc70⟩ := g7
  refine zAj (hret _ _ (zBc (id := h.next) (by simp +decide only [EL, reduceIte, l3]) gc7 (lst := [u]) (by rw [zAe, gc70]; rfl) ⟨t, i', hx, by omega, o7.rs R6 (by omega), o7.mb (c5.trans b6) (by omega), _, rfl, ?_⟩))
  exact TreeR.keep (o7.stay (F := fun k => h5.next ≤ k) (by omega)) (fun k hk _ => by show h.next ≤ k; omega) tr
 refine zAc (zAb fun Q1 hQ => ?_)
 simp (disch := omega) only [EL, ↓K3, ↓K1, reduceIte, Nat.reduceEqDiff, Nat.reduceAdd, Nat.reduceLeDiff, i0]
 refine (zHn H R3).to fun v h4 q => ?_
 obtain ⟨rfl, m4⟩ := q
 have n4 := m4.next
 have R4 := R3.more m4
 have rc4 := (m4.keep h.next (by omega)).trans rc3
 have c4 := c3.trans (m4.but r)
 have nochange : ¬ ((now ts en i).kind = 1 ∧ (now ts en (i + 1)).kind = 4 ∧ (now ts en (i + 1)).text = [58, 61]) → ∀ (l' : T AV) (h7 : AH), l'.get 0 = some (.ptr r 0) → l'.get 7 = some (.bool false) → l'.get 3 = some (.ptr h.next 0) → RS ts en h7 r i d → h7.mem.get h.next = some (.cells (zAd [.nilp]) 1 none false) → MoreBut r h h7 → h1.next ≤ h7.next → Q1 (.norm l' [] h7) := by
  intro hno l' h7 e0 e7 e3 R7 rc7 c7 n7
  rw [if_neg hno] at hy
  refine hQ _ ?_
  clear hQ Q1
  simp only [zAa]
  refine wc_no (by simp +decide only [EL, reduceIte, e7]) ?_
  refine zAm ?_
  simp only [zAa, zAi]
  refine last _ _ _ e0 e3 R7 rc7 c7 n7 hy (fun l' h6 q => ?_) (fun v l' h6 e => ?_)
  ·try simp only [zAg, zAf]
   exact q
  ·try simp only [zDd, zCu]
   exact e
 by_cases k1 : (now ts en i).kind = 1
 rotate_left
 ·have k1' : ¬ ((now ts en i).kind : Int) = ((1 : Nat) : Int) := by omega
  simp (disch := omega) only [EL, ↓K3, ↓K1, reduceIte, Nat.reduceEqDiff, Nat.reduceAdd, Nat.reduceLeDiff, i0, f0, k1']
  exact nochange (fun e => k1 e.1) _ _ (by simp +decide only [EL, reduceIte, i0]) (by simp +decide only [EL, reduceIte]) (by simp +decide only [EL, reduceIte]) R4 rc4 c4 (by omega)
 simp (disch := omega) only [EL, ↓K3, ↓K1, reduceIte, Nat.reduceEqDiff, Nat.reduceAdd, Nat.reduceLeDiff, i0, f0, k1]
 refine (ahead_gp H R4).to fun v h5 q => ?_
 obtain ⟨rfl, m5⟩ := q
 have n5 := m5.next
 have R5 := R4.more m5
 have rc5 := (m5.keep h.next (by omega)).trans rc4
 have c5 := c4.trans (m5.but r)
 by_cases k4 : (now ts en (i + 1)).kind = 4
 rotate_left
 ·have k4' : ¬ ((now ts en (i + 1)).kind : Int) = ((4 : Nat) : Int) := by omega
  simp (disch := omega) only [EL, ↓K3, ↓K1, reduceIte, Nat.reduceEqDiff, Nat.reduceAdd, Nat.reduceLeDiff, i0, f0, k4']
  exact nochange (fun e => k4 e.2.1) _ _ (by simp +decide only [EL, reduceIte, i0]) (by simp +decide only [EL, reduceIte]) (by simp +decide only [EL, reduceIte]) R5 rc5 c5 (by omega)
 simp (disch := omega) only [EL, ↓K3, ↓K1, reduceIte, Nat.reduceEqDiff, Nat.reduceAdd, Nat.reduceLeDiff, i0, f0, k4]
 refine (ahead_gp H R5).to fun v h6 q => ?_
 obtain ⟨rfl, m6⟩ := q
 have n6 := m6.next
 have R6 := R5.more m6
 have rc6 := (m6.keep h.next (by omega)).trans rc5
 have c6 := c5.trans (m6.but r)
 by_cases kt : (now ts en (i + 1)).text = [58, 61]
 rotate_left
 ·simp (disch := omega) only [EL, ↓K3, ↓K1, reduceIte, Nat.reduceEqDiff, Nat.reduceAdd, Nat.reduceLeDiff, i0, f1, kt]
  exact nochange (fun e => kt e.2.2) _ _ (by simp +decide only [EL, reduceIte, i0]) (by simp +decide only [EL, reduceIte]) (by simp +decide only [EL, reduceIte]) R6 rc6 c6 (by omega)
 rw [if_pos ⟨k1, k4, kt⟩] at hy
 simp (disch := omega) only [EL, ↓K3, ↓K1, reduceIte, Nat.reduceEqDiff, Nat.reduceAdd, Nat.reduceLeDiff, i0, f1, kt]
 clear nochange
 refine hQ _ ?_
 clear hQ Q1
 simp only [zAa]
 refine zAt (by simp +decide only [EL, reduceIte]) ?_
 have hi1 : i + 1 < ts.length := by
  rcases Nat.lt_or_ge (i + 1) ts.length with h | h
  ·exact h
  ·rw [zD8 (by omega)] at k4; cases k4
 refine zAc (zAb fun Q1 hQ => ?_)
 simp (disch := omega) only [EL, ↓K3, ↓K1, reduceIte, Nat.reduceEqDiff, Nat.reduceAdd, Nat.reduceLeDiff, i0]
 refine (zCm H R6 (by omega)).to fun v h7 q => ?_
 obtain ⟨rfl, R7, b7⟩ := q
 have n7 := b7.next
 have rc7 := (b7.keep h.next (by omega) (by omega)).trans rc6
 have c7 := c6.trans b7
 simp (disch := omega) only [EL, ↓K3, ↓K1, reduceIte, Nat.reduceEqDiff, Nat.reduceAdd, Nat.reduceLeDiff]
 refine hQ _ ?_
 clear hQ Q1
 refine zDs fun h8 n8 g8 m8 => ?_
 obtain ⟨ct, gt, k0, k1, k2⟩ := g8
 simp only [zAa]
 have R8 := R7.more m8
 have rc8 := (m8.keep h.next (by omega)).trans rc7
 have c8 := c7.trans (m8.but r)
 refine zAc (zAb fun Q1 hQ => ?_)
 simp (disch := omega) only [EL, ↓K3, ↓K1, reduceIte, Nat.reduceEqDiff, Nat.reduceAdd, Nat.reduceLeDiff, i0]
 refine (zCm H R8 hi1).to fun v h9 q => ?_
 obtain ⟨rfl, R9, b9⟩ := q
 have n9 := b9.next
 have rc9 := (b9.keep h.next (by omega) (by omega)).trans rc8
 have c9 := c8.trans b9
 have gt9 := (b9.keep h7.next (by omega) (by omega)).trans gt
 simp (disch := omega) only [EL, ↓K3, ↓K1, reduceIte, Nat.reduceEqDiff, Nat.reduceAdd, Nat.reduceLeDiff]
 refine hQ _ ?_
 clear hQ Q1
 simp only [zAa]
 refine zAc (zAb fun Q1 hQ => ?_)
 simp (disch := omega) only [EL, ↓K3, ↓K1, reduceIte, Nat.reduceEqDiff, Nat.reduceAdd, Nat.reduceLeDiff, i0, gt9, k0, k1, k2, zAe]
 obtain rfl := hz
 refine ((zIr H n).expr 1 R9 hd (by omega) _ rfl (zA2 hy hne)).mono (fun v h10 q => ?_) (fun v h10 e => ?_)
 rotate_left
 ·obtain ⟨p, er, hx, rfl, fr'⟩ := e
  rw [hx] at hy
  exact hQ _ ⟨p, er, hy.symm, rfl, MoreBut.trans c9 fr'⟩
 obtain ⟨e, i, hx, lib10, R10, b10, q⟩ := q
 rw [hx, zAv] at hy
 have nb10 := MoreBut.next b10
 obtain ⟨u, rfl, t10⟩ := q
 obtain ⟨ui, rfl, hu1, hu2⟩ := t10.ptr
 have rc10 := (b10.keep h.next (by omega) (by omega)).trans rc9
 have c10 := c9.trans b10
 have gt10 := (b10.keep h7.next (by omega) (by omega)).trans gt9
 simp (disch := omega) only [EL, ↓K3, ↓K1, reduceIte, Nat.reduceEqDiff, Nat.reduceAdd, Nat.reduceLeDiff, zA6, zA7, gt10, k0, k1, k2, zAe]
 have m11 : More h10 (h10.add (.cells (zAd [.ptr ui 0]) 1 none false)) := More.add _ _
 have g11 : (h10.add (.cells (zAd [.ptr ui 0]) 1 none false)).mem.get h10.next = some (.cells (zAd [.ptr ui 0]) 1 none false) := by rw [AH.add_mem, T.get_put_self]
 have n11 : (h10.add (.cells (zAd [.ptr ui 0]) 1 none false)).next = h10.next + 1 := rfl
 generalize h10.add (.cells (zAd [.ptr ui 0]) 1 none false) = h11 at *
 refine (zGe H (t := now ts en z) (kv := .sl h10.next 0 1 (.known 1)) (op := 7) (fun _ => rfl) rfl).to fun v h12 q => ?_
 obtain ⟨ia, rfl, i1, i2, nc, m12⟩ := q
 have n12 := m12.next
 have kd := zE3 (lo := h.next) (X := [h.next, ia]) g11 (by omega) (by omega) (by simp; omega) (TreeR.keep m11.stay (fun k hk hl => ⟨by omega, by simp; omega, by omega⟩) t10)
 have kd12 := kd.keep m12.stay
 have mm := m11.trans m12
 have rc12 := (mm.keep h.next (by omega)).trans rc10
 simp (disch := omega) only [EL, ↓K3, ↓K1, reduceIte, Nat.reduceEqDiff, Nat.reduceAdd, Nat.reduceLeDiff, i0, rc12]
 refine hQ _ ?_
 have o13 : Only h.next h12 (h12.set h.next (.cells (T.put (some (.ptr ia 0)) (zAd [.nilp]) 0) 1 none false)) := Only.set
 have gc13 : (h12.set h.next (.cells (T.put (some (.ptr ia 0)) (zAd [.nilp]) 0) 1 none false)).mem.get h.next = some (.cells (T.put (some (.ptr ia 0)) (zAd [.nilp]) 0) 1 none false) := AH.get_set
 generalize h12.set h.next (.cells (T.put (some (.ptr ia 0)) (zAd [.nilp]) 0) 1 none false) = h13 at *
 have n13 := o13.next
 refine zAj ?_
 try simp only [zAg, zAf]
 refine zBc (id := h.next) (by simp +decide only [EL, reduceIte, i0]) gc13 (lst := [.ptr ia 0]) (by rw [zAe, T.get_put_self]; rfl) ?_
 refine ⟨_, _, hy.symm, by omega, o13.rs (R10.more mm) (by omega), o13.mb (c10.trans (mm.but r)) (by omega), _, rfl, ?_⟩
 exact (kd12.keep (o13.stay (by simp))).tree2 (nc.keep (o13.keep _ (by omega))) (by show h.next ≤ _; omega) (by omega) fun k hk _ => hk
end
end Go.Ev
namespace Go.Ev
open Go Go.Pa
section
variable {tab : Nat → Option AFunc} {h : AH} (H : PT tab) {ts : List Tok} {en r i d : Nat}
structure SX (tab : Nat → Option AFunc) (ts : List Tok) (en n : Nat) : Prop where
 stmt : ∀ {h : AH} {r i d : Nat}, RS ts en h r i d → d ≤ 40 → GS tab 122 [.ptr r 0] ts en r i d h (stmtS ts en n i d) fun t v h1 => okT t h.next v h1
 branch : ∀ {h : AH} {r i d : Nat}, RS ts en h r i d → d ≤ 40 → GS tab 133 [.ptr r 0] ts en r i d h (zBu ts en n i d) fun t v h1 => okT t h.next v h1
 block : ∀ {h : AH} {r i d : Nat}, RS ts en h r i d → d ≤ 40 → GS tab 100 [.ptr r 0] ts en r i d h (zB0 ts en n i d) fun t v h1 => okT t h.next v h1
include H in
theorem stmt_ge {n : Nat} (IH : ∀ m, m < n → SX tab ts en m) (R : RS ts en h r i d) (hd : d ≤ 40) : GS tab 122 [.ptr r 0] ts en r i d h (stmtS ts en n i d) fun t v h1 => okT t h.next v h1 := by
 intro y hy hne
 cases n with
 | zero => exact absurd (by rw [← hy]; simp [stmtS]) hne
 | succ n =>
 have i0 : zAh [.ptr r 0] = zAd [.ptr r 0] := rfl
 have hr := R.lt
 have f2 : ∀ (t : Tok) h', zCr 2 1 false (.c (tokV t)) .leaf [] h' = .val (.int .i64 (t.pos : Int)) h' := fun _ _ => rfl
 obtain ⟨z, hz⟩ : ∃ z, z = i := ⟨_, rfl⟩
 refine ge_of H.t122 rfl ?_
 refine zBk fun h1 n1 g1 m1 => ?_
 have R1 := R.more m1
 have rc1 := g1
 have c1 := m1.but r
 unfold stmtS at hy
 refine zAc ?_
 refine zAy ?_
 refine zAc (zAb fun Q1 hQ => ?_)
 simp (disch := omega) only [EL, ↓K3, ↓K1, reduceIte, Nat.reduceEqDiff, Nat.reduceAdd, Nat.reduceLeDiff, i0]
 refine (is_gp H R1 _).to fun v h2 q => ?_
 obtain ⟨rfl, m2⟩ := q
 have n2 := m2.next
 have R2 := R1.more m2
 have rc2 := (m2.keep h.next (by omega)).trans rc1
 have c2 := c1.trans (m2.but r)
 simp (disch := omega) only [EL, ↓K3, ↓K1, reduceIte, Nat.reduceEqDiff, Nat.reduceAdd, Nat.reduceLeDiff]
 refine hQ _ ?_
 clear hQ Q1
 simp only [zAa]
 cases hA : isT ts en [105, 102] i with
 | true =>
  rw [hA, if_pos rfl] at hy
  refine zAt (by simp +decide only [EL, reduceIte, hA]) ?_
  refine zAc (zAb fun Q1 hQ => ?_)
  simp (disch := omega) only [EL, ↓K3, ↓K1, reduceIte, Nat.reduceEqDiff, Nat.reduceAdd, Nat.reduceLeDiff, i0]
  refine ((IH n (by omega)).branch R2 hd _ hy hne).mono (fun v h3 q => ?_) (fun v h3 e => ?_)
  rotate_left
  ·obtain ⟨p, er, hx, rfl, fr'⟩ := e
   exact hQ _ ⟨p, er, hx, rfl, MoreBut.trans c2 fr'⟩
  obtain ⟨e, i, hx, lib3, R3, b3, q⟩ := q
  have nb3 := MoreBut.next b3
  obtain ⟨u, rfl, tr⟩ := q
  obtain ⟨ui, rfl, hu1, hu2⟩ := tr.ptr
  have rc3 := (b3.keep h.next (by omega) (by omega)).trans rc2
  simp (disch := omega) only [EL, ↓K3, ↓K1, reduceIte, Nat.reduceEqDiff, Nat.reduceAdd, Nat.reduceLeDiff, i0, rc3]
  refine hQ _ ?_
  have o4 : Only h.next h3 (h3.set h.next (.cells (T.put (some (.ptr ui 0)) (zAd [.nilp]) 0) 1 none false)) := Only.set
  have gc4 : (h3.set h.next (.cells (T.put (some (.ptr ui 0)) (zAd [.nilp]) 0) 1 none false)).mem.get h.next = some (.cells (T.put (some (.ptr ui 0)) (zAd [.nilp]) 0) 1 none false) := AH.get_set
  generalize h3.set h.next (.cells (T.put (some (.ptr ui 0)) (zAd [.nilp]) 0) 1 none false) = h4 at *
  have n4 := o4.next
  refine zAj ?_
  try simp only [zAg, zAf]
  refine zBc (id := h.next) (by simp +decide only [EL, reduceIte, i0]) gc4 (lst := [.ptr ui 0]) (by rw [zAe, T.get_put_self]; rfl) ?_
  refine ⟨_, _, hx, by omega, o4.rs R3 (by omega), o4.mb (c2.trans b3) (by omega), _, rfl, ?_⟩
  exact TreeR.keep (o4.stay (F := fun k => h2.next ≤ k) (by omega)) (fun k hk _ => by show h.next ≤ k; omega) tr
 | false =>
 rw [hA, if_neg (by simp)] at hy
 refine wc_no (by simp +decide only [EL, reduceIte, hA]) ?_
 refine zAc (zAb fun Q1 hQ => ?_)
 simp (disch := omega) only [EL, ↓K3, ↓K1, reduceIte, Nat.reduceEqDiff, Nat.reduceAdd, Nat.reduceLeDiff, i0]
 refine (is_gp H R2 _).to fun v h3 q => ?_
 obtain ⟨rfl, m3⟩ := q
 have n3 := m3.next
 have R3 := R2.more m3
 have rc3 := (m3.keep h.next (by omega)).trans rc2
 have c3 := c2.trans (m3.but r)
 simp (disch := omega) only [EL, ↓K3, ↓K1, reduceIte, Nat.reduceEqDiff, Nat.reduceAdd, Nat.reduceLeDiff]
 refine hQ _ ?_
 clear hQ Q1
 simp only [zAa]
 cases hB : isT ts en [102, 111, 114] i with
 | true =>
  rw [hB, if_pos rfl] at hy
  refine zAt (by simp +decide only [EL, reduceIte, hB]) ?_
  refine zAc (zAb fun Q1 hQ => ?_)
  simp (disch := omega) only [EL, ↓K3, ↓K1, reduceIte, Nat.reduceEqDiff, Nat.reduceAdd, Nat.reduceLeDiff, i0]
  refine (zCm H R3 (is_lt hB)).to fun v h4 q => ?_
  obtain ⟨rfl, R4, b4⟩ := q
  have n4 := b4.next
  have rc4 := (b4.keep h.next (by omega) (by omega)).trans rc3
  have c4 := c3.trans b4
  simp (disch := omega) only [EL, ↓K3, ↓K1, reduceIte, Nat.reduceEqDiff, Nat.reduceAdd, Nat.reduceLeDiff, f2]
  refine ((zIr H n).expr 1 R4 hd (by omega) _ rfl (zA2 hy hne)).mono (fun v h5 q => ?_) (fun v h5 e => ?_)
  rotate_left
  ·obtain ⟨p, er, hx, rfl, fr'⟩ := e
   rw [hx] at hy
   exact hQ _ ⟨p, er, hy.symm, rfl, MoreBut.trans c4 fr'⟩
  obtain ⟨e, i, hx, lib5, R5, b5, q⟩ := q
  rw [hx, zAv] at hy
  have nb5 := MoreBut.next b5
  obtain ⟨u, rfl, t5⟩ := q
  obtain ⟨ui, rfl, hu1, hu2⟩ := t5.ptr
  have rc5 := (b5.keep h.next (by omega) (by omega)).trans rc4
  have c5 := c4.trans b5
  simp (disch := omega) only [EL, ↓K3, ↓K1, reduceIte, Nat.reduceEqDiff, Nat.reduceAdd, Nat.reduceLeDiff]
  have m6 : More h5 (h5.add (.cells (zAd [.ptr ui 0]) 1 none false)) := More.add _ _
  have g6 : (h5.add (.cells (zAd [.ptr ui 0]) 1 none false)).mem.get h5.next = some (.cells (zAd [.ptr ui 0]) 1 none false) := by rw [AH.add_mem, T.get_put_self]
  have n6 : (h5.add (.cells (zAd [.ptr ui 0]) 1 none false)).next = h5.next + 1 := rfl
  generalize h5.add (.cells (zAd [.ptr ui 0]) 1 none false) = h6 at *
  refine (zDh H (kv := .sl h5.next 0 1 (.known 1)) (op := 11) (fun _ => rfl) rfl).to fun v h7 q => ?_
  obtain ⟨ia, rfl, i1, i2, nc, m7⟩ := q
  have n7 := m7.next
  have kd := zE3 (lo := h.next) (X := [h.next, h7.next, ia]) g6 (by omega) (by omega) (by simp; omega) (TreeR.keep m6.stay (fun k hk hl => ⟨by omega, by simp; omega, by omega⟩) t5)
  have kd7 := kd.keep m7.stay
  have mm := m6.trans m7
  have rc7 := (mm.keep h.next (by omega)).trans rc5
  have R7 := R5.more mm
  have c7 := c5.trans (mm.but r)
  simp (disch := omega) only [EL, ↓K3, ↓K1, reduceIte, Nat.reduceEqDiff, Nat.reduceAdd, Nat.reduceLeDiff]
  refine hQ _ ?_
  clear hQ Q1
  refine zBp fun h8 n8 g8 m8 => ?_
  obtain ⟨cb, gb, cb0⟩ := g8
  simp only [zAa]
  have R8 := R7.more m8
  have c8 := c7.trans (m8.but r)
  have nc8 := nc.keep (m8.keep ia i2)
  have rc8 := (m8.keep h.next (by omega)).trans rc7
  have bx8 : BoxN h8 h7.next ia := ⟨cb, gb, cb0⟩
  have k8 := kd7.keep m8.stay
  refine zAc ?_
  refine zF4 (K := 4) (b := h7.next) (id := ia) (lo := h.next) (X := [h.next, h7.next, ia]) (r := r) (f := 100) (args := [.ptr r 0]) (by simp +decide only [EL, reduceIte, i0]) bx8 nc8 k8 (by first | omega | simp) (by omega) (by intro k hk; simp at hk; omega) (by simp) (by simp) (by omega) (by omega) (by omega) (by omega) (fun tmp => ⟨.ptr r 0, by simp +decide only [EL, reduceIte, i0], by simp +decide only [EL, reduceIte, i0]⟩) ((IH n (by omega)).block R8 hd _ rfl (zA2 hy hne)) (fun v h9 q => ?_) (fun v h9 e => ?_)
  rotate_left
  ·obtain ⟨p, er, hx, rfl, fr'⟩ := e
   rw [hx] at hy
   exact ⟨p, er, hy.symm, rfl, MoreBut.trans c8 fr'⟩
  obtain ⟨p, i, hx, li9, R9, b9, u, rfl, tr⟩ := q
  rw [hx, zAv] at hy
  have n9 := b9.next
  refine ⟨b9, u, p, rfl, tr, fun h10 kv' n10 keep nc10 k10 => ?_⟩
  have R10 := R9.keep n10 fun k hk => keep k (by have := R9.lt; omega) (.inl (by omega)) (by omega)
  have c10 : MoreBut r _ h10 := ⟨Nat.le_trans (MoreBut.trans c8 b9).next n10, fun k h1 h2 => by rw [keep k (by omega) (.inl (by omega)) (by omega)]; exact (MoreBut.trans c8 b9).keep k h1 h2⟩
  try simp only [zAa, zAi]
  have rc10 := (keep h.next (by omega) (.inr (by simp)) (by omega)).trans ((b9.keep h.next (by omega) (by omega)).trans rc8)
  have bx10 := bx8.keep ((keep h7.next (by omega) (.inr (by simp)) (by omega)).trans (b9.keep h7.next (by omega) (by omega)))
  obtain ⟨cx, gx, cx0⟩ := bx10
  refine zI3 (b := h7.next) (rc := h.next) (by simp +decide only [EL, reduceIte]) gx cx0 (by simp +decide only [EL, reduceIte, i0]) rc10 (by rw [zAk]; rfl) fun h11 o8 hq => ?_
  have n11 := o8.next
  simp only [zAg, zAf]
  refine hq _ _ ⟨_, _, hy.symm, by omega, o8.rs R10 (by omega), o8.mb c10 (Nat.le_refl _), _, rfl, ?_⟩
  exact (k10.keep (o8.stay (by simp))).tree2 (nc10.keep (o8.keep _ (by omega))) (by show h.next ≤ _; omega) (by omega) fun k hk _ => hk
 | false =>
 rw [hB, if_neg (by simp)] at hy
 refine wc_no (by simp +decide only [EL, reduceIte, hB]) ?_
 refine zAm ?_
 simp only [zAa, zAi]
 refine zAc (zAb fun Q1 hQ => ?_)
 simp (disch := omega) only [EL, ↓K3, ↓K1, reduceIte, Nat.reduceEqDiff, Nat.reduceAdd, Nat.reduceLeDiff, i0]
 refine (simple_ge H R3 hd _ rfl (zA2 hy hne)).mono (fun v h4 q => ?_) (fun v h4 e => ?_)
 rotate_left
 ·obtain ⟨p, er, hx, rfl, fr'⟩ := e
  rw [hx] at hy
  exact hQ _ ⟨p, er, hy.symm, rfl, MoreBut.trans c3 fr'⟩
 obtain ⟨e, i, hx, lib4, R4, b4, q⟩ := q
 rw [hx, zAv] at hy
 have nb4 := MoreBut.next b4
 obtain ⟨u, rfl, tr⟩ := q
 have rc4 := (b4.keep h.next (by omega) (by omega)).trans rc3
 have c4 := c3.trans b4
 simp (disch := omega) only [EL, ↓K3, ↓K1, reduceIte, Nat.reduceEqDiff, Nat.reduceAdd, Nat.reduceLeDiff]
 refine hQ _ ?_
 clear hQ Q1
 refine zBp fun h5 n5 g5 m5 => ?_
 obtain ⟨cb, gb, cb0⟩ := g5
 simp only [zAa]
 have R5 := R4.more m5
 have rc5 := (m5.keep h.next (by omega)).trans rc4
 have c5 := c4.trans (m5.but r)
 refine zAc (zAb fun Q1 hQ => ?_)
 simp (disch := omega) only [EL, ↓K3, ↓K1, reduceIte, Nat.reduceEqDiff, Nat.reduceAdd, Nat.reduceLeDiff, i0]
 refine (zBs H R5 _ _ rfl (zA2 hy hne)).mono (fun v h6 q => ?_) (fun v h6 e => ?_)
 rotate_left
 ·obtain ⟨p, er, hx, rfl, fr'⟩ := e
  rw [hx] at hy
  exact hQ _ ⟨p, er, hy.symm, rfl, MoreBut.trans c5 fr'⟩
 obtain ⟨pp, i, hx, lib6, R6, b6, q⟩ := q
 rw [hx, zAv] at hy
 have nb6 := MoreBut.next b6
 have rc6 := (b6.keep h.next (by omega) (by omega)).trans rc5
 have gb6 := (b6.keep h4.next (by omega) (by omega)).trans gb
 simp (disch := omega) only [EL, ↓K3, ↓K1, reduceIte, Nat.reduceEqDiff, Nat.reduceAdd, Nat.reduceLeDiff]
 refine hQ _ ?_
 clear hQ Q1
 simp only [zAa]
 refine zC0 (b := h4.next) (rc := h.next) (by simp +decide only [EL, reduceIte]) gb6 cb0 (by simp +decide only [EL, reduceIte]) rc6 (by rw [zAk]; rfl) fun h7 o7 => ?_
 refine ⟨_, _, hy.symm, by omega, o7.rs R6 (by omega), o7.mb (c5.trans b6) (by omega), _, rfl, ?_⟩
 exact TreeR.keep ((m5.stay (F := fun k => h3.next ≤ k ∧ k < h4.next)).trans ((b6.stay (by omega)).trans (o7.stay (by omega)))) (fun k hk _ => by show h.next ≤ k; omega) (tr.less (G := fun k => h3.next ≤ k ∧ k < h4.next) fun k hk hl => ⟨hk, hl⟩)
include H in
theorem branch_ge {n : Nat} (IH : ∀ m, m < n → SX tab ts en m) (R : RS ts en h r i d) (hd : d ≤ 40) : GS tab 133 [.ptr r 0] ts en r i d h (zBu ts en n i d) fun t v h1 => okT t h.next v h1 := by
 intro y hy hne
 cases n with
 | zero => exact absurd (by rw [← hy]; simp [zBu]) hne
 | succ n =>
 have i0 : zAh [.ptr r 0] = zAd [.ptr r 0] := rfl
 have hr := R.lt
 obtain ⟨z, hz⟩ : ∃ z, z = i := ⟨_, rfl⟩
 refine ge_of H.t133 rfl ?_
 refine zBk fun h1 n1 g1 m1 => ?_
 have R1 := R.more m1
 have rc1 := g1
 have c1 := m1.but r
 unfold zBu at hy
 refine zAc (zAb fun Q1 hQ => ?_)
 simp (disch := omega) only [EL, ↓K3, ↓K1, reduceIte, Nat.reduceEqDiff, Nat.reduceAdd, Nat.reduceLeDiff, i0]
 refine (zBs H R1 _ _ rfl (zA2 hy hne)).mono (fun v h2 q => ?_) (fun v h2 e => ?_)
 rotate_left
 ·obtain ⟨p, er, hx, rfl, fr'⟩ := e
  rw [hx] at hy
  exact hQ _ ⟨p, er, hy.symm, rfl, MoreBut.trans c1 fr'⟩
 obtain ⟨pp, i, hx, lib2, R2, b2, q⟩ := q
 rw [hx, zAv] at hy
 have nb2 := MoreBut.next b2
 subst q
 have rc2 := (b2.keep h.next (by omega) (by omega)).trans rc1
 have c2 := c1.trans b2
 simp (disch := omega) only [EL, ↓K3, ↓K1, reduceIte, Nat.reduceEqDiff, Nat.reduceAdd, Nat.reduceLeDiff]
 refine hQ _ ?_
 clear hQ Q1
 simp only [zAa]
 refine zAc (zAb fun Q1 hQ => ?_)
 simp (disch := omega) only [EL, ↓K3, ↓K1, reduceIte, Nat.reduceEqDiff, Nat.reduceAdd, Nat.reduceLeDiff, i0]
 refine ((zIr H n).expr 1 R2 hd (by omega) _ rfl (zA2 hy hne)).mono (fun v h3 q => ?_) (fun v h3 e => ?_)
 rotate_left
 ·obtain ⟨p, er, hx, rfl, fr'⟩ := e
  rw [hx] at hy
  exact hQ _ ⟨p, er, hy.symm, rfl, MoreBut.trans c2 fr'⟩
 obtain ⟨e, i, hx, lib3, R3, b3, q⟩ := q
 rw [hx, zAv] at hy
 have nb3 := MoreBut.next b3
 obtain ⟨u, rfl, t3⟩ := q
 obtain ⟨ui, rfl, hu1, hu2⟩ := t3.ptr
 have rc3 := (b3.keep h.next (by omega) (by omega)).trans rc2
 have c3 := c2.trans b3
 simp (disch := omega) only [EL, ↓K3, ↓K1, reduceIte, Nat.reduceEqDiff, Nat.reduceAdd, Nat.reduceLeDiff]
 have m4 : More h3 (h3.add (.cells (zAd [.ptr ui 0]) 1 none false)) := More.add _ _
 have g4 : (h3.add (.cells (zAd [.ptr ui 0]) 1 none false)).mem.get h3.next = some (.cells (zAd [.ptr ui 0]) 1 none false) := by rw [AH.add_mem, T.get_put_self]
 have n4 : (h3.add (.cells (zAd [.ptr ui 0]) 1 none false)).next = h3.next + 1 := rfl
 generalize h3.add (.cells (zAd [.ptr ui 0]) 1 none false) = h4 at *
 refine (zDh H (kv := .sl h3.next 0 1 (.known 1)) (op := 10) (fun _ => rfl) rfl).to fun v h5 q => ?_
 obtain ⟨ia, rfl, i1, i2, nc, m5⟩ := q
 have n5 := m5.next
 have kd := zE3 (lo := h.next) (X := [h.next, h5.next, ia]) g4 (by omega) (by omega) (by simp; omega) (TreeR.keep m4.stay (fun k hk hl => ⟨by omega, by simp; omega, by omega⟩) t3)
 have kd5 := kd.keep m5.stay
 have mm := m4.trans m5
 have rc5 := (mm.keep h.next (by omega)).trans rc3
 have R5 := R3.more mm
 have c5 := c3.trans (mm.but r)
 simp (disch := omega) only [EL, ↓K3, ↓K1, reduceIte, Nat.reduceEqDiff, Nat.reduceAdd, Nat.reduceLeDiff]
 refine hQ _ ?_
 clear hQ Q1
 refine zBp fun h6 n6 g6 m6 => ?_
 obtain ⟨cb, gb, cb0⟩ := g6
 simp only [zAa]
 have R6 := R5.more m6
 have c6 := c5.trans (m6.but r)
 have nc6 := nc.keep (m6.keep ia i2)
 have rc6 := (m6.keep h.next (by omega)).trans rc5
 have bx6 : BoxN h6 h5.next ia := ⟨cb, gb, cb0⟩
 have k6 := kd5.keep m6.stay
 refine zAc ?_
 refine zF4 (K := 2) (b := h5.next) (id := ia) (lo := h.next) (X := [h.next, h5.next, ia]) (r := r) (f := 100) (args := [.ptr r 0]) (by simp +decide only [EL, reduceIte, i0]) bx6 nc6 k6 (by first | omega | simp) (by omega) (by intro k hk; simp at hk; omega) (by simp) (by simp) (by omega) (by omega) (by omega) (by omega) (fun tmp => ⟨.ptr r 0, by simp +decide only [EL, reduceIte, i0], by simp +decide only [EL, reduceIte, i0]⟩) ((IH n (by omega)).block R6 hd _ rfl (zA2 hy hne)) (fun v h9 q => ?_) (fun v h9 e => ?_)
 rotate_left
 ·obtain ⟨p, er, hx, rfl, fr'⟩ := e
  rw [hx] at hy
  exact ⟨p, er, hy.symm, rfl, MoreBut.trans c6 fr'⟩
 obtain ⟨p, i, hx, li9, R9, b9, u, rfl, tr⟩ := q
 rw [hx, zAv] at hy
 have n9 := b9.next
 refine ⟨b9, u, p, rfl, tr, fun h10 kv' n10 keep nc10 k10 => ?_⟩
 have R10 := R9.keep n10 fun k hk => keep k (by have := R9.lt; omega) (.inl (by omega)) (by omega)
 have c10 : MoreBut r _ h10 := ⟨Nat.le_trans (MoreBut.trans c6 b9).next n10, fun k h1 h2 => by rw [keep k (by omega) (.inl (by omega)) (by omega)]; exact (MoreBut.trans c6 b9).keep k h1 h2⟩
 try simp only [zAa, zAi]
 have rc10 := (keep h.next (by omega) (.inr (by simp)) (by omega)).trans ((b9.keep h.next (by omega) (by omega)).trans rc6)
 have bx10 := bx6.keep ((keep h5.next (by omega) (.inr (by simp)) (by omega)).trans (b9.keep h5.next (by omega) (by omega)))
 clear keep
 refine zAc ?_
 refine zAc (zAb fun Q1 hQ => ?_)
 simp (disch := omega) only [EL, ↓K3, ↓K1, reduceIte, Nat.reduceEqDiff, Nat.reduceAdd, Nat.reduceLeDiff, i0]
 refine (zD3 H R10 _).to fun v h11 q => ?_
 obtain ⟨rfl, R11, b11⟩ := q
 have n11 := b11.next
 have rc11 := (b11.keep h.next (by omega) (by omega)).trans rc10
 have bx11 := bx10.keep (b11.keep h5.next (by omega) (by omega))
 have nc11 := nc10.keep (b11.keep ia (by omega) (by omega))
 have k11 := k10.keep (b11.stay (F := fun k => h.next ≤ k ∧ k ∉ [h.next, h5.next, ia]) (by simp; omega))
 have c11 := c10.trans b11
 simp (disch := omega) only [EL, ↓K3, ↓K1, reduceIte, Nat.reduceEqDiff, Nat.reduceAdd, Nat.reduceLeDiff]
 refine hQ _ ?_
 clear hQ Q1
 simp only [zAa]
 cases hE : isT ts en [101, 108, 115, 101] i with
 | false =>
  rw [hE, if_neg (by simp)] at hy R11
  refine wc_no (by simp +decide only [EL, reduceIte, hE]) ?_
  refine zAm ?_
  simp only [zAa]
  obtain ⟨cx, gx, cx0⟩ := bx11
  refine zC0 (b := h5.next) (rc := h.next) (by simp +decide only [EL, reduceIte]) gx cx0 (by simp +decide only [EL, reduceIte]) rc11 (by rw [zAk]; rfl) fun h12 o8 => ?_
  have n12 := o8.next
  refine ⟨_, _, hy.symm, by omega, o8.rs R11 (by omega), o8.mb c11 (Nat.le_refl _), _, rfl, ?_⟩
  exact (k11.keep (o8.stay (by simp))).tree2 (nc11.keep (o8.keep _ (by omega))) (by show h.next ≤ _; omega) (by omega) fun k hk _ => hk
 | true =>
  rw [hE, if_pos rfl] at hy R11
  refine zAt (by simp +decide only [EL, reduceIte, hE]) ?_
  refine zAc (zAb fun Q1 hQ => ?_)
  simp (disch := omega) only [EL, ↓K3, ↓K1, reduceIte, Nat.reduceEqDiff, Nat.reduceAdd, Nat.reduceLeDiff, i0]
  refine hQ _ ?_
  clear hQ Q1
  simp only [zAa]
  refine zAc ?_
  refine zAc (zAb fun Q1 hQ => ?_)
  simp (disch := omega) only [EL, ↓K3, ↓K1, reduceIte, Nat.reduceEqDiff, Nat.reduceAdd, Nat.reduceLeDiff, i0]
  refine (is_gp H R11 _).to fun v h12 q => ?_
  obtain ⟨rfl, m12⟩ := q
  have n12 := m12.next
  have R12 := R11.more m12
  have rc12 := (m12.keep h.next (by omega)).trans rc11
  have c12 := c11.trans (m12.but r)
  have bx12 := bx11.keep (m12.keep h5.next (by omega))
  have nc12 := nc11.keep (m12.keep ia (by omega))
  have k12 := k11.keep m12.stay
  simp (disch := omega) only [EL, ↓K3, ↓K1, reduceIte, Nat.reduceEqDiff, Nat.reduceAdd, Nat.reduceLeDiff]
  refine hQ _ ?_
  clear hQ Q1
  simp only [zAa]
  cases hI : isT ts en [105, 102] (i + 1) with
  | true =>
   rw [hI, if_pos rfl] at hy
   refine zAt (by simp +decide only [EL, reduceIte, hI]) ?_
   refine zAb fun Q1 hQ => ?_
   simp (disch := omega) only [EL, ↓K3, ↓K1, reduceIte, Nat.reduceEqDiff, Nat.reduceAdd, Nat.reduceLeDiff, i0]
   refine hQ _ ?_
   clear hQ Q1
   simp only [zAa]
   refine zF4 (K := 2) (b := h5.next) (id := ia) (lo := h.next) (X := [h.next, h5.next, ia]) (r := r) (f := 133) (args := [.ptr r 0]) (by simp +decide only [EL, reduceIte, i0]) bx12 nc12 k12 (by first | omega | simp) (by omega) (by intro k hk; simp at hk; omega) (by simp) (by simp) (by omega) (by omega) (by omega) (by omega) (fun tmp => ⟨.fn 133 [.ptr r 0] [], by simp +decide only [EL, reduceIte, i0], by simp +decide only [EL, reduceIte, i0]⟩) ((IH n (by omega)).branch R12 hd _ rfl (zA2 hy hne)) (fun v h9 q => ?_) (fun v h9 e => ?_)
   rotate_left
   ·obtain ⟨p, er, hx, rfl, fr'⟩ := e
    rw [hx] at hy
    exact ⟨p, er, hy.symm, rfl, MoreBut.trans c12 fr'⟩
   obtain ⟨p, i, hx, li9, R9, b9, u, rfl, tr⟩ := q
   rw [hx, zAv] at hy
   have n9 := b9.next
   refine ⟨b9, u, p, rfl, tr, fun h10 kv' n10 keep nc10 k10 => ?_⟩
   have R10 := R9.keep n10 fun k hk => keep k (by have := R9.lt; omega) (.inl (by omega)) (by omega)
   have c10 : MoreBut r _ h10 := ⟨Nat.le_trans (MoreBut.trans c12 b9).next n10, fun k h1 h2 => by rw [keep k (by omega) (.inl (by omega)) (by omega)]; exact (MoreBut.trans c12 b9).keep k h1 h2⟩
   try simp only [zAa, zAi]
   have rc14 := (keep h.next (by omega) (.inr (by simp)) (by omega)).trans ((b9.keep h.next (by omega) (by omega)).trans rc12)
   have bx14 := bx12.keep ((keep h5.next (by omega) (.inr (by simp)) (by omega)).trans (b9.keep h5.next (by omega) (by omega)))
   obtain ⟨cx, gx, cx0⟩ := bx14
   refine zC0 (b := h5.next) (rc := h.next) (by simp +decide only [EL, reduceIte]) gx cx0 (by simp +decide only [EL, reduceIte]) rc14 (by rw [zAk]; rfl) fun h15 o8 => ?_
   have n15 := o8.next
   refine ⟨_, _, hy.symm, by omega, o8.rs R10 (by omega), o8.mb c10 (Nat.le_refl _), _, rfl, ?_⟩
   exact (k10.keep (o8.stay (by simp))).tree2 (nc10.keep (o8.keep _ (by omega))) (by show h.next ≤ _; omega) (by omega) fun k hk _ => hk
  | false =>
   rw [hI, if_neg (by simp)] at hy
   refine wc_no (by simp +decide only [EL, reduceIte, hI]) ?_
   refine zAm ?_
   simp only [zAa]
   refine zF4 (K := 2) (b := h5.next) (id := ia) (lo := h.next) (X := [h.next, h5.next, ia]) (r := r) (f := 100) (args := [.ptr r 0]) (by simp +decide only [EL, reduceIte, i0]) bx12 nc12 k12 (by first | omega | simp) (by omega) (by intro k hk; simp at hk; omega) (by simp) (by simp) (by omega) (by omega) (by omega) (by omega) (fun tmp => ⟨.fn 100 [.ptr r 0] [], by simp +decide only [EL, reduceIte, i0], by simp +decide only [EL, reduceIte, i0]⟩) ((IH n (by omega)).block R12 hd _ rfl (zA2 hy hne)) (fun v h9 q => ?_) (fun v h9 e => ?_)
   rotate_left
   ·obtain ⟨p, er, hx, rfl, fr'⟩ := e
    rw [hx] at hy
    exact ⟨p, er, hy.symm, rfl, MoreBut.trans c12 fr'⟩
   obtain ⟨p, i, hx, li9, R9, b9, u, rfl, tr⟩ := q
   rw [hx, zAv] at hy
   have n9 := b9.next
   refine ⟨b9, u, p, rfl, tr, fun h10 kv' n10 keep nc10 k10 => ?_⟩
   have R10 := R9.keep n10 fun k hk => keep k (by have := R9.lt; omega) (.inl (by omega)) (by omega)
   have c10 : MoreBut r _ h10 := ⟨Nat.le_trans (MoreBut.trans c12 b9).next n10, fun k h1 h2 => by rw [keep k (by omega) (.inl (by omega)) (by omega)]; exact (MoreBut.trans c12 b9).keep k h1 h2⟩
   try simp only [zAa, zAi]
   have rc14 := (keep h.next (by omega) (.inr (by simp)) (by omega)).trans ((b9.keep h.next (by omega) (by omega)).trans rc12)
   have bx14 := bx12.keep ((keep h5.next (by omega) (.inr (by simp)) (by omega)).trans (b9.keep h5.next (by omega) (by omega)))
   obtain ⟨cx, gx, cx0⟩ := bx14
   refine zC0 (b := h5.next) (rc := h.next) (by simp +decide only [EL, reduceIte]) gx cx0 (by simp +decide only [EL, reduceIte]) rc14 (by rw [zAk]; rfl) fun h15 o8 => ?_
   have n15 := o8.next
   refine ⟨_, _, hy.symm, by omega, o8.rs R10 (by omega), o8.mb c10 (Nat.le_refl _), _, rfl, ?_⟩
   exact (k10.keep (o8.stay (by simp))).tree2 (nc10.keep (o8.keep _ (by omega))) (by show h.next ≤ _; omega) (by omega) fun k hk _ => hk
include H in
theorem block1_ge {n bx : Nat} (IH : ∀ m, m < n → SX tab ts en m) (R : RS ts en h r i d) (hd : d ≤ 40) (B : RBox h bx r) (hi : i < ts.length) :
  GS tab 121 [.ptr bx 0] ts en r i d h ((zCd ts en n (i + 1) d []).bind fun k i' d => .ok (.mk 6 [] [] 0 (now ts en i).pos k) i' d) fun t v h1 => okT t h.next v h1 := by
 intro y hy hne
 have i0 : zAh [.ptr bx 0] = zAd [.ptr bx 0] := rfl
 have f2 : ∀ (t : Tok) h', zCr 2 1 false (.c (tokV t)) .leaf [] h' = .val (.int .i64 (t.pos : Int)) h' := fun _ _ => rfl
 have hr := R.lt
 obtain ⟨z, hz⟩ : ∃ z, z = i := ⟨_, rfl⟩
 refine ge_of H.t121 rfl ?_
 refine zBk fun h1 n1 g1 m1 => ?_
 have R1 := R.more m1
 have rc1 := g1
 have c1 := m1.but r
 have B1 := B.mb (m1.but r)
 have gx1 := B1.2.2
 have hbx := B.1
 refine zAc (zAb fun Q1 hQ => ?_)
 simp (disch := omega) only [EL, ↓K3, ↓K1, reduceIte, Nat.reduceEqDiff, Nat.reduceAdd, Nat.reduceLeDiff, i0, gx1, zA4]
 refine (zCm H R1 hi).to fun v h2 q => ?_
 obtain ⟨rfl, R2, b2⟩ := q
 have n2 := b2.next
 have rc2 := (b2.keep h.next (by omega) (by omega)).trans rc1
 have c2 := c1.trans b2
 simp (disch := omega) only [EL, ↓K3, ↓K1, reduceIte, Nat.reduceEqDiff, Nat.reduceAdd, Nat.reduceLeDiff, f2]
 refine (zDh H (kv := .nils) (op := 6) (fun _ => rfl) rfl).to fun v h3 q => ?_
 obtain ⟨ia, rfl, i1, i2, nc, m3⟩ := q
 have n3 := m3.next
 simp (disch := omega) only [EL, ↓K3, ↓K1, reduceIte, Nat.reduceEqDiff, Nat.reduceAdd, Nat.reduceLeDiff]
 refine hQ _ ?_
 clear hQ Q1
 refine zBp fun h4 n4 g4 m4 => ?_
 obtain ⟨cb, gb, cb0⟩ := g4
 simp only [zAa]
 have m24 := m3.trans m4
 have R4 := R2.more m24
 have B4 := (B1.mb b2).mb (m24.but r)
 have b4 := c2.trans (m24.but r)
 have nc4 := nc.keep (m4.keep ia i2)
 have rc4 := (m24.keep h.next (by omega)).trans rc2
 have bx4 : BoxN h4 h3.next ia := ⟨cb, gb, cb0⟩
 generalize (now ts en i).pos = pos at *
 refine zFz (fun l d1 h7 => ∃ i ks kv, d1 = [] ∧ l.get 0 = some (.ptr bx 0) ∧ l.get 2 = some (.ptr h3.next 0) ∧ l.get 3 = some (.ptr h.next 0) ∧ RS ts en h7 r i d ∧ MoreBut r h h7 ∧ BoxN h7 h3.next ia ∧ NodeC h7 ia 6 [] [] 0 pos kv ∧ Kids h7 h.next [h.next, h3.next, ia] kv ks ∧
  h7.mem.get h.next = some (.cells (zAd [.nilp]) (llen [.nilp]) none false) ∧ y = .ok (.mk 6 [] [] 0 pos ks) i d ∧ h4.next ≤ h7.next ∧ z < i) ?_ ?_
 ·refine zAy ?_
  refine zCg (fun m l d1 h7 => ∃ i ks kv, m ≤ n ∧ d1 = [] ∧ l.get 0 = some (.ptr bx 0) ∧ l.get 2 = some (.ptr h3.next 0) ∧ l.get 3 = some (.ptr h.next 0) ∧ RS ts en h7 r i d ∧ MoreBut r h h7 ∧ RBox h7 bx r ∧ BoxN h7 h3.next ia ∧ NodeC h7 ia 6 [] [] 0 pos kv ∧ Kids h7 h.next [h.next, h3.next, ia] kv ks ∧
   h7.mem.get h.next = some (.cells (zAd [.nilp]) (llen [.nilp]) none false) ∧ h4.next ≤ h7.next ∧ z < i ∧ ks.length ≤ i ∧ (zCd ts en m i d ks).bind (fun k i d => .ok (.mk 6 [] [] 0 pos k) i d) = y) ?_ n ?_
  ·rintro m l d1 h7 ⟨i, ks, kv, hm, rfl, l0, l2, l3, R7, b7, B7, bx7, nc7, k7, rc7, n7, zi, kl, hy⟩
   cases m with
   | zero => exact absurd (by rw [← hy]; simp [zCd, PR.bind]) hne
   | succ m =>
    have le7 := R7.le
    have ln := R7.ln
    have gx7 := B7.2.2
    refine zAc ?_
    refine zAc (zAb fun Q1 hQ => ?_)
    simp (disch := omega) only [EL, ↓K3, ↓K1, reduceIte, Nat.reduceEqDiff, Nat.reduceAdd, Nat.reduceLeDiff, l0, gx7, zA4]
    refine (zD3 H R7 _).to fun v h8 q => ?_
    obtain ⟨rfl, R8, b8⟩ := q
    have n8 := b8.next
    simp (disch := omega) only [EL, ↓K3, ↓K1, reduceIte, Nat.reduceEqDiff, Nat.reduceAdd, Nat.reduceLeDiff, l0]
    refine hQ _ ?_
    clear hQ Q1
    simp only [zAa]
    have B8 := B7.mb b8
    have gx8 := B8.2.2
    have rc8 := (b8.keep h.next (by omega) (by omega)).trans rc7
    have bx8 := bx7.keep (b8.keep h3.next (by omega) (by omega))
    have nc8 := nc7.keep (b8.keep ia (by omega) (by omega))
    have k8 := k7.keep (b8.stay (F := fun k => h.next ≤ k ∧ k ∉ [h.next, h3.next, ia]) (by simp; omega))
    have c8 := b7.trans b8
    unfold zCd at hy
    cases hc : isT ts en [125] i with
    | true =>
     rw [hc, if_pos rfl] at hy R8
     refine wc_no (by simp +decide only [EL, reduceIte, hc, Bool.not_true]) ?_
     refine zDe ?_
     simp only [zBg, zBd, if_true, zAa]
     exact ⟨_, ks, kv, trivial, by simp +decide only [EL, reduceIte, l0], by simp +decide only [EL, reduceIte, l2], by simp +decide only [EL, reduceIte, l3], R8, c8, bx8, nc8, k8, rc8, hy.symm, by omega, by omega⟩
    | false =>
     rw [hc, if_neg (by simp)] at hy R8
     simp only [zEn] at hy
     refine zAt (by simp +decide only [EL, reduceIte, hc, Bool.not_false]) ?_
     refine zAm ?_
     simp only [zAa]
     refine zAy ?_
     refine zF4 (K := 2) (b := h3.next) (id := ia) (lo := h.next) (X := [h.next, h3.next, ia]) (r := r) (f := 122) (args := [.ptr r 0]) (by simp +decide only [EL, reduceIte, l0, l2, gx8, zA4]) bx8 nc8 k8 (by first | omega | simp) (by omega) (by intro k hk; simp at hk; omega) (by simp) (by simp) (by omega) (by omega) (by omega) (by omega) (fun tmp => ⟨.ptr r 0, by simp +decide only [EL, reduceIte, l0, l2, gx8, zA4], by simp +decide only [EL, reduceIte, l0, l2, gx8, zA4]⟩) ((IH m (by omega)).stmt R8 hd _ rfl (zA2 hy hne)) (fun v h9 q => ?_) (fun v h9 e => ?_)
     rotate_left
     ·obtain ⟨p, er, hx, rfl, fr'⟩ := e
      rw [hx] at hy
      exact ⟨p, er, hy.symm, rfl, MoreBut.trans c8 fr'⟩
     obtain ⟨p, i, hx, li9, R9, b9, u, rfl, tr⟩ := q
     rw [hx, zAv] at hy
     have n9 := b9.next
     refine ⟨b9, u, p, rfl, tr, fun h10 kv' n10 keep nc10 k10 => ?_⟩
     have R10 := R9.keep n10 fun k hk => keep k (by have := R9.lt; omega) (.inl (by omega)) (by omega)
     have c10 : MoreBut r _ h10 := ⟨Nat.le_trans (MoreBut.trans c8 b9).next n10, fun k h1 h2 => by rw [keep k (by omega) (.inl (by omega)) (by omega)]; exact (MoreBut.trans c8 b9).keep k h1 h2⟩
     try simp only [zAa, zAi]
     have rc10 := (keep h.next (by omega) (.inr (by simp)) (by omega)).trans ((b9.keep h.next (by omega) (by omega)).trans rc8)
     have bx10 := bx8.keep ((keep h3.next (by omega) (.inr (by simp)) (by omega)).trans (b9.keep h3.next (by omega) (by omega)))
     have B10 := B.mb c10
     try simp only [zAi, zAa]
     exact ⟨m, by omega, _, _, _, by omega, trivial, by simp +decide only [EL, reduceIte, l0], by simp +decide only [EL, reduceIte, l2], by simp +decide only [EL, reduceIte, l3], R10, c10, B10, bx10, nc10, k10, rc10, by omega, by omega, by simp; omega, hy⟩
  ·exact ⟨_, [], .nils, Nat.le_refl _, rfl, by simp +decide only [EL, reduceIte, i0], by simp +decide only [EL, reduceIte, i0], by simp +decide only [EL, reduceIte, i0], R4, b4, B4, bx4, nc4, Kids.nils, rc4, by omega, by omega, by simp, hy⟩
 ·rintro l d1 h7 ⟨i, ks, kv, rfl, l0, l2, l3, R7, b7, bx7, nc7, k7, rc7, rfl, n7, zi⟩
  obtain ⟨cx, gx, cx0⟩ := bx7
  refine zC0 (b := h3.next) (rc := h.next) (by simp +decide only [EL, reduceIte, l2]) gx cx0 (by simp +decide only [EL, reduceIte, l3]) rc7 (by rw [zAk]; rfl) fun h9 o9 => ?_
  have k9 := k7.keep (o9.stay (F := fun k => h.next ≤ k ∧ k ∉ [h.next, h3.next, ia]) (by simp))
  refine ⟨_, _, rfl, by omega, o9.rs R7 (by omega), o9.mb b7 (Nat.le_refl _), _, rfl, ?_⟩
  exact k9.tree (nc7.keep (o9.keep _ (by omega))) (by show h.next ≤ ia; omega) (by rw [o9.next]; omega) fun k hk => hk
include H in
theorem block_ge {n : Nat} (IH : ∀ m, m < n → SX tab ts en m) (R : RS ts en h r i d) (hd : d ≤ 40) : GS tab 100 [.ptr r 0] ts en r i d h (zB0 ts en n i d) fun t v h1 => okT t h.next v h1 := by
 intro y hy hne
 cases n with
 | zero => exact absurd (by rw [← hy]; simp [zB0]) hne
 | succ n =>
 have i0 : zAh [.ptr r 0] = zAd [.ptr r 0] := rfl
 have hr := R.lt
 refine ge_of H.t100 rfl ?_
 refine zF5 (v := .ptr r 0) rfl (fun _ => zL4) fun h1 n1 g1 g2 m1 => ?_
 have R1 := R.more m1
 have B1 : RBox h1 h.next r := ⟨by omega, by omega, g1⟩
 unfold zB0 at hy
 refine zAc ?_
 refine zAc (zAb fun Q1 hQ => ?_)
 simp (disch := omega) only [EL, ↓K3, ↓K1, reduceIte, Nat.reduceEqDiff, Nat.reduceAdd, Nat.reduceLeDiff, i0, g1, zA4]
 refine (is_gp H R1 _).to fun v h2 q => ?_
 obtain ⟨rfl, m2⟩ := q
 have n2 := m2.next
 have R2 := R1.more m2
 have B2 := B1.mb (m2.but r)
 have gx2 := B2.2.2
 have rc2 := (m2.keep (h.next + 1) (by omega)).trans g2
 have c2 : MoreBut r h h2 := (m1.trans m2).but r
 simp (disch := omega) only [EL, ↓K3, ↓K1, reduceIte, Nat.reduceEqDiff, Nat.reduceAdd, Nat.reduceLeDiff, i0]
 refine hQ _ ?_
 clear hQ Q1
 simp only [zAa]
 cases hc : isT ts en [123] i with
 | false =>
  rw [hc, if_neg (by simp)] at hy
  refine zAt (by simp +decide only [EL, reduceIte, hc, Bool.not_false]) ?_
  refine zAb fun Q1 hQ => ?_
  simp (disch := omega) only [EL, ↓K3, ↓K1, reduceIte, Nat.reduceEqDiff, Nat.reduceAdd, Nat.reduceLeDiff, i0, gx2, zA4]
  refine (zEr H R2).mono (fun v h3 q => q.elim) fun v h3 q => ?_
  exact hQ _ ⟨_, _, hy.symm, q.1, c2.trans (q.2.but r)⟩
 | true =>
  rw [hc, if_pos rfl] at hy
  refine wc_no (by simp +decide only [EL, reduceIte, hc, Bool.not_true]) ?_
  refine zAm ?_
  simp only [zAa]
  refine zAc (zAb fun Q1 hQ => ?_)
  simp (disch := omega) only [EL, ↓K3, ↓K1, reduceIte, Nat.reduceEqDiff, Nat.reduceAdd, Nat.reduceLeDiff, i0, gx2, zA4]
  refine (zH0 H (F := 121) (caps := [.ptr h.next 0]) (k := fun i d => (zCd ts en n (i + 1) d []).bind fun k i' d => .ok (.mk 6 [] [] 0 (now ts en i).pos k) i' d) R2 hd (fun hd' h' R' b' => block1_ge H (fun m hm => IH m (by omega)) R' hd' (B2.mb b') (is_lt hc)) y hy hne).mono (fun v h4 q => ?_) (fun v h4 e => ?_)
  rotate_left
  ·obtain ⟨p, er, hx, rfl, fr'⟩ := e
   exact hQ _ ⟨p, er, hx, rfl, MoreBut.trans c2 fr'⟩
  obtain ⟨t, i', hx, li, R4, b4, u, rfl, tr⟩ := q
  have n4 := b4.next
  have rc4 := (b4.keep (h.next + 1) (by omega) (by omega)).trans rc2
  refine ⟨rfl, ?_⟩
  refine zF0 (rc := h.next + 1) (by simp +decide only [EL, reduceIte]) rc4 (by rw [zAk]; rfl) fun h5 o5 g5 => hQ _ ?_
  obtain ⟨c5, gc5, gc50⟩ := g5
  refine zJy (rc := h.next + 1) (by simp +decide only [EL, reduceIte]) gc5 gc50 ⟨t, i', hx, li, o5.rs R4 (by omega), o5.mb (c2.trans b4) (by omega), _, rfl, ?_⟩
  exact TreeR.keep (o5.stay (F := fun k => h2.next ≤ k) (by omega)) (fun k hk _ => by show h.next ≤ k; omega) tr
include H in
theorem all_sx : ∀ n, SX tab ts en n := by
 intro n
 induction n using Nat.strongRecOn with
 | _ n IH => exact ⟨fun R hd => stmt_ge H IH R hd, fun R hd => branch_ge H IH R hd, fun R hd => block_ge H IH R hd⟩
end
end Go.Ev
namespace Go.Ev
open Go Go.Pa
section
variable {tab : Nat → Option AFunc} {h : AH} (H : PT tab) {ts : List Tok} {en r i d : Nat}
include H in
theorem func_ge {n : Nat} (R : RS ts en h r i d) (hd : d ≤ 40) : GS tab 72 [.ptr r 0] ts en r i d h (funcS ts en n i d) fun t v h1 => okT t h.next v h1 := by
 intro y hy hne
 have i0 : zAh [.ptr r 0] = zAd [.ptr r 0] := rfl
 have hr := R.lt
 obtain ⟨z, hz⟩ : ∃ z, z = i := ⟨_, rfl⟩
 refine ge_of H.t72 rfl ?_
 refine zBk fun h1 n1 g1 m1 => ?_
 have R1 := R.more m1
 have rc1 := g1
 have c1 := m1.but r
 unfold funcS at hy
 refine zAc (zAb fun Q1 hQ => ?_)
 simp (disch := omega) only [EL, ↓K3, ↓K1, reduceIte, Nat.reduceEqDiff, Nat.reduceAdd, Nat.reduceLeDiff, i0]
 refine (zG4 H R1 _ rfl (zA2 hy hne)).mono (fun v h2 q => ?_) (fun v h2 e => ?_)
 rotate_left
 ·obtain ⟨p, er, hx, rfl, fr'⟩ := e
  rw [hx] at hy
  exact hQ _ ⟨p, er, hy.symm, rfl, MoreBut.trans c1 fr'⟩
 obtain ⟨t, i, hx, lib2, R2, b2, q⟩ := q
 rw [hx, zAv] at hy
 have nb2 := MoreBut.next b2
 obtain ⟨rfl, tb⟩ := q
 have rc2 := (b2.keep h.next (by omega) (by omega)).trans rc1
 have c2 := c1.trans b2
 simp (disch := omega) only [EL, ↓K3, ↓K1, reduceIte, Nat.reduceEqDiff, Nat.reduceAdd, Nat.reduceLeDiff]
 refine (zGe H (op := 4) (t := t) (kv := .nils) (fun _ => rfl) rfl).to fun v h3 q => ?_
 obtain ⟨ia, rfl, i1, i2, nc, m3⟩ := q
 have n3 := m3.next
 simp (disch := omega) only [EL, ↓K3, ↓K1, reduceIte, Nat.reduceEqDiff, Nat.reduceAdd, Nat.reduceLeDiff]
 refine hQ _ ?_
 clear hQ Q1
 refine zBp fun h4 n4 g4 m4 => ?_
 obtain ⟨cb, gb, cb0⟩ := g4
 simp only [zAa]
 have m24 := m3.trans m4
 have R4 := R2.more m24
 have c4 := c2.trans (m24.but r)
 have nc4 := nc.keep (m4.keep ia i2)
 have rc4 := (m24.keep h.next (by omega)).trans rc2
 have bx4 : BoxN h4 h3.next ia := ⟨cb, gb, cb0⟩
 refine zAc (zAb fun Q1 hQ => ?_)
 simp (disch := omega) only [EL, ↓K3, ↓K1, reduceIte, Nat.reduceEqDiff, Nat.reduceAdd, Nat.reduceLeDiff, i0]
 refine (zBs H R4 _ _ rfl (zA2 hy hne)).mono (fun v h5 q => ?_) (fun v h5 e => ?_)
 rotate_left
 ·obtain ⟨p, er, hx, rfl, fr'⟩ := e
  rw [hx] at hy
  exact hQ _ ⟨p, er, hy.symm, rfl, MoreBut.trans c4 fr'⟩
 obtain ⟨p5, i, hx, lib5, R5, b5, q⟩ := q
 rw [hx, zAv] at hy
 have nb5 := MoreBut.next b5
 have rc5 := (b5.keep h.next (by omega) (by omega)).trans rc4
 have bx5 := bx4.keep (b5.keep h3.next (by omega) (by omega))
 have nc5 := nc4.keep (b5.keep ia (by omega) (by omega))
 have c5 := c4.trans b5
 simp (disch := omega) only [EL, ↓K3, ↓K1, reduceIte, Nat.reduceEqDiff, Nat.reduceAdd, Nat.reduceLeDiff]
 refine hQ _ ?_
 clear hQ Q1
 simp only [zAa]
 let K : List Tree → Nat → Nat → PR Tree := fun k i d => (zBb ts en [41] i d).bind fun _ i d =>
  (if isT ts en [123] i then .ok [] i d else typS ts en i d).bind fun ty i d => (zB0 ts en n i d).bind fun b i d => .ok (.mk 4 t.text ty 0 t.pos (k ++ [b])) i d
 have hK : K = fun k i d => (zBb ts en [41] i d).bind fun _ i d =>
  (if isT ts en [123] i then .ok [] i d else typS ts en i d).bind fun ty i d => (zB0 ts en n i d).bind fun b i d => .ok (.mk 4 t.text ty 0 t.pos (k ++ [b])) i d := rfl
 change (zB8 ts en n i d []).bind K = y at hy
 clear_value K
 refine zFz (fun l d1 h7 => ∃ i ks kv, d1 = [] ∧ l.get 0 = some (.ptr r 0) ∧ l.get 2 = some (.ptr h3.next 0) ∧ l.get 6 = some (.ptr h.next 0) ∧ RS ts en h7 r i d ∧ MoreBut r h h7 ∧ BoxN h7 h3.next ia ∧ NodeC h7 ia 4 t.text [] 0 t.pos kv ∧ Kids h7 h.next [h.next, h3.next, ia] kv ks ∧
  h7.mem.get h.next = some (.cells (zAd [.nilp]) (llen [.nilp]) none false) ∧ y = K ks i d ∧ h5.next ≤ h7.next ∧ z < i ∧ ks.length ≤ i ∧ i < ts.length) ?_ ?_
 ·refine zAy ?_
  refine zCg (fun m l d1 h7 => ∃ i ks kv, d1 = [] ∧ l.get 0 = some (.ptr r 0) ∧ l.get 2 = some (.ptr h3.next 0) ∧ l.get 6 = some (.ptr h.next 0) ∧ RS ts en h7 r i d ∧ MoreBut r h h7 ∧ BoxN h7 h3.next ia ∧ NodeC h7 ia 4 t.text [] 0 t.pos kv ∧ Kids h7 h.next [h.next, h3.next, ia] kv ks ∧
   h7.mem.get h.next = some (.cells (zAd [.nilp]) (llen [.nilp]) none false) ∧ h5.next ≤ h7.next ∧ z < i ∧ ks.length ≤ i ∧ (zB8 ts en m i d ks).bind K = y) ?_ n ?_
  ·rintro m l d1 h7 ⟨i, ks, kv, rfl, l0, l2, l3, R7, b7, bx7, nc7, k7, rc7, n7, zi, kl, hy⟩
   cases m with
   | zero => exact absurd (by rw [← hy]; simp [zB8, PR.bind]) hne
   | succ m =>
    have le7 := R7.le
    have ln := R7.ln
    refine zAc ?_
    refine zAc (zAb fun Q1 hQ => ?_)
    simp (disch := omega) only [EL, ↓K3, ↓K1, reduceIte, Nat.reduceEqDiff, Nat.reduceAdd, Nat.reduceLeDiff, l0]
    refine (is_gp H R7 _).to fun v h8 q => ?_
    obtain ⟨rfl, m8⟩ := q
    have n8 := m8.next
    simp (disch := omega) only [EL, ↓K3, ↓K1, reduceIte, Nat.reduceEqDiff, Nat.reduceAdd, Nat.reduceLeDiff, l0]
    refine hQ _ ?_
    clear hQ Q1
    simp only [zAa]
    have R8 := R7.more m8
    have rc8 := (m8.keep h.next (by omega)).trans rc7
    have bx8 := bx7.keep (m8.keep h3.next (by omega))
    have nc8 := nc7.keep (m8.keep ia (by omega))
    have k8 := k7.keep m8.stay
    have c8 := b7.trans (m8.but r)
    unfold zB8 at hy
    cases hc : isT ts en [41] i with
    | true =>
     rw [hc, if_pos rfl, zAv] at hy
     refine wc_no (by simp +decide only [EL, reduceIte, hc, Bool.not_true]) ?_
     refine zDe ?_
     simp only [zBg, zBd, if_true, zAa]
     exact ⟨_, ks, kv, trivial, by simp +decide only [EL, reduceIte, l0], by simp +decide only [EL, reduceIte, l2], by simp +decide only [EL, reduceIte, l3], R8, c8, bx8, nc8, k8, rc8, hy.symm, by omega, by omega, kl, is_lt hc⟩
    | false =>
     rw [hc, if_neg (by simp)] at hy
     simp only [zEn] at hy
     refine zAt (by simp +decide only [EL, reduceIte, hc, Bool.not_false]) ?_
     refine zAm ?_
     simp only [zAa]
     refine zAy ?_
     refine zAc ?_
     refine zF4 (K := 2) (b := h3.next) (id := ia) (lo := h.next) (X := [h.next, h3.next, ia]) (r := r) (f := 74) (args := [.ptr r 0, .int .i64 ((5 : Nat) : Int)]) (by simp +decide only [EL, reduceIte, l0, l2]) bx8 nc8 k8 (by first | omega | simp) (by omega) (by intro k hk; simp at hk; omega) (by simp) (by simp) (by omega) (by omega) (by omega) (by omega) (fun tmp => ⟨.ptr r 0, by simp +decide only [EL, reduceIte, l0, l2], by simp +decide only [EL, reduceIte, l0, l2]⟩) (part_ge H R8 5 _ rfl (zA2 hy hne)) (fun v h9 q => ?_) (fun v h9 e => ?_)
     rotate_left
     ·obtain ⟨p, er, hx, rfl, fr'⟩ := e
      rw [hx] at hy
      exact ⟨p, er, hy.symm, rfl, MoreBut.trans c8 fr'⟩
     obtain ⟨p, i, hx, li9, R9, b9, u, rfl, tr⟩ := q
     rw [hx, zAv] at hy
     have n9 := b9.next
     refine ⟨b9, u, p, rfl, tr, fun h10 kv' n10 keep nc10 k10 => ?_⟩
     have R10 := R9.keep n10 fun k hk => keep k (by have := R9.lt; omega) (.inl (by omega)) (by omega)
     have c10 : MoreBut r _ h10 := ⟨Nat.le_trans (MoreBut.trans c8 b9).next n10, fun k h1 h2 => by rw [keep k (by omega) (.inl (by omega)) (by omega)]; exact (MoreBut.trans c8 b9).keep k h1 h2⟩
     try simp only [zAa, zAi]
     have rc10 := (keep h.next (by omega) (.inr (by simp)) (by omega)).trans ((b9.keep h.next (by omega) (by omega)).trans rc8)
     have bx10 := bx8.keep ((keep h3.next (by omega) (.inr (by simp)) (by omega)).trans (b9.keep h3.next (by omega) (by omega)))
     refine zAc (zAb fun Q1 hQ => ?_)
     simp (disch := omega) only [EL, ↓K3, ↓K1, reduceIte, Nat.reduceEqDiff, Nat.reduceAdd, Nat.reduceLeDiff, l0]
     refine (is_gp H R10 _).to fun v h11 q => ?_
     obtain ⟨rfl, m11⟩ := q
     have n11 := m11.next
     simp (disch := omega) only [EL, ↓K3, ↓K1, reduceIte, Nat.reduceEqDiff, Nat.reduceAdd, Nat.reduceLeDiff, l0]
     refine hQ _ ?_
     clear hQ Q1
     simp only [zAa]
     have R11 := R10.more m11
     have rc11 := (m11.keep h.next (by omega)).trans rc10
     have bx11 := bx10.keep (m11.keep h3.next (by omega))
     have nc11 := nc10.keep (m11.keep ia (by omega))
     have k11 := k10.keep m11.stay
     have c11 := c10.trans (m11.but r)
     cases hc2 : isT ts en [41] i with
     | true =>
      rw [hc2, if_pos rfl] at hy
      refine wc_no (by simp +decide only [EL, reduceIte, hc2, Bool.not_true]) ?_
      refine zAm ?_
      simp only [zAi, zAa]
      exact ⟨m, by omega, _, _, _, trivial, by simp +decide only [EL, reduceIte, l0], by simp +decide only [EL, reduceIte, l2], by simp +decide only [EL, reduceIte, l3], R11, c11, bx11, nc11, k11, rc11, by omega, by omega, by simp; omega, hy⟩
     | false =>
      rw [hc2, if_neg (by simp)] at hy
      simp only [zEn] at hy
      refine zAt (by simp +decide only [EL, reduceIte, hc2, Bool.not_false]) ?_
      refine zAc (zAb fun Q1 hQ => ?_)
      simp (disch := omega) only [EL, ↓K3, ↓K1, reduceIte, Nat.reduceEqDiff, Nat.reduceAdd, Nat.reduceLeDiff, l0]
      refine (zBs H R11 _ _ rfl (zA2 hy hne)).mono (fun v h12 q => ?_) (fun v h12 e => ?_)
      rotate_left
      ·obtain ⟨p, er, hx, rfl, fr'⟩ := e
       rw [hx] at hy
       exact hQ _ ⟨p, er, hy.symm, rfl, MoreBut.trans c11 fr'⟩
      obtain ⟨p12, i, hx, lib12, R12, b12, q⟩ := q
      rw [hx, zAv] at hy
      have nb12 := MoreBut.next b12
      simp (disch := omega) only [EL, ↓K3, ↓K1, reduceIte, Nat.reduceEqDiff, Nat.reduceAdd, Nat.reduceLeDiff, l0]
      refine hQ _ ?_
      clear hQ Q1
      simp only [zAa]
      have rc12 := (b12.keep h.next (by omega) (by omega)).trans rc11
      have bx12 := bx11.keep (b12.keep h3.next (by omega) (by omega))
      have nc12 := nc11.keep (b12.keep ia (by omega) (by omega))
      have k12 := k11.keep (b12.stay (F := fun k => h.next ≤ k ∧ k ∉ [h.next, h3.next, ia]) (by simp; omega))
      have c12 := c11.trans b12
      refine zAc (zAb fun Q1 hQ => ?_)
      simp (disch := omega) only [EL, ↓K3, ↓K1, reduceIte, Nat.reduceEqDiff, Nat.reduceAdd, Nat.reduceLeDiff, l0]
      refine (is_gp H R12 _).to fun v h13 q => ?_
      obtain ⟨rfl, m13⟩ := q
      have n13 := m13.next
      simp (disch := omega) only [EL, ↓K3, ↓K1, reduceIte, Nat.reduceEqDiff, Nat.reduceAdd, Nat.reduceLeDiff, l0]
      refine hQ _ ?_
      clear hQ Q1
      simp only [zAa]
      have R13 := R12.more m13
      have c13 := c12.trans (m13.but r)
      cases hc3 : isT ts en [41] i with
      | true =>
       rw [hc3, if_pos rfl] at hy
       refine zAt (by simp +decide only [EL, reduceIte, hc3]) ?_
       refine zAb fun Q1 hQ => ?_
       simp (disch := omega) only [EL, ↓K3, ↓K1, reduceIte, Nat.reduceEqDiff, Nat.reduceAdd, Nat.reduceLeDiff, l0]
       refine (zEr H R13).mono (fun v h3 q => q.elim) fun v h3 q => ?_
       exact hQ _ ⟨_, _, hy.symm, q.1, c13.trans (q.2.but r)⟩
      | false =>
       rw [hc3, if_neg (by simp)] at hy
       refine wc_no (by simp +decide only [EL, reduceIte, hc3]) ?_
       refine zAm ?_
       simp only [zAi, zAa]
       exact ⟨m, by omega, _, _, _, trivial, by simp +decide only [EL, reduceIte, l0], by simp +decide only [EL, reduceIte, l2], by simp +decide only [EL, reduceIte, l3], R13, c13, bx12.keep (m13.keep h3.next (by omega)), nc12.keep (m13.keep ia (by omega)), k12.keep m13.stay, (m13.keep h.next (by omega)).trans rc12, by omega, by omega, by simp; omega, hy⟩
  ·exact ⟨_, [], .nils, rfl, by simp +decide only [EL, reduceIte, i0], by simp +decide only [EL, reduceIte, i0], by simp +decide only [EL, reduceIte, i0], R5, c5, bx5, nc5, Kids.nils, rc5, by omega, by omega, by simp, hy⟩
 ·rintro l d1 h7 ⟨i, ks, kv, rfl, l0, l2, l6, R7, b7, bx7, nc7, k7, rc7, hy, n7, zi, kl, hil⟩
  rw [hK] at hy
  have hy := hy.symm
  simp only [] at hy
  have ln7 := R7.ln
  refine zAc (zAb fun Q1 hQ => ?_)
  simp (disch := omega) only [EL, ↓K3, ↓K1, reduceIte, Nat.reduceEqDiff, Nat.reduceAdd, Nat.reduceLeDiff, l0]
  refine (zBs H R7 _ _ rfl (zA2 hy hne)).mono (fun v h8 q => ?_) (fun v h8 e => ?_)
  rotate_left
  ·obtain ⟨p, er, hx, rfl, fr'⟩ := e
   rw [hx] at hy
   exact hQ _ ⟨p, er, hy.symm, rfl, MoreBut.trans b7 fr'⟩
  obtain ⟨p8, i, hx, lib8, R8, b8, q⟩ := q
  rw [hx, zAv] at hy
  have nb8 := MoreBut.next b8
  simp (disch := omega) only [EL, ↓K3, ↓K1, reduceIte, Nat.reduceEqDiff, Nat.reduceAdd, Nat.reduceLeDiff, l0]
  refine hQ _ ?_
  clear hQ Q1
  simp only [zAa]
  have rc8 := (b8.keep h.next (by omega) (by omega)).trans rc7
  have bx8 := bx7.keep (b8.keep h3.next (by omega) (by omega))
  have nc8 := nc7.keep (b8.keep ia (by omega) (by omega))
  have k8 := k7.keep (b8.stay (F := fun k => h.next ≤ k ∧ k ∉ [h.next, h3.next, ia]) (by simp; omega))
  have c8 := b7.trans b8
  refine zFz (fun l d1 h7 => ∃ i ty, d1 = [] ∧ l.get 0 = some (.ptr r 0) ∧ l.get 2 = some (.ptr h3.next 0) ∧ l.get 6 = some (.ptr h.next 0) ∧ RS ts en h7 r i d ∧ MoreBut r h h7 ∧ BoxN h7 h3.next ia ∧ NodeC h7 ia 4 t.text ty 0 t.pos kv ∧ Kids h7 h.next [h.next, h3.next, ia] kv ks ∧
   h7.mem.get h.next = some (.cells (zAd [.nilp]) (llen [.nilp]) none false) ∧ h5.next ≤ h7.next ∧ z < i ∧ (zB0 ts en n i d).bind (fun b i d => .ok (.mk 4 t.text ty 0 t.pos (ks ++ [b])) i d) = y) ?_ ?_
  ·refine zAc (zAb fun Q1 hQ => ?_)
   simp (disch := omega) only [EL, ↓K3, ↓K1, reduceIte, Nat.reduceEqDiff, Nat.reduceAdd, Nat.reduceLeDiff, l0]
   refine (is_gp H R8 _).to fun v h9 q => ?_
   obtain ⟨rfl, m9⟩ := q
   have n9 := m9.next
   have R9 := R8.more m9
   have rc9 := (m9.keep h.next (by omega)).trans rc8
   have bx9 := bx8.keep (m9.keep h3.next (by omega))
   have nc9 := nc8.keep (m9.keep ia (by omega))
   have k9 := k8.keep m9.stay
   have c9 := c8.trans (m9.but r)
   simp (disch := omega) only [EL, ↓K3, ↓K1, reduceIte, Nat.reduceEqDiff, Nat.reduceAdd, Nat.reduceLeDiff]
   refine hQ _ ?_
   clear hQ Q1
   simp only [zAa]
   cases hB : isT ts en [123] i with
   | true =>
    rw [hB, if_pos rfl, zAv] at hy
    refine wc_no (by simp +decide only [EL, reduceIte, hB, Bool.not_true]) ?_
    refine zAm ?_
    exact ⟨_, _, rfl, by simp +decide only [EL, reduceIte, l0], by simp +decide only [EL, reduceIte, l2], by simp +decide only [EL, reduceIte, l6], R9, c9, bx9, nc9, k9, rc9, by omega, by omega, hy⟩
   | false =>
    rw [hB, if_neg (by simp)] at hy
    refine zAt (by simp +decide only [EL, reduceIte, hB, Bool.not_false]) ?_
    obtain ⟨cb, gb, cb0⟩ := id bx9
    refine zAb fun Q1 hQ => ?_
    simp (disch := omega) only [EL, ↓K3, ↓K1, reduceIte, Nat.reduceEqDiff, Nat.reduceAdd, Nat.reduceLeDiff, l0, l2, gb, cb0]
    refine (typ_ge H R9 _ rfl (zA2 hy hne)).mono (fun v h10 q => ?_) (fun v h10 e => ?_)
    rotate_left
    ·obtain ⟨p, er, hx, rfl, fr'⟩ := e
     rw [hx] at hy
     exact hQ _ ⟨p, er, hy.symm, rfl, MoreBut.trans c9 fr'⟩
    obtain ⟨ty, i, hx, lib10, R10, b10, q⟩ := q
    rw [hx, zAv] at hy
    have nb10 := MoreBut.next b10
    subst q
    have rc10 := (b10.keep h.next (by omega) (by omega)).trans rc9
    have bx10 := bx9.keep (b10.keep h3.next (by omega) (by omega))
    have nc10 := nc9.keep (b10.keep ia (by omega) (by omega))
    have k10 := k9.keep (b10.stay (F := fun k => h.next ≤ k ∧ k ∉ [h.next, h3.next, ia]) (by simp; omega))
    have c10 := c9.trans b10
    have gb10 := (b10.keep h3.next (by omega) (by omega)).trans gb
    obtain ⟨c', gn', e0, e1, e2, e3, e4, e5, ncT, _⟩ := nc10.set
    simp (disch := omega) only [EL, ↓K3, ↓K1, reduceIte, Nat.reduceEqDiff, Nat.reduceAdd, Nat.reduceLeDiff, l2, zA6, zA7, gb10, cb0, gn', e2, zAw]
    refine hQ _ ?_
    clear hQ Q1
    have o11 : Only ia h10 (h10.set ia (.cells (T.put (some (sv ty)) c' 2) 6 none false)) := Only.set
    have nc11 := ncT ty
    generalize (h10.set ia (.cells (T.put (some (sv ty)) c' 2) 6 none false)) = h11 at *
    have n11 := o11.next
    exact ⟨_, _, rfl, by simp +decide only [EL, reduceIte, l0], by simp +decide only [EL, reduceIte, l2], by simp +decide only [EL, reduceIte, l6], o11.rs R10 (by omega), o11.mb c10 (by omega), bx10.keep (o11.keep _ (by omega)), nc11, k10.keep (o11.stay (by simp)), (o11.keep _ (by omega)).trans rc10, by omega, by omega, hy⟩
  ·rintro l d1 h9 ⟨i, ty, rfl, l0, l2, l6, R9, c9, bx9, nc9, k9, rc9, n9, zi, hy⟩
   refine zAc ?_
   refine zF4 (K := 2) (b := h3.next) (id := ia) (lo := h.next) (X := [h.next, h3.next, ia]) (r := r) (f := 100) (args := [.ptr r 0]) (by simp +decide only [EL, reduceIte, l0, l2]) bx9 nc9 k9 (by first | omega | simp) (by omega) (by intro k hk; simp at hk; omega) (by simp) (by simp) (by omega) (by omega) (by omega) (by omega) (fun tmp => ⟨.ptr r 0, by simp +decide only [EL, reduceIte, l0, l2], by simp +decide only [EL, reduceIte, l0, l2]⟩) ((all_sx H n).block R9 hd _ rfl (zA2 hy hne)) (fun v h9 q => ?_) (fun v h9 e => ?_)
   rotate_left
   ·obtain ⟨p, er, hx, rfl, fr'⟩ := e
    rw [hx] at hy
    exact ⟨p, er, hy.symm, rfl, MoreBut.trans c9 fr'⟩
   obtain ⟨p, i, hx, li9, R9, b9, u, rfl, tr⟩ := q
   rw [hx, zAv] at hy
   have n9 := b9.next
   refine ⟨b9, u, p, rfl, tr, fun h10 kv' n10 keep nc10 k10 => ?_⟩
   have R10 := R9.keep n10 fun k hk => keep k (by have := R9.lt; omega) (.inl (by omega)) (by omega)
   have c10 : MoreBut r _ h10 := ⟨Nat.le_trans (MoreBut.trans c9 b9).next n10, fun k h1 h2 => by rw [keep k (by omega) (.inl (by omega)) (by omega)]; exact (MoreBut.trans c9 b9).keep k h1 h2⟩
   try simp only [zAa, zAi]
   have rc14 := (keep h.next (by omega) (.inr (by simp)) (by omega)).trans ((b9.keep h.next (by omega) (by omega)).trans rc9)
   have bx14 := bx9.keep ((keep h3.next (by omega) (.inr (by simp)) (by omega)).trans (b9.keep h3.next (by omega) (by omega)))
   obtain ⟨cx, gx, cx0⟩ := bx14
   refine zC0 (b := h3.next) (rc := h.next) (by simp +decide only [EL, reduceIte, l2]) gx cx0 (by simp +decide only [EL, reduceIte, l6]) rc14 (by rw [zAk]; rfl) fun h15 o8 => ?_
   have n15 := o8.next
   refine ⟨_, _, hy.symm, by omega, o8.rs R10 (by omega), o8.mb c10 (Nat.le_refl _), _, rfl, ?_⟩
   exact (k10.keep (o8.stay (by simp))).tree2 (nc10.keep (o8.keep _ (by omega))) (by show h.next ≤ _; omega) (by omega) fun k hk _ => hk
include H in
theorem decl_ge {n : Nat} (R : RS ts en h r i d) (hd : d ≤ 40) : GS tab 41 [.ptr r 0] ts en r i d h (declS ts en n i d) fun t v h1 => okT t h.next v h1 := by
 intro y hy hne
 have i0 : zAh [.ptr r 0] = zAd [.ptr r 0] := rfl
 have hr := R.lt
 obtain ⟨z, hz⟩ : ∃ z, z = i := ⟨_, rfl⟩
 refine ge_of H.t41 rfl ?_
 refine zBk fun h1 n1 g1 m1 => ?_
 have R1 := R.more m1
 have rc1 := g1
 have c1 := m1.but r
 unfold declS at hy
 refine zAc ?_
 refine zAy ?_
 refine zAc (zAb fun Q1 hQ => ?_)
 simp (disch := omega) only [EL, ↓K3, ↓K1, reduceIte, Nat.reduceEqDiff, Nat.reduceAdd, Nat.reduceLeDiff, i0]
 refine (zD3 H R1 _).to fun v h2 q => ?_
 obtain ⟨rfl, R2, b2⟩ := q
 have n2 := b2.next
 have rc2 := (b2.keep h.next (by omega) (by omega)).trans rc1
 have c2 := c1.trans b2
 simp (disch := omega) only [EL, ↓K3, ↓K1, reduceIte, Nat.reduceEqDiff, Nat.reduceAdd, Nat.reduceLeDiff]
 refine hQ _ ?_
 clear hQ Q1
 simp only [zAa]
 cases hA : isT ts en [116, 121, 112, 101] i with
 | true =>
  rw [hA, if_pos rfl] at hy R2
  refine zAt (by simp +decide only [EL, reduceIte, hA]) ?_
  refine zAc (zAb fun Q1 hQ => ?_)
  simp (disch := omega) only [EL, ↓K3, ↓K1, reduceIte, Nat.reduceEqDiff, Nat.reduceAdd, Nat.reduceLeDiff, i0]
  refine (struct_ge H R2 n _ hy hne).mono (fun v h3 q => ?_) (fun v h3 e => ?_)
  rotate_left
  ·obtain ⟨p, er, hx, rfl, fr'⟩ := e
   exact hQ _ ⟨p, er, hx, rfl, MoreBut.trans c2 fr'⟩
  obtain ⟨e, i, hx, lib3, R3, b3, q⟩ := q
  have nb3 := MoreBut.next b3
  obtain ⟨u, rfl, tr⟩ := q
  obtain ⟨ui, rfl, hu1, hu2⟩ := tr.ptr
  have rc3 := (b3.keep h.next (by omega) (by omega)).trans rc2
  simp (disch := omega) only [EL, ↓K3, ↓K1, reduceIte, Nat.reduceEqDiff, Nat.reduceAdd, Nat.reduceLeDiff, i0, rc3]
  refine hQ _ ?_
  have o4 : Only h.next h3 (h3.set h.next (.cells (T.put (some (.ptr ui 0)) (zAd [.nilp]) 0) 1 none false)) := Only.set
  have gc4 : (h3.set h.next (.cells (T.put (some (.ptr ui 0)) (zAd [.nilp]) 0) 1 none false)).mem.get h.next = some (.cells (T.put (some (.ptr ui 0)) (zAd [.nilp]) 0) 1 none false) := AH.get_set
  generalize h3.set h.next (.cells (T.put (some (.ptr ui 0)) (zAd [.nilp]) 0) 1 none false) = h4 at *
  have n4 := o4.next
  refine zAj ?_
  try simp only [zAg, zAf]
  refine zBc (id := h.next) (by simp +decide only [EL, reduceIte, i0]) gc4 (lst := [.ptr ui 0]) (by rw [zAe, T.get_put_self]; rfl) ?_
  refine ⟨_, _, hx, by omega, o4.rs R3 (by omega), o4.mb (c2.trans b3) (by omega), _, rfl, ?_⟩
  exact TreeR.keep (o4.stay (F := fun k => h2.next ≤ k) (by omega)) (fun k hk _ => by show h.next ≤ k; omega) tr
 | false =>
 rw [hA, if_neg (by simp)] at hy R2
 refine wc_no (by simp +decide only [EL, reduceIte, hA]) ?_
 refine zAc (zAb fun Q1 hQ => ?_)
 simp (disch := omega) only [EL, ↓K3, ↓K1, reduceIte, Nat.reduceEqDiff, Nat.reduceAdd, Nat.reduceLeDiff, i0]
 refine (zD3 H R2 _).to fun v h3 q => ?_
 obtain ⟨rfl, R3, b3⟩ := q
 have n3 := b3.next
 have rc3 := (b3.keep h.next (by omega) (by omega)).trans rc2
 have c3 := c2.trans b3
 simp (disch := omega) only [EL, ↓K3, ↓K1, reduceIte, Nat.reduceEqDiff, Nat.reduceAdd, Nat.reduceLeDiff]
 refine hQ _ ?_
 clear hQ Q1
 simp only [zAa]
 cases hB : isT ts en [102, 117, 110, 99] i with
 | true =>
  rw [hB, if_pos rfl] at hy R3
  refine zAt (by simp +decide only [EL, reduceIte, hB]) ?_
  refine zAc (zAb fun Q1 hQ => ?_)
  simp (disch := omega) only [EL, ↓K3, ↓K1, reduceIte, Nat.reduceEqDiff, Nat.reduceAdd, Nat.reduceLeDiff, i0]
  refine (func_ge H R3 hd _ hy hne).mono (fun v h4 q => ?_) (fun v h4 e => ?_)
  rotate_left
  ·obtain ⟨p, er, hx, rfl, fr'⟩ := e
   exact hQ _ ⟨p, er, hx, rfl, MoreBut.trans c3 fr'⟩
  obtain ⟨e, i, hx, lib4, R4, b4, q⟩ := q
  have nb4 := MoreBut.next b4
  obtain ⟨u, rfl, tr⟩ := q
  obtain ⟨ui, rfl, hu1, hu2⟩ := tr.ptr
  have rc4 := (b4.keep h.next (by omega) (by omega)).trans rc3
  simp (disch := omega) only [EL, ↓K3, ↓K1, reduceIte, Nat.reduceEqDiff, Nat.reduceAdd, Nat.reduceLeDiff, i0, rc4]
  refine hQ _ ?_
  have o5 : Only h.next h4 (h4.set h.next (.cells (T.put (some (.ptr ui 0)) (zAd [.nilp]) 0) 1 none false)) := Only.set
  have gc5 : (h4.set h.next (.cells (T.put (some (.ptr ui 0)) (zAd [.nilp]) 0) 1 none false)).mem.get h.next = some (.cells (T.put (some (.ptr ui 0)) (zAd [.nilp]) 0) 1 none false) := AH.get_set
  generalize h4.set h.next (.cells (T.put (some (.ptr ui 0)) (zAd [.nilp]) 0) 1 none false) = h5 at *
  have n5 := o5.next
  refine zAj ?_
  try simp only [zAg, zAf]
  refine zBc (id := h.next) (by simp +decide only [EL, reduceIte, i0]) gc5 (lst := [.ptr ui 0]) (by rw [zAe, T.get_put_self]; rfl) ?_
  refine ⟨_, _, hx, by omega, o5.rs R4 (by omega), o5.mb (c3.trans b4) (by omega), _, rfl, ?_⟩
  exact TreeR.keep (o5.stay (F := fun k => h3.next ≤ k) (by omega)) (fun k hk _ => by show h.next ≤ k; omega) tr
 | false =>
 rw [hB, if_neg (by simp)] at hy R3
 refine wc_no (by simp +decide only [EL, reduceIte, hB]) ?_
 refine zAc (zAb fun Q1 hQ => ?_)
 simp (disch := omega) only [EL, ↓K3, ↓K1, reduceIte, Nat.reduceEqDiff, Nat.reduceAdd, Nat.reduceLeDiff, i0]
 refine (zD3 H R3 _).to fun v h4 q => ?_
 obtain ⟨rfl, R4, b4⟩ := q
 have n4 := b4.next
 have rc4 := (b4.keep h.next (by omega) (by omega)).trans rc3
 have c4 := c3.trans b4
 simp (disch := omega) only [EL, ↓K3, ↓K1, reduceIte, Nat.reduceEqDiff, Nat.reduceAdd, Nat.reduceLeDiff]
 refine hQ _ ?_
 clear hQ Q1
 simp only [zAa]
 cases hC : isT ts en [118, 97, 114] i with
 | false =>
  rw [hC, if_neg (by simp)] at hy R4
  refine zAt (by simp +decide only [EL, reduceIte, hC, Bool.not_false]) ?_
  refine zAb fun Q1 hQ => ?_
  simp (disch := omega) only [EL, ↓K3, ↓K1, reduceIte, Nat.reduceEqDiff, Nat.reduceAdd, Nat.reduceLeDiff, i0]
  refine (zEr H R4).mono (fun v h6 q => q.elim) fun v h6 q => ?_
  exact hQ _ ⟨_, _, hy.symm, q.1, c4.trans (q.2.but r)⟩
 | true =>
  rw [hC, if_pos rfl] at hy R4
  refine wc_no (by simp +decide only [EL, reduceIte, hC, Bool.not_true]) ?_
  refine zAm ?_
  simp only [zAa, zAi]
  refine zAc (zAb fun Q1 hQ => ?_)
  simp (disch := omega) only [EL, ↓K3, ↓K1, reduceIte, Nat.reduceEqDiff, Nat.reduceAdd, Nat.reduceLeDiff, i0]
  refine (part_ge H R4 3 _ rfl (zA2 hy hne)).mono (fun v h5 q => ?_) (fun v h5 e => ?_)
  rotate_left
  ·obtain ⟨p, er, hx, rfl, fr'⟩ := e
   rw [hx] at hy
   exact hQ _ ⟨p, er, hy.symm, rfl, MoreBut.trans c4 fr'⟩
  obtain ⟨e, i, hx, lib5, R5, b5, q⟩ := q
  rw [hx, zAv] at hy
  have nb5 := MoreBut.next b5
  obtain ⟨u, rfl, tr⟩ := q
  have rc5 := (b5.keep h.next (by omega) (by omega)).trans rc4
  have c5 := c4.trans b5
  simp (disch := omega) only [EL, ↓K3, ↓K1, reduceIte, Nat.reduceEqDiff, Nat.reduceAdd, Nat.reduceLeDiff]
  refine hQ _ ?_
  clear hQ Q1
  refine zBp fun h6 n6 g6 m6 => ?_
  obtain ⟨cb, gb, cb0⟩ := g6
  simp only [zAa]
  have R6 := R5.more m6
  have rc6 := (m6.keep h.next (by omega)).trans rc5
  have c6 := c5.trans (m6.but r)
  refine zAc (zAb fun Q1 hQ => ?_)
  simp (disch := omega) only [EL, ↓K3, ↓K1, reduceIte, Nat.reduceEqDiff, Nat.reduceAdd, Nat.reduceLeDiff, i0]
  refine (zBs H R6 _ _ rfl (zA2 hy hne)).mono (fun v h7 q => ?_) (fun v h7 e => ?_)
  rotate_left
  ·obtain ⟨p, er, hx, rfl, fr'⟩ := e
   rw [hx] at hy
   exact hQ _ ⟨p, er, hy.symm, rfl, MoreBut.trans c6 fr'⟩
  obtain ⟨pp, i, hx, lib7, R7, b7, q⟩ := q
  rw [hx, zAv] at hy
  have nb7 := MoreBut.next b7
  have rc7 := (b7.keep h.next (by omega) (by omega)).trans rc6
  have gb7 := (b7.keep h5.next (by omega) (by omega)).trans gb
  simp (disch := omega) only [EL, ↓K3, ↓K1, reduceIte, Nat.reduceEqDiff, Nat.reduceAdd, Nat.reduceLeDiff]
  refine hQ _ ?_
  clear hQ Q1
  simp only [zAa]
  refine zC0 (b := h5.next) (rc := h.next) (by simp +decide only [EL, reduceIte]) gb7 cb0 (by simp +decide only [EL, reduceIte]) rc7 (by rw [zAk]; rfl) fun h8 o8 => ?_
  refine ⟨_, _, hy.symm, by omega, o8.rs R7 (by omega), o8.mb (c6.trans b7) (by omega), _, rfl, ?_⟩
  exact TreeR.keep ((m6.stay (F := fun k => h4.next ≤ k ∧ k < h5.next)).trans ((b7.stay (by omega)).trans (o8.stay (by omega)))) (fun k hk _ => by show h.next ≤ k; omega) (tr.less (G := fun k => h4.next ≤ k ∧ k < h5.next) fun k hk hl => ⟨hk, hl⟩)
end
end Go.Ev
namespace Go.Ev
open Go
section
variable {tab : Nat → Option AFunc} {loc : T AV} {h : AH} {m : Mode} {K : Mode → T AV → AH → Prop}
def WD (tab : Nat → Option AFunc) (c : ACode) (m : Mode) (loc : T AV) (h : AH) (K : Mode → T AV → AH → Prop) : Prop :=
 ∃ m' loc' h', (∃ n, ∀ k, n ≤ k → evD (evC tab k) c m loc h = .norm m' loc' h') ∧ K m' loc' h'
theorem wd_recov_ret {out : Option Nat} (x : K .ret (zAq out .nili loc) h) : WD tab (.recov out) .ret loc h K := ⟨_, _, _, ⟨0, fun _ _ => rfl⟩, x⟩
theorem wd_recov_pan {out : Option Nat} {v : AV} (x : K (.pan v true) (zAq out v loc) h) : WD tab (.recov out) (.pan v false) loc h K := ⟨_, _, _, ⟨0, fun _ _ => rfl⟩, x⟩
theorem wd_seq {a b : ACode} (x : WD tab a m loc h fun m l h => WD tab b m l h K) : WD tab (.seq a b) m loc h K := by
 obtain ⟨m1, l1, h1, ⟨n, hn⟩, m2, l2, h2, ⟨n', hn'⟩, x⟩ := x
 refine ⟨m2, l2, h2, ⟨n + n', fun k hk => ?_⟩, x⟩
 have e : ∀ r, evD (evC tab k) a m loc h = r → evD (evC tab k) (.seq a b) m loc h = DR.rec (motive := fun _ => DR) (fun m loc h => evD (evC tab k) b m loc h) DR.exit DR.ret DR.fail r := by
  intro r hr; subst hr; rfl
 rw [e _ (hn k (by omega))]
 exact hn' k (by omega)
theorem wd_skip (x : K m loc h) : WD tab .skip m loc h K := ⟨_, _, _, ⟨1, fun k hk => by cases k with | zero => omega | succ k => rfl⟩, x⟩
theorem wd_cond {c : Opd} {a b : ACode} {q : Bool} (e : ev loc [] c = .bool q) (x : if q then WD tab a m loc h K else WD tab b m loc h K) : WD tab (.cond c a b) m loc h K := by
 have e' : ∀ v, ev loc [] c = v → ∀ k, evD (evC tab k) (.cond c a b) m loc h = AV.rec (motive_1 := fun _ => DR) (motive_2 := fun _ => Unit) (DR.fail [82]) (fun q => bi q (evD (evC tab k) a m loc h) (evD (evC tab k) b m loc h)) (fun _ _ => DR.fail [82]) (fun _ _ => DR.fail [82]) (fun _ _ => DR.fail [82]) (DR.fail [82]) (fun _ _ _ _ => DR.fail [82]) (DR.fail [82]) (fun _ => DR.fail [82]) (DR.fail [82]) (fun _ _ _ _ _ => DR.fail [82]) (DR.fail [82]) (fun _ _ _ => DR.fail [82]) (DR.fail [82]) (fun _ _ => DR.fail [82]) (fun _ _ => DR.fail [82]) () (fun _ _ _ _ => ()) v := by
  intro v hv k; subst hv; rfl
 cases q with
 | true =>
  obtain ⟨m2, l2, h2, ⟨n', hn'⟩, x⟩ := x
  exact ⟨m2, l2, h2, ⟨n', fun k hk => by rw [e' _ e]; exact hn' k hk⟩, x⟩
 | false =>
  obtain ⟨m2, l2, h2, ⟨n', hn'⟩, x⟩ := x
  exact ⟨m2, l2, h2, ⟨n', fun k hk => by rw [e' _ e]; exact hn' k hk⟩, x⟩
def onPlain (m : Mode) (K : Mode → T AV → AH → Prop) : Res → Prop
 | .norm l [] h => K m l h
 | _ => False
theorem wd_ops {l : List AOper} (x : WC tab (.ops l) loc [] h (onPlain m K)) : WD tab (.ops l) m loc h K := by
 obtain ⟨r, hr, hq⟩ := x
 obtain ⟨n, hn⟩ := hr.at
 cases r with
 | norm l1 d1 h1 =>
  cases d1 with
  | cons _ _ => exact hq.elim
  | nil =>
   refine ⟨m, l1, h1, ⟨n, fun k hk => ?_⟩, hq⟩
   have e : ∀ r, evC tab k (.ops l) loc [] h = r → evD (evC tab k) (.ops l) m loc h = Res.rec (motive := fun _ => DR) (fun loc d h => List.rec (motive := fun _ => DR) (DR.norm m loc h) (fun _ _ _ => DR.fail [80]) d) (fun id loc d h => List.rec (motive := fun _ => DR) (DR.exit id m loc h) (fun _ _ _ => DR.fail [80]) d)
     (fun _ d h => List.rec (motive := fun _ => DR) (DR.ret m h) (fun _ _ _ => DR.fail [80]) d) (fun _ _ _ _ => DR.fail [81]) DR.fail r := by
    intro r hr; subst hr; rfl
   rw [e _ (hn k hk)]
 | fail l => exact hq.elim
 | exit id l d1 h1 => cases d1 <;> exact hq.elim
 | ret l d1 h1 => cases d1 <;> exact hq.elim
 | pan v l d1 h1 => cases d1 <;> exact hq.elim
def onEndD (tab : Nat → Option AFunc) (rs : List ARes) (Q : AV → AH → Prop) : Res → Prop
 | .norm l [.fn f0 first caps] h => ∃ n0 body0, tab f0 = some (.mk n0 body0 []) ∧ (lapp first caps).length = n0 ∧ WD tab body0 .ret (zAh (lapp first caps)) h fun m _ h2 => m = .ret ∧ ∃ vs, results rs l h2 = some vs ∧ Q (one vs) h2
 | .ret l [.fn f0 first caps] h => ∃ n0 body0, tab f0 = some (.mk n0 body0 []) ∧ (lapp first caps).length = n0 ∧ WD tab body0 .ret (zAh (lapp first caps)) h fun m _ h2 => m = .ret ∧ ∃ vs, results rs l h2 = some vs ∧ Q (one vs) h2
 | .pan v l [.fn f0 first caps] h => ∃ n0 body0, tab f0 = some (.mk n0 body0 []) ∧ (lapp first caps).length = n0 ∧ WD tab body0 (.pan v false) (zAh (lapp first caps)) h fun m _ h2 => (∃ w, m = .pan w true) ∧ ∃ vs, results rs l h2 = some vs ∧ Q (one vs) h2
 | _ => False
theorem runD_one {evc : ACode → T AV → List AV → AH → Res} {fin : Mode → AH → CR} {f0 n0 : Nat} {first caps : List AV} {body0 : ACode} {m m' : Mode} {l' : T AV} {h h' : AH} (ht : tab f0 = some (.mk n0 body0 [])) (hn : (lapp first caps).length = n0) (e : evD evc body0 m (zAh (lapp first caps)) h = .norm m' l' h') :
  runD tab evc fin [.fn f0 first caps] m h = Mode.rec (motive := fun _ => CR) (fin Mode.ret h') (fun v r => bi r (fin Mode.ret h') (fin (Mode.pan v r) h')) m' := by
 show obind (tab f0) _ _ = _
 rw [ht]
 show bi (Nat.beq n0 (llen (lapp first caps))) _ _ = _
 rw [zBx, hn, Nat.beq_refl]
 show DR.rec (motive := fun _ => CR) _ _ _ _ (evD evc body0 m (zAh (lapp first caps)) h) = _
 rw [e]
theorem ge_defer {f n : Nat} {body : ACode} {rs : List ARes} {args : List AV} {Q E : AV → AH → Prop} (ht : tab f = some (.mk n body rs)) (hn : args.length = n) (x : WC tab body (zAh args) [] h (onEndD tab rs Q)) : GE tab f args h Q E := by
 obtain ⟨r, hr, hq⟩ := x
 obtain ⟨m, hm⟩ := hr.at
 have e : ∀ k r, evC tab k body (zAh args) [] h = r → evF tab k f args h = (Res.rec (motive := fun _ => CR) (fun loc d h => runD tab (evC tab k) (zBa rs loc) d Mode.ret h) (fun _ _ _ _ => CR.fail [88]) (fun loc d h => runD tab (evC tab k) (zBa rs loc) d Mode.ret h)
   (fun v loc d h => runD tab (evC tab k) (zBa rs loc) d (Mode.pan v false) h) (fun l => CR.fail (f :: l)) r) := by
  intro k r hr
  subst hr
  show obind (tab f) _ _ = _
  rw [ht]
  show bi (Nat.beq n (llen args)) _ _ = _
  rw [zBx, hn, Nat.beq_refl]
  rfl
 have fin : ∀ (l : T AV) (f0 : Nat) (first caps : List AV) (h1 : AH) (m0 : Mode), (∃ n0 body0, tab f0 = some (.mk n0 body0 []) ∧ (lapp first caps).length = n0 ∧ WD tab body0 m0 (zAh (lapp first caps)) h1 fun m _ h2 => (m = .ret ∨ ∃ w, m = .pan w true) ∧ ∃ vs, results rs l h2 = some vs ∧ Q (one vs) h2) →
   ∃ vs h2, Q (one vs) h2 ∧ ∃ n, ∀ k, n ≤ k → runD tab (evC tab k) (zBa rs l) [.fn f0 first caps] m0 h1 = .ret (one vs) h2 := by
  rintro l f0 first caps h1 m0 ⟨n0, body0, t0, hl, m', l', h2, ⟨n, hn⟩, hm', vs, hv, hQ⟩
  refine ⟨vs, h2, hQ, n, fun k hk => ?_⟩
  rw [runD_one t0 hl (hn k hk)]
  rcases hm' with rfl | ⟨w, rfl⟩
  ·show obind (results rs l h2) _ _ = _
   rw [hv]; rfl
  ·show obind (results rs l h2) _ _ = _
   rw [hv]; rfl
 have one_fn : ∀ (d1 : List AV), (∃ f0 first caps, d1 = [.fn f0 first caps]) ∨ ∀ l h1 v, ¬ onEndD tab rs Q (.norm l d1 h1) ∧ ¬ onEndD tab rs Q (.ret l d1 h1) ∧ ¬ onEndD tab rs Q (.pan v l d1 h1) := by
  intro d1
  cases d1 with
  | nil => exact .inr fun _ _ _ => ⟨id, id, id⟩
  | cons a d1 =>
   cases d1 with
   | cons b d1 => exact .inr fun _ _ _ => by cases a <;> exact ⟨id, id, id⟩
   | nil =>
    cases a with
    | fn f0 fi ca => exact .inl ⟨f0, fi, ca, rfl⟩
    | _ => exact .inr fun _ _ _ => ⟨id, id, id⟩
 cases r with
 | norm l d1 h1 =>
  rcases one_fn d1 with ⟨f0, first, caps, rfl⟩ | hno
  rotate_left
  ·exact absurd hq (hno l h1 .bad).1
  obtain ⟨n0, body0, a1, a2, a3⟩ := hq
  obtain ⟨m', l', h2, a4, a5, a6⟩ := a3
  obtain ⟨vs, h3, hQ, n1, hn1⟩ := fin l f0 first caps h1 .ret ⟨n0, body0, a1, a2, m', l', h2, a4, .inl a5, a6⟩
  refine ⟨.ret (one vs) h3, ⟨trivial, m + n1, ?_⟩, hQ⟩
  rw [e _ _ (hm (m + n1) (by omega))]
  exact hn1 _ (by omega)
 | ret l d1 h1 =>
  rcases one_fn d1 with ⟨f0, first, caps, rfl⟩ | hno
  rotate_left
  ·exact absurd hq (hno l h1 .bad).2.1
  obtain ⟨n0, body0, a1, a2, a3⟩ := hq
  obtain ⟨m', l', h2, a4, a5, a6⟩ := a3
  obtain ⟨vs, h3, hQ, n1, hn1⟩ := fin l f0 first caps h1 .ret ⟨n0, body0, a1, a2, m', l', h2, a4, .inl a5, a6⟩
  refine ⟨.ret (one vs) h3, ⟨trivial, m + n1, ?_⟩, hQ⟩
  rw [e _ _ (hm (m + n1) (by omega))]
  exact hn1 _ (by omega)
 | pan v l d1 h1 =>
  rcases one_fn d1 with ⟨f0, first, caps, rfl⟩ | hno
  rotate_left
  ·exact absurd hq (hno l h1 v).2.2
  obtain ⟨n0, body0, a1, a2, a3⟩ := hq
  obtain ⟨m', l', h2, a4, a5, a6⟩ := a3
  obtain ⟨vs, h3, hQ, n1, hn1⟩ := fin l f0 first caps h1 (.pan v false) ⟨n0, body0, a1, a2, m', l', h2, a4, .inr a5, a6⟩
  refine ⟨.ret (one vs) h3, ⟨trivial, m + n1, ?_⟩, hQ⟩
  rw [e _ _ (hm (m + n1) (by omega))]
  exact hn1 _ (by omega)
 | exit id l d1 h1 => exact hq.elim
 | fail l => exact hq.elim
end
theorem zB4 {loc : T AV} {h : AH} {n k id s : Nat} {c : T AV} {p : Option Nat} {ro : Bool} {lst : List AV} {rs : List ARes} {vs : List AV} (hk : loc.get k = some (.ptr id 0)) (hg : h.mem.get id = some (.cells c s p ro)) (hl : loadL c n 0 = some lst) (hr : results rs loc h = some vs) :
  results (.cellN n (.l k) :: rs) loc h = some (.agg lst :: vs) := by
 have e : ∀ v, ev loc [] (.l k) = v → results (.cellN n (.l k) :: rs) loc h = obind (results rs loc h) Option.none fun l => AV.rec (motive_1 := fun _ => Option (List AV)) (motive_2 := fun _ => Unit) Option.none (fun _ => Option.none) (fun _ _ => Option.none) (fun _ _ => Option.none) (fun id off => obind (AH.get h id) Option.none fun o => AObj.rec (motive := fun _ => Option (List AV)) (fun c _ _ _ => obind (loadL c n off) Option.none fun v => some (AV.agg v :: l)) (fun _ _ => Option.none) (fun _ _ _ _ => Option.none) o) Option.none (fun _ _ _ _ => Option.none) Option.none (fun _ => Option.none) Option.none (fun _ _ _ _ _ => Option.none) Option.none (fun _ _ _ => Option.none) Option.none (fun _ _ => Option.none) (fun _ _ => Option.none) () (fun _ _ _ _ => ()) v := by
  intro v hv; subst hv; rfl
 rw [e (.ptr id 0) (by rw [evl, hk]; rfl), hr]
 show obind (AH.get h id) Option.none _ = _
 rw [AH.get_eq, hg]
 show obind (loadL c n 0) Option.none _ = _
 rw [hl]; rfl
theorem zBe {loc : T AV} {h : AH} {k : Nat} {v : AV} {rs : List ARes} {vs : List AV} (hk : loc.get k = some v) (hr : results rs loc h = some vs) : results (.val (.l k) :: rs) loc h = some (v :: vs) := by
 rw [zA1 hr, evl, hk]; rfl
end Go.Ev
