/- PaW22 LxS LxW1 LxW2 LxW3 LxW4 LxW5 LxW6 LxW7 LxW8 PaW23 PaF -/
import Derived.Test.YtlolcfdllehpgaaGreatDoorPaJ
import Derived.Test.YtlolcfdllehpgaaGreatDoorPaH
import Derived.Test.YtlolcfdllehpgaaGreatDoorPaI
set_option linter.unusedSimpArgs false
set_option linter.unusedVariables false
set_option linter.unusedSectionVars false
set_option linter.defProp false
set_option maxRecDepth 100000
set_option maxHeartbeats 4000000
namespace Go.Ev
open Go Go.Pa
section
variable {tab : Nat → Option AFunc} {h : AH} (H : PT tab) {ts : List Tok} {en r i d : Nat}
def progV (y : PR (List Tree)) (lo : Nat) (v : AV) (h1 : AH) : Prop :=
 (∃ ks i d u, y = .ok ks i d ∧ v = .tup [.agg [u], .agg [.int .i64 ((0 : Nat) : Int), .int .i64 ((0 : Nat) : Int)]] ∧ TreeR h1 (fun k => lo ≤ k) u (.mk 1 [] [] 0 0 ks)) ∨
 (∃ p e, y = .err p e ∧ v = .tup [.agg [.nilp], .agg [.int .i64 (p : Int), .int .i64 (e : Int)]])
include H in
theorem prog_gp {n m : Nat} (R : RS ts en h r i d) (hd : d ≤ 40) {y : PR (List Tree)} (hy : progL ts en n m i d [] = y) (hne : y ≠ .out) : GP tab 25 [.ptr r 0] h fun v h1 => MoreBut r h h1 ∧ progV y h.next v h1 := by
 have i0 : zAh [.ptr r 0] = zAd [.ptr r 0] := rfl
 have hr := R.lt
 refine GE.gp (ge_defer H.t25 rfl ?_) (E := fun _ _ => False) fun _ _ => id
 refine zAc (zAb fun Q1 hQ => ?_)
 simp (disch := omega) only [EL, ↓K3, ↓K1, reduceIte, Nat.reduceEqDiff, Nat.reduceAdd, Nat.reduceLeDiff, i0]
 refine hQ _ ?_
 clear hQ Q1
 have m1 : More h ((h.add (.cells (zAd [.nilp]) 1 none false)).add (.cells (zAd [.int .i64 ((0 : Nat) : Int), .int .i64 ((0 : Nat) : Int)]) 2 none false)) := (More.add _ _).trans (More.add _ _)
 have n1 : ((h.add (.cells (zAd [.nilp]) 1 none false)).add (.cells (zAd [.int .i64 ((0 : Nat) : Int), .int .i64 ((0 : Nat) : Int)]) 2 none false)).next = h.next + 2 := rfl
 have g1 : ((h.add (.cells (zAd [.nilp]) 1 none false)).add (.cells (zAd [.int .i64 ((0 : Nat) : Int), .int .i64 ((0 : Nat) : Int)]) 2 none false)).mem.get h.next = some (.cells (zAd [.nilp]) 1 none false) := by
  rw [AH.add_mem, T.get_put_ne _ _ _ _ (by show h.next + 1 ≠ h.next; omega), AH.add_mem, T.get_put_self]
 have g2 : ((h.add (.cells (zAd [.nilp]) 1 none false)).add (.cells (zAd [.int .i64 ((0 : Nat) : Int), .int .i64 ((0 : Nat) : Int)]) 2 none false)).mem.get (h.next + 1) = some (.cells (zAd [.int .i64 ((0 : Nat) : Int), .int .i64 ((0 : Nat) : Int)]) 2 none false) := by
  rw [AH.add_mem]; exact T.get_put_self _ _ _
 generalize ((h.add (.cells (zAd [.nilp]) 1 none false)).add (.cells (zAd [.int .i64 ((0 : Nat) : Int), .int .i64 ((0 : Nat) : Int)]) 2 none false)) = h1 at *
 have R1 := R.more m1
 have c1 := m1.but r
 simp only [zAa]
 refine zAc (zAb fun Q1 hQ => ?_)
 simp (disch := omega) only [EL, ↓K3, ↓K1, reduceIte, Nat.reduceEqDiff, Nat.reduceAdd, Nat.reduceLeDiff, i0]
 refine hQ _ ?_
 clear hQ Q1
 have pan : ∀ (l : T AV) (p e : Nat) (h7 : AH), l.get 1 = some (.ptr h.next 0) → l.get 2 = some (.ptr (h.next + 1) 0) → MoreBut r h h7 → h1.next ≤ h7.next → (∃ c w, h7.mem.get h.next = some (.cells c 1 none false) ∧ c.get 0 = some w) → h7.mem.get (h.next + 1) = some (.cells (zAd [.int .i64 ((0 : Nat) : Int), .int .i64 ((0 : Nat) : Int)]) 2 none false) →
   y = .err p e → onEndD tab [.cellN 1 (.l 1), .cellN 2 (.l 2)] (fun v h1 => MoreBut r h h1 ∧ progV y h.next v h1) (.pan (stopV p e) l [.fn 39 [] [.ptr h.next 0, .ptr (h.next + 1) 0]] h7) := by
  intro l p e h7 l1 l2 c7 n7 ⟨cb, w, gb, cb0⟩ ge hye
  refine ⟨2, _, H.t39, rfl, wd_seq (wd_recov_pan ?_)⟩
  have j0 : zAh [.ptr h.next 0, .ptr (h.next + 1) 0] = zAd [.ptr h.next 0, .ptr (h.next + 1) 0] := rfl
  have eqn : ∀ h', oEq true .ifc (.c (stopV p e)) (.c .nili) .leaf [] h' = .val (.bool true) h' := fun _ => rfl
  have mvn : ∀ h', oMove (.c (stopV p e)) .leaf [] h' = .val (stopV p e) h' := fun _ => rfl
  have asn : ∀ z loc tmp h', evOp (.assert 54 false z (.t 0)) loc (stopV p e :: tmp) h' = .val (.agg [.int .i64 (p : Int), .int .i64 (e : Int)]) h' := fun _ _ _ _ => rfl
  refine wd_seq (wd_ops (zAb fun Q1 hQ => ?_))
  simp (disch := omega) only [EL, ↓K3, ↓K1, reduceIte, Nat.reduceEqDiff, Nat.reduceAdd, Nat.reduceLeDiff, j0, zCq, eqn, mvn]
  refine hQ _ ?_
  clear hQ Q1
  refine wd_cond (q := true) (by simp +decide only [EL, reduceIte]) ?_
  rw [if_pos rfl]
  refine wd_ops (zAb fun Q1 hQ => ?_)
  simp (disch := omega) only [EL, ↓K3, ↓K1, reduceIte, Nat.reduceEqDiff, Nat.reduceAdd, Nat.reduceLeDiff, j0, zCq, asn, mvn, gb, cb0, ge]
  refine hQ _ ?_
  have o8 : Only h.next h7 (h7.set h.next (.cells (T.put (some .nilp) cb 0) 1 none false)) := Only.set
  have gc8 : (h7.set h.next (.cells (T.put (some .nilp) cb 0) 1 none false)).mem.get h.next = some (.cells (T.put (some .nilp) cb 0) 1 none false) := AH.get_set
  generalize h7.set h.next (.cells (T.put (some .nilp) cb 0) 1 none false) = h8 at *
  have n8 := o8.next
  have o9 : Only (h.next + 1) h8 (h8.set (h.next + 1) (.cells (T.put (some (.int .i64 (e : Int))) (T.put (some (.int .i64 (p : Int))) (zAd [.int .i64 ((0 : Nat) : Int), .int .i64 ((0 : Nat) : Int)]) 0) 1) 2 none false)) := Only.set
  have gc9 : (h8.set (h.next + 1) (.cells (T.put (some (.int .i64 (e : Int))) (T.put (some (.int .i64 (p : Int))) (zAd [.int .i64 ((0 : Nat) : Int), .int .i64 ((0 : Nat) : Int)]) 0) 1) 2 none false)).mem.get (h.next + 1) = some (.cells (T.put (some (.int .i64 (e : Int))) (T.put (some (.int .i64 (p : Int))) (zAd [.int .i64 ((0 : Nat) : Int), .int .i64 ((0 : Nat) : Int)]) 0) 1) 2 none false) := AH.get_set
  generalize h8.set (h.next + 1) (.cells (T.put (some (.int .i64 (e : Int))) (T.put (some (.int .i64 (p : Int))) (zAd [.int .i64 ((0 : Nat) : Int), .int .i64 ((0 : Nat) : Int)]) 0) 1) 2 none false) = h9 at *
  refine ⟨⟨_, rfl⟩, _, zB4 l1 ((o9.keep h.next (by omega)).trans gc8) (lst := [.nilp]) (by rw [zAe, T.get_put_self]; rfl) (zB4 l2 gc9 (lst := [.int .i64 (p : Int), .int .i64 (e : Int)]) (by simp +decide only [EL, reduceIte, zAe]) zAn), o9.mb (o8.mb c7 (by omega)) (by omega), .inr ⟨p, e, hye, rfl⟩⟩
 simp only [zAa]
 refine zAc (zAb fun Q1 hQ => ?_)
 simp (disch := omega) only [EL, ↓K3, ↓K1, reduceIte, Nat.reduceEqDiff, Nat.reduceAdd, Nat.reduceLeDiff, i0]
 refine (zDh H (kv := .nils) (op := 1) (pos := 0) (fun _ => rfl) rfl).to fun v h2 q => ?_
 obtain ⟨ia, rfl, i1, i2, nc, m2⟩ := q
 have n2 := m2.next
 have g12 := (m2.keep h.next (by omega)).trans g1
 have g22 := (m2.keep (h.next + 1) (by omega)).trans g2
 have c2 := c1.trans (m2.but r)
 simp (disch := omega) only [EL, ↓K3, ↓K1, reduceIte, Nat.reduceEqDiff, Nat.reduceAdd, Nat.reduceLeDiff, g12]
 refine hQ _ ?_
 clear hQ Q1
 simp only [zAa]
 have o3 : Only h.next h2 (h2.set h.next (.cells (T.put (some (.ptr ia 0)) (zAd [.nilp]) 0) 1 none false)) := Only.set
 have gb3 : (h2.set h.next (.cells (T.put (some (.ptr ia 0)) (zAd [.nilp]) 0) 1 none false)).mem.get h.next = some (.cells (T.put (some (.ptr ia 0)) (zAd [.nilp]) 0) 1 none false) := AH.get_set
 generalize h2.set h.next (.cells (T.put (some (.ptr ia 0)) (zAd [.nilp]) 0) 1 none false) = h3 at *
 have n3 := o3.next
 have bx3 : BoxN h3 h.next ia := ⟨_, gb3, T.get_put_self _ _ _⟩
 have nc3 := nc.keep (o3.keep ia (by omega))
 have g23 := (o3.keep (h.next + 1) (by omega)).trans g22
 have R3 := o3.rs (R1.more m2) (by omega)
 have c3 := o3.mb c2 (by omega)
 refine zFz (fun l d1 h7 => ∃ i d ks kv, d1 = [.fn 39 [] [.ptr h.next 0, .ptr (h.next + 1) 0]] ∧ l.get 0 = some (.ptr r 0) ∧ l.get 1 = some (.ptr h.next 0) ∧ l.get 2 = some (.ptr (h.next + 1) 0) ∧ MoreBut r h h7 ∧ BoxN h7 h.next ia ∧ NodeC h7 ia 1 [] [] 0 0 kv ∧ Kids h7 h.next [h.next, h.next + 1, ia] kv ks ∧
  h7.mem.get (h.next + 1) = some (.cells (zAd [.int .i64 ((0 : Nat) : Int), .int .i64 ((0 : Nat) : Int)]) 2 none false) ∧ y = .ok ks i d ∧ h3.next ≤ h7.next) ?_ ?_
 ·refine zAy ?_
  refine zCg (fun k l d1 h7 => ∃ i ks kv, d1 = [.fn 39 [] [.ptr h.next 0, .ptr (h.next + 1) 0]] ∧ l.get 0 = some (.ptr r 0) ∧ l.get 1 = some (.ptr h.next 0) ∧ l.get 2 = some (.ptr (h.next + 1) 0) ∧ RS ts en h7 r i d ∧ MoreBut r h h7 ∧ BoxN h7 h.next ia ∧ NodeC h7 ia 1 [] [] 0 0 kv ∧ Kids h7 h.next [h.next, h.next + 1, ia] kv ks ∧
   h7.mem.get (h.next + 1) = some (.cells (zAd [.int .i64 ((0 : Nat) : Int), .int .i64 ((0 : Nat) : Int)]) 2 none false) ∧ progL ts en k m i d ks = y ∧ h3.next ≤ h7.next ∧ ks.length ≤ i) ?_ n ?_
  ·rintro k l d1 h7 ⟨i, ks, kv, rfl, l0, l1, l2, R7, c7, bx7, nc7, k7, g27, hy, n7, kl⟩
   cases k with
   | zero => exact absurd (by rw [← hy]; simp [progL]) hne
   | succ k =>
    have le7 := R7.le
    have ln := R7.ln
    obtain ⟨_, _, _, _, _, _, c, tl, c0, c1', c2', c3', c4', c5'⟩ := id R7
    have ltl : ∀ h', oLen .sl (.c tl) .leaf [] h' = .val (.int .i64 (ts.length : Int)) h' := by
     intro h'
     rcases c5' with ⟨rfl, rfl⟩ | ⟨id, cc, s, cap, rfl, _⟩
     ·rfl
     ·exact zIn
    unfold progL at hy
    refine zAc ?_
    refine zAc (zAb fun Q1 hQ => ?_)
    by_cases hi : i < ts.length
    ·rw [if_pos hi] at hy
     simp (disch := omega) only [EL, ↓K3, ↓K1, reduceIte, Nat.reduceEqDiff, Nat.reduceAdd, Nat.reduceLeDiff, l0, c0, c1', c2', ltl, hi]
     refine hQ _ ?_
     clear hQ Q1
     simp only [zAa]
     refine zAt (by simp +decide only [EL, reduceIte, hi]) ?_
     refine zAm ?_
     simp only [zAa]
     refine zAy ?_
     refine zF4 (K := 1) (b := h.next) (id := ia) (lo := h.next) (X := [h.next, h.next + 1, ia]) (r := r) (f := 41) (args := [.ptr r 0]) (by simp +decide only [EL, reduceIte, l1]) bx7 nc7 k7 (by omega) (by omega) (by intro k hk; simp at hk; omega) (by simp) (by simp) (by omega) (by omega) (by omega) (by omega) (fun tmp => ⟨.ptr r 0, by simp +decide only [EL, reduceIte, l0], by simp +decide only [EL, reduceIte, l0]⟩) (decl_ge H R7 hd _ rfl (zA2 hy hne)) (fun v h9 q => ?_) (fun v h9 e => ?_)
     rotate_left
     ·obtain ⟨p, er, hx, rfl, fr'⟩ := e
      rw [hx] at hy
      simp only [zDd, zCu]
      have n9 := MoreBut.next fr'
      obtain ⟨cb, gb, cb0⟩ := bx7
      exact pan _ p er h9 (by simp +decide only [EL, reduceIte, l1]) (by simp +decide only [EL, reduceIte, l2]) (MoreBut.trans c7 fr') (by omega) ⟨cb, _, (MoreBut.keep fr' h.next (by omega) (by omega)).trans gb, cb0⟩ ((MoreBut.keep fr' (h.next + 1) (by omega) (by omega)).trans g27) hy.symm
     obtain ⟨p, i, hx, li9, R9, b9, u, rfl, tr⟩ := q
     rw [hx, zAv] at hy
     have n9 := b9.next
     refine ⟨b9, u, p, rfl, tr, fun h10 kv' n10 keep nc10 k10 => ?_⟩
     have R10 := R9.keep n10 fun k hk => keep k (by have := R9.lt; omega) (.inl (by omega)) (by omega)
     have c10 : MoreBut r _ h10 := ⟨Nat.le_trans (MoreBut.trans c7 b9).next n10, fun k h1 h2 => by rw [keep k (by omega) (.inl (by omega)) (by omega)]; exact (MoreBut.trans c7 b9).keep k h1 h2⟩
     have bx10 := bx7.keep ((keep h.next (by omega) (.inr (by simp)) (by omega)).trans (b9.keep h.next (by omega) (by omega)))
     have g210 := ((keep (h.next + 1) (by omega) (.inr (by simp)) (by omega)).trans (b9.keep (h.next + 1) (by omega) (by omega))).trans g27
     try simp only [zAa, zAi]
     exact ⟨k, by omega, _, _, _, trivial, by simp +decide only [EL, reduceIte, l0], by simp +decide only [EL, reduceIte, l1], by simp +decide only [EL, reduceIte, l2], R10, c10, bx10, nc10, k10, g210, hy, by omega, by simp; omega⟩
    ·rw [if_neg hi] at hy
     simp (disch := omega) only [EL, ↓K3, ↓K1, reduceIte, Nat.reduceEqDiff, Nat.reduceAdd, Nat.reduceLeDiff, l0, c0, c1', c2', ltl, hi]
     refine hQ _ ?_
     clear hQ Q1
     simp only [zAa]
     refine wc_no (by simp +decide only [EL, reduceIte, hi]) ?_
     refine zDe ?_
     simp only [zBg, zBd, if_true, zAa]
     exact ⟨_, _, ks, kv, trivial, by simp +decide only [EL, reduceIte, l0], by simp +decide only [EL, reduceIte, l1], by simp +decide only [EL, reduceIte, l2], c7, bx7, nc7, k7, g27, hy.symm, by omega⟩
  ·exact ⟨_, [], .nils, rfl, by simp +decide only [EL, reduceIte, i0], by simp +decide only [EL, reduceIte, i0], by simp +decide only [EL, reduceIte, i0], R3, c3, bx3, nc3, Kids.nils, g23, hy, by omega, by simp⟩
 ·rintro l d1 h7 ⟨i, d, ks, kv, rfl, l0, l1, l2, c7, bx7, nc7, k7, g27, hy, n7⟩
  obtain ⟨cb, gb, cb0⟩ := bx7
  refine zAc (zAb fun Q1 hQ => ?_)
  simp (disch := omega) only [EL, ↓K3, ↓K1, reduceIte, Nat.reduceEqDiff, Nat.reduceAdd, Nat.reduceLeDiff, l1, l2, gb, cb0, g27, zAe, zA6, zA7]
  refine hQ _ ?_
  clear hQ Q1
  simp only [zAa]
  have o8 : Only h.next h7 (h7.set h.next (.cells (T.put (some (.ptr ia 0)) cb 0) 1 none false)) := Only.set
  have gc8 : (h7.set h.next (.cells (T.put (some (.ptr ia 0)) cb 0) 1 none false)).mem.get h.next = some (.cells (T.put (some (.ptr ia 0)) cb 0) 1 none false) := AH.get_set
  generalize h7.set h.next (.cells (T.put (some (.ptr ia 0)) cb 0) 1 none false) = h8 at *
  have n8 := o8.next
  have o9 : Only (h.next + 1) h8 (h8.set (h.next + 1) (.cells (T.put (some (.int .i64 ((0 : Nat) : Int))) (T.put (some (.int .i64 ((0 : Nat) : Int))) (zAd [.int .i64 ((0 : Nat) : Int), .int .i64 ((0 : Nat) : Int)]) 0) 1) 2 none false)) := Only.set
  have gc9 : (h8.set (h.next + 1) (.cells (T.put (some (.int .i64 ((0 : Nat) : Int))) (T.put (some (.int .i64 ((0 : Nat) : Int))) (zAd [.int .i64 ((0 : Nat) : Int), .int .i64 ((0 : Nat) : Int)]) 0) 1) 2 none false)).mem.get (h.next + 1) = some (.cells (T.put (some (.int .i64 ((0 : Nat) : Int))) (T.put (some (.int .i64 ((0 : Nat) : Int))) (zAd [.int .i64 ((0 : Nat) : Int), .int .i64 ((0 : Nat) : Int)]) 0) 1) 2 none false) := AH.get_set
  generalize h8.set (h.next + 1) (.cells (T.put (some (.int .i64 ((0 : Nat) : Int))) (T.put (some (.int .i64 ((0 : Nat) : Int))) (zAd [.int .i64 ((0 : Nat) : Int), .int .i64 ((0 : Nat) : Int)]) 0) 1) 2 none false) = h9 at *
  have n9 := o9.next
  have iln : ia < h7.next := by omega
  refine zAj ?_
  refine ⟨2, _, H.t39, rfl, wd_seq (wd_recov_ret ?_)⟩
  have j0 : zAh [.ptr h.next 0, .ptr (h.next + 1) 0] = zAd [.ptr h.next 0, .ptr (h.next + 1) 0] := rfl
  have eqn : ∀ h', oEq true .ifc (.c .nili) (.c .nili) .leaf [] h' = .val (.bool false) h' := fun _ => rfl
  have mvn : ∀ h', oMove (.c .nili) .leaf [] h' = .val .nili h' := fun _ => rfl
  refine wd_seq (wd_ops (zAb fun Q1 hQ => ?_))
  simp (disch := omega) only [EL, ↓K3, ↓K1, reduceIte, Nat.reduceEqDiff, Nat.reduceAdd, Nat.reduceLeDiff, j0, zCq, eqn, mvn]
  refine hQ _ ?_
  clear hQ Q1
  refine wd_cond (q := false) (by simp +decide only [EL, reduceIte]) ?_
  rw [if_neg (by simp)]
  refine wd_skip ⟨rfl, _, zB4 l1 ((o9.keep h.next (by omega)).trans gc8) (lst := [.ptr ia 0]) (by rw [zAe, T.get_put_self]; rfl) (zB4 l2 gc9 (lst := [.int .i64 ((0 : Nat) : Int), .int .i64 ((0 : Nat) : Int)]) (by simp +decide only [EL, reduceIte, zAe]) zAn), o9.mb (o8.mb c7 (by omega)) (by omega), .inl ⟨ks, i, d, .ptr ia 0, hy, rfl, ?_⟩⟩
  have k9 := (k7.keep (o8.stay (F := fun k => h.next ≤ k ∧ k ∉ [h.next, h.next + 1, ia]) (by simp))).keep (o9.stay (by simp))
  exact k9.tree2 ((nc7.keep (o8.keep _ (by omega))).keep (o9.keep _ (by omega))) (by show h.next ≤ ia; omega) (by omega) fun k hk _ => hk
end
end Go.Ev
namespace Go.Pa
open Go.Ev
def zAl (c : UInt8) : Bool := decide (c.toNat = 32) || decide (c.toNat = 9) || decide (c.toNat = 10) || decide (c.toNat = 13)
def zCl (c : UInt8) : Bool := (decide (97 ≤ c.toNat) && decide (c.toNat ≤ 122)) || (decide (65 ≤ c.toNat) && decide (c.toNat ≤ 90)) || decide (c.toNat = 95)
def zBf (c : UInt8) : Bool := decide (48 ≤ c.toNat) && decide (c.toNat ≤ 57)
def zDq (c : UInt8) : Bool := zCl c || zBf c
def notNl (c : UInt8) : Bool := !decide (c.toNat = 10)
def aheadN (p : UInt8 → Bool) (s : Str) : Nat := (s.takeWhile p).length
theorem zB7 {p : UInt8 → Bool} {s : Str} : aheadN p s ≤ s.length := (List.takeWhile_prefix p).length_le
def skipL : Nat → Str → Nat
 | 0, _ => 0
 | k + 1, s => if ([47, 47] : Str).isPrefixOf (s.drop (aheadN zAl s)) then aheadN zAl s + (aheadN notNl (s.drop (aheadN zAl s)) + skipL k ((s.drop (aheadN zAl s)).drop (aheadN notNl (s.drop (aheadN zAl s))))) else aheadN zAl s
def skipS (s : Str) : Nat := skipL (s.length + 1) s
theorem zDt : ∀ (k : Nat) (s : Str), skipL k s ≤ s.length
 | 0, s => Nat.zero_le _
 | k + 1, s => by
  unfold skipL
  have h1 := zB7 (p := zAl) (s := s)
  split
  ·have h2 := zB7 (p := notNl) (s := s.drop (aheadN zAl s))
   have h3 := zDt k ((s.drop (aheadN zAl s)).drop (aheadN notNl (s.drop (aheadN zAl s))))
   simp only [List.length_drop] at h2 h3
   omega
  ·exact h1
def lexKeys : List Str := [[116, 121, 112, 101], [115, 116, 114, 117, 99, 116], [102, 117, 110, 99], [118, 97, 114], [105, 102], [101, 108, 115, 101], [102, 111, 114], [114, 101, 116, 117, 114, 110], [112, 114, 105, 110, 116], [110, 101, 119], [110, 105, 108], [116, 114, 117, 101], [102, 97, 108, 115, 101], [105, 110, 116], [98, 111, 111, 108], [114, 101, 97, 100]]
def lexSigns : List Str := [[60, 60], [62, 62], [61, 61], [33, 61], [60, 61], [62, 61], [38, 38], [124, 124], [58, 61], [43], [45], [42], [47], [37], [38], [124], [94], [60], [62], [33], [61], [46], [44], [59], [40], [41], [123], [125]]
def wordT (s : Str) : Nat × Str × Nat := (if s.takeWhile zDq ∈ lexKeys then 2 else 1, s.takeWhile zDq, if 12 < (s.takeWhile zDq).length then 4 else 0)
def numT (s : Str) : Nat × Str × Nat := (3, s.takeWhile zBf, match s.drop (aheadN zBf s) with | [] => (numP (s.takeWhile zBf)).2 | c :: _ => if zCl c then 1 else (numP (s.takeWhile zBf)).2)
def signT (s : Str) : Nat × Str × Nat := match lexSigns.find? (·.isPrefixOf s) with | some x => (4, x, 0) | none => (0, [], 1)
def nextT (s : Str) : Nat × Str × Nat := match s with
 | [] => (0, [], 1)
 | c :: _ => if zCl c then wordT s else if zBf c then numT s else signT s
inductive LR where
 | ok (ts : List Tok)
 | err (p e : Nat)
 | out
def scanL (s : Str) : Nat → Nat → List Tok → LR
 | 0, _, _ => .out
 | k + 1, at_, acc => if at_ < s.length then
     if (nextT (s.drop at_)).2.2 ≠ 0 then .err at_ (nextT (s.drop at_)).2.2
     else scanL s k (at_ + (nextT (s.drop at_)).2.1.length + skipS (s.drop (at_ + (nextT (s.drop at_)).2.1.length))) (acc ++ [⟨(nextT (s.drop at_)).1, (nextT (s.drop at_)).2.1, at_⟩])
  else .ok acc
def scanS (s : Str) : LR := if 4096 < s.length then .err 4096 4 else scanL s (s.length + 1) (skipS s) []
theorem zDf {p : UInt8 → Bool} {s : Str} : (s.takeWhile p).length ≤ s.length := (List.takeWhile_prefix p).length_le
theorem zCw {p : UInt8 → Bool} {c : UInt8} {s : Str} (h : p c = true) : 0 < ((c :: s).takeWhile p).length := by rw [List.takeWhile_cons, if_pos h]; simp
theorem zIy {s : Str} (h : (nextT s).2.2 = 0) : 0 < (nextT s).2.1.length ∧ (nextT s).2.1.length ≤ s.length ∧ (nextT s).2.1 <+: s ∧ ((nextT s).1 = 3 → s.length ≤ 1000000 → Digs (nextT s).2.1 ∧ (numP (nextT s).2.1).2 = 0) := by
 cases s with
 | nil => cases h
 | cons c s =>
  simp only [nextT] at h ⊢
  by_cases h1 : zCl c = true
  ·rw [if_pos h1] at h ⊢
   have hn : zDq c = true := by unfold zDq; rw [h1]; rfl
   refine ⟨zCw hn, zDf, List.takeWhile_prefix _, fun h3 => ?_⟩
   simp only [wordT] at h3
   split at h3 <;> cases h3
  ·rw [if_neg h1] at h ⊢
   by_cases h2 : zBf c = true
   ·rw [if_pos h2] at h ⊢
    refine ⟨zCw h2, zDf, List.takeWhile_prefix _, fun _ hl => ⟨⟨?_, ?_, ?_⟩, ?_⟩⟩
    ·exact List.ne_nil_of_length_pos (zCw h2)
    ·intro x hx
     have : zBf x = true := by
      have hall := List.all_takeWhile (p := zBf) (l := c :: s)
      rw [List.all_eq_true] at hall
      exact hall x hx
     simpa [zBf] using this
    ·have := zDf (p := zBf) (s := c :: s)
     show ((c :: s).takeWhile zBf).length ≤ _
     omega
    ·simp only [numT] at h ⊢
     split at h
     ·exact h
     ·split at h
      ·cases h
      ·exact h
   ·rw [if_neg h2] at h ⊢
    unfold signT at h ⊢
    cases hf : lexSigns.find? (·.isPrefixOf (c :: s)) with
    | none => rw [hf] at h; cases h
    | some x =>
     have hp := List.find?_some hf
     have hm := List.mem_of_find?_eq_some hf
     have hpre := List.isPrefixOf_iff_prefix.mp hp
     simp only
     refine ⟨?_, hpre.length_le, hpre, fun h3 => by cases h3⟩
     have hall : ∀ y ∈ lexSigns, 0 < y.length := by decide
     exact hall x hm
structure ScanOK (s : Str) (ts : List Tok) : Prop where
 len : ts.length ≤ s.length
 tok : ∀ t ∈ ts, t.pos < s.length ∧ t.text.length ≤ s.length ∧ (t.kind = 3 → s.length ≤ 1000000 → Digs t.text ∧ (numP t.text).2 = 0)
theorem scanL_ok {s : Str} : ∀ (k at_ : Nat) (acc ts : List Tok), scanL s k at_ acc = .ok ts → at_ ≤ s.length → acc.length ≤ at_ → (∀ t ∈ acc, t.pos < s.length ∧ t.text.length ≤ s.length ∧ (t.kind = 3 → s.length ≤ 1000000 → Digs t.text ∧ (numP t.text).2 = 0)) → ScanOK s ts
 | 0, _, _, _, h, _, _, _ => by cases h
 | k + 1, at_, acc, ts, h, hle, hacc, ha => by
  unfold scanL at h
  split at h
  ·rename_i hlt
   split at h
   ·cases h
   ·rename_i he
    have he : (nextT (s.drop at_)).2.2 = 0 := Decidable.not_not.mp he
    obtain ⟨p1, p2, _, p3⟩ := zIy he
    simp only [List.length_drop] at p2 p3
    have p4 := zDt ((s.drop (at_ + (nextT (s.drop at_)).2.1.length)).length + 1) (s.drop (at_ + (nextT (s.drop at_)).2.1.length))
    refine scanL_ok k _ _ ts h ?_ ?_ ?_
    ·unfold skipS; simp only [List.length_drop] at p4 ⊢; omega
    ·simp only [List.length_append, List.length_singleton]; omega
    ·intro t ht
     rcases List.mem_append.mp ht with ht | ht
     ·exact ha t ht
     ·simp only [List.mem_singleton] at ht; subst ht
      exact ⟨hlt, by show (nextT (s.drop at_)).2.1.length ≤ _; omega, fun h3 hl => p3 h3 (by omega)⟩
  ·injection h with h; subst h; exact ⟨by omega, ha⟩
theorem zLa {s : Str} {ts : List Tok} (h : scanS s = .ok ts) : s.length ≤ 4096 ∧ ScanOK s ts := by
 unfold scanS at h
 split at h
 ·cases h
 ·exact ⟨by omega, scanL_ok _ _ _ _ h (zDt _ _) (by simp) (by simp)⟩
theorem zLb {s : Str} : ∀ (k at_ : Nat) (acc : List Tok), s.length < at_ + k → at_ ≤ s.length → scanL s k at_ acc ≠ .out
 | 0, at_, acc, h, hl => by
  intro; omega
 | k + 1, at_, acc, h, hl => by
  unfold scanL
  split
  ·split
   ·simp
   ·rename_i he
    have he : (nextT (s.drop at_)).2.2 = 0 := Decidable.not_not.mp he
    obtain ⟨p1, p2, _⟩ := zIy he
    have p4 := zDt ((s.drop (at_ + (nextT (s.drop at_)).2.1.length)).length + 1) (s.drop (at_ + (nextT (s.drop at_)).2.1.length))
    exact zLb k _ _ (by omega) (by unfold skipS; simp only [List.length_drop] at p2 p4 ⊢; omega)
  ·simp
theorem scanS_in {s : Str} : scanS s ≠ .out := by
 unfold scanS
 split
 ·simp
 ·exact zLb _ _ _ (by omega) (zDt _ _)
end Go.Pa
namespace Go.Ev
open Go Go.Pa
section
variable {tab : Nat → Option AFunc} {h : AH} (H : PT tab)
abbrev byteV (c : UInt8) : AV := .int .u8 (c.toNat : Int)
include H in
theorem blank_gp {c : UInt8} : GP tab 62 [byteV c] h fun v h1 => v = .bool (zAl c) ∧ h1 = h := by
 have i0 : zAh [byteV c] = zAd [byteV c] := rfl
 refine GE.gp (ge_of H.t62 rfl ?_) (E := fun _ _ => False) fun _ _ hh => hh
 refine zAc (zAb fun Q1 hQ => ?_)
 simp (disch := omega) only [EL, ↓K3, ↓K1, reduceIte, Nat.reduceEqDiff, Nat.reduceAdd, Nat.reduceLeDiff, i0]
 refine hQ _ ?_
 clear hQ Q1
 refine zAc (zAb fun Q1 hQ => ?_)
 by_cases a1 : c.toNat = 32
 ·have e : zAl c = true := by simp [zAl, a1]
  simp (disch := omega) only [EL, ↓K3, ↓K1, reduceIte, Nat.reduceEqDiff, Nat.reduceAdd, Nat.reduceLeDiff, i0, a1]
  refine hQ _ ?_
  simp only [zAa]
  refine zAj ?_
  simp (disch := omega) only [EL, ↓K3, ↓K1, reduceIte, Nat.reduceEqDiff, Nat.reduceAdd, Nat.reduceLeDiff, e]
 by_cases a2 : c.toNat = 9
 ·have e : zAl c = true := by simp [zAl, a2]
  simp (disch := omega) only [EL, ↓K3, ↓K1, reduceIte, Nat.reduceEqDiff, Nat.reduceAdd, Nat.reduceLeDiff, i0, a2]
  refine hQ _ ?_
  simp only [zAa]
  refine zAj ?_
  simp (disch := omega) only [EL, ↓K3, ↓K1, reduceIte, Nat.reduceEqDiff, Nat.reduceAdd, Nat.reduceLeDiff, e]
 by_cases a3 : c.toNat = 10
 ·have e : zAl c = true := by simp [zAl, a3]
  simp (disch := omega) only [EL, ↓K3, ↓K1, reduceIte, Nat.reduceEqDiff, Nat.reduceAdd, Nat.reduceLeDiff, i0, a3]
  refine hQ _ ?_
  simp only [zAa]
  refine zAj ?_
  simp (disch := omega) only [EL, ↓K3, ↓K1, reduceIte, Nat.reduceEqDiff, Nat.reduceAdd, Nat.reduceLeDiff, e]
 by_cases a4 : c.toNat = 13
 ·have e : zAl c = true := by simp [zAl, a4]
  simp (disch := omega) only [EL, ↓K3, ↓K1, reduceIte, Nat.reduceEqDiff, Nat.reduceAdd, Nat.reduceLeDiff, i0, a4]
  refine hQ _ ?_
  simp only [zAa]
  refine zAj ?_
  simp (disch := omega) only [EL, ↓K3, ↓K1, reduceIte, Nat.reduceEqDiff, Nat.reduceAdd, Nat.reduceLeDiff, e]
 ·have e : zAl c = false := by simp [zAl, a1, a2, a3, a4]
  simp (disch := omega) only [EL, ↓K3, ↓K1, reduceIte, Nat.reduceEqDiff, Nat.reduceAdd, Nat.reduceLeDiff, i0, a1, a2, a3, a4]
  refine hQ _ ?_
  simp only [zAa]
  refine zAj ?_
  simp (disch := omega) only [EL, ↓K3, ↓K1, reduceIte, Nat.reduceEqDiff, Nat.reduceAdd, Nat.reduceLeDiff, e]
include H in
theorem skip1_gp {c : UInt8} : GP tab 64 [byteV c] h fun v h1 => v = .bool (notNl c) ∧ h1 = h := by
 have i0 : zAh [byteV c] = zAd [byteV c] := rfl
 refine GE.gp (ge_of H.t64 rfl ?_) (E := fun _ _ => False) fun _ _ hh => hh
 refine zAc (zAb fun Q1 hQ => ?_)
 simp (disch := omega) only [EL, ↓K3, ↓K1, reduceIte, Nat.reduceEqDiff, Nat.reduceAdd, Nat.reduceLeDiff, i0]
 refine hQ _ ?_
 clear hQ Q1
 refine zAc (zAb fun Q1 hQ => ?_)
 by_cases a1 : c.toNat = 10
 ·have e : notNl c = false := by simp [notNl, a1]
  simp (disch := omega) only [EL, ↓K3, ↓K1, reduceIte, Nat.reduceEqDiff, Nat.reduceAdd, Nat.reduceLeDiff, i0, a1]
  refine hQ _ ?_
  simp only [zAa]
  refine zAj ?_
  simp (disch := omega) only [EL, ↓K3, ↓K1, reduceIte, Nat.reduceEqDiff, Nat.reduceAdd, Nat.reduceLeDiff, e]
 ·have e : notNl c = true := by simp [notNl, a1]
  simp (disch := omega) only [EL, ↓K3, ↓K1, reduceIte, Nat.reduceEqDiff, Nat.reduceAdd, Nat.reduceLeDiff, i0, a1]
  refine hQ _ ?_
  simp only [zAa]
  refine zAj ?_
  simp (disch := omega) only [EL, ↓K3, ↓K1, reduceIte, Nat.reduceEqDiff, Nat.reduceAdd, Nat.reduceLeDiff, e]
include H in
theorem zL2 {c : UInt8} : GP tab 67 [byteV c] h fun v h1 => v = .bool (zBf c) ∧ h1 = h := by
 have i0 : zAh [byteV c] = zAd [byteV c] := rfl
 refine GE.gp (ge_of H.t67 rfl ?_) (E := fun _ _ => False) fun _ _ hh => hh
 refine zAc (zAb fun Q1 hQ => ?_)
 simp (disch := omega) only [EL, ↓K3, ↓K1, reduceIte, Nat.reduceEqDiff, Nat.reduceAdd, Nat.reduceLeDiff, i0]
 refine hQ _ ?_
 clear hQ Q1
 refine zAc (zAb fun Q1 hQ => ?_)
 by_cases a1 : 48 ≤ c.toNat
 ·by_cases a2 : c.toNat ≤ 57
  ·have e : zBf c = true := by simp [zBf, a1, a2]
   simp (disch := omega) only [EL, ↓K3, ↓K1, reduceIte, Nat.reduceEqDiff, Nat.reduceAdd, Nat.reduceLeDiff, i0, a1, a2]
   refine hQ _ ?_
   simp only [zAa]
   refine zAj ?_
   simp (disch := omega) only [EL, ↓K3, ↓K1, reduceIte, Nat.reduceEqDiff, Nat.reduceAdd, Nat.reduceLeDiff, e]
  ·have e : zBf c = false := by simp [zBf, a2]
   simp (disch := omega) only [EL, ↓K3, ↓K1, reduceIte, Nat.reduceEqDiff, Nat.reduceAdd, Nat.reduceLeDiff, i0, a1, a2]
   refine hQ _ ?_
   simp only [zAa]
   refine zAj ?_
   simp (disch := omega) only [EL, ↓K3, ↓K1, reduceIte, Nat.reduceEqDiff, Nat.reduceAdd, Nat.reduceLeDiff, e]
 ·have e : zBf c = false := by simp [zBf, a1]
  simp (disch := omega) only [EL, ↓K3, ↓K1, reduceIte, Nat.reduceEqDiff, Nat.reduceAdd, Nat.reduceLeDiff, i0, a1]
  refine hQ _ ?_
  simp only [zAa]
  refine zAj ?_
  simp (disch := omega) only [EL, ↓K3, ↓K1, reduceIte, Nat.reduceEqDiff, Nat.reduceAdd, Nat.reduceLeDiff, e]
include H in
theorem zHq {c : UInt8} : GP tab 65 [byteV c] h fun v h1 => v = .bool (zCl c) ∧ h1 = h := by
 have i0 : zAh [byteV c] = zAd [byteV c] := rfl
 refine GE.gp (ge_of H.t65 rfl ?_) (E := fun _ _ => False) fun _ _ hh => hh
 refine zAc (zAb fun Q1 hQ => ?_)
 simp (disch := omega) only [EL, ↓K3, ↓K1, reduceIte, Nat.reduceEqDiff, Nat.reduceAdd, Nat.reduceLeDiff, i0]
 refine hQ _ ?_
 clear hQ Q1
 refine zAc (zAb fun Q1 hQ => ?_)
 by_cases a1 : 97 ≤ c.toNat
 ·by_cases a2 : c.toNat ≤ 122
  ·have e : zCl c = true := by simp [zCl, a1, a2]
   simp (disch := omega) only [EL, ↓K3, ↓K1, reduceIte, Nat.reduceEqDiff, Nat.reduceAdd, Nat.reduceLeDiff, i0, a1, a2]
   refine hQ _ ?_
   simp only [zAa]
   refine zAj ?_
   simp (disch := omega) only [EL, ↓K3, ↓K1, reduceIte, Nat.reduceEqDiff, Nat.reduceAdd, Nat.reduceLeDiff, e]
  ·have e : zCl c = false := by simp [zCl, a2]; omega
   have a3 : 65 ≤ c.toNat := by omega
   have a4 : ¬ c.toNat ≤ 90 := by omega
   have a5 : ¬ c.toNat = 95 := by omega
   simp (disch := omega) only [EL, ↓K3, ↓K1, reduceIte, Nat.reduceEqDiff, Nat.reduceAdd, Nat.reduceLeDiff, i0, a1, a2, a3, a4, a5]
   refine hQ _ ?_
   simp only [zAa]
   refine zAj ?_
   simp (disch := omega) only [EL, ↓K3, ↓K1, reduceIte, Nat.reduceEqDiff, Nat.reduceAdd, Nat.reduceLeDiff, e]
 by_cases a3 : 65 ≤ c.toNat
 ·by_cases a4 : c.toNat ≤ 90
  ·have e : zCl c = true := by simp [zCl, a3, a4]
   simp (disch := omega) only [EL, ↓K3, ↓K1, reduceIte, Nat.reduceEqDiff, Nat.reduceAdd, Nat.reduceLeDiff, i0, a1, a3, a4]
   refine hQ _ ?_
   simp only [zAa]
   refine zAj ?_
   simp (disch := omega) only [EL, ↓K3, ↓K1, reduceIte, Nat.reduceEqDiff, Nat.reduceAdd, Nat.reduceLeDiff, e]
  by_cases a5 : c.toNat = 95
  ·have e : zCl c = true := by simp [zCl, a5]
   simp (disch := omega) only [EL, ↓K3, ↓K1, reduceIte, Nat.reduceEqDiff, Nat.reduceAdd, Nat.reduceLeDiff, i0, a1, a3, a4, a5]
   refine hQ _ ?_
   simp only [zAa]
   refine zAj ?_
   simp (disch := omega) only [EL, ↓K3, ↓K1, reduceIte, Nat.reduceEqDiff, Nat.reduceAdd, Nat.reduceLeDiff, e]
  ·have e : zCl c = false := by simp [zCl, a1, a4, a5]
   simp (disch := omega) only [EL, ↓K3, ↓K1, reduceIte, Nat.reduceEqDiff, Nat.reduceAdd, Nat.reduceLeDiff, i0, a1, a3, a4, a5]
   refine hQ _ ?_
   simp only [zAa]
   refine zAj ?_
   simp (disch := omega) only [EL, ↓K3, ↓K1, reduceIte, Nat.reduceEqDiff, Nat.reduceAdd, Nat.reduceLeDiff, e]
 ·have a5 : ¬ c.toNat = 95 := by omega
  have e : zCl c = false := by simp [zCl, a1, a3, a5]
  simp (disch := omega) only [EL, ↓K3, ↓K1, reduceIte, Nat.reduceEqDiff, Nat.reduceAdd, Nat.reduceLeDiff, i0, a1, a3, a5]
  refine hQ _ ?_
  simp only [zAa]
  refine zAj ?_
  simp (disch := omega) only [EL, ↓K3, ↓K1, reduceIte, Nat.reduceEqDiff, Nat.reduceAdd, Nat.reduceLeDiff, e]
include H in
theorem word1_gp {c : UInt8} : GP tab 90 [byteV c] h fun v h1 => v = .bool (zDq c) ∧ h1 = h := by
 have i0 : zAh [byteV c] = zAd [byteV c] := rfl
 refine GE.gp (ge_of H.t90 rfl ?_) (E := fun _ _ => False) fun _ _ hh => hh
 refine zAc (zAb fun Q1 hQ => ?_)
 simp (disch := omega) only [EL, ↓K3, ↓K1, reduceIte, Nat.reduceEqDiff, Nat.reduceAdd, Nat.reduceLeDiff, i0]
 refine hQ _ ?_
 clear hQ Q1
 refine zAc (zAb fun Q1 hQ => ?_)
 simp (disch := omega) only [EL, ↓K3, ↓K1, reduceIte, Nat.reduceEqDiff, Nat.reduceAdd, Nat.reduceLeDiff, i0]
 rw [ge_rw (zHq H)]
 cases a1 : zCl c with
 | true =>
  have e : zDq c = true := by simp [zDq, a1]
  simp (disch := omega) only [EL, ↓K3, ↓K1, reduceIte, Nat.reduceEqDiff, Nat.reduceAdd, Nat.reduceLeDiff, i0, a1]
  refine hQ _ ?_
  simp only [zAa]
  refine zAj ?_
  simp (disch := omega) only [EL, ↓K3, ↓K1, reduceIte, Nat.reduceEqDiff, Nat.reduceAdd, Nat.reduceLeDiff, e]
 | false =>
  simp (disch := omega) only [EL, ↓K3, ↓K1, reduceIte, Nat.reduceEqDiff, Nat.reduceAdd, Nat.reduceLeDiff, i0]
  rw [ge_rw (zL2 H)]
  have e : zDq c = zBf c := by simp [zDq, a1]
  simp (disch := omega) only [EL, ↓K3, ↓K1, reduceIte, Nat.reduceEqDiff, Nat.reduceAdd, Nat.reduceLeDiff, i0, a1]
  refine hQ _ ?_
  simp only [zAa]
  refine zAj ?_
  simp (disch := omega) only [EL, ↓K3, ↓K1, reduceIte, Nat.reduceEqDiff, Nat.reduceAdd, Nat.reduceLeDiff, e]
end
end Go.Ev
namespace Go.Ev
open Go Go.Pa
theorem zKd {p : UInt8 → Bool} : ∀ {s : Str} {k : Nat}, (∀ i, i < k → ∃ c, s[i]? = some c ∧ p c = true) → (∀ c, s[k]? = some c → p c = false) → aheadN p s = k
 | [], 0, _, _ => rfl
 | [], k + 1, h, _ => by obtain ⟨c, hc, _⟩ := h 0 (by omega); cases hc
 | c :: s, 0, _, h => by unfold aheadN; rw [List.takeWhile_cons, h c rfl]; rfl
 | c :: s, k + 1, h, h' => by
  obtain ⟨c', hc, hp⟩ := h 0 (by omega)
  injection hc with hc; subst hc
  unfold aheadN
  rw [List.takeWhile_cons, if_pos hp, List.length_cons]
  congr 1
  exact zKd (fun i hi => h (i + 1) (by omega)) h'
section
variable {tab : Nat → Option AFunc} {h : AH} (H : PT tab)
include H in
theorem run_gp {f : Nat} {p : UInt8 → Bool} {s : Str} (hs : s.length ≤ 1000000) (hp : ∀ c, GP tab f [byteV c] h fun v h1 => v = .bool (p c) ∧ h1 = h) : GP tab 61 [sv s, .fn f [] []] h fun v h1 => v = .int .i64 (aheadN p s : Int) ∧ h1 = h := by
 have i0 : zAh [sv s, .fn f [] []] = zAd [sv s, .fn f [] []] := rfl
 refine GE.gp (ge_of H.t61 rfl ?_) (E := fun _ _ => False) fun _ _ hh => hh
 refine zAc (zAb fun Q1 hQ => ?_)
 simp (disch := omega) only [EL, ↓K3, ↓K1, reduceIte, Nat.reduceEqDiff, Nat.reduceAdd, Nat.reduceLeDiff, i0]
 refine hQ _ ?_
 clear hQ Q1
 refine zAc (zAb fun Q1 hQ => ?_)
 simp (disch := omega) only [EL, ↓K3, ↓K1, reduceIte, Nat.reduceEqDiff, Nat.reduceAdd, Nat.reduceLeDiff, i0]
 refine hQ _ ?_
 clear hQ Q1
 refine zFz (fun l d1 h1 => d1 = [] ∧ h1 = h ∧ l.get 2 = some (.int .i64 (aheadN p s : Int))) ?_ ?_
 ·refine zAy ?_
  refine zCg (fun m l d1 h1 => ∃ k, m = s.length - k ∧ k ≤ s.length ∧ d1 = [] ∧ h1 = h ∧ l.get 0 = some (sv s) ∧ l.get 1 = some (.fn f [] []) ∧ l.get 2 = some (.int .i64 (k : Int)) ∧ ∀ i, i < k → ∃ c, s[i]? = some c ∧ p c = true) ?_ (s.length - 0) ?_
  ·rintro m l d1 h1 ⟨k, rfl, hk, rfl, rfl, l0, l1, l2, hall⟩
   refine zAc ?_
   refine zAc (zAb fun Q1 hQ => ?_)
   by_cases hlt : k < s.length
   ·have ix : ∀ h' : AH, oIdxS (.c (sv s)) (.c (.int .i64 (k : Int))) .leaf [] h' = .val (byteV s[k]) h' := fun h' => idx_sv (List.getElem?_eq_getElem hlt)
    simp (disch := omega) only [EL, ↓K3, ↓K1, reduceIte, Nat.reduceEqDiff, Nat.reduceAdd, Nat.reduceLeDiff, l0, l1, l2, hlt, ix]
    rw [ge_rw (hp s[k])]
    cases hpk : p s[k] with
    | true =>
     simp (disch := omega) only [EL, ↓K3, ↓K1, reduceIte, Nat.reduceEqDiff, Nat.reduceAdd, Nat.reduceLeDiff]
     refine hQ _ ?_
     simp only [zAa]
     refine zAt (by simp +decide only [EL, reduceIte]) ?_
     refine zAm ?_
     simp only [zAa]
     refine zAy ?_
     refine zAb fun Q1 hQ => ?_
     simp (disch := omega) only [EL, ↓K3, ↓K1, reduceIte, Nat.reduceEqDiff, Nat.reduceAdd, Nat.reduceLeDiff, l2]
     refine hQ _ ?_
     clear hQ Q1
     simp only [zAa, zAi]
     refine ⟨s.length - (k + 1), by omega, k + 1, rfl, hlt, trivial, trivial, by simp +decide only [EL, reduceIte, l0], by simp +decide only [EL, reduceIte, l1], by simp +decide only [EL, reduceIte], fun i hi => ?_⟩
     by_cases e : i = k
     ·subst e; exact ⟨_, List.getElem?_eq_getElem hlt, hpk⟩
     ·exact hall i (by omega)
    | false =>
     simp (disch := omega) only [EL, ↓K3, ↓K1, reduceIte, Nat.reduceEqDiff, Nat.reduceAdd, Nat.reduceLeDiff]
     refine hQ _ ?_
     simp only [zAa]
     refine wc_no (by simp +decide only [EL, reduceIte]) ?_
     refine zDe ?_
     simp only [zBg, zBd, if_true, zAa]
     refine ⟨trivial, trivial, ?_⟩
     simp (disch := omega) only [EL, ↓K3, ↓K1, reduceIte, Nat.reduceEqDiff, Nat.reduceAdd, Nat.reduceLeDiff, l2]
     rw [zKd hall fun c hc => by rw [List.getElem?_eq_getElem hlt] at hc; injection hc with hc; subst hc; exact hpk]
   ·simp (disch := omega) only [EL, ↓K3, ↓K1, reduceIte, Nat.reduceEqDiff, Nat.reduceAdd, Nat.reduceLeDiff, l0, l1, l2, hlt]
    refine hQ _ ?_
    simp only [zAa]
    refine wc_no (by simp +decide only [EL, reduceIte]) ?_
    refine zDe ?_
    simp only [zBg, zBd, if_true, zAa]
    refine ⟨trivial, trivial, ?_⟩
    simp (disch := omega) only [EL, ↓K3, ↓K1, reduceIte, Nat.reduceEqDiff, Nat.reduceAdd, Nat.reduceLeDiff, l2]
    rw [zKd hall fun c hc => by rw [List.getElem?_eq_none (by omega)] at hc; cases hc]
  ·exact ⟨0, rfl, Nat.zero_le _, rfl, rfl, by simp +decide only [EL, reduceIte, i0], by simp +decide only [EL, reduceIte, i0], by simp +decide only [EL, reduceIte, i0], fun i hi => by omega⟩
 ·rintro l d1 h1 ⟨rfl, rfl, l2⟩
  refine zAc (zAb fun Q1 hQ => ?_)
  simp (disch := omega) only [EL, ↓K3, ↓K1, reduceIte, Nat.reduceEqDiff, Nat.reduceAdd, Nat.reduceLeDiff, l2]
  refine hQ _ ?_
  clear hQ Q1
  refine zAj ?_
  simp (disch := omega) only [EL, ↓K3, ↓K1, reduceIte, Nat.reduceEqDiff, Nat.reduceAdd, Nat.reduceLeDiff]
end
end Go.Ev
namespace Go.Ev
open Go Go.Pa
section
variable {tab : Nat → Option AFunc} {h : AH} (H : PT tab)
include H in
theorem prefix_gp {a b : Str} : GP tab 63 [sv a, sv b] h fun v h1 => v = .bool (decide (b.isPrefixOf a = true)) ∧ h1 = h := by
 have i0 : zAh [sv a, sv b] = zAd [sv a, sv b] := rfl
 refine GE.gp (ge_of H.t63 rfl ?_) (E := fun _ _ => False) fun _ _ hh => hh
 refine zAc (zAb fun Q1 hQ => ?_)
 simp (disch := omega) only [EL, ↓K3, ↓K1, reduceIte, Nat.reduceEqDiff, Nat.reduceAdd, Nat.reduceLeDiff, i0]
 refine hQ _ ?_
 clear hQ Q1
 refine zAc (zAb fun Q1 hQ => ?_)
 simp (disch := omega) only [EL, ↓K3, ↓K1, reduceIte, Nat.reduceEqDiff, Nat.reduceAdd, Nat.reduceLeDiff, i0]
 rw [ge_rw (zIo H)]
 simp (disch := omega) only [EL, ↓K3, ↓K1, reduceIte, Nat.reduceEqDiff, Nat.reduceAdd, Nat.reduceLeDiff, i0]
 refine hQ _ ?_
 simp only [zAa]
 refine zAj ?_
 simp (disch := omega) only [EL, ↓K3, ↓K1, reduceIte, Nat.reduceEqDiff, Nat.reduceAdd, Nat.reduceLeDiff]
include H in
theorem skip_gp {s : Str} (hs : s.length ≤ 1000000) : GP tab 37 [sv s] h fun v h1 => v = .int .i64 (skipS s : Int) ∧ h1 = h := by
 have i0 : zAh [sv s] = zAd [sv s] := rfl
 refine GE.gp (ge_of H.t37 rfl ?_) (E := fun _ _ => False) fun _ _ hh => hh
 refine zAc (zAb fun Q1 hQ => ?_)
 simp (disch := omega) only [EL, ↓K3, ↓K1, reduceIte, Nat.reduceEqDiff, Nat.reduceAdd, Nat.reduceLeDiff, i0]
 refine hQ _ ?_
 clear hQ Q1
 refine zAc (zAb fun Q1 hQ => ?_)
 simp (disch := omega) only [EL, ↓K3, ↓K1, reduceIte, Nat.reduceEqDiff, Nat.reduceAdd, Nat.reduceLeDiff, i0]
 refine hQ _ ?_
 clear hQ Q1
 refine zAy ?_
 refine zCg (fun k l d1 h1 => ∃ n, n ≤ s.length ∧ s.length - n < k ∧ n + skipL k (s.drop n) = skipS s ∧ d1 = [] ∧ h1 = h ∧ l.get 0 = some (sv s) ∧ l.get 1 = some (.int .i64 (n : Int))) ?_ (s.length + 1) ?_
 ·rintro k l d1 h1 ⟨n, hn, hk, he, rfl, rfl, l0, l1⟩
  cases k with
  | zero => omega
  | succ k =>
   refine zAy ?_
   have a1 := zB7 (p := zAl) (s := s.drop n)
   rw [List.length_drop] at a1
   have sl : ∀ h' : AH, zDi (.c (sv s)) (some (.c (.int .i64 (n : Int)))) none .leaf [] h' = .val (sv (s.drop n)) h' := fun h' => zHi hn
   refine zAc (zAb fun Q1 hQ => ?_)
   simp (disch := omega) only [EL, ↓K3, ↓K1, reduceIte, Nat.reduceEqDiff, Nat.reduceAdd, Nat.reduceLeDiff, l0, l1, sl]
   rw [ge_rw (run_gp H (by rw [List.length_drop]; omega) fun c => blank_gp H)]
   have w1 : IntKind.i64.wrap ((n : Int) + (aheadN zAl (s.drop n) : Int)) = ((n + aheadN zAl (s.drop n) : Nat) : Int) := by rw [zIt (by omega) (by omega)]; omega
   simp (disch := omega) only [EL, ↓K3, ↓K1, reduceIte, Nat.reduceEqDiff, Nat.reduceAdd, Nat.reduceLeDiff, l0, l1, w1]
   refine hQ _ ?_
   clear hQ Q1
   simp only [zAa]
   unfold skipL at he
   have sl2 : ∀ h' : AH, zDi (.c (sv s)) (some (.c (.int .i64 ((n + aheadN zAl (s.drop n) : Nat) : Int)))) none .leaf [] h' = .val (sv ((s.drop n).drop (aheadN zAl (s.drop n)))) h' := fun h' => by rw [zHi (by omega), List.drop_drop]
   obtain ⟨a, ha⟩ : ∃ a, a = aheadN zAl (s.drop n) := ⟨_, rfl⟩
   rw [← ha] at sl2 he a1 ⊢
   clear ha w1
   refine zAc ?_
   refine zAc (zAb fun Q1 hQ => ?_)
   simp (disch := omega) only [EL, ↓K3, ↓K1, reduceIte, Nat.reduceEqDiff, Nat.reduceAdd, Nat.reduceLeDiff, l0, l1, sl2]
   rw [ge_rw (prefix_gp H)]
   by_cases hp : ([47, 47] : Str).isPrefixOf ((s.drop n).drop a) = true
   ·rw [if_pos hp] at he
    simp (disch := omega) only [EL, ↓K3, ↓K1, reduceIte, Nat.reduceEqDiff, Nat.reduceAdd, Nat.reduceLeDiff, hp]
    refine hQ _ ?_
    clear hQ Q1
    simp only [zAa]
    refine wc_no (by simp +decide only [EL, reduceIte]) ?_
    refine zAm ?_
    simp only [zAa]
    refine zAb fun Q1 hQ => ?_
    simp (disch := omega) only [EL, ↓K3, ↓K1, reduceIte, Nat.reduceEqDiff, Nat.reduceAdd, Nat.reduceLeDiff, l0, l1, sl2]
    rw [ge_rw (run_gp H (by simp only [List.length_drop]; omega) fun c => skip1_gp H)]
    have b1 := zB7 (p := notNl) (s := (s.drop n).drop a)
    have b2 : 1 ≤ aheadN notNl ((s.drop n).drop a) := by
     cases hd : (s.drop n).drop a with
     | nil => rw [hd] at hp; cases hp
     | cons c r =>
      rw [hd] at hp
      simp only [List.isPrefixOf, Bool.and_eq_true, beq_iff_eq] at hp
      obtain ⟨rfl, _⟩ := hp
      exact zCw (by decide)
    simp only [List.length_drop] at b1
    have w2 : IntKind.i64.wrap (((n + a : Nat) : Int) + (aheadN notNl ((s.drop n).drop a) : Int)) = ((n + a + aheadN notNl ((s.drop n).drop a) : Nat) : Int) := by rw [zIt (by omega) (by omega)]; omega
    simp (disch := omega) only [EL, ↓K3, ↓K1, reduceIte, Nat.reduceEqDiff, Nat.reduceAdd, Nat.reduceLeDiff, l0, l1, w2]
    refine hQ _ ?_
    clear hQ Q1
    simp only [zAa, zAi]
    refine ⟨k, by omega, n + a + aheadN notNl ((s.drop n).drop a), ?_, ?_, ?_, trivial, trivial, by simp +decide only [EL, reduceIte, l0], by simp +decide only [EL, reduceIte]⟩
    ·omega
    ·omega
    ·rw [← he]
     have : s.drop (n + a + aheadN notNl ((s.drop n).drop a)) = ((s.drop n).drop a).drop (aheadN notNl ((s.drop n).drop a)) := by simp only [List.drop_drop]
     rw [this]
     omega
   ·rw [if_neg hp] at he
    simp (disch := omega) only [EL, ↓K3, ↓K1, reduceIte, Nat.reduceEqDiff, Nat.reduceAdd, Nat.reduceLeDiff, hp]
    refine hQ _ ?_
    clear hQ Q1
    simp only [zAa]
    refine zAt (by simp +decide only [EL, reduceIte]) ?_
    refine zAc (zAb fun Q1 hQ => ?_)
    simp (disch := omega) only [EL, ↓K3, ↓K1, reduceIte, Nat.reduceEqDiff, Nat.reduceAdd, Nat.reduceLeDiff, l1]
    refine hQ _ ?_
    clear hQ Q1
    refine zAj ?_
    try simp only [zAg, zAf]
    rw [he]
    simp (disch := omega) only [EL, ↓K3, ↓K1, reduceIte, Nat.reduceEqDiff, Nat.reduceAdd, Nat.reduceLeDiff]
 ·exact ⟨0, by omega, by omega, by simp [skipS], rfl, rfl, by simp +decide only [EL, reduceIte, i0], by simp +decide only [EL, reduceIte, i0]⟩
end
end Go.Ev
namespace Go.Ev
open Go Go.Pa
theorem zH3 {p : UInt8 → Bool} : ∀ {s : Str}, s.take (aheadN p s) = s.takeWhile p
 | [] => rfl
 | c :: s => by
  unfold aheadN
  rw [List.takeWhile_cons]
  split
  ·rw [List.length_cons, List.take_succ_cons]; congr 1; exact zH3
  ·rfl
section
variable {tab : Nat → Option AFunc} {h : AH} (H : PT tab)
include H in
theorem keys_gp : GP tab 115 [] h fun v h1 => v = .sl h.next 0 16 (.known 16) ∧ More h h1 ∧ ∃ c, h1.mem.get h.next = some (.cells c 16 none false) ∧ ∀ i (hi : i < lexKeys.length), c.get i = some (sv lexKeys[i]) := by
 have i0 : zAh [] = zAd [] := rfl
 refine GE.gp (ge_of H.t115 rfl ?_) (E := fun _ _ => False) fun _ _ => id
 refine zAc (zAb fun Q1 hQ => ?_)
 simp (disch := omega) only [EL, ↓K3, ↓K1, reduceIte, Nat.reduceEqDiff, Nat.reduceAdd, Nat.reduceLeDiff, i0]
 refine hQ _ ?_
 clear hQ Q1
 refine zAc (zAb fun Q1 hQ => ?_)
 simp (disch := omega) only [EL, ↓K3, ↓K1, reduceIte, Nat.reduceEqDiff, Nat.reduceAdd, Nat.reduceLeDiff, i0]
 refine hQ _ ?_
 clear hQ Q1
 refine zAj ?_
 try simp only [zAg, zAf]
 simp (disch := omega) only [EL, ↓K3, ↓K1, reduceIte, Nat.reduceEqDiff, Nat.reduceAdd, Nat.reduceLeDiff]
 refine ⟨More.add _ _, _, rfl, ?_⟩
 intro i hi
 rw [zAk]
 have e : ([sv [116, 121, 112, 101], sv [115, 116, 114, 117, 99, 116], sv [102, 117, 110, 99], sv [118, 97, 114], sv [105, 102], sv [101, 108, 115, 101], sv [102, 111, 114], sv [114, 101, 116, 117, 114, 110], sv [112, 114, 105, 110, 116], sv [110, 101, 119], sv [110, 105, 108], sv [116, 114, 117, 101], sv [102, 97, 108, 115, 101], sv [105, 110, 116], sv [98, 111, 111, 108], sv [114, 101, 97, 100]] : List AV) = lexKeys.map sv := rfl
 rw [e, List.getElem?_map, List.getElem?_eq_getElem hi]; rfl
include H in
theorem lsigns_gp : GP tab 94 [] h fun v h1 => v = .sl h.next 0 28 (.known 28) ∧ More h h1 ∧ ∃ c, h1.mem.get h.next = some (.cells c 28 none false) ∧ ∀ i (hi : i < lexSigns.length), c.get i = some (sv lexSigns[i]) := by
 have i0 : zAh [] = zAd [] := rfl
 refine GE.gp (ge_of H.t94 rfl ?_) (E := fun _ _ => False) fun _ _ => id
 refine zAc (zAb fun Q1 hQ => ?_)
 simp (disch := omega) only [EL, ↓K3, ↓K1, reduceIte, Nat.reduceEqDiff, Nat.reduceAdd, Nat.reduceLeDiff, i0]
 refine hQ _ ?_
 clear hQ Q1
 refine zAc (zAb fun Q1 hQ => ?_)
 simp (disch := omega) only [EL, ↓K3, ↓K1, reduceIte, Nat.reduceEqDiff, Nat.reduceAdd, Nat.reduceLeDiff, i0]
 refine hQ _ ?_
 clear hQ Q1
 refine zAj ?_
 try simp only [zAg, zAf]
 simp (disch := omega) only [EL, ↓K3, ↓K1, reduceIte, Nat.reduceEqDiff, Nat.reduceAdd, Nat.reduceLeDiff]
 refine ⟨More.add _ _, _, rfl, ?_⟩
 intro i hi
 rw [zAk]
 have e : ([sv [60, 60], sv [62, 62], sv [61, 61], sv [33, 61], sv [60, 61], sv [62, 61], sv [38, 38], sv [124, 124], sv [58, 61], sv [43], sv [45], sv [42], sv [47], sv [37], sv [38], sv [124], sv [94], sv [60], sv [62], sv [33], sv [61], sv [46], sv [44], sv [59], sv [40], sv [41], sv [123], sv [125]] : List AV) = lexSigns.map sv := rfl
 rw [e, List.getElem?_map, List.getElem?_eq_getElem hi]; rfl
include H in
theorem contains_gp {v : AV} {xs : List Str} {s : Str} (a : StrA h v xs) (hl : xs.length < 1000) : GP tab 114 [v, sv s] h fun w h1 => w = .bool (decide (s ∈ xs)) ∧ h1 = h := by
 have i0 : zAh [v, sv s] = zAd [v, sv s] := rfl
 have mv : ∀ h', oMove (.c v) .leaf [] h' = .val v h' := by
  obtain ⟨_, _, _, _, _, _, _, rfl, _⟩ := a
  intro h'; rfl
 refine GE.gp (ge_of H.t114 rfl ?_) (E := fun _ _ => False) fun _ _ => id
 refine zAc (zAb fun Q1 hQ => ?_)
 simp (disch := omega) only [EL, ↓K3, ↓K1, reduceIte, Nat.reduceEqDiff, Nat.reduceAdd, Nat.reduceLeDiff, i0]
 refine hQ _ ?_
 clear hQ Q1
 refine zAc (zAb fun Q1 hQ => ?_)
 simp (disch := omega) only [EL, ↓K3, ↓K1, reduceIte, Nat.reduceEqDiff, Nat.reduceAdd, Nat.reduceLeDiff, i0, mv]
 rw [ge_rw (zLv H a hl)]
 have hx : ((0 : Nat) : Int) ≤ zGh xs s ↔ s ∈ xs := by
  unfold zGh
  split
  ·rename_i hm; exact ⟨fun _ => hm, fun _ => by omega⟩
  ·rename_i hm; exact ⟨fun e => by omega, fun e => absurd e hm⟩
 by_cases hm : s ∈ xs
 ·have h1 := hx.mpr hm
  simp (disch := omega) only [EL, ↓K3, ↓K1, reduceIte, Nat.reduceEqDiff, Nat.reduceAdd, Nat.reduceLeDiff, i0, h1]
  refine hQ _ ?_
  simp only [zAa]
  refine zAj ?_
  simp (disch := omega) only [EL, ↓K3, ↓K1, reduceIte, Nat.reduceEqDiff, Nat.reduceAdd, Nat.reduceLeDiff, hm]
 ·have h1 : ¬ ((0 : Nat) : Int) ≤ zGh xs s := fun e => hm (hx.mp e)
  simp (disch := omega) only [EL, ↓K3, ↓K1, reduceIte, Nat.reduceEqDiff, Nat.reduceAdd, Nat.reduceLeDiff, i0, h1]
  refine hQ _ ?_
  simp only [zAa]
  refine zAj ?_
  simp (disch := omega) only [EL, ↓K3, ↓K1, reduceIte, Nat.reduceEqDiff, Nat.reduceAdd, Nat.reduceLeDiff, hm]
include H in
theorem isKey_gp {s : Str} : GP tab 91 [sv s] h fun v h1 => v = .bool (decide (s ∈ lexKeys)) ∧ More h h1 := by
 have i0 : zAh [sv s] = zAd [sv s] := rfl
 refine GE.gp (ge_of H.t91 rfl ?_) (E := fun _ _ => False) fun _ _ => id
 refine zAc (zAb fun Q1 hQ => ?_)
 simp (disch := omega) only [EL, ↓K3, ↓K1, reduceIte, Nat.reduceEqDiff, Nat.reduceAdd, Nat.reduceLeDiff, i0]
 refine hQ _ ?_
 clear hQ Q1
 refine zAc (zAb fun Q1 hQ => ?_)
 simp (disch := omega) only [EL, ↓K3, ↓K1, reduceIte, Nat.reduceEqDiff, Nat.reduceAdd, Nat.reduceLeDiff, i0]
 refine (keys_gp H).to fun v h1 q => ?_
 obtain ⟨rfl, m1, c, gc, ga⟩ := q
 simp (disch := omega) only [EL, ↓K3, ↓K1, reduceIte, Nat.reduceEqDiff, Nat.reduceAdd, Nat.reduceLeDiff, i0]
 have g : GP tab 114 [.sl h.next 0 16 (.known 16), sv s] h1 (fun w h2 => w = .bool (decide (s ∈ lexKeys)) ∧ h2 = h1) := contains_gp H (xs := lexKeys) ⟨_, 0, _, _, _, _, c, rfl, gc, fun i hi => by rw [Nat.zero_add]; exact ga i hi⟩ (by decide)
 rw [ge_rw g]
 simp (disch := omega) only [EL, ↓K3, ↓K1, reduceIte, Nat.reduceEqDiff, Nat.reduceAdd, Nat.reduceLeDiff, i0]
 refine hQ _ ?_
 simp only [zAa]
 refine zAj ?_
 simp (disch := omega) only [EL, ↓K3, ↓K1, reduceIte, Nat.reduceEqDiff, Nat.reduceAdd, Nat.reduceLeDiff]
 exact m1
include H in
theorem word_lex {s : Str} (hs : s.length ≤ 1000000) : GP tab 66 [sv s] h fun v h1 => v = .tup [.agg [.int .i64 ((wordT s).1 : Int), sv (wordT s).2.1, .int .i64 ((0 : Nat) : Int)], .int .i64 ((wordT s).2.2 : Int)] ∧ More h h1 := by
 have i0 : zAh [sv s] = zAd [sv s] := rfl
 refine GE.gp (ge_of H.t66 rfl ?_) (E := fun _ _ => False) fun _ _ => id
 refine zAc (zAb fun Q1 hQ => ?_)
 simp (disch := omega) only [EL, ↓K3, ↓K1, reduceIte, Nat.reduceEqDiff, Nat.reduceAdd, Nat.reduceLeDiff, i0]
 refine hQ _ ?_
 clear hQ Q1
 have m1 : More h (h.add (.cells (zAd [.int .i64 ((0 : Nat) : Int), sv [], .int .i64 ((0 : Nat) : Int)]) 3 none false)) := More.add _ _
 have g1 : (h.add (.cells (zAd [.int .i64 ((0 : Nat) : Int), sv [], .int .i64 ((0 : Nat) : Int)]) 3 none false)).mem.get h.next = some (.cells (zAd [.int .i64 ((0 : Nat) : Int), sv [], .int .i64 ((0 : Nat) : Int)]) 3 none false) := by rw [AH.add_mem, T.get_put_self]
 have n1 : (h.add (.cells (zAd [.int .i64 ((0 : Nat) : Int), sv [], .int .i64 ((0 : Nat) : Int)]) 3 none false)).next = h.next + 1 := rfl
 generalize h.add (.cells (zAd [.int .i64 ((0 : Nat) : Int), sv [], .int .i64 ((0 : Nat) : Int)]) 3 none false) = h1 at *
 simp only [zAa]
 have sl : ∀ h' : AH, zDi (.c (sv s)) none (some (.c (.int .i64 (aheadN zDq s : Int)))) .leaf [] h' = .val (sv (s.takeWhile zDq)) h' := fun h' => by rw [zI9 zB7, zH3]
 refine zAc (zAb fun Q1 hQ => ?_)
 simp (disch := omega) only [EL, ↓K3, ↓K1, reduceIte, Nat.reduceEqDiff, Nat.reduceAdd, Nat.reduceLeDiff, i0]
 rw [ge_rw (run_gp H hs fun c => word1_gp H)]
 simp (disch := omega) only [EL, ↓K3, ↓K1, reduceIte, Nat.reduceEqDiff, Nat.reduceAdd, Nat.reduceLeDiff, sl]
 refine hQ _ ?_
 clear hQ Q1
 refine zDs fun h2 n2 g2 m2 => ?_
 obtain ⟨ct, gt, k0, k1, k2⟩ := g2
 simp only [zAa]
 have g12 := (m2.keep h.next (by omega)).trans g1
 have m02 := m1.trans m2
 obtain ⟨w, hw⟩ : ∃ w, w = s.takeWhile zDq := ⟨_, rfl⟩
 rw [← hw] at k1
 have hwl : w.length ≤ s.length := by rw [hw]; exact zDf
 have hT : wordT s = (if w ∈ lexKeys then 2 else 1, w, if 12 < w.length then 4 else 0) := by rw [hw]; rfl
 rw [hT]
 clear hT
 refine zFz (fun l d1 h3 => d1 = [] ∧ l.get 1 = some (.ptr h1.next 0) ∧ l.get 4 = some (.ptr h.next 0) ∧ l.get 5 = some (.int .i64 ((0 : Nat) : Int)) ∧ More h h3 ∧ h2.next ≤ h3.next ∧ h3.mem.get h.next = some (.cells (zAd [.int .i64 ((0 : Nat) : Int), sv [], .int .i64 ((0 : Nat) : Int)]) 3 none false) ∧
  ∃ c, h3.mem.get h1.next = some (.cells c 3 none false) ∧ c.get 0 = some (.int .i64 ((if w ∈ lexKeys then 2 else 1 : Nat) : Int)) ∧ c.get 1 = some (sv w) ∧ c.get 2 = some (.int .i64 ((0 : Nat) : Int))) ?_ ?_
 ·refine zAc (zAb fun Q1 hQ => ?_)
  simp (disch := omega) only [EL, ↓K3, ↓K1, reduceIte, Nat.reduceEqDiff, Nat.reduceAdd, Nat.reduceLeDiff, gt, k1]
  refine (isKey_gp H).to fun v h3 q => ?_
  obtain ⟨rfl, m3⟩ := q
  have n3 := m3.next
  have g13 := (m3.keep h.next (by omega)).trans g12
  have gt3 := (m3.keep h1.next (by omega)).trans gt
  simp (disch := omega) only [EL, ↓K3, ↓K1, reduceIte, Nat.reduceEqDiff, Nat.reduceAdd, Nat.reduceLeDiff]
  refine hQ _ ?_
  clear hQ Q1
  simp only [zAa]
  by_cases hk : w ∈ lexKeys
  ·refine zAt (by simp +decide only [EL, reduceIte, hk]) ?_
   refine zAb fun Q1 hQ => ?_
   simp (disch := omega) only [EL, ↓K3, ↓K1, reduceIte, Nat.reduceEqDiff, Nat.reduceAdd, Nat.reduceLeDiff, gt3, k0]
   refine hQ _ ?_
   clear hQ Q1
   have o4 : Only h1.next h3 (h3.set h1.next (.cells (T.put (some (.int .i64 ((2 : Nat) : Int))) ct 0) 3 none false)) := Only.set
   refine ⟨rfl, by simp +decide only [EL, reduceIte], by simp +decide only [EL, reduceIte, i0], by simp +decide only [EL, reduceIte, i0], (m02.trans m3).set (by omega) _, by rw [o4.next]; omega, (o4.keep _ (by omega)).trans g13, _, AH.get_set, ?_, ?_, ?_⟩
   ·rw [if_pos hk]; exact T.get_put_self _ _ _
   ·rw [T.get_put_ne _ _ _ _ (by omega)]; exact k1
   ·rw [T.get_put_ne _ _ _ _ (by omega)]; exact k2
  ·refine wc_no (by simp +decide only [EL, reduceIte, hk]) ?_
   refine zAm ?_
   refine ⟨rfl, by simp +decide only [EL, reduceIte], by simp +decide only [EL, reduceIte, i0], by simp +decide only [EL, reduceIte, i0], m02.trans m3, by omega, g13, _, gt3, ?_, k1, k2⟩
   rw [if_neg hk]; exact k0
 ·rintro l d1 h3 ⟨rfl, l1, l4, l5, m3, n3, g13, c, gc, c0, c1, c2⟩
  generalize (if w ∈ lexKeys then 2 else 1 : Nat) = kind at *
  refine zAc ?_
  refine zAc (zAb fun Q1 hQ => ?_)
  simp (disch := omega) only [EL, ↓K3, ↓K1, reduceIte, Nat.reduceEqDiff, Nat.reduceAdd, Nat.reduceLeDiff, l1, gc, c1]
  refine hQ _ ?_
  clear hQ Q1
  by_cases hl : 12 < w.length
  ·rw [if_pos hl]
   refine zAt (by simp +decide only [EL, reduceIte, hl]) ?_
   refine zAc (zAb fun Q1 hQ => ?_)
   simp (disch := omega) only [EL, ↓K3, ↓K1, reduceIte, Nat.reduceEqDiff, Nat.reduceAdd, Nat.reduceLeDiff, l1, l4, gc, c0, c1, c2, g13, zAe]
   refine hQ _ ?_
   clear hQ Q1
   refine zAj ?_
   try simp only [zAg, zAf]
   refine ⟨_, zB4 (by simp +decide only [EL, reduceIte, l4]) AH.get_set (lst := [.int .i64 (kind : Int), sv w, .int .i64 ((0 : Nat) : Int)]) (by simp +decide only [EL, reduceIte, zAe]) (zBe (v := .int .i64 ((4 : Nat) : Int)) (by simp +decide only [EL, reduceIte]) zAn), ?_⟩
   exact ⟨rfl, m3.set (Nat.le_refl _) _⟩
  ·rw [if_neg hl]
   refine wc_no (by simp +decide only [EL, reduceIte, hl]) ?_
   refine zAm ?_
   simp only [zAa]
   refine zAc (zAb fun Q1 hQ => ?_)
   simp (disch := omega) only [EL, ↓K3, ↓K1, reduceIte, Nat.reduceEqDiff, Nat.reduceAdd, Nat.reduceLeDiff, l1, l4, gc, c0, c1, c2, g13, zAe]
   refine hQ _ ?_
   clear hQ Q1
   refine zAj ?_
   try simp only [zAg, zAf]
   refine ⟨_, zB4 (by simp +decide only [EL, reduceIte, l4]) AH.get_set (lst := [.int .i64 (kind : Int), sv w, .int .i64 ((0 : Nat) : Int)]) (by simp +decide only [EL, reduceIte, zAe]) (zBe (v := .int .i64 ((0 : Nat) : Int)) (by simp +decide only [EL, reduceIte]) zAn), ?_⟩
   exact ⟨rfl, m3.set (Nat.le_refl _) _⟩
end
end Go.Ev
namespace Go.Ev
open Go Go.Pa
section
variable {tab : Nat → Option AFunc} {h : AH} (H : PT tab)
theorem digs_of {c : UInt8} {s : Str} (hc : zBf c = true) (hs : (c :: s).length ≤ 1000000) : Digs ((c :: s).takeWhile zBf) := by
 refine ⟨List.ne_nil_of_length_pos (zCw hc), ?_, Nat.le_trans zDf hs⟩
 intro x hx
 have hall := List.all_takeWhile (p := zBf) (l := c :: s)
 rw [List.all_eq_true] at hall
 simpa [zBf] using hall x hx
include H in
theorem number_lex {c : UInt8} {t : Str} (hc : zBf c = true) (hs : (c :: t).length ≤ 1000000) : GP tab 68 [sv (c :: t)] h fun v h1 => v = .tup [.agg [.int .i64 ((numT (c :: t)).1 : Int), sv (numT (c :: t)).2.1, .int .i64 ((0 : Nat) : Int)], .int .i64 ((numT (c :: t)).2.2 : Int)] ∧ More h h1 := by
 have dg := digs_of hc hs
 obtain ⟨s, hst⟩ : ∃ s, s = c :: t := ⟨_, rfl⟩
 rw [← hst] at dg hs ⊢
 have i0 : zAh [sv s] = zAd [sv s] := rfl
 refine GE.gp (ge_of H.t68 rfl ?_) (E := fun _ _ => False) fun _ _ => id
 refine zAc (zAb fun Q1 hQ => ?_)
 simp (disch := omega) only [EL, ↓K3, ↓K1, reduceIte, Nat.reduceEqDiff, Nat.reduceAdd, Nat.reduceLeDiff, i0]
 refine hQ _ ?_
 clear hQ Q1
 have m1 : More h (h.add (.cells (zAd [.int .i64 ((0 : Nat) : Int), sv [], .int .i64 ((0 : Nat) : Int)]) 3 none false)) := More.add _ _
 have g1 : (h.add (.cells (zAd [.int .i64 ((0 : Nat) : Int), sv [], .int .i64 ((0 : Nat) : Int)]) 3 none false)).mem.get h.next = some (.cells (zAd [.int .i64 ((0 : Nat) : Int), sv [], .int .i64 ((0 : Nat) : Int)]) 3 none false) := by rw [AH.add_mem, T.get_put_self]
 have n1 : (h.add (.cells (zAd [.int .i64 ((0 : Nat) : Int), sv [], .int .i64 ((0 : Nat) : Int)]) 3 none false)).next = h.next + 1 := rfl
 generalize h.add (.cells (zAd [.int .i64 ((0 : Nat) : Int), sv [], .int .i64 ((0 : Nat) : Int)]) 3 none false) = h1 at *
 simp only [zAa]
 have an := zB7 (p := zBf) (s := s)
 have sl : ∀ h' : AH, zDi (.c (sv s)) none (some (.c (.int .i64 (aheadN zBf s : Int)))) .leaf [] h' = .val (sv (s.takeWhile zBf)) h' := fun h' => by rw [zI9 zB7, zH3]
 refine zAc (zAb fun Q1 hQ => ?_)
 simp (disch := omega) only [EL, ↓K3, ↓K1, reduceIte, Nat.reduceEqDiff, Nat.reduceAdd, Nat.reduceLeDiff, i0]
 rw [ge_rw (run_gp H hs fun c => zL2 H)]
 simp (disch := omega) only [EL, ↓K3, ↓K1, reduceIte, Nat.reduceEqDiff, Nat.reduceAdd, Nat.reduceLeDiff]
 refine hQ _ ?_
 clear hQ Q1
 simp only [zAa]
 refine zAc (zAb fun Q1 hQ => ?_)
 simp (disch := omega) only [EL, ↓K3, ↓K1, reduceIte, Nat.reduceEqDiff, Nat.reduceAdd, Nat.reduceLeDiff, i0, sl]
 refine hQ _ ?_
 clear hQ Q1
 refine zDs fun h2 n2 g2 m2 => ?_
 obtain ⟨ct, gt, k0, k1, k2⟩ := g2
 simp only [zAa]
 have g12 := (m2.keep h.next (by omega)).trans g1
 have m02 := m1.trans m2
 have hx : ∀ err : Nat, err = (numT s).2.2 → numT s = (3, s.takeWhile zBf, err) := fun err e => by rw [e]; rfl
 have hnum : (∃ c r, s.drop (aheadN zBf s) = c :: r ∧ zCl c = true ∧ (numT s).2.2 = 1) ∨ ((∀ c, s[aheadN zBf s]? = some c → zCl c = false) ∧ (numT s).2.2 = (numP (s.takeWhile zBf)).2) := by
  unfold numT
  simp only
  cases hd : s.drop (aheadN zBf s) with
  | nil =>
   refine .inr ⟨fun c hc => ?_, rfl⟩
   have := List.length_drop (i := aheadN zBf s) (l := s)
   rw [hd] at this
   rw [List.getElem?_eq_none (by simp at this; omega)] at hc; cases hc
  | cons c r =>
   simp only
   cases hl : zCl c with
   | true => exact .inl ⟨c, r, rfl, hl, by simp⟩
   | false =>
    refine .inr ⟨fun c' hc' => ?_, by simp⟩
    have : s[aheadN zBf s]? = some c := by
     have e := List.getElem?_drop (xs := s) (i := aheadN zBf s) (j := 0)
     rw [hd] at e; simpa using e.symm
    rw [this] at hc'; injection hc' with hc'; subst hc'; exact hl
 clear sl
 obtain ⟨w, hw⟩ : ∃ w, w = s.takeWhile zBf := ⟨_, rfl⟩
 obtain ⟨n, hn⟩ : ∃ n, n = aheadN zBf s := ⟨_, rfl⟩
 rw [← hw] at k1 dg hnum hx
 rw [← hn] at an hnum ⊢
 clear hn
 refine zAc ?_
 have bad : (numT s).2.2 = 1 → ∀ (l : T AV) (Q : Res → Prop), l.get 3 = some (.ptr h1.next 0) → l.get 4 = some (.ptr h.next 0) → (∀ l' h', zDz [.cellN 3 (.l 4), .val (.l 6)] (fun v h1 => v = .tup [.agg [.int .i64 ((numT s).1 : Int), sv (numT s).2.1, .int .i64 ((0 : Nat) : Int)], .int .i64 ((numT s).2.2 : Int)] ∧ More h h1) (fun _ _ => False) (.ret l' [] h') → Q (.ret l' [] h')) →
   WC tab (.seq (.ops [⟨.loadN 3 (.l 3), none, none, []⟩, ⟨.store 3 (.l 4) (.t 0), none, none, []⟩, ⟨.move (.c (.int .i64 (.ofNat 1))), none, some 6, []⟩]) .ret) l [] h2 Q := by
  intro e l Q l3 l4 hq
  refine zAc (zAb fun Q1 hQ => ?_)
  simp (disch := omega) only [EL, ↓K3, ↓K1, reduceIte, Nat.reduceEqDiff, Nat.reduceAdd, Nat.reduceLeDiff, l3, l4, gt, k0, k1, k2, g12, zAe]
  refine hQ _ ?_
  simp only [zAa]
  refine zAj (hq _ _ ?_)
  refine ⟨_, zB4 (by simp +decide only [EL, reduceIte, l4]) AH.get_set (lst := [.int .i64 ((3 : Nat) : Int), sv w, .int .i64 ((0 : Nat) : Int)]) (by simp +decide only [EL, reduceIte, zAe]) (zBe (v := .int .i64 ((1 : Nat) : Int)) (by simp +decide only [EL, reduceIte]) zAn), ?_⟩
  rw [hx 1 e.symm]
  exact ⟨rfl, m02.set (Nat.le_refl _) _⟩
 refine zAc (zAb fun Q1 hQ => ?_)
 rcases hnum with ⟨c, r, hd, hl, he⟩ | ⟨hno, he⟩
 ·have hlt : n < s.length := by
   rcases Nat.lt_or_ge n s.length with e | e
   ·exact e
   ·rw [List.drop_eq_nil_of_le e] at hd; cases hd
  have ix : ∀ h' : AH, oIdxS (.c (sv s)) (.c (.int .i64 (n : Int))) .leaf [] h' = .val (byteV c) h' := fun h' => idx_sv (by
   have e := List.getElem?_drop (xs := s) (i := n) (j := 0)
   rw [hd] at e; simpa using e.symm)
  simp (disch := omega) only [EL, ↓K3, ↓K1, reduceIte, Nat.reduceEqDiff, Nat.reduceAdd, Nat.reduceLeDiff, i0, hlt, ix]
  rw [ge_rw (zHq H)]
  simp (disch := omega) only [EL, ↓K3, ↓K1, reduceIte, Nat.reduceEqDiff, Nat.reduceAdd, Nat.reduceLeDiff, hl]
  refine hQ _ ?_
  clear hQ Q1
  simp only [zAa]
  refine zAt (by simp +decide only [EL, reduceIte]) ?_
  exact bad he _ _ (by simp +decide only [EL, reduceIte]) (by simp +decide only [EL, reduceIte, i0]) fun l' h' q => by try simp only [zAg, zAf]; exact q
 ·have hgo : ∀ l' : T AV, l'.get 2 = some (.bool false) → l'.get 3 = some (.ptr h1.next 0) → l'.get 4 = some (.ptr h.next 0) → Q1 (.norm l' [] h2) := by
   intro l e2 l3 l4
   refine hQ _ ?_
   clear hQ Q1
   simp only [zAa]
   refine wc_no (by simp +decide only [EL, reduceIte, e2]) ?_
   refine zAm ?_
   simp only [zAa]
   refine zAc (zAb fun Q1 hQ => ?_)
   simp (disch := omega) only [EL, ↓K3, ↓K1, reduceIte, Nat.reduceEqDiff, Nat.reduceAdd, Nat.reduceLeDiff, l3, gt, k1]
   rw [ge_rw (zJn H dg)]
   simp (disch := omega) only [EL, ↓K3, ↓K1, reduceIte, Nat.reduceEqDiff, Nat.reduceAdd, Nat.reduceLeDiff]
   refine hQ _ ?_
   clear hQ Q1
   simp only [zAa]
   refine zAc (zAb fun Q1 hQ => ?_)
   simp (disch := omega) only [EL, ↓K3, ↓K1, reduceIte, Nat.reduceEqDiff, Nat.reduceAdd, Nat.reduceLeDiff, l3, l4, gt, k0, k1, k2, g12, zAe]
   refine hQ _ ?_
   clear hQ Q1
   refine zAj ?_
   try simp only [zAg, zAf]
   refine ⟨_, zB4 (by simp +decide only [EL, reduceIte, l4]) AH.get_set (lst := [.int .i64 ((3 : Nat) : Int), sv w, .int .i64 ((0 : Nat) : Int)]) (by simp +decide only [EL, reduceIte, zAe]) (zBe (v := .int .i64 ((numP w).2 : Int)) (by simp +decide only [EL, reduceIte]) zAn), ?_⟩
   rw [hx _ he.symm]
   exact ⟨rfl, m02.set (Nat.le_refl _) _⟩
  by_cases hlt : n < s.length
  ·have hl := hno _ (List.getElem?_eq_getElem hlt)
   have ix : ∀ h' : AH, oIdxS (.c (sv s)) (.c (.int .i64 (n : Int))) .leaf [] h' = .val (byteV s[n]) h' := fun h' => idx_sv (List.getElem?_eq_getElem hlt)
   simp (disch := omega) only [EL, ↓K3, ↓K1, reduceIte, Nat.reduceEqDiff, Nat.reduceAdd, Nat.reduceLeDiff, i0, hlt, ix]
   rw [ge_rw (zHq H)]
   simp (disch := omega) only [EL, ↓K3, ↓K1, reduceIte, Nat.reduceEqDiff, Nat.reduceAdd, Nat.reduceLeDiff, hl]
   exact hgo _ (by simp +decide only [EL, reduceIte]) (by simp +decide only [EL, reduceIte]) (by simp +decide only [EL, reduceIte, i0])
  ·simp (disch := omega) only [EL, ↓K3, ↓K1, reduceIte, Nat.reduceEqDiff, Nat.reduceAdd, Nat.reduceLeDiff, i0, hlt]
   exact hgo _ (by simp +decide only [EL, reduceIte]) (by simp +decide only [EL, reduceIte]) (by simp +decide only [EL, reduceIte, i0])
end
end Go.Ev
namespace Go.Ev
open Go Go.Pa
def idxF (xs : List Str) (q : Str → Bool) : Int := match xs.findIdx? q with | some i => (i : Int) | none => -1
theorem idxF_at {xs : List Str} {q : Str → Bool} {k : Nat} (hk : k < xs.length) (h : ∀ i, i < k → (hi : i < xs.length) → q xs[i] = false) (e : q xs[k] = true) : xs.findIdx? q = some k := by
 rw [List.findIdx?_eq_some_iff_getElem]
 exact ⟨hk, e, fun j hj => by rw [h j hj (by omega)]; simp⟩
section
variable {tab : Nat → Option AFunc} {h : AH} (H : PT tab)
include H in
theorem indexF_gp {v : AV} {xs : List Str} {f : Nat} {caps : List AV} {p : Str → Bool} (a : StrA h v xs) (hl : xs.length < 1000) (hq : ∀ x, GP tab f (sv x :: caps) h fun w h1 => w = .bool (p x) ∧ h1 = h) : GP tab 93 [v, .fn f [] caps] h fun w h1 => w = .int .i64 (idxF xs p) ∧ h1 = h := by
 obtain ⟨ia, off, cap, sz, pp, ro, c, rfl, gc, ga⟩ := a
 have i0 : zAh [.sl ia off xs.length cap, .fn f [] caps] = zAd [.sl ia off xs.length cap, .fn f [] caps] := rfl
 have la : ∀ x, lapp [] (lapp [sv x] caps) = sv x :: caps := fun x => rfl
 refine GE.gp (ge_of H.t93 rfl ?_) (E := fun _ _ => False) fun _ _ => id
 refine zAc (zAb fun Q1 hQ => ?_)
 simp (disch := omega) only [EL, ↓K3, ↓K1, reduceIte, Nat.reduceEqDiff, Nat.reduceAdd, Nat.reduceLeDiff, i0]
 refine hQ _ ?_
 clear hQ Q1
 refine zAc ?_
 refine zAc (zAb fun Q1 hQ => ?_)
 simp (disch := omega) only [EL, ↓K3, ↓K1, reduceIte, Nat.reduceEqDiff, Nat.reduceAdd, Nat.reduceLeDiff, i0]
 refine hQ _ ?_
 clear hQ Q1
 refine zAy ?_
 refine zCg (fun m l d1 h1 => ∃ k, m = xs.length - k ∧ k ≤ xs.length ∧ d1 = [] ∧ h1 = h ∧ l.get 0 = some (.sl ia off xs.length cap) ∧ l.get 1 = some (.fn f [] caps) ∧ l.get 2 = some (.int .i64 (k : Int)) ∧ l.get 3 = some (.int .i64 (xs.length : Int)) ∧ ∀ i, i < k → (hi : i < xs.length) → p xs[i] = false) ?_ (xs.length - 0) ?_
 ·rintro m l d1 h1 ⟨k, rfl, hk, rfl, rfl, l0, l1, l2, l3, hall⟩
  refine zAc (zAb fun Q1 hQ => ?_)
  simp (disch := omega) only [EL, ↓K3, ↓K1, reduceIte, Nat.reduceEqDiff, Nat.reduceAdd, Nat.reduceLeDiff, l2, l3]
  refine hQ _ ?_
  clear hQ Q1
  refine zAc ?_
  refine wc_if (k < xs.length) (by simp +decide only [EL, reduceIte]) (fun hlt => ?_) (fun hge => ?_)
  ·refine zAm ?_
   simp only [zAa]
   refine zAc ?_
   refine zAy ?_
   refine zAc (zAb fun Q1 hQ => ?_)
   simp (disch := omega) only [EL, ↓K3, ↓K1, reduceIte, Nat.reduceEqDiff, Nat.reduceAdd, Nat.reduceLeDiff, l2]
   refine hQ _ ?_
   clear hQ Q1
   have gk := ga k hlt
   refine zAc (zAb fun Q1 hQ => ?_)
   simp (disch := omega) only [EL, ↓K3, ↓K1, reduceIte, Nat.reduceEqDiff, Nat.reduceAdd, Nat.reduceLeDiff, l0, l1, l2, gc, gk, Nat.mul_one, la]
   rw [ge_rw (hq xs[k])]
   simp (disch := omega) only [EL, ↓K3, ↓K1, reduceIte, Nat.reduceEqDiff, Nat.reduceAdd, Nat.reduceLeDiff]
   refine hQ _ ?_
   clear hQ Q1
   simp only [zAa]
   cases he : p xs[k] with
   | true =>
    refine zAt (by simp +decide only [EL, reduceIte]) ?_
    refine zAc (zAb fun Q1 hQ => ?_)
    simp (disch := omega) only [EL, ↓K3, ↓K1, reduceIte, Nat.reduceEqDiff, Nat.reduceAdd, Nat.reduceLeDiff, l2]
    refine hQ _ ?_
    clear hQ Q1
    refine zAj ?_
    try simp only [zAg, zAf]
    have e1 := idxF_at hlt hall he
    simp (disch := omega) only [EL, ↓K3, ↓K1, reduceIte, Nat.reduceEqDiff, Nat.reduceAdd, Nat.reduceLeDiff]
    unfold idxF
    rw [e1]
   | false =>
    refine wc_no (by simp +decide only [EL, reduceIte]) ?_
    refine zAm ?_
    simp only [zAi, zAa]
    refine zAb fun Q1 hQ => ?_
    simp (disch := omega) only [EL, ↓K3, ↓K1, reduceIte, Nat.reduceEqDiff, Nat.reduceAdd, Nat.reduceLeDiff, l2]
    refine hQ _ ?_
    clear hQ Q1
    simp only [zAa]
    refine ⟨xs.length - (k + 1), by omega, k + 1, rfl, hlt, trivial, trivial, by simp +decide only [EL, reduceIte, l0], by simp +decide only [EL, reduceIte, l1], by simp +decide only [EL, reduceIte], by simp +decide only [EL, reduceIte, l3], fun i hi hi' => ?_⟩
    by_cases e : i = k
    ·subst e; exact he
    ·exact hall i (by omega) hi'
  ·refine zDe ?_
   simp only [zBg, zBd, if_true, zAa]
   refine zAc (zAb fun Q1 hQ => ?_)
   simp (disch := omega) only [EL, ↓K3, ↓K1, reduceIte, Nat.reduceEqDiff, Nat.reduceAdd, Nat.reduceLeDiff]
   refine hQ _ ?_
   clear hQ Q1
   refine zAj ?_
   simp (disch := omega) only [EL, ↓K3, ↓K1, reduceIte, Nat.reduceEqDiff, Nat.reduceAdd, Nat.reduceLeDiff]
   unfold idxF
   have hn : xs.findIdx? p = none := by
    rw [List.findIdx?_eq_none_iff]
    intro x hx
    obtain ⟨j, hj, rfl⟩ := List.getElem_of_mem hx
    exact hall j (by omega) hj
   rw [hn]
   rfl
 ·exact ⟨0, rfl, Nat.zero_le _, rfl, rfl, by simp +decide only [EL, reduceIte, i0], by simp +decide only [EL, reduceIte, i0], by simp +decide only [EL, reduceIte, i0], by simp +decide only [EL, reduceIte, i0], fun i hi => by omega⟩
include H in
theorem sign1_gp {x s : Str} {bx : Nat} (gx : h.mem.get bx = some (.cells (cell1 (sv s)) 1 none false)) : GP tab 95 [sv x, .ptr bx 0] h fun v h1 => v = .bool (x.isPrefixOf s) ∧ h1 = h := by
 have i0 : zAh [sv x, .ptr bx 0] = zAd [sv x, .ptr bx 0] := rfl
 refine GE.gp (ge_of H.t95 rfl ?_) (E := fun _ _ => False) fun _ _ => id
 refine zAc (zAb fun Q1 hQ => ?_)
 simp (disch := omega) only [EL, ↓K3, ↓K1, reduceIte, Nat.reduceEqDiff, Nat.reduceAdd, Nat.reduceLeDiff, i0]
 refine hQ _ ?_
 clear hQ Q1
 refine zAc (zAb fun Q1 hQ => ?_)
 simp (disch := omega) only [EL, ↓K3, ↓K1, reduceIte, Nat.reduceEqDiff, Nat.reduceAdd, Nat.reduceLeDiff, i0, gx, zA4]
 rw [ge_rw (prefix_gp H)]
 simp (disch := omega) only [EL, ↓K3, ↓K1, reduceIte, Nat.reduceEqDiff, Nat.reduceAdd, Nat.reduceLeDiff, i0]
 refine hQ _ ?_
 simp only [zAa]
 refine zAj ?_
 simp (disch := omega) only [EL, ↓K3, ↓K1, reduceIte, Nat.reduceEqDiff, Nat.reduceAdd, Nat.reduceLeDiff]
 cases x.isPrefixOf s <;> rfl
include H in
theorem sign_lex {s : Str} : GP tab 69 [sv s] h fun v h1 => v = .tup [.agg [.int .i64 ((signT s).1 : Int), sv (signT s).2.1, .int .i64 ((0 : Nat) : Int)], .int .i64 ((signT s).2.2 : Int)] ∧ More h h1 := by
 have i0 : zAh [sv s] = zAd [sv s] := rfl
 refine GE.gp (ge_of H.t69 rfl ?_) (E := fun _ _ => False) fun _ _ => id
 refine zAc (zAb fun Q1 hQ => ?_)
 simp (disch := omega) only [EL, ↓K3, ↓K1, reduceIte, Nat.reduceEqDiff, Nat.reduceAdd, Nat.reduceLeDiff, i0]
 refine hQ _ ?_
 clear hQ Q1
 have m1 : More h ((h.add (.cells (.log 1 0 (some (sv s)) .leaf) 1 none false)).add (.cells (zAd [.int .i64 ((0 : Nat) : Int), sv [], .int .i64 ((0 : Nat) : Int)]) 3 none false)) := (More.add _ _).trans (More.add _ _)
 have n1 : ((h.add (.cells (.log 1 0 (some (sv s)) .leaf) 1 none false)).add (.cells (zAd [.int .i64 ((0 : Nat) : Int), sv [], .int .i64 ((0 : Nat) : Int)]) 3 none false)).next = h.next + 2 := rfl
 have g1 : ((h.add (.cells (.log 1 0 (some (sv s)) .leaf) 1 none false)).add (.cells (zAd [.int .i64 ((0 : Nat) : Int), sv [], .int .i64 ((0 : Nat) : Int)]) 3 none false)).mem.get h.next = some (.cells (cell1 (sv s)) 1 none false) := by
  rw [AH.add_mem, T.get_put_ne _ _ _ _ (by show h.next + 1 ≠ h.next; omega), AH.add_mem, T.get_put_self]; rfl
 have g2 : ((h.add (.cells (.log 1 0 (some (sv s)) .leaf) 1 none false)).add (.cells (zAd [.int .i64 ((0 : Nat) : Int), sv [], .int .i64 ((0 : Nat) : Int)]) 3 none false)).mem.get (h.next + 1) = some (.cells (zAd [.int .i64 ((0 : Nat) : Int), sv [], .int .i64 ((0 : Nat) : Int)]) 3 none false) := by
  rw [AH.add_mem]; exact T.get_put_self _ _ _
 generalize ((h.add (.cells (.log 1 0 (some (sv s)) .leaf) 1 none false)).add (.cells (zAd [.int .i64 ((0 : Nat) : Int), sv [], .int .i64 ((0 : Nat) : Int)]) 3 none false)) = h1 at *
 simp only [zAa]
 refine zAc (zAb fun Q1 hQ => ?_)
 simp (disch := omega) only [EL, ↓K3, ↓K1, reduceIte, Nat.reduceEqDiff, Nat.reduceAdd, Nat.reduceLeDiff, i0]
 refine (lsigns_gp H).to fun v h2 q => ?_
 obtain ⟨rfl, m2, c, gc, ga⟩ := q
 have n2 := m2.next
 have g12 := (m2.keep h.next (by omega)).trans g1
 have g22 := (m2.keep (h.next + 1) (by omega)).trans g2
 have e28 : lexSigns.length = 28 := rfl
 have g : GP tab 93 [.sl h1.next 0 28 (.known 28), .fn 95 [] [.ptr h.next 0]] h2 (fun w h3 => w = .int .i64 (idxF lexSigns (fun x => x.isPrefixOf s)) ∧ h3 = h2) := indexF_gp H (xs := lexSigns) ⟨_, 0, _, _, _, _, c, rfl, gc, fun i hi => by rw [Nat.zero_add]; exact ga i hi⟩ (by decide) fun x => sign1_gp H g12
 simp (disch := omega) only [EL, ↓K3, ↓K1, reduceIte, Nat.reduceEqDiff, Nat.reduceAdd, Nat.reduceLeDiff, i0]
 rw [ge_rw g]
 simp (disch := omega) only [EL, ↓K3, ↓K1, reduceIte, Nat.reduceEqDiff, Nat.reduceAdd, Nat.reduceLeDiff]
 refine hQ _ ?_
 clear hQ Q1
 simp only [zAa]
 refine zAc ?_
 refine zAc (zAb fun Q1 hQ => ?_)
 cases hf : lexSigns.findIdx? (fun x => x.isPrefixOf s) with
 | none =>
  have hi : idxF lexSigns (fun x => x.isPrefixOf s) = -1 := by unfold idxF; rw [hf]
  have hT : signT s = (0, [], 1) := by
   unfold signT
   have : lexSigns.find? (fun x => x.isPrefixOf s) = none := by
    rw [List.find?_eq_none]; intro x hx
    rw [List.findIdx?_eq_none_iff] at hf
    simp [hf x hx]
   rw [this]
  rw [hi]
  have lt0 : (-1 : Int) < ((0 : Nat) : Int) := by decide
  simp (disch := omega) only [EL, ↓K3, ↓K1, reduceIte, Nat.reduceEqDiff, Nat.reduceAdd, Nat.reduceLeDiff, lt0]
  refine hQ _ ?_
  clear hQ Q1
  simp only [zAa]
  refine zAt (by simp +decide only [EL, reduceIte]) ?_
  refine zAc (zAb fun Q1 hQ => ?_)
  simp (disch := omega) only [EL, ↓K3, ↓K1, reduceIte, Nat.reduceEqDiff, Nat.reduceAdd, Nat.reduceLeDiff, g22]
  refine hQ _ ?_
  clear hQ Q1
  refine zAj ?_
  try simp only [zAg, zAf]
  refine ⟨_, zB4 (by simp +decide only [EL, reduceIte]) AH.get_set (lst := [.int .i64 ((0 : Nat) : Int), sv [], .int .i64 ((0 : Nat) : Int)]) (by simp +decide only [EL, reduceIte, zAe]) (zBe (v := .int .i64 ((1 : Nat) : Int)) (by simp +decide only [EL, reduceIte]) zAn), ?_⟩
  rw [hT]
  exact ⟨rfl, (m1.trans m2).set (by omega) _⟩
 | some j =>
  have hi : idxF lexSigns (fun x => x.isPrefixOf s) = (j : Int) := by unfold idxF; rw [hf]
  rw [List.findIdx?_eq_some_iff_getElem] at hf
  obtain ⟨hj, hp, hall⟩ := hf
  have hT : signT s = (4, lexSigns[j], 0) := by
   unfold signT
   have : lexSigns.find? (fun x => x.isPrefixOf s) = some lexSigns[j] := by
    rw [List.find?_eq_some_iff_getElem]
    exact ⟨hp, j, hj, rfl, fun i hi => (Bool.not_eq_true' _).mpr (Bool.eq_false_iff.mpr (hall i hi))⟩
   rw [this]
  rw [hi]
  have lt0 : ¬ (j : Int) < ((0 : Nat) : Int) := by omega
  have hj2 : j < 28 := hj
  simp (disch := omega) only [EL, ↓K3, ↓K1, reduceIte, Nat.reduceEqDiff, Nat.reduceAdd, Nat.reduceLeDiff, lt0]
  refine hQ _ ?_
  clear hQ Q1
  simp only [zAa]
  refine wc_no (by simp +decide only [EL, reduceIte]) ?_
  refine zAm ?_
  simp only [zAa]
  refine zAc (zAb fun Q1 hQ => ?_)
  simp (disch := omega) only [EL, ↓K3, ↓K1, reduceIte, Nat.reduceEqDiff, Nat.reduceAdd, Nat.reduceLeDiff, i0]
  refine (lsigns_gp H).to fun v h3 q => ?_
  obtain ⟨rfl, m3, c3, gc3, ga3⟩ := q
  have n3 := m3.next
  have g23 := (m3.keep (h.next + 1) (by omega)).trans g22
  have gj := ga3 j hj
  simp (disch := omega) only [EL, ↓K3, ↓K1, reduceIte, Nat.reduceEqDiff, Nat.reduceAdd, Nat.reduceLeDiff, gc3, gj, g23, hj2, Nat.mul_one]
  refine hQ _ ?_
  clear hQ Q1
  simp only [zAa]
  refine zAj ?_
  try simp only [zAg, zAf]
  refine ⟨_, zB4 (by simp +decide only [EL, reduceIte]) AH.get_set (lst := [.int .i64 ((4 : Nat) : Int), sv lexSigns[j], .int .i64 ((0 : Nat) : Int)]) (by simp +decide only [EL, reduceIte, zAe]; rfl) (zBe (v := .int .i64 ((0 : Nat) : Int)) (by simp +decide only [EL, reduceIte]) zAn), ?_⟩
  rw [hT]
  exact ⟨rfl, ((m1.trans m2).trans m3).set (by omega) _⟩
end
end Go.Ev
namespace Go.Ev
open Go Go.Pa
section
variable {tab : Nat → Option AFunc} {h : AH} (H : PT tab)
abbrev nextV (x : Nat × Str × Nat) : AV := .tup [.agg [.int .i64 (x.1 : Int), sv x.2.1, .int .i64 ((0 : Nat) : Int)], .int .i64 (x.2.2 : Int)]
include H in
theorem next_lex {s : Str} (h0 : s ≠ []) (hs : s.length ≤ 1000000) : GP tab 38 [sv s] h fun v h1 => v = nextV (nextT s) ∧ More h h1 := by
 obtain ⟨c, t, rfl⟩ : ∃ c t, s = c :: t := by
  cases s with
  | nil => exact absurd rfl h0
  | cons c t => exact ⟨c, t, rfl⟩
 have i0 : zAh [sv (c :: t)] = zAd [sv (c :: t)] := rfl
 have ix : ∀ h' : AH, oIdxS (.c (sv (c :: t))) (.c (.int .i64 ((0 : Nat) : Int))) .leaf [] h' = .val (byteV c) h' := fun h' => idx_sv (i := 0) rfl
 refine GE.gp (ge_of H.t38 rfl ?_) (E := fun _ _ => False) fun _ _ => id
 refine zAc (zAb fun Q1 hQ => ?_)
 simp (disch := omega) only [EL, ↓K3, ↓K1, reduceIte, Nat.reduceEqDiff, Nat.reduceAdd, Nat.reduceLeDiff, i0]
 refine hQ _ ?_
 clear hQ Q1
 have m1 : More h (h.add (.cells (zAd [.int .i64 ((0 : Nat) : Int), sv [], .int .i64 ((0 : Nat) : Int)]) 3 none false)) := More.add _ _
 have g1 : (h.add (.cells (zAd [.int .i64 ((0 : Nat) : Int), sv [], .int .i64 ((0 : Nat) : Int)]) 3 none false)).mem.get h.next = some (.cells (zAd [.int .i64 ((0 : Nat) : Int), sv [], .int .i64 ((0 : Nat) : Int)]) 3 none false) := by rw [AH.add_mem, T.get_put_self]
 have n1 : (h.add (.cells (zAd [.int .i64 ((0 : Nat) : Int), sv [], .int .i64 ((0 : Nat) : Int)]) 3 none false)).next = h.next + 1 := rfl
 generalize h.add (.cells (zAd [.int .i64 ((0 : Nat) : Int), sv [], .int .i64 ((0 : Nat) : Int)]) 3 none false) = h1 at *
 simp only [zAa]
 have fin : ∀ (x : Nat × Str × Nat) (l : T AV) (h2 : AH), l.get 2 = some (.ptr h.next 0) → More h1 h2 → zDz [.cellN 3 (.l 2), .val (.l 4)] (fun v h3 => v = nextV x ∧ More h h3) (fun _ _ => False)
   (.ret (T.put (some (.int .i64 (x.2.2 : Int))) l 4) [] (h2.set h.next (.cells (T.put (some (.int .i64 ((0 : Nat) : Int))) (T.put (some (sv x.2.1)) (T.put (some (.int .i64 (x.1 : Int))) (zAd [.int .i64 ((0 : Nat) : Int), sv [], .int .i64 ((0 : Nat) : Int)]) 0) 1) 2) 3 none false))) := by
  intro x l h2 l2 m2
  refine ⟨_, zB4 (id := h.next) (by simp +decide only [EL, reduceIte, l2]) AH.get_set (lst := [.int .i64 (x.1 : Int), sv x.2.1, .int .i64 ((0 : Nat) : Int)]) (by simp +decide only [EL, reduceIte, zAe]) (zBe (v := .int .i64 (x.2.2 : Int)) (by simp +decide only [EL, reduceIte]) zAn), rfl, (m1.trans m2).set (Nat.le_refl _) _⟩
 refine zAc ?_
 refine zAy ?_
 refine zAc (zAb fun Q1 hQ => ?_)
 simp (disch := omega) only [EL, ↓K3, ↓K1, reduceIte, Nat.reduceEqDiff, Nat.reduceAdd, Nat.reduceLeDiff, i0, ix]
 rw [ge_rw (zHq H)]
 simp (disch := omega) only [EL, ↓K3, ↓K1, reduceIte, Nat.reduceEqDiff, Nat.reduceAdd, Nat.reduceLeDiff]
 refine hQ _ ?_
 clear hQ Q1
 simp only [zAa]
 have hT : nextT (c :: t) = if zCl c then wordT (c :: t) else if zBf c then numT (c :: t) else signT (c :: t) := rfl
 rw [hT]
 clear hT
 cases hl : zCl c with
 | true =>
  rw [if_pos rfl]
  refine zAt (by simp +decide only [EL, reduceIte, hl]) ?_
  refine zAc (zAb fun Q1 hQ => ?_)
  simp (disch := omega) only [EL, ↓K3, ↓K1, reduceIte, Nat.reduceEqDiff, Nat.reduceAdd, Nat.reduceLeDiff, i0]
  refine (word_lex H hs).to fun v h2 q => ?_
  obtain ⟨rfl, m2⟩ := q
  have g12 := (m2.keep h.next (by omega)).trans g1
  simp (disch := omega) only [EL, ↓K3, ↓K1, reduceIte, Nat.reduceEqDiff, Nat.reduceAdd, Nat.reduceLeDiff, g12]
  refine hQ _ ?_
  clear hQ Q1
  simp only [zAa]
  refine zAj ?_
  try simp only [zAg, zAf]
  exact fin _ _ h2 (by simp +decide only [EL, reduceIte]) m2
 | false =>
  rw [if_neg (by simp)]
  refine wc_no (by simp +decide only [EL, reduceIte, hl]) ?_
  refine zAc (zAb fun Q1 hQ => ?_)
  simp (disch := omega) only [EL, ↓K3, ↓K1, reduceIte, Nat.reduceEqDiff, Nat.reduceAdd, Nat.reduceLeDiff, i0, ix]
  rw [ge_rw (zL2 H)]
  simp (disch := omega) only [EL, ↓K3, ↓K1, reduceIte, Nat.reduceEqDiff, Nat.reduceAdd, Nat.reduceLeDiff]
  refine hQ _ ?_
  clear hQ Q1
  simp only [zAa]
  cases hd : zBf c with
  | true =>
   rw [if_pos rfl]
   refine zAt (by simp +decide only [EL, reduceIte, hd]) ?_
   refine zAc (zAb fun Q1 hQ => ?_)
   simp (disch := omega) only [EL, ↓K3, ↓K1, reduceIte, Nat.reduceEqDiff, Nat.reduceAdd, Nat.reduceLeDiff, i0]
   refine (number_lex H hd hs).to fun v h2 q => ?_
   obtain ⟨rfl, m2⟩ := q
   have g12 := (m2.keep h.next (by omega)).trans g1
   simp (disch := omega) only [EL, ↓K3, ↓K1, reduceIte, Nat.reduceEqDiff, Nat.reduceAdd, Nat.reduceLeDiff, g12]
   refine hQ _ ?_
   clear hQ Q1
   simp only [zAa]
   refine zAj ?_
   try simp only [zAg, zAf]
   exact fin _ _ h2 (by simp +decide only [EL, reduceIte]) m2
  | false =>
   rw [if_neg (by simp)]
   refine wc_no (by simp +decide only [EL, reduceIte, hd]) ?_
   refine zAm ?_
   simp only [zAa, zAi]
   refine zAc (zAb fun Q1 hQ => ?_)
   simp (disch := omega) only [EL, ↓K3, ↓K1, reduceIte, Nat.reduceEqDiff, Nat.reduceAdd, Nat.reduceLeDiff, i0]
   refine (sign_lex H).to fun v h2 q => ?_
   obtain ⟨rfl, m2⟩ := q
   have g12 := (m2.keep h.next (by omega)).trans g1
   simp (disch := omega) only [EL, ↓K3, ↓K1, reduceIte, Nat.reduceEqDiff, Nat.reduceAdd, Nat.reduceLeDiff, g12]
   refine hQ _ ?_
   clear hQ Q1
   simp only [zAa]
   refine zAj ?_
   try simp only [zAg, zAf]
   exact fin _ _ h2 (by simp +decide only [EL, reduceIte]) m2
end
end Go.Ev
namespace Go.Ev
open Go Go.Pa
abbrev tokL (t : Tok) : List AV := [.int .i64 (t.kind : Int), sv t.text, .int .i64 (t.pos : Int)]
def scanV (y : LR) (lo : Nat) (v : AV) (h1 : AH) : Prop :=
 (∃ ts tl, y = .ok ts ∧ v = .tup [tl, .int .i64 ((0 : Nat) : Int), .int .i64 ((0 : Nat) : Int)] ∧ OwnL h1 lo 3 tl (ts.map tokL) ∧ (ts = [] → tl = .nils)) ∨
 (∃ p e, e ≠ 0 ∧ y = .err p e ∧ v = .tup [.nils, .int .i64 (p : Int), .int .i64 (e : Int)])
theorem OwnL.lt {h : AH} {b es : Nat} {v : AV} {xs : List (List AV)} (x : OwnL h b es v xs) {k o n e : Nat} (he : v = .sl k o n (.rest e)) : k < h.next := by
 cases x with
 | nils => cases he
 | emp => cases he
 | sl a1 a2 a3 => injection he with he; subst he; exact a3
section
variable {tab : Nat → Option AFunc} {h : AH} (H : PT tab)
include H in
theorem scan_lex {s : Str} (hs : s.length ≤ 1000000) : GP tab 21 [sv s] h fun v h1 => scanV (scanS s) h.next v h1 ∧ More h h1 := by
 have i0 : zAh [sv s] = zAd [sv s] := rfl
 refine GE.gp (ge_of H.t21 rfl ?_) (E := fun _ _ => False) fun _ _ => id
 refine zAc (zAb fun Q1 hQ => ?_)
 simp (disch := omega) only [EL, ↓K3, ↓K1, reduceIte, Nat.reduceEqDiff, Nat.reduceAdd, Nat.reduceLeDiff, i0]
 refine hQ _ ?_
 clear hQ Q1
 refine zAc ?_
 refine zAc (zAb fun Q1 hQ => ?_)
 simp (disch := omega) only [EL, ↓K3, ↓K1, reduceIte, Nat.reduceEqDiff, Nat.reduceAdd, Nat.reduceLeDiff, i0]
 refine hQ _ ?_
 clear hQ Q1
 by_cases hl : 4096 < s.length
 ·refine zAt (by simp +decide only [EL, reduceIte, hl]) ?_
  refine zAc (zAb fun Q1 hQ => ?_)
  simp (disch := omega) only [EL, ↓K3, ↓K1, reduceIte, Nat.reduceEqDiff, Nat.reduceAdd, Nat.reduceLeDiff]
  refine hQ _ ?_
  clear hQ Q1
  refine zAj ?_
  try simp only [zAg, zAf]
  refine ⟨_, zBe (v := .nils) (by simp +decide only [EL, reduceIte]) (zBe (v := .int .i64 ((4096 : Nat) : Int)) (by simp +decide only [EL, reduceIte]) (zBe (v := .int .i64 ((4 : Nat) : Int)) (by simp +decide only [EL, reduceIte]) zAn)), .inr ⟨4096, 4, by decide, by unfold scanS; rw [if_pos hl], rfl⟩, More.refl h⟩
 refine wc_no (by simp +decide only [EL, reduceIte, hl]) ?_
 refine zAm ?_
 simp only [zAa]
 obtain ⟨y, hy⟩ : ∃ y, scanL s (s.length + 1) (skipS s) [] = y := ⟨_, rfl⟩
 have hne : y ≠ .out := by rw [← hy]; exact zLb _ _ _ (by omega) (zDt _ _)
 have hyS : scanS s = y := by unfold scanS; rw [if_neg hl]; exact hy
 rw [hyS]
 clear hyS
 refine zAc (zAb fun Q1 hQ => ?_)
 simp (disch := omega) only [EL, ↓K3, ↓K1, reduceIte, Nat.reduceEqDiff, Nat.reduceAdd, Nat.reduceLeDiff]
 refine hQ _ ?_
 clear hQ Q1
 refine zAc ?_
 refine zAc ?_
 refine zAb fun Q1 hQ => ?_
 simp (disch := omega) only [EL, ↓K3, ↓K1, reduceIte, Nat.reduceEqDiff, Nat.reduceAdd, Nat.reduceLeDiff, i0]
 rw [ge_rw (skip_gp H hs)]
 simp (disch := omega) only [EL, ↓K3, ↓K1, reduceIte, Nat.reduceEqDiff, Nat.reduceAdd, Nat.reduceLeDiff]
 refine hQ _ ?_
 clear hQ Q1
 simp only [zAa]
 have errEnd : ∀ (l : T AV) (h3 : AH) (p e : Nat), e ≠ 0 → l.get 2 = some (.int .i64 (p : Int)) → l.get 4 = some (.int .i64 (e : Int)) → More h h3 → y = .err p e → ∀ Q : Res → Prop, (∀ l' h', zDz [.val (.l 8), .val (.l 9), .val (.l 10)] (fun v h1 => scanV y h.next v h1 ∧ More h h1) (fun _ _ => False) (.ret l' [] h') → Q (.ret l' [] h')) →
   WC tab (.seq (.ops [⟨.move (.l 2), none, none, []⟩, ⟨.move (.l 4), none, none, []⟩, ⟨.move (.c .nils), none, some 8, []⟩, ⟨.move (.t 2), none, some 9, []⟩, ⟨.move (.t 2), none, some 10, []⟩]) .ret) l [] h3 Q := by
  intro l h3 p e he l2 l4 m3 hye Q hq
  refine zAc (zAb fun Q1 hQ => ?_)
  simp (disch := omega) only [EL, ↓K3, ↓K1, reduceIte, Nat.reduceEqDiff, Nat.reduceAdd, Nat.reduceLeDiff, l2, l4]
  refine hQ _ ?_
  clear hQ Q1
  refine zAj (hq _ _ ?_)
  exact ⟨_, zBe (v := .nils) (by simp +decide only [EL, reduceIte]) (zBe (v := .int .i64 (p : Int)) (by simp +decide only [EL, reduceIte]) (zBe (v := .int .i64 (e : Int)) (by simp +decide only [EL, reduceIte]) zAn)), .inr ⟨p, e, he, hye, rfl⟩, m3⟩
 refine zAy ?_
 refine zCg (fun k l d1 h1 => ∃ (at_ : Nat) (acc : List Tok) (tl : AV), d1 = [] ∧ l.get 0 = some (sv s) ∧ l.get 2 = some (.int .i64 (at_ : Int)) ∧ l.get 7 = some tl ∧ More h h1 ∧ at_ ≤ s.length ∧ acc.length ≤ at_ ∧ OwnL h1 h.next 3 tl (acc.map tokL) ∧ (acc = [] → tl = .nils) ∧ scanL s k at_ acc = y) ?_ (s.length + 1) ?_
 ·rintro k l d1 h1 ⟨at_, acc, tl, rfl, l0, l2, l7, m1, hat, hacc, own, emp, hy⟩
  cases k with
  | zero => exact absurd (by rw [← hy]; rfl) hne
  | succ k =>
   unfold scanL at hy
   refine zAc ?_
   refine zAc (zAb fun Q1 hQ => ?_)
   by_cases hlt : at_ < s.length
   rotate_left
   ·rw [if_neg hlt] at hy
    simp (disch := omega) only [EL, ↓K3, ↓K1, reduceIte, Nat.reduceEqDiff, Nat.reduceAdd, Nat.reduceLeDiff, l0, l2, hlt]
    refine hQ _ ?_
    clear hQ Q1
    simp only [zAa]
    refine wc_no (by simp +decide only [EL, reduceIte]) ?_
    refine zDe ?_
    simp only [zBg, zBd, if_true, zAa]
    have mvt : ∀ h', oMove (.c tl) .leaf [] h' = .val tl h' := fun h' => zLp own.mv
    refine zAc (zAb fun Q1 hQ => ?_)
    simp (disch := omega) only [EL, ↓K3, ↓K1, reduceIte, Nat.reduceEqDiff, Nat.reduceAdd, Nat.reduceLeDiff, l7, mvt]
    refine hQ _ ?_
    clear hQ Q1
    refine zAj ?_
    try simp only [zAg, zAf]
    exact ⟨_, zBe (v := tl) (by simp +decide only [EL, reduceIte]) (zBe (v := .int .i64 ((0 : Nat) : Int)) (by simp +decide only [EL, reduceIte]) (zBe (v := .int .i64 ((0 : Nat) : Int)) (by simp +decide only [EL, reduceIte]) zAn)), .inl ⟨acc, tl, hy.symm, rfl, own, emp⟩, m1⟩
   rw [if_pos hlt] at hy
   simp (disch := omega) only [EL, ↓K3, ↓K1, reduceIte, Nat.reduceEqDiff, Nat.reduceAdd, Nat.reduceLeDiff, l0, l2, hlt]
   refine hQ _ ?_
   clear hQ Q1
   simp only [zAa]
   refine zAt (by simp +decide only [EL, reduceIte]) ?_
   refine zAm ?_
   simp only [zAa]
   have sl : ∀ h' : AH, zDi (.c (sv s)) (some (.c (.int .i64 (at_ : Int)))) none .leaf [] h' = .val (sv (s.drop at_)) h' := fun h' => zHi hat
   refine zAc ?_
   refine zAy ?_
   refine zAc (zAb fun Q1 hQ => ?_)
   simp (disch := omega) only [EL, ↓K3, ↓K1, reduceIte, Nat.reduceEqDiff, Nat.reduceAdd, Nat.reduceLeDiff, l0, l2, sl]
   refine (next_lex H (s := s.drop at_) (fun e => by have := congrArg List.length e; simp at this; omega) (by simp; omega)).to fun v h2 q => ?_
   obtain ⟨rfl, m2⟩ := q
   obtain ⟨x, hx⟩ : ∃ x, x = nextT (s.drop at_) := ⟨_, rfl⟩
   have hok := zIy (s := s.drop at_)
   rw [← hx] at hy hok ⊢
   obtain ⟨kd, w, er⟩ := x
   simp only at hy hok ⊢
   have n2 := m2.next
   simp (disch := omega) only [EL, ↓K3, ↓K1, reduceIte, Nat.reduceEqDiff, Nat.reduceAdd, Nat.reduceLeDiff]
   refine hQ _ ?_
   clear hQ Q1
   refine zDs fun h3 n3 g3 m3 => ?_
   obtain ⟨ct, gt, k0, k1, k2⟩ := g3
   simp only [zAa]
   have m13 := m1.trans (m2.trans m3)
   have own3 := own.more (m2.trans m3)
   have n1 := m1.next
   refine zAc ?_
   refine zAc (zAb fun Q1 hQ => ?_)
   by_cases he : er = 0
   rotate_left
   ·rw [if_pos he] at hy
    have he' : ¬ (er : Int) = ((0 : Nat) : Int) := by omega
    simp (disch := omega) only [EL, ↓K3, ↓K1, reduceIte, Nat.reduceEqDiff, Nat.reduceAdd, Nat.reduceLeDiff, he']
    refine hQ _ ?_
    clear hQ Q1
    simp only [zAa]
    refine zAt (by simp +decide only [EL, reduceIte]) ?_
    refine errEnd _ h3 at_ er he (by simp +decide only [EL, reduceIte, l2]) (by simp +decide only [EL, reduceIte]) m13 hy.symm _ fun l' h' q => ?_
    try simp only [zAg, zAf]
    exact q
   ·rw [if_neg (not_not_intro he)] at hy
    obtain ⟨p1, p2, _, _⟩ := hok he
    simp only [List.length_drop] at p2
    subst he
    simp (disch := omega) only [EL, ↓K3, ↓K1, reduceIte, Nat.reduceEqDiff, Nat.reduceAdd, Nat.reduceLeDiff]
    refine hQ _ ?_
    clear hQ Q1
    simp only [zAa]
    refine wc_no (by simp +decide only [EL, reduceIte]) ?_
    refine zAm ?_
    simp only [zAa]
    refine zAc (zAb fun Q1 hQ => ?_)
    simp (disch := omega) only [EL, ↓K3, ↓K1, reduceIte, Nat.reduceEqDiff, Nat.reduceAdd, Nat.reduceLeDiff, l2, gt, k2]
    refine hQ _ ?_
    clear hQ Q1
    have gt4 : (h3.set h2.next (.cells (T.put (some (.int .i64 (at_ : Int))) ct 2) 3 none false)).mem.get h2.next = some (.cells (T.put (some (.int .i64 (at_ : Int))) ct 2) 3 none false) := AH.get_set
    have o4 : Only h2.next h3 (h3.set h2.next (.cells (T.put (some (.int .i64 (at_ : Int))) ct 2) 3 none false)) := Only.set
    have m24 : More h2 (h3.set h2.next (.cells (T.put (some (.int .i64 (at_ : Int))) ct 2) 3 none false)) := m3.set (Nat.le_refl _) _
    generalize h3.set h2.next (.cells (T.put (some (.int .i64 (at_ : Int))) ct 2) 3 none false) = h4 at *
    have n4 := o4.next
    have own4 := own.more (m2.trans m24)
    try simp only [zAa]
    have mvt : ∀ h', oMove (.c tl) .leaf [] h' = .val tl h' := fun h' => zLp own.mv
    refine zAc (zAb fun Q1 hQ => ?_)
    simp (disch := omega) only [EL, ↓K3, ↓K1, reduceIte, Nat.reduceEqDiff, Nat.reduceAdd, Nat.reduceLeDiff, l7, mvt, gt4, k0, k1, zAe]
    have m5 : More h4 (h4.add (.cells (zAd [.int .i64 (kd : Int), sv w, .int .i64 (at_ : Int)]) 3 none false)) := More.add _ _
    have g5 : (h4.add (.cells (zAd [.int .i64 (kd : Int), sv w, .int .i64 (at_ : Int)]) 3 none false)).mem.get h4.next = some (.cells (zAd [.int .i64 (kd : Int), sv w, .int .i64 (at_ : Int)]) 3 none false) := by rw [AH.add_mem, T.get_put_self]
    have n5 : (h4.add (.cells (zAd [.int .i64 (kd : Int), sv w, .int .i64 (at_ : Int)]) 3 none false)).next = h4.next + 1 := rfl
    generalize h4.add (.cells (zAd [.int .i64 (kd : Int), sv w, .int .i64 (at_ : Int)]) 3 none false) = h5 at *
    have own5 := own4.more m5
    obtain ⟨tl', h6, ap, own6, kp6, n6, keep6, fresh6⟩ := own5.append (src := .sl h4.next 0 1 (.known 1)) (new := tokL ⟨kd, w, at_⟩) (by' := 32) (fun k => src_sl (by decide) g5 (by simp +decide only [EL, reduceIte, zAe]) k) rfl (by omega) (by omega) (by simp; omega) (by omega)
    have gt6 := (keep6 h2.next (by omega) (fun o n e he => by have := own.lt he; omega)).trans ((m5.keep h2.next (by omega)).trans gt4)
    have mv6 : ∀ h', oMove (.c tl') .leaf [] h' = .val tl' h' := fun h' => zLp own6.mv
    simp (disch := omega) only [EL, ↓K3, ↓K1, reduceIte, Nat.reduceEqDiff, Nat.reduceAdd, Nat.reduceLeDiff, ap, mv6]
    refine hQ _ ?_
    clear hQ Q1
    simp only [zAa]
    have w1 : IntKind.i64.wrap ((at_ : Int) + (w.length : Int)) = ((at_ + w.length : Nat) : Int) := by rw [zIt (by omega) (by omega)]; omega
    refine zAb fun Q1 hQ => ?_
    simp (disch := omega) only [EL, ↓K3, ↓K1, reduceIte, Nat.reduceEqDiff, Nat.reduceAdd, Nat.reduceLeDiff, l2, gt6, k1, w1]
    refine hQ _ ?_
    clear hQ Q1
    simp only [zAa, zAi]
    have sl2 : ∀ h' : AH, zDi (.c (sv s)) (some (.c (.int .i64 ((at_ + w.length : Nat) : Int)))) none .leaf [] h' = .val (sv (s.drop (at_ + w.length))) h' := fun h' => zHi (by omega)
    refine zAb fun Q1 hQ => ?_
    simp (disch := omega) only [EL, ↓K3, ↓K1, reduceIte, Nat.reduceEqDiff, Nat.reduceAdd, Nat.reduceLeDiff, l0, l2, sl2]
    rw [ge_rw (skip_gp H (by simp; omega))]
    have p4 := zDt ((s.drop (at_ + w.length)).length + 1) (s.drop (at_ + w.length))
    have p5 : skipS (s.drop (at_ + w.length)) ≤ s.length - (at_ + w.length) := by unfold skipS; simp only [List.length_drop] at p4 ⊢; exact p4
    have w2 : IntKind.i64.wrap (((at_ + w.length : Nat) : Int) + (skipS (s.drop (at_ + w.length)) : Int)) = ((at_ + w.length + skipS (s.drop (at_ + w.length)) : Nat) : Int) := by rw [zIt (by omega) (by omega)]; omega
    simp (disch := omega) only [EL, ↓K3, ↓K1, reduceIte, Nat.reduceEqDiff, Nat.reduceAdd, Nat.reduceLeDiff, w2]
    refine hQ _ ?_
    clear hQ Q1
    simp only [zAa]
    have m6 : More h h6 := ⟨by omega, fun k hk => by rw [kp6.keep k hk, m5.keep k (by omega), o4.keep k (by omega)]; exact m13.keep k hk⟩
    refine ⟨k, by omega, at_ + w.length + skipS (s.drop (at_ + w.length)), acc ++ [⟨kd, w, at_⟩], tl', trivial, by simp +decide only [EL, reduceIte, l0], T.get_put_self _ _ _, by simp +decide only [EL, reduceIte], m6, by omega, by simp; omega, by rw [List.map_append]; exact own6, fun e => by simp at e, hy⟩
 ·exact ⟨skipS s, [], .nils, rfl, by simp +decide only [EL, reduceIte, i0], by simp +decide only [EL, reduceIte], by simp +decide only [EL, reduceIte], More.refl h, zDt _ _, by simp, .nils, fun _ => rfl, hy⟩
end
end Go.Ev
namespace Go.Ev
open Go Go.Pa
end Go.Ev
namespace Go.Pa
def zEz (n m : Nat) (s : Str) : PR (List Tree) := match scanS s with | .ok ts => progL ts s.length n m 0 0 [] | .err p e => .err p e | .out => .out
end Go.Pa
namespace Go.Ev
open Go Go.Pa
theorem OwnL.toks {h : AH} {b r : Nat} {v : AV} {ts : List Tok} (x : OwnL h b 3 v (ts.map tokL)) (e : ts = [] → v = .nils) (hr : h.next ≤ r) : TokA h r v ts := by
 cases ts with
 | nil => exact .inl ⟨rfl, e rfl⟩
 | cons t ts =>
  obtain ⟨id, c, h1, h2, h3, h4, h5⟩ := x.open (by simp)
  refine .inr ⟨id, c, _, _, by rw [h1, List.length_map], by omega, h4, fun j hj => ?_⟩
  obtain ⟨_, h6⟩ := h5 j (by simpa using hj)
  have e : ((t :: ts).map tokL)[j]'(by simpa using hj) = tokL ((t :: ts)[j]) := List.getElem_map ..
  rw [e] at h6
  exact ⟨h6 0 (by omega), h6 1 (by omega), h6 2 (by omega)⟩
theorem boxes2 (h : AH) (o1 o2 o3 o4 : AObj) : More h ((((h.add o1).add o2).set h.next o3).set (h.next + 1) o4) ∧ ((((h.add o1).add o2).set h.next o3).set (h.next + 1) o4).next = h.next + 2 ∧ ((((h.add o1).add o2).set h.next o3).set (h.next + 1) o4).mem.get h.next = some o3 ∧ ((((h.add o1).add o2).set h.next o3).set (h.next + 1) o4).mem.get (h.next + 1) = some o4 := by
 refine ⟨(((More.add h o1).trans (More.add _ o2)).set (Nat.le_refl _) _).set (by omega) _, rfl, ?_, AH.get_set⟩
 rw [AH.set_mem, T.get_put_ne _ _ _ _ (by omega), AH.set_mem, T.get_put_self]
def parseV (y : PR (List Tree)) (lo : Nat) (v : AV) (h1 : AH) : Prop :=
 (∃ ks i d u, y = .ok ks i d ∧ v = .tup [.agg [u], .int .i64 ((0 : Nat) : Int), .int .i64 ((0 : Nat) : Int)] ∧ TreeR h1 (fun k => lo ≤ k) u (.mk 1 [] [] 0 0 ks)) ∨
 (∃ p e, y = .err p e ∧ v = .tup [.agg [.nilp], .int .i64 (p : Int), .int .i64 (e : Int)])
section
variable {tab : Nat → Option AFunc} {h : AH} (H : PT tab)
include H in
theorem parse_gp {n m : Nat} {s : Str} (hs : s.length ≤ 1000000) {y : PR (List Tree)} (hy : zEz n m s = y) (hne : y ≠ .out) : GP tab 9 [sv s] h fun v h1 => More h h1 ∧ parseV y h.next v h1 := by
 have i0 : zAh [sv s] = zAd [sv s] := rfl
 refine GE.gp (ge_of H.t9 rfl ?_) (E := fun _ _ => False) fun _ _ => id
 refine zAc (zAb fun Q1 hQ => ?_)
 simp (disch := omega) only [EL, ↓K3, ↓K1, reduceIte, Nat.reduceEqDiff, Nat.reduceAdd, Nat.reduceLeDiff, i0]
 refine hQ _ ?_
 clear hQ Q1
 have m1 : More h (h.add (.cells (zAd [.nilp]) 1 none false)) := More.add _ _
 have g1 : (h.add (.cells (zAd [.nilp]) 1 none false)).mem.get h.next = some (.cells (zAd [.nilp]) 1 none false) := by rw [AH.add_mem, T.get_put_self]
 have n1 : (h.add (.cells (zAd [.nilp]) 1 none false)).next = h.next + 1 := rfl
 generalize h.add (.cells (zAd [.nilp]) 1 none false) = h1 at *
 simp only [zAa]
 refine zAc (zAb fun Q1 hQ => ?_)
 simp (disch := omega) only [EL, ↓K3, ↓K1, reduceIte, Nat.reduceEqDiff, Nat.reduceAdd, Nat.reduceLeDiff, i0]
 refine (scan_lex H hs).to fun v h2 q => ?_
 obtain ⟨sq, m2⟩ := q
 have n2 := m2.next
 have g12 := (m2.keep h.next (by omega)).trans g1
 rcases sq with ⟨ts, tl, hsc, rfl, own, emp⟩ | ⟨p, e, he, hsc, rfl⟩
 rotate_left
 ·have e0 : ¬ (e : Int) = ((0 : Nat) : Int) := by omega
  simp (disch := omega) only [EL, ↓K3, ↓K1, reduceIte, Nat.reduceEqDiff, Nat.reduceAdd, Nat.reduceLeDiff, e0]
  refine hQ _ ?_
  clear hQ Q1
  simp only [zAa]
  refine zAc ?_
  refine zAc (zAb fun Q1 hQ => ?_)
  simp (disch := omega) only [EL, ↓K3, ↓K1, reduceIte, Nat.reduceEqDiff, Nat.reduceAdd, Nat.reduceLeDiff, e0]
  refine hQ _ ?_
  clear hQ Q1
  refine zAt (by simp +decide only [EL, reduceIte]) ?_
  refine zAc (zAb fun Q1 hQ => ?_)
  simp (disch := omega) only [EL, ↓K3, ↓K1, reduceIte, Nat.reduceEqDiff, Nat.reduceAdd, Nat.reduceLeDiff, g12]
  refine hQ _ ?_
  clear hQ Q1
  refine zAj ?_
  try simp only [zAg, zAf]
  refine ⟨_, zB4 (by simp +decide only [EL, reduceIte]) AH.get_set (lst := [.nilp]) (by simp +decide only [EL, reduceIte, zAe]) (zBe (v := .int .i64 (p : Int)) (by simp +decide only [EL, reduceIte]) (zBe (v := .int .i64 (e : Int)) (by simp +decide only [EL, reduceIte]) zAn)), (m1.trans m2).set (Nat.le_refl _) _, .inr ⟨p, e, ?_, rfl⟩⟩
  rw [← hy]; unfold zEz; rw [hsc]
 ·obtain ⟨hl4, sok⟩ := zLa hsc
  have hy2 : progL ts s.length n m 0 0 [] = y := by rw [← hy]; unfold zEz; rw [hsc]
  have mvt : ∀ h', oMove (.c tl) .leaf [] h' = .val tl h' := fun h' => zLp own.mv
  have ctl : cellsOf tl = some [tl] := by
   cases hts : ts with
   | nil => rw [emp hts]; rfl
   | cons t ts' =>
    rw [hts] at own
    obtain ⟨id, c, h1, _⟩ := own.open (by simp)
    rw [h1]; rfl
  have ext : ∀ (b c : AV) h', zDv 0 (.c (.tup [tl, b, c])) .leaf [] h' = .val tl h' := fun b c h' => by rw [extract_tup (by exact own.mv)]; rfl
  simp (disch := omega) only [EL, ↓K3, ↓K1, reduceIte, Nat.reduceEqDiff, Nat.reduceAdd, Nat.reduceLeDiff, mvt, ext]
  refine hQ _ ?_
  clear hQ Q1
  simp only [zAa]
  refine zAc ?_
  refine zAc (zAb fun Q1 hQ => ?_)
  simp (disch := omega) only [EL, ↓K3, ↓K1, reduceIte, Nat.reduceEqDiff, Nat.reduceAdd, Nat.reduceLeDiff]
  refine hQ _ ?_
  clear hQ Q1
  refine wc_no (by simp +decide only [EL, reduceIte]) ?_
  refine zAm ?_
  simp only [zAa]
  have lnt := sok.len
  refine zAc (zAb fun Q1 hQ => ?_)
  simp (disch := omega) only [EL, ↓K3, ↓K1, reduceIte, Nat.reduceEqDiff, Nat.reduceAdd, Nat.reduceLeDiff, i0, mvt, ctl]
  refine hQ _ ?_
  clear hQ Q1
  have m3 : More h2 (h2.add (.cells (zAd [tl, .int .i64 ((0 : Nat) : Int), .int .i64 (s.length : Int), .int .i64 ((0 : Nat) : Int)]) 4 none false)) := More.add _ _
  have g3 : (h2.add (.cells (zAd [tl, .int .i64 ((0 : Nat) : Int), .int .i64 (s.length : Int), .int .i64 ((0 : Nat) : Int)]) 4 none false)).mem.get h2.next = some (.cells (zAd [tl, .int .i64 ((0 : Nat) : Int), .int .i64 (s.length : Int), .int .i64 ((0 : Nat) : Int)]) 4 none false) := by rw [AH.add_mem, T.get_put_self]
  have n3 : (h2.add (.cells (zAd [tl, .int .i64 ((0 : Nat) : Int), .int .i64 (s.length : Int), .int .i64 ((0 : Nat) : Int)]) 4 none false)).next = h2.next + 1 := rfl
  generalize h2.add (.cells (zAd [tl, .int .i64 ((0 : Nat) : Int), .int .i64 (s.length : Int), .int .i64 ((0 : Nat) : Int)]) 4 none false) = h3 at *
  simp only [zAa]
  have g13 := (m3.keep h.next (by omega)).trans g12
  have R3 : RS ts s.length h3 h2.next 0 0 := by
   refine ⟨by omega, by omega, by omega, by omega, ?_, ?_, _, tl, g3, rfl, rfl, rfl, rfl, ?_⟩
   ·intro j
    rcases Nat.lt_or_ge j ts.length with hj | hj
    ·rw [zHm hj]; have := (sok.tok _ (List.getElem_mem hj)).2.1; omega
    ·rw [zD8 (by omega)]; simp
   ·intro j hk
    rcases Nat.lt_or_ge j ts.length with hj | hj
    ·rw [zHm hj] at hk ⊢; exact (sok.tok _ (List.getElem_mem hj)).2.2 hk (by omega)
    ·rw [zD8 (by omega)] at hk; cases hk
   ·exact (own.toks emp (Nat.le_refl _)).keep fun k hk => m3.keep k hk
  refine zAc (zAb fun Q1 hQ => ?_)
  simp (disch := omega) only [EL, ↓K3, ↓K1, reduceIte, Nat.reduceEqDiff, Nat.reduceAdd, Nat.reduceLeDiff]
  refine (prog_gp H R3 (by omega) hy2 hne).to fun v h4 q => ?_
  obtain ⟨b4, pv⟩ := q
  have n4 := b4.next
  have g14 := (b4.keep h.next (by omega) (by omega)).trans g13
  rcases pv with ⟨ks, i, d, u, hye, rfl, tr⟩ | ⟨p, e, hye, rfl⟩
  ·obtain ⟨ui, rfl, hu1, hu2⟩ := tr.ptr
   simp (disch := omega) only [EL, ↓K3, ↓K1, reduceIte, Nat.reduceEqDiff, Nat.reduceAdd, Nat.reduceLeDiff]
   obtain ⟨m5, n5, ga, gb⟩ := boxes2 h4 (.cells (zAd [.nilp]) 1 none false) (.cells (zAd [.int .i64 ((0 : Nat) : Int), .int .i64 ((0 : Nat) : Int)]) 2 none false) (.cells (T.put (some (.ptr ui 0)) (zAd [.nilp]) 0) 1 none false) (.cells (T.put (some (.int .i64 ((0 : Nat) : Int))) (T.put (some (.int .i64 ((0 : Nat) : Int))) (zAd [.int .i64 ((0 : Nat) : Int), .int .i64 ((0 : Nat) : Int)]) 0) 1) 2 none false)
   generalize ((((h4.add (.cells (zAd [.nilp]) 1 none false)).add (.cells (zAd [.int .i64 ((0 : Nat) : Int), .int .i64 ((0 : Nat) : Int)]) 2 none false)).set h4.next (.cells (T.put (some (.ptr ui 0)) (zAd [.nilp]) 0) 1 none false)).set (h4.next + 1) (.cells (T.put (some (.int .i64 ((0 : Nat) : Int))) (T.put (some (.int .i64 ((0 : Nat) : Int))) (zAd [.int .i64 ((0 : Nat) : Int), .int .i64 ((0 : Nat) : Int)]) 0) 1) 2 none false)) = h5 at *
   refine hQ _ ?_
   clear hQ Q1
   simp only [zAa]
   have g15 := (m5.keep h.next (by omega)).trans g14
   refine zAc (zAb fun Q1 hQ => ?_)
   simp (disch := omega) only [EL, ↓K3, ↓K1, reduceIte, Nat.reduceEqDiff, Nat.reduceAdd, Nat.reduceLeDiff, ga, gb, g15, zAe, zA6, zA7]
   refine hQ _ ?_
   clear hQ Q1
   refine zAj ?_
   try simp only [zAg, zAf]
   have o6 : Only h.next h5 (h5.set h.next (.cells (T.put (some (.ptr ui 0)) (zAd [.nilp]) 0) 1 none false)) := Only.set
   refine ⟨_, zB4 (by simp +decide only [EL, reduceIte]) AH.get_set (lst := [(.ptr ui 0)]) (by simp +decide only [EL, reduceIte, zAe]) (zBe (v := .int .i64 ((0 : Nat) : Int)) (by simp +decide only [EL, reduceIte]) (zBe (v := .int .i64 ((0 : Nat) : Int)) (by simp +decide only [EL, reduceIte]) zAn)), ?_, .inl ⟨ks, i, d, _, hye, rfl, TreeR.keep ((m5.stay (F := fun k => h3.next ≤ k)).trans (o6.stay (by omega))) (fun k hk _ => by show h.next ≤ k; omega) tr⟩⟩
   exact ⟨by rw [o6.next]; omega, fun k hk => by rw [o6.keep k (by omega), m5.keep k (by omega), b4.keep k (by omega) (by omega), m3.keep k (by omega), m2.keep k (by omega), m1.keep k hk]⟩
  ·simp (disch := omega) only [EL, ↓K3, ↓K1, reduceIte, Nat.reduceEqDiff, Nat.reduceAdd, Nat.reduceLeDiff]
   obtain ⟨m5, n5, ga, gb⟩ := boxes2 h4 (.cells (zAd [.nilp]) 1 none false) (.cells (zAd [.int .i64 ((0 : Nat) : Int), .int .i64 ((0 : Nat) : Int)]) 2 none false) (.cells (T.put (some .nilp) (zAd [.nilp]) 0) 1 none false) (.cells (T.put (some (.int .i64 (e : Int))) (T.put (some (.int .i64 (p : Int))) (zAd [.int .i64 ((0 : Nat) : Int), .int .i64 ((0 : Nat) : Int)]) 0) 1) 2 none false)
   generalize ((((h4.add (.cells (zAd [.nilp]) 1 none false)).add (.cells (zAd [.int .i64 ((0 : Nat) : Int), .int .i64 ((0 : Nat) : Int)]) 2 none false)).set h4.next (.cells (T.put (some .nilp) (zAd [.nilp]) 0) 1 none false)).set (h4.next + 1) (.cells (T.put (some (.int .i64 (e : Int))) (T.put (some (.int .i64 (p : Int))) (zAd [.int .i64 ((0 : Nat) : Int), .int .i64 ((0 : Nat) : Int)]) 0) 1) 2 none false)) = h5 at *
   refine hQ _ ?_
   clear hQ Q1
   simp only [zAa]
   have g15 := (m5.keep h.next (by omega)).trans g14
   refine zAc (zAb fun Q1 hQ => ?_)
   simp (disch := omega) only [EL, ↓K3, ↓K1, reduceIte, Nat.reduceEqDiff, Nat.reduceAdd, Nat.reduceLeDiff, ga, gb, g15, zAe, zA6, zA7]
   refine hQ _ ?_
   clear hQ Q1
   refine zAj ?_
   try simp only [zAg, zAf]
   have o6 : Only h.next h5 (h5.set h.next (.cells (T.put (some .nilp) (zAd [.nilp]) 0) 1 none false)) := Only.set
   refine ⟨_, zB4 (by simp +decide only [EL, reduceIte]) AH.get_set (lst := [.nilp]) (by simp +decide only [EL, reduceIte, zAe]) (zBe (v := .int .i64 (p : Int)) (by simp +decide only [EL, reduceIte]) (zBe (v := .int .i64 (e : Int)) (by simp +decide only [EL, reduceIte]) zAn)), ?_, .inr ⟨p, e, hye, rfl⟩⟩
   exact ⟨by rw [o6.next]; omega, fun k hk => by rw [o6.keep k (by omega), m5.keep k (by omega), b4.keep k (by omega) (by omega), m3.keep k (by omega), m2.keep k (by omega), m1.keep k hk]⟩
end
end Go.Ev
namespace Go.Pa
open Go.Ev
theorem zAx {α β : Type} {x : PR α} {k : α → Nat → Nat → PR β} (h : x ≠ .out) (h' : ∀ a i d, x = .ok a i d → k a i d ≠ .out) : x.bind k ≠ .out := by
 cases x with
 | ok a i d => exact h' a i d rfl
 | err p e => exact fun e => by cases e
 | out => exact absurd rfl h
section
variable {ts : List Tok} {en : Nat}
theorem zBm {s : Str} {i d : Nat} : zBb ts en s i d ≠ .out := by unfold zBb; split <;> simp [failP]
theorem zGp {i d : Nat} : wordS ts en i d ≠ .out := by unfold wordS; split <;> simp [failP]
theorem zEg {α : Type} {i : Nat} : (failP ts en i : PR α) ≠ .out := by simp [failP]
theorem zGy {α : Type} {i d : Nat} {k : Nat → Nat → PR α} (h : k i (d + 1) ≠ .out) : zCh ts en i d k ≠ .out := by
 unfold zCh
 split
 ·simp
 ·exact zAx h fun _ _ _ _ => by simp
theorem kind_lt {i k : Nat} (h : (now ts en i).kind = k) (hk : k ≠ 0) : i < ts.length := by
 rcases Nat.lt_or_ge i ts.length with e | e
 ·exact e
 ·rw [zD8 (by omega)] at h; exact absurd h.symm hk
theorem zAo {s : Str} {i d p i' d' : Nat} (h : zBb ts en s i d = .ok p i' d') : i < ts.length ∧ i' = i + 1 := by
 obtain ⟨h1, _, h2, _⟩ := zGw h; exact ⟨is_lt h1, h2⟩
theorem zC5 {i d i' d' : Nat} {t : Tok} (h : wordS ts en i d = .ok t i' d') : i < ts.length ∧ i' = i + 1 := by
 obtain ⟨_, h1, h2, _⟩ := zK7 h; exact ⟨kind_lt h1 (by decide), h2⟩
structure PG (ts : List Tok) (en : Nat) (n : Nat) : Prop where
 expr : ∀ {least i d t i' d'}, exprS ts en n least i d = .ok t i' d' → i < i' ∧ i' ≤ ts.length
 exprl : ∀ {least i d l t i' d'}, exprL ts en n least i d l = .ok t i' d' → i ≤ i' ∧ (i ≤ ts.length → i' ≤ ts.length)
 unary : ∀ {i d t i' d'}, zB1 ts en n i d = .ok t i' d' → i < i' ∧ i' ≤ ts.length
 post : ∀ {i d t i' d'}, postS ts en n i d = .ok t i' d' → i < i' ∧ i' ≤ ts.length
 postl : ∀ {i d x t i' d'}, postL ts en n i d x = .ok t i' d' → i ≤ i' ∧ (i ≤ ts.length → i' ≤ ts.length)
 prim : ∀ {i d t i' d'}, primS ts en n i d = .ok t i' d' → i < i' ∧ i' ≤ ts.length
 call : ∀ {j i d t i' d'}, callS ts en n j i d = .ok t i' d' → i < i' ∧ i' ≤ ts.length
 args : ∀ {i d acc ks i' d'}, argsL ts en n i d acc = .ok ks i' d' → i ≤ i' ∧ i' < ts.length
 brack : ∀ {i d t i' d'}, zA9 ts en n i d = .ok t i' d' → i < i' ∧ i' ≤ ts.length
theorem keyS_on {i d i' d' : Nat} {t : Tree} (h : keyS ts en i d = .ok t i' d') (hi : i < ts.length) : i < i' ∧ i' ≤ ts.length := by
 unfold keyS at h
 simp only at h
 split at h
 ·injection h; omega
 split at h
 ·injection h; omega
 split at h
 ·obtain ⟨_, _, _, h1, h⟩ := PR.bind_eq h
  obtain ⟨w, _, _, h2, h⟩ := PR.bind_eq h
  obtain ⟨_, _, _, h3, h⟩ := PR.bind_eq h
  have := zAo h1; have := zC5 h2; have := zAo h3
  injection h; omega
 split at h
 ·obtain ⟨_, _, _, h1, h⟩ := PR.bind_eq h
  obtain ⟨_, _, _, h3, h⟩ := PR.bind_eq h
  have := zAo h1; have := zAo h3
  injection h; omega
 ·injection h; omega
theorem zCf : ∀ n, PG ts en n := by
 intro n
 induction n with
 | zero => constructor <;> intros <;> simp_all [exprS, exprL, zB1, postS, postL, primS, callS, argsL, zA9]
 | succ n IH =>
  constructor
  ·intro least i d t i' d' h
   unfold exprS at h
   obtain ⟨l, i1, d1, h1, h⟩ := PR.bind_eq h
   have := IH.unary h1; have := IH.exprl h; omega
  ·intro least i d l t i' d' h
   unfold exprL at h
   split at h
   ·injection h; omega
   ·obtain ⟨r, i1, d1, h1, h⟩ := PR.bind_eq h
    have := IH.expr h1; have := IH.exprl h; omega
  ·intro i d t i' d' h
   unfold zB1 at h
   split at h
   ·obtain ⟨_, d2, h, _⟩ := zCy h
    obtain ⟨k, i1, d1, h1, h⟩ := PR.bind_eq h
    have := IH.unary h1
    injection h; omega
   ·exact IH.post h
  ·intro i d t i' d' h
   unfold postS at h
   obtain ⟨x, i1, d1, h1, h⟩ := PR.bind_eq h
   have := IH.prim h1; have := IH.postl h; omega
  ·intro i d x t i' d' h
   unfold postL at h
   split at h
   ·obtain ⟨w, i1, d1, h1, h⟩ := PR.bind_eq h
    have := zC5 h1; have := IH.postl h; omega
   ·injection h; omega
  ·intro i d t i' d' h
   unfold primS at h
   split at h
   ·rename_i hk
    have := kind_lt hk (by decide)
    injection h; omega
   split at h
   ·rename_i hk
    have := kind_lt hk (by decide)
    split at h
    ·have := IH.call h; omega
    ·injection h; omega
   split at h
   ·exact IH.brack h
   split at h
   ·rename_i hs
    have hi : i < ts.length := by
     simp only [Bool.or_eq_true] at hs
     rcases hs with (((e | e) | e) | e) | e <;> exact is_lt e
    exact keyS_on h hi
   ·cases h
  ·intro j i d t i' d' h
   unfold callS at h
   obtain ⟨_, d2, h, _⟩ := zCy h
   obtain ⟨ks, i1, d1, h1, h⟩ := PR.bind_eq h
   have := IH.args h1
   injection h; omega
  ·intro i d acc ks i' d' h
   unfold argsL at h
   split at h
   ·rename_i hs
    have := is_lt hs
    injection h; omega
   ·obtain ⟨p, i1, d1, h1, h⟩ := PR.bind_eq h
    have := IH.expr h1
    split at h
    ·have := IH.args h; omega
    ·obtain ⟨_, i2, d2, h2, h⟩ := PR.bind_eq h
     have := zAo h2
     split at h
     ·cases h
     ·have := IH.args h; omega
  ·intro i d t i' d' h
   unfold zA9 at h
   split at h
   ·obtain ⟨_, d2, h, _⟩ := zCy h
    obtain ⟨e, i1, d1, h1, h⟩ := PR.bind_eq h
    obtain ⟨_, i2, d3, h2, h⟩ := PR.bind_eq h
    have := IH.expr h1; have := zAo h2
    injection h; omega
   ·cases h
structure FX (ts : List Tok) (en : Nat) (n : Nat) : Prop where
 expr : ∀ {least i d}, 10 * (ts.length - i) + 6 ≤ n → exprS ts en n least i d ≠ .out
 exprl : ∀ {least i d l}, 10 * (ts.length - i) + 2 ≤ n → exprL ts en n least i d l ≠ .out
 unary : ∀ {i d}, 10 * (ts.length - i) + 5 ≤ n → zB1 ts en n i d ≠ .out
 post : ∀ {i d}, 10 * (ts.length - i) + 4 ≤ n → postS ts en n i d ≠ .out
 postl : ∀ {i d x}, 10 * (ts.length - i) + 1 ≤ n → postL ts en n i d x ≠ .out
 prim : ∀ {i d}, 10 * (ts.length - i) + 3 ≤ n → primS ts en n i d ≠ .out
 call : ∀ {j i d}, 10 * (ts.length - i) + 2 ≤ n → i < ts.length → callS ts en n j i d ≠ .out
 args : ∀ {i d acc}, 10 * (ts.length - i) + 7 ≤ n → argsL ts en n i d acc ≠ .out
 brack : ∀ {i d}, 10 * (ts.length - i) + 2 ≤ n → zA9 ts en n i d ≠ .out
theorem keyS_in {i d : Nat} : keyS ts en i d ≠ .out := by
 unfold keyS
 simp only
 split
 ·simp
 split
 ·simp
 split
 ·exact zAx zBm fun _ _ _ _ => zAx zGp fun _ _ _ _ => zAx zBm fun _ _ _ _ => by simp
 split
 ·exact zAx zBm fun _ _ _ _ => zAx zBm fun _ _ _ _ => by simp
 ·simp
theorem zJu : ∀ n, FX ts en n := by
 intro n
 induction n with
 | zero => constructor <;> intros <;> omega
 | succ n IH =>
  have P := zCf (ts := ts) (en := en) n
  constructor
  ·intro least i d h
   unfold exprS
   exact zAx (IH.unary (by omega)) fun _ i' _ h1 => IH.exprl (by have := P.unary h1; omega)
  ·intro least i d l h
   unfold exprL
   split
   ·simp
   ·rename_i hs
    have hi := zKp (ts := ts) (en := en) (i := i) fun e => hs (.inl e)
    exact zAx (IH.expr (by omega)) fun _ i' _ h1 => IH.exprl (by have := P.expr h1; omega)
  ·intro i d h
   unfold zB1
   split
   ·rename_i hs
    have hi : i < ts.length := by
     rcases Bool.or_eq_true_iff.mp hs with e | e
     ·exact is_lt e
     ·exact is_lt e
    exact zGy (zAx (IH.unary (by omega)) fun _ _ _ _ => by simp)
   ·exact IH.post (by omega)
  ·intro i d h
   unfold postS
   exact zAx (IH.prim (by omega)) fun _ i' _ h1 => IH.postl (by have := P.prim h1; omega)
  ·intro i d x h
   unfold postL
   split
   ·rename_i hs
    have hi := is_lt hs
    exact zAx zGp fun _ i' _ h1 => IH.postl (by have := zC5 h1; omega)
   ·simp
  ·intro i d h
   unfold primS
   split
   ·simp
   split
   ·split
    ·rename_i hs
     have hi := is_lt hs
     exact IH.call (by omega) hi
    ·simp
   split
   ·exact IH.brack (by omega)
   split
   ·exact keyS_in
   ·exact zEg
  ·intro j i d h hi
   unfold callS
   exact zGy (zAx (IH.args (by omega)) fun _ _ _ _ => by simp)
  ·intro i d acc h
   unfold argsL
   split
   ·simp
   ·refine zAx (IH.expr (by omega)) fun _ i1 _ h1 => ?_
    have := P.expr h1
    split
    ·rename_i hs
     have hi := is_lt hs
     exact IH.args (by omega)
    ·refine zAx zBm fun _ i2 _ h2 => ?_
     have h3 := zGw h2
     have := is_lt h3.1
     split
     ·exact zEg
     ·exact IH.args (by omega)
  ·intro i d h
   unfold zA9
   split
   ·rename_i hs
    have hi := is_lt hs
    exact zGy (zAx (IH.expr (by omega)) fun _ _ _ _ => zAx zBm fun _ _ _ _ => by simp)
   ·exact zEg
theorem typS_in {i d : Nat} : typS ts en i d ≠ .out := by
 unfold typS
 split
 ·exact zAx zGp fun _ _ _ _ => by simp
 split
 ·simp
 ·exact zEg
theorem zH2 {i d i' d' : Nat} {t : Str} (h : typS ts en i d = .ok t i' d') : i < i' ∧ i' ≤ ts.length := by
 unfold typS at h
 split at h
 ·obtain ⟨_, _, _, h1, h⟩ := PR.bind_eq h
  have := zC5 h1
  injection h; omega
 split at h
 ·rename_i hs
  have hi : i < ts.length := by
   rcases Bool.or_eq_true_iff.mp hs with e | e <;> exact is_lt e
  injection h; omega
 ·cases h
theorem zLg {op i d : Nat} : partS ts en op i d ≠ .out := zAx zGp fun _ _ _ _ => zAx typS_in fun _ _ _ _ => by simp
theorem zHl {op i d i' d' : Nat} {t : Tree} (h : partS ts en op i d = .ok t i' d') : i < i' ∧ i' ≤ ts.length := by
 unfold partS at h
 obtain ⟨_, _, _, h1, h⟩ := PR.bind_eq h
 obtain ⟨_, _, _, h2, h⟩ := PR.bind_eq h
 have := zC5 h1; have := zH2 h2
 injection h; omega
theorem zKy : ∀ (n : Nat) {i d : Nat} {acc : List Tree}, ts.length - i + 1 ≤ n → zCi ts en n i d acc ≠ .out
 | 0, i, d, acc, h => by omega
 | n + 1, i, d, acc, h => by
  unfold zCi
  split
  ·simp
  ·refine zAx zLg fun _ i1 _ h1 => zAx zBm fun _ i2 _ h2 => ?_
   have := zHl h1
   have h3 := zGw h2
   have := is_lt h3.1
   exact zKy n (by omega)
theorem zFe : ∀ (n : Nat) {i d : Nat} {acc ks : List Tree} {i' d' : Nat}, zCi ts en n i d acc = .ok ks i' d' → i < i' ∧ i' ≤ ts.length
 | 0, i, d, acc, ks, i', d', h => by cases h
 | n + 1, i, d, acc, ks, i', d', h => by
  unfold zCi at h
  split at h
  ·rename_i hs
   have := is_lt hs
   injection h; omega
  ·obtain ⟨_, _, _, h1, h⟩ := PR.bind_eq h
   obtain ⟨_, _, _, h2, h⟩ := PR.bind_eq h
   have := zHl h1; have := zAo h2; have := zFe n h; omega
theorem structS_in {n i d : Nat} (h : ts.length - i + 1 ≤ n) : zC9 ts en n i d ≠ .out := by
 unfold zC9
 refine zAx zGp fun _ i1 _ h1 => zAx zBm fun _ i2 _ h2 => zAx zBm fun _ i3 _ h3 => zAx (zKy n ?_) fun _ _ _ _ => by simp
 have := zC5 h1; have := zAo h2; have := zAo h3; omega
theorem structS_on {n i d i' d' : Nat} {t : Tree} (h : zC9 ts en n i d = .ok t i' d') : i < i' ∧ i' ≤ ts.length := by
 unfold zC9 at h
 obtain ⟨_, _, _, h1, h⟩ := PR.bind_eq h
 obtain ⟨_, _, _, h2, h⟩ := PR.bind_eq h
 obtain ⟨_, _, _, h3, h⟩ := PR.bind_eq h
 obtain ⟨_, _, _, h4, h⟩ := PR.bind_eq h
 have := zC5 h1; have := zAo h2; have := zAo h3; have := zFe n h4
 injection h; omega
theorem zH5 : ∀ (n : Nat) {i d : Nat} {acc : List Tree}, ts.length - i + 1 ≤ n → zB8 ts en n i d acc ≠ .out
 | 0, i, d, acc, h => by omega
 | n + 1, i, d, acc, h => by
  unfold zB8
  split
  ·simp
  ·refine zAx zLg fun _ i1 _ h1 => ?_
   have := zHl h1
   split
   ·rename_i hs
    have := is_lt hs
    exact zH5 n (by omega)
   ·refine zAx zBm fun _ i2 _ h2 => ?_
    have h3 := zGw h2
    have := is_lt h3.1
    split
    ·exact zEg
    ·exact zH5 n (by omega)
theorem zDc : ∀ (n : Nat) {i d : Nat} {acc ks : List Tree} {i' d' : Nat}, zB8 ts en n i d acc = .ok ks i' d' → i ≤ i' ∧ i' < ts.length
 | 0, i, d, acc, ks, i', d', h => by cases h
 | n + 1, i, d, acc, ks, i', d', h => by
  unfold zB8 at h
  split at h
  ·rename_i hs
   have := is_lt hs
   injection h; omega
  ·obtain ⟨_, _, _, h1, h⟩ := PR.bind_eq h
   have := zHl h1
   split at h
   ·have := zDc n h; omega
   ·obtain ⟨_, _, _, h2, h⟩ := PR.bind_eq h
    have := zAo h2
    split at h
    ·cases h
    ·have := zDc n h; omega
theorem changeS_in {n i d : Nat} (h : 10 * (ts.length - i) + 6 ≤ n) : zCj ts en n i d ≠ .out := by
 unfold zCj
 refine zAx ((zJu n).post (by omega)) fun l i1 d1 h1 => ?_
 have := (zCf n).post h1
 have hE : ∀ (k : Tree → Tree), (zBb ts en [61] i1 d1).bind (fun _ i d => (exprS ts en n 1 i d).bind fun e i d => .ok (k e) i d) ≠ .out := fun k =>
  zAx zBm fun _ i2 _ h2 => zAx ((zJu n).expr (by have := zAo h2; omega)) fun _ _ _ _ => by simp
 split
 ·exact zEg
 split
 ·simp
 split
 ·exact hE _
 split
 ·exact hE _
 ·exact zEg
theorem zK1 {n i d i' d' : Nat} {t : Tree} (h : zCj ts en n i d = .ok t i' d') : i < i' ∧ i' ≤ ts.length := by
 unfold zCj at h
 obtain ⟨l, i1, d1, h1, h⟩ := PR.bind_eq h
 have := (zCf n).post h1
 split at h
 ·cases h
 split at h
 ·injection h; omega
 split at h
 ·obtain ⟨_, _, _, h2, h⟩ := PR.bind_eq h
  obtain ⟨_, _, _, h3, h⟩ := PR.bind_eq h
  have := zAo h2; have := (zCf n).expr h3
  injection h; omega
 split at h
 ·obtain ⟨_, _, _, h2, h⟩ := PR.bind_eq h
  obtain ⟨_, _, _, h3, h⟩ := PR.bind_eq h
  have := zAo h2; have := (zCf n).expr h3
  injection h; omega
 ·cases h
theorem simpleS_in {n i d : Nat} (h : 10 * (ts.length - i) + 6 ≤ n) : zCp ts en n i d ≠ .out := by
 unfold zCp
 split
 ·exact zAx ((zJu n).brack (by omega)) fun _ _ _ _ => by simp
 split
 ·split
  ·simp
  ·exact zAx ((zJu n).expr (by omega)) fun _ _ _ _ => by simp
 split
 ·exact zAx ((zJu n).expr (by omega)) fun _ _ _ _ => by simp
 ·exact changeS_in h
theorem zKk {n i d i' d' : Nat} {t : Tree} (h : zCp ts en n i d = .ok t i' d') : i < i' ∧ i' ≤ ts.length := by
 unfold zCp at h
 split at h
 ·obtain ⟨_, _, _, h2, h⟩ := PR.bind_eq h
  have := (zCf n).brack h2
  injection h; omega
 split at h
 ·rename_i hs
  have := is_lt hs
  split at h
  ·injection h; omega
  ·obtain ⟨_, _, _, h2, h⟩ := PR.bind_eq h
   have := (zCf n).expr h2
   injection h; omega
 split at h
 ·obtain ⟨_, _, _, h2, h⟩ := PR.bind_eq h
  have := (zCf n).expr h2
  injection h; omega
 ·exact zK1 h
structure SG (ts : List Tok) (en : Nat) (n : Nat) : Prop where
 stmt : ∀ {i d t i' d'}, stmtS ts en n i d = .ok t i' d' → i < i' ∧ i' ≤ ts.length
 branch : ∀ {i d t i' d'}, zBu ts en n i d = .ok t i' d' → i < i' ∧ i' ≤ ts.length
 block : ∀ {i d t i' d'}, zB0 ts en n i d = .ok t i' d' → i < i' ∧ i' ≤ ts.length
 stmts : ∀ {i d acc ks i' d'}, zCd ts en n i d acc = .ok ks i' d' → i < i' ∧ i' ≤ ts.length
theorem zIh : ∀ n, SG ts en n := by
 intro n
 induction n with
 | zero => constructor <;> intros <;> simp_all [stmtS, zBu, zB0, zCd]
 | succ n IH =>
  constructor
  ·intro i d t i' d' h
   unfold stmtS at h
   split at h
   ·exact IH.branch h
   split at h
   ·obtain ⟨_, _, _, h2, h⟩ := PR.bind_eq h
    obtain ⟨_, _, _, h3, h⟩ := PR.bind_eq h
    have := (zCf n).expr h2; have := IH.block h3
    injection h; omega
   ·obtain ⟨_, _, _, h2, h⟩ := PR.bind_eq h
    obtain ⟨_, _, _, h3, h⟩ := PR.bind_eq h
    have := zKk h2; have := zAo h3
    injection h; omega
  ·intro i d t i' d' h
   unfold zBu at h
   obtain ⟨_, _, _, h1, h⟩ := PR.bind_eq h
   obtain ⟨_, _, _, h2, h⟩ := PR.bind_eq h
   obtain ⟨_, i3, _, h3, h⟩ := PR.bind_eq h
   have := zAo h1; have := (zCf n).expr h2; have := IH.block h3
   split at h
   ·obtain ⟨_, i4, _, h4, h⟩ := PR.bind_eq h
    have : i3 + 1 < i4 ∧ i4 ≤ ts.length := by
     split at h4
     ·exact IH.branch h4
     ·exact IH.block h4
    injection h; omega
   ·injection h; omega
  ·intro i d t i' d' h
   unfold zB0 at h
   split at h
   ·obtain ⟨_, d2, h, _⟩ := zCy h
    obtain ⟨ks, i1, d1, h1, h⟩ := PR.bind_eq h
    have := IH.stmts h1
    injection h; omega
   ·cases h
  ·intro i d acc ks i' d' h
   unfold zCd at h
   split at h
   ·rename_i hs
    have := is_lt hs
    injection h; omega
   ·obtain ⟨_, _, _, h2, h⟩ := PR.bind_eq h
    have := IH.stmt h2; have := IH.stmts h; omega
structure SF (ts : List Tok) (en : Nat) (n : Nat) : Prop where
 stmt : ∀ {i d}, 10 * (ts.length - i) + 8 ≤ n → stmtS ts en n i d ≠ .out
 branch : ∀ {i d}, 10 * (ts.length - i) + 7 ≤ n → zBu ts en n i d ≠ .out
 block : ∀ {i d}, 10 * (ts.length - i) + 1 ≤ n → zB0 ts en n i d ≠ .out
 stmts : ∀ {i d acc}, 10 * (ts.length - i) + 9 ≤ n → zCd ts en n i d acc ≠ .out
theorem sf_all : ∀ n, SF ts en n := by
 intro n
 induction n with
 | zero => constructor <;> intros <;> omega
 | succ n IH =>
  constructor
  ·intro i d h
   unfold stmtS
   split
   ·exact IH.branch (by omega)
   split
   ·exact zAx ((zJu n).expr (by omega)) fun _ i1 _ h1 => zAx (IH.block (by have := (zCf n).expr h1; omega)) fun _ _ _ _ => by simp
   ·exact zAx (simpleS_in (by omega)) fun _ i1 _ h1 => zAx zBm fun _ _ _ _ => by simp
  ·intro i d h
   unfold zBu
   refine zAx zBm fun _ i1 _ h1 => ?_
   have := zAo h1
   refine zAx ((zJu n).expr (by omega)) fun _ i2 _ h2 => ?_
   have := (zCf n).expr h2
   refine zAx (IH.block (by omega)) fun _ i3 _ h3 => ?_
   have := (zIh n).block h3
   split
   ·rename_i hs
    have := is_lt hs
    refine zAx ?_ fun _ _ _ _ => by simp
    split
    ·exact IH.branch (by omega)
    ·exact IH.block (by omega)
   ·simp
  ·intro i d h
   unfold zB0
   split
   ·rename_i hs
    have := is_lt hs
    exact zGy (zAx (IH.stmts (by omega)) fun _ _ _ _ => by simp)
   ·exact zEg
  ·intro i d acc h
   unfold zCd
   split
   ·simp
   ·rename_i hs
    exact zAx (IH.stmt (by omega)) fun _ i1 _ h1 => IH.stmts (by have := (zIh n).stmt h1; omega)
theorem funcS_in {n i d : Nat} (h : 10 * (ts.length - i) + 10 ≤ n) : funcS ts en n i d ≠ .out := by
 unfold funcS
 refine zAx zGp fun _ i1 _ h1 => zAx zBm fun _ i2 _ h2 => ?_
 have := zC5 h1; have := zAo h2
 refine zAx (zH5 n (by omega)) fun _ i3 _ h3 => zAx zBm fun _ i4 _ h4 => ?_
 have := zDc n h3; have := zAo h4
 refine zAx ?_ fun _ i5 _ h5 => zAx ((sf_all n).block ?_) fun _ _ _ _ => by simp
 ·split
  ·simp
  ·exact typS_in
 ·split at h5
  ·injection h5; omega
  ·have := zH2 h5; omega
theorem funcS_on {n i d i' d' : Nat} {t : Tree} (h : funcS ts en n i d = .ok t i' d') : i < i' ∧ i' ≤ ts.length := by
 unfold funcS at h
 obtain ⟨_, i1, _, h1, h⟩ := PR.bind_eq h
 obtain ⟨_, i2, _, h2, h⟩ := PR.bind_eq h
 obtain ⟨_, i3, _, h3, h⟩ := PR.bind_eq h
 obtain ⟨_, i4, _, h4, h⟩ := PR.bind_eq h
 obtain ⟨_, i5, _, h5, h⟩ := PR.bind_eq h
 obtain ⟨_, i6, _, h6, h⟩ := PR.bind_eq h
 have := zC5 h1; have := zAo h2; have := zDc n h3; have := zAo h4; have := (zIh n).block h6
 have : i4 ≤ i5 := by
  split at h5
  ·injection h5; omega
  ·have := zH2 h5; omega
 injection h; omega
theorem declS_in {n i d : Nat} (h : 10 * (ts.length - i) + 10 ≤ n) : declS ts en n i d ≠ .out := by
 unfold declS
 split
 ·exact structS_in (by omega)
 split
 ·exact funcS_in (by omega)
 split
 ·exact zAx zLg fun _ _ _ _ => zAx zBm fun _ _ _ _ => by simp
 ·exact zEg
theorem zL3 {n i d i' d' : Nat} {t : Tree} (h : declS ts en n i d = .ok t i' d') : i < i' ∧ i' ≤ ts.length := by
 unfold declS at h
 split at h
 ·have := structS_on h; omega
 split at h
 ·have := funcS_on h; omega
 split at h
 ·obtain ⟨_, i1, _, h1, h⟩ := PR.bind_eq h
  obtain ⟨_, i2, _, h2, h⟩ := PR.bind_eq h
  have := zHl h1; have := zAo h2
  injection h; omega
 ·cases h
theorem progL_in {m : Nat} (hm : 10 * ts.length + 10 ≤ m) : ∀ (k : Nat) {i d : Nat} {acc : List Tree}, ts.length - i + 1 ≤ k → progL ts en k m i d acc ≠ .out
 | 0, i, d, acc, h => by omega
 | k + 1, i, d, acc, h => by
  unfold progL
  split
  ·exact zAx (declS_in (by omega)) fun _ i1 _ h1 => progL_in hm k (by have := zL3 h1; omega)
  ·simp
end
inductive FineT (en : Nat) : Tree → Prop
 | mk {op : Nat} {name typ : Str} {n : Int} {pos : Nat} {kids : List Tree} : op ≠ 0 → pos ≤ en → (∀ k, k ∈ kids → FineT en k) → FineT en (.mk op name typ n pos kids)
section
variable {ts : List Tok} {en : Nat}
theorem FineT.pos {t : Tree} (h : FineT en t) : t.pos ≤ en := by cases h; assumption
theorem FineT.kids {t : Tree} (h : FineT en t) : ∀ k ∈ t.kids, FineT en k := by cases h; assumption
structure StF (ts : List Tok) (en : Nat) (n : Nat) : Prop where
 stmt : ∀ {i d t i' d'}, stmtS ts en n i d = .ok t i' d' → FineT en t
 branch : ∀ {i d t i' d'}, zBu ts en n i d = .ok t i' d' → FineT en t
 block : ∀ {i d t i' d'}, zB0 ts en n i d = .ok t i' d' → FineT en t
 stmts : ∀ {i d acc ks i' d'}, zCd ts en n i d acc = .ok ks i' d' → (∀ k ∈ acc, FineT en k) → ∀ k ∈ ks, FineT en k
end
end Go.Pa
