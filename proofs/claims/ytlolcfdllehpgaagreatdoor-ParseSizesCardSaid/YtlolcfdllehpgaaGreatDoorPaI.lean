/- PaW3 PaW4 PaW5 PaW6 PaW7 PaW8 PaW9 PaW10 PaW11 PaW12 -/
import Derived.Test.YtlolcfdllehpgaaGreatDoorPaH
set_option linter.unusedSimpArgs false
set_option linter.unusedVariables false
set_option linter.unusedSectionVars false
namespace Go.Ev
open Go Go.Pa
set_option linter.unusedSimpArgs false
set_option linter.unusedVariables false
set_option maxRecDepth 100000
set_option maxHeartbeats 4000000
structure Only (k : Nat) (h h' : AH) : Prop where
 next : h'.next = h.next
 keep : ∀ j, j ≠ k → h'.mem.get j = h.mem.get j
theorem Only.set {h : AH} {k : Nat} {o : AObj} : Only k h (h.set k o) := ⟨by rw [AH.set_next], fun j hj => by rw [AH.set_mem, T.get_put_ne _ _ _ _ (Ne.symm hj)]⟩
theorem Only.stay {F : Nat → Prop} {h h' : AH} {k : Nat} (x : Only k h h') (hk : ¬ F k) : Stay F h h' := ⟨Nat.le_of_eq x.next.symm, fun j hj _ => x.keep j fun e => hk (e ▸ hj)⟩
theorem Only.rs {ts : List Tok} {en r i d k : Nat} {h h' : AH} (x : Only k h h') (R : RS ts en h r i d) (hk : r < k) : RS ts en h' r i d := R.keep (Nat.le_of_eq x.next.symm) fun j hj => x.keep j (by omega)
theorem Only.mb {r k : Nat} {a h h' : AH} (x : Only k h h') (b : MoreBut r a h) (hk : a.next ≤ k) : MoreBut r a h' := ⟨by rw [x.next]; exact b.next, fun j h1 h2 => by rw [x.keep j (by omega), b.keep j h1 h2]⟩
theorem MoreBut.stay {F : Nat → Prop} {r : Nat} {h h' : AH} (x : MoreBut r h h') (hr : ¬ F r) : Stay F h h' := ⟨x.next, fun k hf hk => x.keep k hk fun e => hr (e ▸ hf)⟩
theorem More.stay {F : Nat → Prop} {h h' : AH} (x : More h h') : Stay F h h' := ⟨x.next, fun k _ hk => x.keep k hk⟩
theorem zAr {α β : Type} {a : α} {i d : Nat} {k : α → Nat → Nat → PR β} : (PR.ok a i d).bind k = k a i d := rfl
theorem zD7 {α β γ : Type} {x : PR α} {f : α → Nat → Nat → PR β} {g : β → Nat → Nat → PR γ} : (x.bind f).bind g = x.bind fun a i d => (f a i d).bind g := by cases x <;> rfl
abbrev okT (t : Tree) (lo : Nat) (v : AV) (h1 : AH) : Prop := ∃ u, v = .agg [u] ∧ TreeR h1 (fun k => lo ≤ k) u t
section
variable {tab : Nat → Option AFunc} {h : AH} {loc : T AV} {d : List AV} {Q : Res → Prop}
theorem zCh {n K b rc sb src : Nat} {u w : AV} {cb crc : T AV} {pb : Option Nat} {rb : Bool} {Qf E : AV → AH → Prop} (hn : loc.get n = some (.ptr b 0)) (hb : h.mem.get b = some (.cells cb sb pb rb)) (hu : cb.get 0 = some u)
  (hK : loc.get K = some (.ptr rc 0)) (hr : h.mem.get rc = some (.cells crc src none false)) (hw : crc.get 0 = some w) (q : ∀ h', Only rc h h' → Qf (.agg [u]) h') :
  WC tab (.seq (.ops [⟨.loadN 1 (.l n), none, none, []⟩, ⟨.store 1 (.l K) (.t 0), none, none, []⟩]) .ret) loc [] h (zDw [.cellN 1 (.l K)] Qf E) := by
 refine zAc (zAb fun Q1 hQ => ?_)
 simp (disch := omega) only [EL, ↓K3, ↓K1, reduceIte, Nat.reduceEqDiff, Nat.reduceAdd, Nat.reduceLeDiff, hn, hb, hu, hK, hr, hw, zAe]
 refine hQ _ ?_
 clear hQ Q1
 refine zAk ?_
 refine zA3 (id := rc) hK AH.get_set (lst := [u]) (by rw [zAe, T.get_put_self]; rfl) (q _ Only.set)
theorem zIx {n K b rc sb src : Nat} {u w : AV} {cb crc : T AV} {pb : Option Nat} {rb : Bool} (hn : loc.get n = some (.ptr b 0)) (hb : h.mem.get b = some (.cells cb sb pb rb)) (hu : cb.get 0 = some u)
  (hK : loc.get K = some (.ptr rc 0)) (hr : h.mem.get rc = some (.cells crc src none false)) (hw : crc.get 0 = some w) (q : ∀ h', Only rc h h' → (∀ Qf E, Qf (.agg [u]) h' → zDw [.cellN 1 (.l K)] Qf E (.ret loc [] h')) → Q (.ret loc d h')) :
  WC tab (.seq (.ops [⟨.loadN 1 (.l n), none, none, []⟩, ⟨.store 1 (.l K) (.t 0), none, none, []⟩]) .ret) loc d h Q := by
 refine zAc (zAb fun Q1 hQ => ?_)
 simp (disch := omega) only [EL, ↓K3, ↓K1, reduceIte, Nat.reduceEqDiff, Nat.reduceAdd, Nat.reduceLeDiff, hn, hb, hu, hK, hr, hw, zAe]
 refine hQ _ ?_
 clear hQ Q1
 refine zAk ?_
 refine q _ Only.set fun Qf E hq => zA3 (id := rc) hK AH.get_set (lst := [u]) (by rw [zAe, T.get_put_self]; rfl) hq
theorem zFj {K rc src : Nat} {u w : AV} {crc : T AV} {Q1 : Res → Prop} {whole : List AOper} {tmp : List AV} {loc0 : T AV} (hK : loc.get K = some (.ptr rc 0)) (hr : h.mem.get rc = some (.cells crc src none false)) (hw : crc.get 0 = some w)
  (q : ∀ h', Only rc h h' → (∃ c, h'.mem.get rc = some (.cells c src none false) ∧ c.get 0 = some u) → Q1 (.norm loc d h')) :
  PE tab whole loc0 [⟨.store 1 (.l K) (.t 0), none, none, []⟩] loc (.agg [u] :: tmp) d h Q1 := by
 simp (disch := omega) only [EL, ↓K3, ↓K1, reduceIte, Nat.reduceEqDiff, Nat.reduceAdd, Nat.reduceLeDiff, hK, hr, hw]
 exact q _ Only.set ⟨_, AH.get_set, T.get_put_self _ _ _⟩
theorem zJo {K rc src : Nat} {u : AV} {c : T AV} {pb : Option Nat} {rb : Bool} {Qf E : AV → AH → Prop} (hK : loc.get K = some (.ptr rc 0)) (hr : h.mem.get rc = some (.cells c src pb rb)) (hu : c.get 0 = some u) (q : Qf (.agg [u]) h) :
  WC tab .ret loc [] h (zDw [.cellN 1 (.l K)] Qf E) := by
 refine zAk (zA3 (id := rc) hK hr (lst := [u]) ?_ q)
 rw [zAe, hu]; rfl
end
section
variable {tab : Nat → Option AFunc} {h : AH} (H : PT tab) {ts : List Tok} {en r i d : Nat}
include H in
theorem typ_ge (R : RS ts en h r i d) : GS tab 99 [.ptr r 0] ts en r i d h (typS ts en i d) fun s v _ => v = sv s := by
 intro y hy hne
 have i0 : zAh [.ptr r 0] = zAd [.ptr r 0] := rfl
 have e0 : (AV.str 0 0) = sv [] := rfl
 have e1 : (AV.str 1 42) = sv [42] := rfl
 have e2 : (AV.str 3 7630441) = sv [105, 110, 116] := rfl
 have e3 : (AV.str 4 1819242338) = sv [98, 111, 111, 108] := rfl
 refine ge_of H.t99 rfl ?_
 refine zAc (zAb fun Q1 hQ => ?_)
 simp (disch := omega) only [EL, ↓K3, ↓K1, reduceIte, Nat.reduceEqDiff, Nat.reduceAdd, Nat.reduceLeDiff, i0, e0]
 refine hQ _ ?_
 clear hQ Q1
 refine zAc ?_
 refine zAy ?_
 refine zAc (zAb fun Q1 hQ => ?_)
 simp (disch := omega) only [EL, ↓K3, ↓K1, reduceIte, Nat.reduceEqDiff, Nat.reduceAdd, Nat.reduceLeDiff, i0, e1]
 refine (zDl H R [42]).to fun v h1 q => ?_
 obtain ⟨rfl, R1, b1⟩ := q
 simp (disch := omega) only [EL, ↓K3, ↓K1, reduceIte, Nat.reduceEqDiff, Nat.reduceAdd, Nat.reduceLeDiff, i0]
 refine hQ _ ?_
 clear hQ Q1
 simp only [zAa]
 unfold typS at hy
 cases hc : isT ts en [42] i with
 | true =>
  rw [hc, if_pos rfl] at R1
  rw [hc, if_pos rfl] at hy
  refine zAq (by simp (disch := omega) only [EL, ↓K3, ↓K1, reduceIte, Nat.reduceEqDiff, Nat.reduceAdd, Nat.reduceLeDiff, hc]) ?_
  refine zAc (zAb fun Q1 hQ => ?_)
  simp (disch := omega) only [EL, ↓K3, ↓K1, reduceIte, Nat.reduceEqDiff, Nat.reduceAdd, Nat.reduceLeDiff, i0]
  refine (zGq H R1 _ rfl (zAw hy hne)).mono (fun v h2 q => ?_) (fun v h2 e => ?_)
  rotate_left
  ·obtain ⟨p, er, hx, rfl, fr'⟩ := e
   rw [hx] at hy
   exact hQ _ ⟨p, er, hy.symm, rfl, MoreBut.trans b1 fr'⟩
  obtain ⟨t, i, hx, lib2, R2, b2, q⟩ := q
  rw [hx, zAr] at hy
  have nb2 := MoreBut.next b2
  obtain ⟨rfl, tb⟩ := q
  have f1 : ∀ h', zCi 1 1 false (.c (tokV t)) .leaf [] h' = .val (sv t.text) h' := fun _ => rfl
  simp (disch := omega) only [EL, ↓K3, ↓K1, reduceIte, Nat.reduceEqDiff, Nat.reduceAdd, Nat.reduceLeDiff, i0, f1]
  have gp : GP tab 119 [sv t.text] h2 fun v h3 => v = sv (42 :: t.text) ∧ h3 = h2 := by
   have j0 : zAh [sv t.text] = zAd [sv t.text] := rfl
   refine GE.gp (ge_of H.t119 rfl ?_) (E := fun _ _ => False) fun _ _ => id
   refine zAc (zAb fun Q1 hQ => ?_)
   simp (disch := omega) only [EL, ↓K3, ↓K1, reduceIte, Nat.reduceEqDiff, Nat.reduceAdd, Nat.reduceLeDiff, j0, e0]
   refine hQ _ ?_
   clear hQ Q1
   have ad : ∀ h', oBin .add (.c (sv [42])) (.c (sv t.text)) .leaf [] h' = .val (sv ([42] ++ t.text)) h' := fun h' => add_sv (by simp; omega)
   refine zAc (zAb fun Q1 hQ => ?_)
   simp (disch := omega) only [EL, ↓K3, ↓K1, reduceIte, Nat.reduceEqDiff, Nat.reduceAdd, Nat.reduceLeDiff, j0, e1, ad]
   refine hQ _ ?_
   clear hQ Q1
   refine zAk ?_
   simp (disch := omega) only [EL, ↓K3, ↓K1, reduceIte, Nat.reduceEqDiff, Nat.reduceAdd, Nat.reduceLeDiff]
  rw [ge_rw gp]
  simp (disch := omega) only [EL, ↓K3, ↓K1, reduceIte, Nat.reduceEqDiff, Nat.reduceAdd, Nat.reduceLeDiff, i0]
  refine hQ _ ?_
  refine zAk ?_
  simp (disch := omega) only [EL, ↓K3, ↓K1, reduceIte, Nat.reduceEqDiff, Nat.reduceAdd, Nat.reduceLeDiff]
  exact ⟨_, _, hy.symm, by omega, R2, b1.trans b2, rfl⟩
 | false =>
  rw [hc, if_neg (by simp)] at R1
  rw [hc, if_neg (by simp)] at hy
  refine wc_no (by simp (disch := omega) only [EL, ↓K3, ↓K1, reduceIte, Nat.reduceEqDiff, Nat.reduceAdd, Nat.reduceLeDiff, hc]) ?_
  refine zAc (zAb fun Q1 hQ => ?_)
  simp (disch := omega) only [EL, ↓K3, ↓K1, reduceIte, Nat.reduceEqDiff, Nat.reduceAdd, Nat.reduceLeDiff, i0, e2]
  refine (is_gp H R1 _).to fun v h2 q => ?_
  obtain ⟨rfl, m2⟩ := q
  have R2 := R1.more m2
  have b2 := b1.trans (m2.but r)
  cases h3 : isT ts en [105, 110, 116] i with
  | true =>
   rw [h3, Bool.true_or, if_pos rfl] at hy
   simp (disch := omega) only [EL, ↓K3, ↓K1, reduceIte, Nat.reduceEqDiff, Nat.reduceAdd, Nat.reduceLeDiff, i0, h3]
   refine hQ _ ?_
   clear hQ Q1
   simp only [zAa]
   refine zAq (by simp (disch := omega) only [EL, ↓K3, ↓K1, reduceIte, Nat.reduceEqDiff, Nat.reduceAdd, Nat.reduceLeDiff]) ?_
   refine zAc (zAb fun Q1 hQ => ?_)
   simp (disch := omega) only [EL, ↓K3, ↓K1, reduceIte, Nat.reduceEqDiff, Nat.reduceAdd, Nat.reduceLeDiff, i0]
   refine (zB5 H R2 (is_lt h3)).to fun v h4 q => ?_
   obtain ⟨rfl, R4, b4⟩ := q
   have f1 : ∀ h', zCi 1 1 false (.c (tokV (now ts en i))) .leaf [] h' = .val (sv (now ts en i).text) h' := fun _ => rfl
   simp (disch := omega) only [EL, ↓K3, ↓K1, reduceIte, Nat.reduceEqDiff, Nat.reduceAdd, Nat.reduceLeDiff, i0, f1]
   refine hQ _ ?_
   refine zAk ?_
   simp (disch := omega) only [EL, ↓K3, ↓K1, reduceIte, Nat.reduceEqDiff, Nat.reduceAdd, Nat.reduceLeDiff]
   exact ⟨_, _, hy.symm, by omega, R4, b2.trans b4, rfl⟩
  | false =>
   rw [h3, Bool.false_or] at hy
   simp (disch := omega) only [EL, ↓K3, ↓K1, reduceIte, Nat.reduceEqDiff, Nat.reduceAdd, Nat.reduceLeDiff, i0, h3, e3]
   refine (is_gp H R2 _).to fun v h4 q => ?_
   obtain ⟨rfl, m4⟩ := q
   have R4 := R2.more m4
   have b4 := b2.trans (m4.but r)
   simp (disch := omega) only [EL, ↓K3, ↓K1, reduceIte, Nat.reduceEqDiff, Nat.reduceAdd, Nat.reduceLeDiff, i0]
   refine hQ _ ?_
   clear hQ Q1
   simp only [zAa]
   cases h5 : isT ts en [98, 111, 111, 108] i with
   | true =>
    rw [h5, if_pos rfl] at hy
    refine zAq (by simp (disch := omega) only [EL, ↓K3, ↓K1, reduceIte, Nat.reduceEqDiff, Nat.reduceAdd, Nat.reduceLeDiff, h5]) ?_
    refine zAc (zAb fun Q1 hQ => ?_)
    simp (disch := omega) only [EL, ↓K3, ↓K1, reduceIte, Nat.reduceEqDiff, Nat.reduceAdd, Nat.reduceLeDiff, i0]
    refine (zB5 H R4 (is_lt h5)).to fun v h6 q => ?_
    obtain ⟨rfl, R6, b6⟩ := q
    have f1 : ∀ h', zCi 1 1 false (.c (tokV (now ts en i))) .leaf [] h' = .val (sv (now ts en i).text) h' := fun _ => rfl
    simp (disch := omega) only [EL, ↓K3, ↓K1, reduceIte, Nat.reduceEqDiff, Nat.reduceAdd, Nat.reduceLeDiff, i0, f1]
    refine hQ _ ?_
    refine zAk ?_
    simp (disch := omega) only [EL, ↓K3, ↓K1, reduceIte, Nat.reduceEqDiff, Nat.reduceAdd, Nat.reduceLeDiff]
    exact ⟨_, _, hy.symm, by omega, R6, b4.trans b6, rfl⟩
   | false =>
    rw [h5, if_neg (by simp)] at hy
    refine wc_no (by simp (disch := omega) only [EL, ↓K3, ↓K1, reduceIte, Nat.reduceEqDiff, Nat.reduceAdd, Nat.reduceLeDiff, h5]) ?_
    refine zAo ?_
    simp only [zAi, zAa]
    refine zAc (zAb fun Q1 hQ => ?_)
    simp (disch := omega) only [EL, ↓K3, ↓K1, reduceIte, Nat.reduceEqDiff, Nat.reduceAdd, Nat.reduceLeDiff, i0]
    refine (zEc H R4).mono (fun v h6 q => q.elim) fun v h6 q => ?_
    exact hQ _ ⟨_, _, hy.symm, q.1, b4.trans (q.2.but r)⟩
include H in
theorem zFz {kv : AV} {op : Nat} {t : Tok} (hkv : ∀ h' : AH, oMove (.c kv) .leaf [] h' = .val kv h') (hkc : cellsOf kv = some [kv]) : GP tab 97 [.int .i64 (op : Int), tokV t, kv] h fun v h1 => ∃ id, v = .agg [.ptr id 0] ∧ h.next ≤ id ∧ id < h1.next ∧ NodeC h1 id op t.text [] 0 t.pos kv ∧ More h h1 := by
 have i0 : zAh [.int .i64 (op : Int), tokV t, kv] = zAd [.int .i64 (op : Int), tokV t, kv] := rfl
 have e0 : (AV.str 0 0) = sv [] := rfl
 refine GE.gp (ge_of H.t97 rfl ?_) (E := fun _ _ => False) fun _ _ => id
 refine zDz (l := [.int .i64 (t.kind : Int), sv t.text, .int .i64 (t.pos : Int)]) rfl fun h1 n1 g1 g2 m1 => ?_
 refine zAc (zAb fun Q1 hQ => ?_)
 simp (disch := omega) only [EL, ↓K3, ↓K1, reduceIte, Nat.reduceEqDiff, Nat.reduceAdd, Nat.reduceLeDiff, i0, g1, g2, e0, hkv, hkc]
 refine hQ _ ?_
 clear hQ Q1
 have n2 : (h.next + 1 = h1.next) = False := eq_false (by omega)
 have a1 : ∀ o, h1.next < (h1.add o).next := fun o => Nat.lt_succ_self _
 refine zAk ?_
 try simp only [zAg, zAf]
 refine zA3 (id := h.next + 1) (by simp (disch := omega) only [EL, ↓K3, ↓K1, reduceIte, Nat.reduceEqDiff, Nat.reduceAdd, Nat.reduceLeDiff]) AH.get_set (lst := [.ptr h1.next 0]) (by simp (disch := omega) only [EL, ↓K3, ↓K1, reduceIte, Nat.reduceEqDiff, Nat.reduceAdd, Nat.reduceLeDiff, zAe]) ?_
 refine ⟨_, rfl, by omega, by rw [AH.set_next]; exact a1 _, ⟨_, by rw [AH.set_mem, T.get_put_ne _ _ _ _ (by omega), AH.add_mem, T.get_put_self], rfl, rfl, rfl, rfl, rfl, rfl⟩, (m1.trans (More.add _ _)).set (by omega) _⟩
include H in
theorem zCy {kv : AV} {op pos : Nat} (hkv : ∀ h' : AH, oMove (.c kv) .leaf [] h' = .val kv h') (hkc : cellsOf kv = some [kv]) : GP tab 40 [.int .i64 (op : Int), .int .i64 (pos : Int), kv] h fun v h1 => ∃ id, v = .agg [.ptr id 0] ∧ h.next ≤ id ∧ id < h1.next ∧ NodeC h1 id op [] [] 0 pos kv ∧ More h h1 := by
 have i0 : zAh [.int .i64 (op : Int), .int .i64 (pos : Int), kv] = zAd [.int .i64 (op : Int), .int .i64 (pos : Int), kv] := rfl
 have e0 : (AV.str 0 0) = sv [] := rfl
 refine GE.gp (ge_of H.t40 rfl ?_) (E := fun _ _ => False) fun _ _ => id
 refine zBc fun h1 n1 g2 m1 => ?_
 refine zAc (zAb fun Q1 hQ => ?_)
 simp (disch := omega) only [EL, ↓K3, ↓K1, reduceIte, Nat.reduceEqDiff, Nat.reduceAdd, Nat.reduceLeDiff, i0, g2, e0, hkv, hkc]
 refine hQ _ ?_
 clear hQ Q1
 have n2 : (h.next = h1.next) = False := eq_false (by omega)
 have a1 : ∀ o, h1.next < (h1.add o).next := fun o => Nat.lt_succ_self _
 refine zAk ?_
 try simp only [zAg, zAf]
 refine zA3 (id := h.next) (by simp (disch := omega) only [EL, ↓K3, ↓K1, reduceIte, Nat.reduceEqDiff, Nat.reduceAdd, Nat.reduceLeDiff]) AH.get_set (lst := [.ptr h1.next 0]) (by simp (disch := omega) only [EL, ↓K3, ↓K1, reduceIte, Nat.reduceEqDiff, Nat.reduceAdd, Nat.reduceLeDiff, zAe]) ?_
 refine ⟨_, rfl, by omega, by rw [AH.set_next]; exact a1 _, ⟨_, by rw [AH.set_mem, T.get_put_ne _ _ _ _ (by omega), AH.add_mem, T.get_put_self], rfl, rfl, rfl, rfl, rfl, rfl⟩, (m1.trans (More.add _ _)).set (by omega) _⟩
end
end Go.Ev
namespace Go.Ev
open Go Go.Pa
set_option linter.unusedSimpArgs false
set_option linter.unusedVariables false
set_option maxRecDepth 100000
set_option maxHeartbeats 4000000
theorem NodeC.set {h : AH} {id op : Nat} {name typ : Str} {n : Int} {pos : Nat} {kv : AV} (x : NodeC h id op name typ n pos kv) : ∃ c, h.mem.get id = some (.cells c 6 none false) ∧ c.get 0 = some (.int .i64 (op : Int)) ∧ c.get 1 = some (sv name) ∧ c.get 2 = some (sv typ) ∧ c.get 3 = some (.int .i64 n) ∧ c.get 4 = some (.int .i64 (pos : Int)) ∧ c.get 5 = some kv ∧
  (∀ ty, NodeC (h.set id (.cells (T.put (some (sv ty)) c 2) 6 none false)) id op name ty n pos kv) ∧ (∀ h' : AH, h'.mem.get id = h.mem.get id → ∀ kv', NodeC (h'.set id (.cells (T.put (some kv') c 5) 6 none false)) id op name typ n pos kv') ∧
  (∀ n', NodeC (h.set id (.cells (T.put (some (.int .i64 n')) c 3) 6 none false)) id op name typ n' pos kv) ∧ (∀ op' : Nat, NodeC (h.set id (.cells (T.put (some (.int .i64 (op' : Int))) c 0) 6 none false)) id op' name typ n pos kv) := by
 obtain ⟨c, g, c0, c1, c2, c3, c4, c5⟩ := x
 refine ⟨c, g, c0, c1, c2, c3, c4, c5, fun ty => ?_, fun h' _ kv' => ?_, fun n' => ?_, fun op' => ?_⟩
 ·exact ⟨_, AH.get_set, by rw [T.get_put_ne _ _ _ _ (by omega)]; exact c0, by rw [T.get_put_ne _ _ _ _ (by omega)]; exact c1, T.get_put_self _ _ _, by rw [T.get_put_ne _ _ _ _ (by omega)]; exact c3, by rw [T.get_put_ne _ _ _ _ (by omega)]; exact c4, by rw [T.get_put_ne _ _ _ _ (by omega)]; exact c5⟩
 ·exact ⟨_, AH.get_set, by rw [T.get_put_ne _ _ _ _ (by omega)]; exact c0, by rw [T.get_put_ne _ _ _ _ (by omega)]; exact c1, by rw [T.get_put_ne _ _ _ _ (by omega)]; exact c2, by rw [T.get_put_ne _ _ _ _ (by omega)]; exact c3, by rw [T.get_put_ne _ _ _ _ (by omega)]; exact c4, T.get_put_self _ _ _⟩
 ·exact ⟨_, AH.get_set, by rw [T.get_put_ne _ _ _ _ (by omega)]; exact c0, by rw [T.get_put_ne _ _ _ _ (by omega)]; exact c1, by rw [T.get_put_ne _ _ _ _ (by omega)]; exact c2, T.get_put_self _ _ _, by rw [T.get_put_ne _ _ _ _ (by omega)]; exact c4, by rw [T.get_put_ne _ _ _ _ (by omega)]; exact c5⟩
 ·exact ⟨_, AH.get_set, T.get_put_self _ _ _, by rw [T.get_put_ne _ _ _ _ (by omega)]; exact c1, by rw [T.get_put_ne _ _ _ _ (by omega)]; exact c2, by rw [T.get_put_ne _ _ _ _ (by omega)]; exact c3, by rw [T.get_put_ne _ _ _ _ (by omega)]; exact c4, by rw [T.get_put_ne _ _ _ _ (by omega)]; exact c5⟩
def BoxN (h : AH) (b id : Nat) : Prop := ∃ c, h.mem.get b = some (.cells c 1 none false) ∧ c.get 0 = some (.ptr id 0)
def Cell1 (h : AH) (b : Nat) : Prop := ∃ c w, h.mem.get b = some (.cells c 1 none false) ∧ c.get 0 = some w
theorem BoxN.keep {h h' : AH} {b id : Nat} (x : BoxN h b id) (e : h'.mem.get b = h.mem.get b) : BoxN h' b id := by obtain ⟨c, g, k⟩ := x; exact ⟨c, by rw [e]; exact g, k⟩
theorem Cell1.keep {h h' : AH} {b : Nat} (x : Cell1 h b) (e : h'.mem.get b = h.mem.get b) : Cell1 h' b := by obtain ⟨c, w, g, k⟩ := x; exact ⟨c, w, by rw [e]; exact g, k⟩
section
variable {tab : Nat → Option AFunc} {h : AH} {loc : T AV} {d : List AV} {Q : Res → Prop}
theorem zFo {K b id op pos lo r : Nat} {name typ : Str} {n : Int} {kv : AV} {X : List Nat} {ks : List Tree} {A C : AOp} {f : Nat} {args : List AV} {Qc Ec : AV → AH → Prop}
  (hK : loc.get K = some (.ptr b 0)) (hb : BoxN h b id) (hn : NodeC h id op name typ n pos kv) (hk : Kids h lo X kv ks) (hlen : ks.length < 1000000)
  (hlo : lo ≤ h.next) (hX : ∀ k ∈ X, k < h.next) (hiX : id ∈ X) (hbX : b ∈ X) (hrlo : r < lo) (hidr : id ≠ r) (hbr : b ≠ r) (hbi : b ≠ id)
  (hA : ∀ tmp, ∃ v, evOp A loc tmp h = .val v h ∧ evOp C loc (v :: tmp) h = .enter f args)
  (call : GE tab f args h Qc Ec)
  (post : ∀ v h1, Qc v h1 → MoreBut r h h1 ∧ ∃ u t, v = .agg [u] ∧ TreeR h1 (fun k => h.next ≤ k) u t ∧
   ∀ h2 kv', h1.next ≤ h2.next → (∀ k, k < h1.next → (k < lo ∨ k ∈ X) → k ≠ id → h2.mem.get k = h1.mem.get k) → NodeC h2 id op name typ n pos kv' → Kids h2 lo X kv' (ks ++ [t]) → Q (.norm loc d h2))
  (pan : ∀ v h1, Ec v h1 → Q (.pan v loc d h1)) :
  WC tab (.ops [⟨.fieldAddr 0 (.l K), none, none, []⟩, ⟨.load (.t 0), none, none, []⟩, ⟨.fieldAddr 0 (.l K), none, none, []⟩, ⟨.load (.t 0), none, none, []⟩, ⟨.nilCheck (.t 0), none, none, []⟩, ⟨.fieldAddr 5 (.t 0), none, none, []⟩, ⟨.load (.t 0), none, none, []⟩,
   ⟨A, none, none, []⟩, ⟨C, none, none, [⟨.load (.t 2), 1, none⟩, ⟨.load (.t 5), 4, none⟩, ⟨.load (.t 7), 6, none⟩]⟩, ⟨.bslice [.nilp] 1 [⟨0, 1, .t 0⟩], none, none, []⟩, ⟨.append 1 8 (.t 3) (.t 0), none, none, [⟨.load (.t 9), 8, none⟩]⟩,
   ⟨.nilCheck (.t 9), none, none, []⟩, ⟨.fieldAddr 5 (.t 0), none, none, []⟩, ⟨.store 1 (.t 0) (.t 2), none, none, []⟩]) loc d h Q := by
 obtain ⟨cb, gb, cb0⟩ := hb
 have hn0 := hn
 obtain ⟨c, gn, _, _, _, _, _, c5, _⟩ := hn.set
 have idlt := hX id hiX
 have blt := hX b hbX
 refine zAb fun Q1 hQ => ?_
 have kvs : Ev.same kv kv = true := by obtain ⟨cs, a, _⟩ := hk; exact a.same
 obtain ⟨va, hA1, hA2⟩ := hA [kv, .ptr id 5, .ptr id 0, .ptr id 0, .ptr b 0, .ptr id 0, .ptr b 0]
 simp (disch := omega) only [EL, ↓K3, ↓K1, reduceIte, Nat.reduceEqDiff, Nat.reduceAdd, Nat.reduceLeDiff, hK, gb, cb0, gn, c5, hA1, hA2]
 refine call.mono (fun v h1 q => ?_) (fun v h1 e => ?_)
 rotate_left
 ·exact hQ _ (pan v h1 e)
 obtain ⟨fr, u, t, rfl, tr, fin⟩ := post v h1 q
 have gb1 : h1.mem.get b = some (.cells cb 1 none false) := (fr.keep b blt hbr).trans gb
 have gn1 : h1.mem.get id = some (.cells c 6 none false) := (fr.keep id idlt hidr).trans gn
 have n1 := fr.next
 obtain ⟨ui, hu, hul, hul2⟩ := tr.ptr
 subst hu
 have nb : h1.next ≠ b := by omega
 have ni : h1.next ≠ id := by omega
 have hk1 : Kids h1 lo X kv ks := hk.keep (fr.stay fun e => by omega)
 have h2n : (h1.add (.cells (zAd [.ptr ui 0]) 1 none false)).next = h1.next + 1 := rfl
 have h2m : More h1 (h1.add (.cells (zAd [.ptr ui 0]) 1 none false)) := More.add _ _
 have h2g : (h1.add (.cells (zAd [.ptr ui 0]) 1 none false)).mem.get h1.next = some (.cells (zAd [.ptr ui 0]) 1 none false) := by rw [AH.add_mem, T.get_put_self]
 have hs : ∀ k, zBp 1 (.sl h1.next 0 1 (.known 1)) (h1.add (.cells (zAd [.ptr ui 0]) 1 none false)) k = k 1 [.ptr ui 0] := fun k => src_sl (by decide) h2g rfl k
 have kidf : ∀ k, h.next ≤ k → KidF lo X kv k := by
  intro k hk'
  refine ⟨by omega, fun hm => by have := hX k hm; omega, fun l n e => ?_⟩
  obtain ⟨cs, a, _⟩ := hk
  subst e
  cases a with
  | sl a1 a2 a3 => omega
 obtain ⟨kv', h3, ap, k3, n3, keep3⟩ := (hk1.keep h2m.stay).append (TreeR.keep h2m.stay (fun k hk' _ => kidf k hk') tr) (by omega) (fun k hm => by have := hX k hm; omega) hlen hs
 have gb3 : h3.mem.get b = some (.cells cb 1 none false) := by rw [keep3 b (by omega) (.inr hbX), h2m.keep b (by omega)]; exact gb1
 have gn3 : h3.mem.get id = some (.cells c 6 none false) := by rw [keep3 id (by omega) (.inr hiX), h2m.keep id (by omega)]; exact gn1
 have kvc : cellsOf kv' = some [kv'] := by obtain ⟨cs, a, _⟩ := k3; exact a.cells
 simp (disch := omega) only [EL, ↓K3, ↓K1, reduceIte, Nat.reduceEqDiff, Nat.reduceAdd, Nat.reduceLeDiff, zB1, gb1, cb0, gn1, c5, zB3, kvs, ap, gb3, gn3, kvc, zBx]
 refine hQ _ (fin _ kv' ?_ (fun k hk' hc hne => ?_) ?_ ?_)
 ·rw [AH.set_next]; omega
 ·rw [AH.set_mem, T.get_put_ne _ _ _ _ (Ne.symm hne), keep3 k (by omega) hc, h2m.keep k hk']
 ·exact (hn0.keep (h' := h3) (by rw [gn3, gn])).set.elim fun c' h => by
   have e := h.1
   rw [gn3] at e
   injection e with e; injection e with e; subst e
   exact h.2.2.2.2.2.2.2.2.1 h3 rfl kv'
 ·refine k3.keep ⟨by rw [AH.set_next]; exact Nat.le_refl _, fun k hf hk' => ?_⟩
  rw [AH.set_mem, T.get_put_ne _ _ _ _ (fun e => hf.2 (by rw [← e]; exact hiX))]
end
end Go.Ev
namespace Go.Ev
open Go Go.Pa
set_option linter.unusedSimpArgs false
set_option linter.unusedVariables false
set_option maxRecDepth 100000
set_option maxHeartbeats 4000000
section
variable {tab : Nat → Option AFunc} {h : AH} (H : PT tab) {ts : List Tok} {en r i d : Nat}
include H in
theorem part_ge (R : RS ts en h r i d) (op : Nat) : GS tab 74 [.ptr r 0, .int .i64 (op : Int)] ts en r i d h (partS ts en op i d) fun t v h1 => okT t h.next v h1 := by
 intro y hy hne
 have i0 : zAh [.ptr r 0, .int .i64 (op : Int)] = zAd [.ptr r 0, .int .i64 (op : Int)] := rfl
 have hr := R.lt
 refine ge_of H.t74 rfl ?_
 refine zBc fun h1 n1 g1 m1 => ?_
 have R1 := R.more m1
 unfold partS at hy
 refine zAc (zAb fun Q1 hQ => ?_)
 simp (disch := omega) only [EL, ↓K3, ↓K1, reduceIte, Nat.reduceEqDiff, Nat.reduceAdd, Nat.reduceLeDiff, i0]
 refine (zGq H R1 _ rfl (zAw hy hne)).mono (fun v h2 q => ?_) (fun v h2 e => ?_)
 rotate_left
 ·obtain ⟨p, er, hx, rfl, fr'⟩ := e
  rw [hx] at hy
  exact hQ _ ⟨p, er, hy.symm, rfl, MoreBut.trans (m1.but r) fr'⟩
 obtain ⟨t, i, hx, lib2, R2, b2, q⟩ := q
 rw [hx, zAr] at hy
 have nb2 := MoreBut.next b2
 obtain ⟨rfl, tb⟩ := q
 have c2 := (m1.but r).trans b2
 have rc2 := (b2.keep h.next (by omega) (by omega)).trans g1
 simp (disch := omega) only [EL, ↓K3, ↓K1, reduceIte, Nat.reduceEqDiff, Nat.reduceAdd, Nat.reduceLeDiff, i0]
 refine (zFz H (fun _ => rfl) rfl).to fun v h3 q => ?_
 obtain ⟨id, rfl, i1, i2, nc, m3⟩ := q
 simp (disch := omega) only [EL, ↓K3, ↓K1, reduceIte, Nat.reduceEqDiff, Nat.reduceAdd, Nat.reduceLeDiff, i0]
 refine hQ _ ?_
 clear hQ Q1
 refine zBk fun h4 n4 g4 m4 => ?_
 obtain ⟨cb, gb, cb0⟩ := g4
 simp only [zAa]
 have m24 := m3.trans m4
 have R4 := R2.more m24
 have b4 := c2.trans (m24.but r)
 have nc4 := nc.keep (m4.keep id i2)
 have n3 := m3.next
 obtain ⟨c, gn, _⟩ := nc4.set
 refine zAc (zAb fun Q1 hQ => ?_)
 simp (disch := omega) only [EL, ↓K3, ↓K1, reduceIte, Nat.reduceEqDiff, Nat.reduceAdd, Nat.reduceLeDiff, i0, gb, cb0]
 refine (typ_ge H R4 _ rfl (zAw hy hne)).mono (fun v h5 q => ?_) (fun v h5 e => ?_)
 rotate_left
 ·obtain ⟨p, er, hx, rfl, fr'⟩ := e
  rw [hx] at hy
  exact hQ _ ⟨p, er, hy.symm, rfl, MoreBut.trans b4 fr'⟩
 obtain ⟨ty, i, hx, lib5, R5, b5, q⟩ := q
 rw [hx, zAr] at hy
 have nb5 := MoreBut.next b5
 subst q
 have gb5 := (b5.keep h3.next (by omega) (by omega)).trans gb
 have gn5 := (b5.keep id (by omega) (by omega)).trans gn
 have rc5 := (b5.keep h.next (by omega) (by omega)).trans ((m24.keep h.next (by omega)).trans rc2)
 have nc5 := nc4.keep (b5.keep id (by omega) (by omega))
 have w5 := nc5.set
 obtain ⟨c', gn', c0, c1, c2', c3, c4, c5, ncT, _⟩ := w5
 simp (disch := omega) only [EL, ↓K3, ↓K1, reduceIte, Nat.reduceEqDiff, Nat.reduceAdd, Nat.reduceLeDiff, i0, zB1, zBx, gb5, cb0, gn', c2', zB3]
 refine hQ _ ?_
 clear hQ Q1
 simp only [zAa]
 have o6 : Only id h5 (h5.set id (.cells (T.put (some (sv ty)) c' 2) 6 none false)) := Only.set
 have nc6 := ncT ty
 generalize (h5.set id (.cells (T.put (some (sv ty)) c' 2) 6 none false)) = h6 at *
 have n6 := o6.next
 refine zCh (b := h3.next) (rc := h.next) (by simp (disch := omega) only [EL, ↓K3, ↓K1, reduceIte, Nat.reduceEqDiff, Nat.reduceAdd, Nat.reduceLeDiff]) (by rw [o6.keep _ (by omega)]; exact gb5) cb0 (by simp (disch := omega) only [EL, ↓K3, ↓K1, reduceIte, Nat.reduceEqDiff, Nat.reduceAdd, Nat.reduceLeDiff]) (by rw [o6.keep _ (by omega)]; exact rc5) (by rw [zAj]; rfl) fun h7 o7 => ?_
 refine ⟨_, _, hy.symm, by omega, o7.rs (o6.rs R5 (by omega)) (by omega), o7.mb (o6.mb (b4.trans b5) (by omega)) (Nat.le_refl _), _, rfl, ?_⟩
 exact Kids.tree (lo := h.next) (X := []) Kids.nils (nc6.keep (o7.keep _ (by omega))) (by show h.next ≤ id; omega) (by rw [o7.next]; omega) fun k hk => hk
include H in
theorem zHm {F : Nat} {caps : List AV} {k : Nat → Nat → PR Tree} (R : RS ts en h r i d) (hd : d ≤ 40)
  (hk : d + 1 ≤ 40 → ∀ h', RS ts en h' r i (d + 1) → MoreBut r h h' → GS tab F caps ts en r i (d + 1) h' (k i (d + 1)) fun t v h1 => okT t h'.next v h1) :
  GS tab 120 [.ptr r 0, .fn F [] caps] ts en r i d h (zDs ts en i d k) fun t v h1 => okT t h.next v h1 := by
 intro y hy hne
 have i0 : zAh [.ptr r 0, .fn F [] caps] = zAd [.ptr r 0, .fn F [] caps] := rfl
 have hr := R.lt
 refine ge_of H.t120 rfl ?_
 refine zBc fun h1 n1 g1 m1 => ?_
 have R1 := R.more m1
 unfold zDs at hy
 obtain ⟨_, _, _, _, _, _, c, tl, c0, c1, c2, c3, c4, _⟩ := id R1
 refine zAc (zAb fun Q1 hQ => ?_)
 simp (disch := omega) only [EL, ↓K3, ↓K1, reduceIte, Nat.reduceEqDiff, Nat.reduceAdd, Nat.reduceLeDiff, i0, c0, c4]
 refine hQ _ ?_
 clear hQ Q1
 by_cases hdd : 40 < d + 1
 ·rw [if_pos hdd] at hy
  have q2 : ∀ z, (h1.set r z).mem.get r = some z := fun z => AH.get_set
  have R2 := R1.putD (d' := d + 1) c0
  have b2 : MoreBut r h (h1.set r (.cells (T.put (some (.int .i64 ((d + 1 : Nat) : Int))) c 3) 4 none false)) := (m1.but r).set _
  have g2 : (h1.set r (.cells (T.put (some (.int .i64 ((d + 1 : Nat) : Int))) c 3) 4 none false)).mem.get r = some (.cells (T.put (some (.int .i64 ((d + 1 : Nat) : Int))) c 3) 4 none false) := AH.get_set
  generalize (h1.set r (.cells (T.put (some (.int .i64 ((d + 1 : Nat) : Int))) c 3) 4 none false)) = h2 at *
  refine zAc ?_
  refine zAc (zAb fun Q1 hQ => ?_)
  simp (disch := omega) only [EL, ↓K3, ↓K1, reduceIte, Nat.reduceEqDiff, Nat.reduceAdd, Nat.reduceLeDiff, i0, g2]
  refine hQ _ ?_
  clear hQ Q1
  refine zAq (by simp (disch := omega) only [EL, ↓K3, ↓K1, reduceIte, Nat.reduceEqDiff, Nat.reduceAdd, Nat.reduceLeDiff, hdd]) ?_
  refine zAb fun Q1 hQ => ?_
  simp (disch := omega) only [EL, ↓K3, ↓K1, reduceIte, Nat.reduceEqDiff, Nat.reduceAdd, Nat.reduceLeDiff, i0]
  refine (zG8 H R2).to fun v h3 q => ?_
  obtain ⟨rfl, m3⟩ := q
  have f2 : ∀ h', zCi 2 1 false (.c (tokV (now ts en i))) .leaf [] h' = .val (.int .i64 ((now ts en i).pos : Int)) h' := fun _ => rfl
  simp (disch := omega) only [EL, ↓K3, ↓K1, reduceIte, Nat.reduceEqDiff, Nat.reduceAdd, Nat.reduceLeDiff, i0, f2]
  exact hQ _ ⟨_, _, hy.symm, rfl, b2.trans (m3.but r)⟩
 ·rw [if_neg hdd] at hy
  have R2 := R1.putD (d' := d + 1) c0
  have b2 : MoreBut r h (h1.set r (.cells (T.put (some (.int .i64 ((d + 1 : Nat) : Int))) c 3) 4 none false)) := (m1.but r).set _
  have g2 : (h1.set r (.cells (T.put (some (.int .i64 ((d + 1 : Nat) : Int))) c 3) 4 none false)).mem.get r = some (.cells (T.put (some (.int .i64 ((d + 1 : Nat) : Int))) c 3) 4 none false) := AH.get_set
  have rc2 : (h1.set r (.cells (T.put (some (.int .i64 ((d + 1 : Nat) : Int))) c 3) 4 none false)).mem.get h.next = some (.cells (zAd [.nilp]) (llen [.nilp]) none false) := by rw [AH.set_mem, T.get_put_ne _ _ _ _ (by omega)]; exact g1
  have n2 : (h1.set r (.cells (T.put (some (.int .i64 ((d + 1 : Nat) : Int))) c 3) 4 none false)).next = h1.next := AH.set_next
  generalize (h1.set r (.cells (T.put (some (.int .i64 ((d + 1 : Nat) : Int))) c 3) 4 none false)) = h2 at *
  refine zAc ?_
  refine zAc (zAb fun Q1 hQ => ?_)
  simp (disch := omega) only [EL, ↓K3, ↓K1, reduceIte, Nat.reduceEqDiff, Nat.reduceAdd, Nat.reduceLeDiff, i0, g2]
  refine hQ _ ?_
  clear hQ Q1
  refine wc_no (by simp (disch := omega) only [EL, ↓K3, ↓K1, reduceIte, Nat.reduceEqDiff, Nat.reduceAdd, Nat.reduceLeDiff, hdd]) ?_
  refine zAo ?_
  refine zAc (zAb fun Q1 hQ => ?_)
  simp (disch := omega) only [EL, ↓K3, ↓K1, reduceIte, Nat.reduceEqDiff, Nat.reduceAdd, Nat.reduceLeDiff, i0]
  refine (hk (by omega) h2 R2 b2 _ rfl (zAw hy hne)).mono (fun v h3 q => ?_) (fun v h3 e => ?_)
  rotate_left
  ·obtain ⟨p, er, hx, rfl, fr'⟩ := e
   rw [hx] at hy
   exact hQ _ ⟨p, er, hy.symm, rfl, MoreBut.trans b2 fr'⟩
  obtain ⟨t, i, hx, lib3, R3, b3, q⟩ := q
  rw [hx, zAr] at hy
  have nb3 := MoreBut.next b3
  obtain ⟨u, rfl, tr⟩ := q
  rw [show d + 1 - 1 = d by omega] at hy
  have rc3 := (b3.keep h.next (by omega) (by omega)).trans rc2
  simp (disch := omega) only [EL, ↓K3, ↓K1, reduceIte, Nat.reduceEqDiff, Nat.reduceAdd, Nat.reduceLeDiff, i0]
  refine hQ _ ?_
  clear hQ Q1
  refine zBk fun h4 n4 g4 m4 => ?_
  obtain ⟨cb, gb, cb0⟩ := g4
  simp only [zAa]
  have R4 := R3.more m4
  have b4 := (b2.trans b3).trans (m4.but r)
  have tr4 := TreeR.keep m4.stay (fun _ h _ => h) tr
  have rc4 := (m4.keep h.next (by omega)).trans rc3
  obtain ⟨_, _, _, _, _, _, c', tl', d0, d1, d2, d3, d4, _⟩ := id R4
  have w4 : IntKind.i64.wrap (((d + 1 : Nat) : Int) - ((1 : Nat) : Int)) = ((d : Nat) : Int) := by rw [zGy (by omega) (by omega)]; rfl
  refine zAc (zAb fun Q1 hQ => ?_)
  simp (disch := omega) only [EL, ↓K3, ↓K1, reduceIte, Nat.reduceEqDiff, Nat.reduceAdd, Nat.reduceLeDiff, i0, d0, d4, w4]
  refine hQ _ ?_
  clear hQ Q1
  have R5 := R4.putD (d' := d) d0
  have o5 : Only r h4 (h4.set r (.cells (T.put (some (.int .i64 ((d : Nat) : Int))) c' 3) 4 none false)) := Only.set
  have b5 : MoreBut r h (h4.set r (.cells (T.put (some (.int .i64 ((d : Nat) : Int))) c' 3) 4 none false)) := b4.set _
  generalize (h4.set r (.cells (T.put (some (.int .i64 ((d : Nat) : Int))) c' 3) 4 none false)) = h5 at *
  have n5 := o5.next
  refine zCh (b := h3.next) (rc := h.next) (by simp (disch := omega) only [EL, ↓K3, ↓K1, reduceIte, Nat.reduceEqDiff, Nat.reduceAdd, Nat.reduceLeDiff]) (by rw [o5.keep _ (by omega)]; exact gb) cb0 (by simp (disch := omega) only [EL, ↓K3, ↓K1, reduceIte, Nat.reduceEqDiff, Nat.reduceAdd, Nat.reduceLeDiff]) (by rw [o5.keep _ (by omega)]; exact rc4) (by rw [zAj]; rfl) fun h6 o6 => ?_
  refine ⟨_, _, hy.symm, by omega, o6.rs R5 (by omega), o6.mb b5 (Nat.le_refl _), _, rfl, ?_⟩
  refine TreeR.keep ((o5.stay (F := fun k => h2.next ≤ k) (by omega)).trans (o6.stay (by omega))) (fun k hk _ => ?_) tr4
  show h.next ≤ k
  omega
end
end Go.Ev
namespace Go.Ev
open Go Go.Pa
set_option linter.unusedSimpArgs false
set_option linter.unusedVariables false
set_option maxRecDepth 100000
set_option maxHeartbeats 4000000
section
variable {tab : Nat → Option AFunc} {h : AH} (H : PT tab) {ts : List Tok} {en r i d : Nat}
include H in
theorem struct_ge (R : RS ts en h r i d) (fuel : Nat) : GS tab 71 [.ptr r 0] ts en r i d h (zEr ts en fuel i d) fun t v h1 => okT t h.next v h1 := by
 intro y hy hne
 have i0 : zAh [.ptr r 0] = zAd [.ptr r 0] := rfl
 have hr := R.lt
 obtain ⟨z, hz⟩ : ∃ z, z = i := ⟨_, rfl⟩
 have e1 : (AV.str 6 127970521019507) = sv [115, 116, 114, 117, 99, 116] := rfl
 have e2 : (AV.str 1 123) = sv [123] := rfl
 have e3 : (AV.str 1 125) = sv [125] := rfl
 have e4 : (AV.str 1 59) = sv [59] := rfl
 refine ge_of H.t71 rfl ?_
 refine zBc fun h1 n1 g1 m1 => ?_
 have R1 := R.more m1
 unfold zEr at hy
 refine zAc (zAb fun Q1 hQ => ?_)
 simp (disch := omega) only [EL, ↓K3, ↓K1, reduceIte, Nat.reduceEqDiff, Nat.reduceAdd, Nat.reduceLeDiff, i0]
 refine (zGq H R1 _ rfl (zAw hy hne)).mono (fun v h2 q => ?_) (fun v h2 e => ?_)
 rotate_left
 ·obtain ⟨p, er, hx, rfl, fr'⟩ := e
  rw [hx] at hy
  exact hQ _ ⟨p, er, hy.symm, rfl, MoreBut.trans (m1.but r) fr'⟩
 obtain ⟨t, i, hx, lib2, R2, b2, q⟩ := q
 rw [hx, zAr] at hy
 have nb2 := MoreBut.next b2
 obtain ⟨rfl, tb⟩ := q
 have c2 := (m1.but r).trans b2
 have rc2 := (b2.keep h.next (by omega) (by omega)).trans g1
 simp (disch := omega) only [EL, ↓K3, ↓K1, reduceIte, Nat.reduceEqDiff, Nat.reduceAdd, Nat.reduceLeDiff, i0]
 refine (zFz H (op := 2) (fun _ => rfl) rfl).to fun v h3 q => ?_
 obtain ⟨id, rfl, i1, i2, nc, m3⟩ := q
 simp (disch := omega) only [EL, ↓K3, ↓K1, reduceIte, Nat.reduceEqDiff, Nat.reduceAdd, Nat.reduceLeDiff, i0]
 refine hQ _ ?_
 clear hQ Q1
 refine zBk fun h4 n4 g4 m4 => ?_
 obtain ⟨cb, gb, cb0⟩ := g4
 simp only [zAa]
 have m24 := m3.trans m4
 have n3 := m3.next
 have R4 := R2.more m24
 have b4 := c2.trans (m24.but r)
 have nc4 := nc.keep (m4.keep id i2)
 have rc4 := (m24.keep h.next (by omega)).trans rc2
 refine zAc (zAb fun Q1 hQ => ?_)
 simp (disch := omega) only [EL, ↓K3, ↓K1, reduceIte, Nat.reduceEqDiff, Nat.reduceAdd, Nat.reduceLeDiff, i0, e1]
 refine (zBi H R4 _ _ rfl (zAw hy hne)).mono (fun v h5 q => ?_) (fun v h5 e => ?_)
 rotate_left
 ·obtain ⟨p, er, hx, rfl, fr'⟩ := e
  rw [hx] at hy
  exact hQ _ ⟨p, er, hy.symm, rfl, MoreBut.trans b4 fr'⟩
 obtain ⟨p5, i, hx, lib5, R5, b5, q⟩ := q
 rw [hx, zAr] at hy
 have nb5 := MoreBut.next b5
 simp (disch := omega) only [EL, ↓K3, ↓K1, reduceIte, Nat.reduceEqDiff, Nat.reduceAdd, Nat.reduceLeDiff, i0]
 refine hQ _ ?_
 clear hQ Q1
 simp only [zAa]
 refine zAc (zAb fun Q1 hQ => ?_)
 simp (disch := omega) only [EL, ↓K3, ↓K1, reduceIte, Nat.reduceEqDiff, Nat.reduceAdd, Nat.reduceLeDiff, i0, e2]
 refine (zBi H R5 _ _ rfl (zAw hy hne)).mono (fun v h6 q => ?_) (fun v h6 e => ?_)
 rotate_left
 ·obtain ⟨p, er, hx, rfl, fr'⟩ := e
  rw [hx] at hy
  exact hQ _ ⟨p, er, hy.symm, rfl, MoreBut.trans (b4.trans b5) fr'⟩
 obtain ⟨p6, i, hx, lib6, R6, b6, q⟩ := q
 rw [hx, zAr] at hy
 have nb6 := MoreBut.next b6
 simp (disch := omega) only [EL, ↓K3, ↓K1, reduceIte, Nat.reduceEqDiff, Nat.reduceAdd, Nat.reduceLeDiff, i0]
 refine hQ _ ?_
 clear hQ Q1
 simp only [zAa]
 have b46 := b5.trans b6
 have bx6 : BoxN h6 h3.next id := ⟨cb, (b46.keep h3.next (by omega) (by omega)).trans gb, cb0⟩
 have nc6 := nc4.keep (b46.keep id (by omega) (by omega))
 have rc6 := (b46.keep h.next (by omega) (by omega)).trans rc4
 refine zFn (fun l d1 h7 => ∃ i ks kv, d1 = [] ∧ l.get 0 = some (.ptr r 0) ∧ l.get 2 = some (.ptr h3.next 0) ∧ l.get 3 = some (.ptr h.next 0) ∧ RS ts en h7 r i d ∧ MoreBut r h h7 ∧ BoxN h7 h3.next id ∧ NodeC h7 id 2 t.text [] 0 t.pos kv ∧ Kids h7 h.next [h.next, h3.next, id] kv ks ∧
  h7.mem.get h.next = some (.cells (zAd [.nilp]) (llen [.nilp]) none false) ∧ y = .ok (.mk 2 t.text [] 0 t.pos ks) i d ∧ h4.next ≤ h7.next ∧ z < i) ?_ ?_
 ·refine zAy ?_
  refine zB2 (fun m l d1 h7 => ∃ i ks kv, d1 = [] ∧ l.get 0 = some (.ptr r 0) ∧ l.get 2 = some (.ptr h3.next 0) ∧ l.get 3 = some (.ptr h.next 0) ∧ RS ts en h7 r i d ∧ MoreBut r h h7 ∧ BoxN h7 h3.next id ∧ NodeC h7 id 2 t.text [] 0 t.pos kv ∧ Kids h7 h.next [h.next, h3.next, id] kv ks ∧
   h7.mem.get h.next = some (.cells (zAd [.nilp]) (llen [.nilp]) none false) ∧ h4.next ≤ h7.next ∧ z < i ∧ ks.length ≤ i ∧ (zDr ts en m i d ks).bind (fun k i d => .ok (.mk 2 t.text [] 0 t.pos k) i d) = y) ?_ fuel ?_
  ·rintro m l d1 h7 ⟨i, ks, kv, rfl, l0, l2, l3, R7, b7, bx7, nc7, k7, rc7, n7, zi, kl, hy⟩
   cases m with
   | zero => exact absurd hy.symm hne
   | succ m =>
    have le7 := R7.le
    have ln := R7.ln
    refine zAc ?_
    refine zAc (zAb fun Q1 hQ => ?_)
    simp (disch := omega) only [EL, ↓K3, ↓K1, reduceIte, Nat.reduceEqDiff, Nat.reduceAdd, Nat.reduceLeDiff, l0, e3]
    refine (zDl H R7 _).to fun v h8 q => ?_
    obtain ⟨rfl, R8, b8⟩ := q
    have n8 := b8.next
    simp (disch := omega) only [EL, ↓K3, ↓K1, reduceIte, Nat.reduceEqDiff, Nat.reduceAdd, Nat.reduceLeDiff, l0]
    refine hQ _ ?_
    clear hQ Q1
    simp only [zAa]
    have rc8 := (b8.keep h.next (by omega) (by omega)).trans rc7
    have bx8 := bx7.keep (b8.keep h3.next (by omega) (by omega))
    have nc8 := nc7.keep (b8.keep id (by omega) (by omega))
    have k8 := k7.keep (b8.stay (F := fun k => h.next ≤ k ∧ k ∉ [h.next, h3.next, id]) (by simp; omega))
    have c8 := b7.trans b8
    unfold zDr at hy
    cases hc : isT ts en [125] i with
    | true =>
     rw [hc, if_pos rfl] at hy
     rw [hc, if_pos rfl] at R8
     refine wc_no (by simp (disch := omega) only [EL, ↓K3, ↓K1, reduceIte, Nat.reduceEqDiff, Nat.reduceAdd, Nat.reduceLeDiff, hc, Bool.not_true]) ?_
     refine zC5 ?_
     simp only [zA8, zA5, if_true, zAa]
     exact ⟨_, ks, kv, trivial, by simp (disch := omega) only [EL, ↓K3, ↓K1, reduceIte, Nat.reduceEqDiff, Nat.reduceAdd, Nat.reduceLeDiff, l0], by simp (disch := omega) only [EL, ↓K3, ↓K1, reduceIte, Nat.reduceEqDiff, Nat.reduceAdd, Nat.reduceLeDiff, l2], by simp (disch := omega) only [EL, ↓K3, ↓K1, reduceIte, Nat.reduceEqDiff, Nat.reduceAdd, Nat.reduceLeDiff, l3], R8, c8, bx8, nc8, k8, rc8, hy.symm, by omega, by omega⟩
    | false =>
     rw [hc, if_neg (by simp)] at hy
     simp only [zD7] at hy
     rw [hc, if_neg (by simp)] at R8
     refine zAq (by simp (disch := omega) only [EL, ↓K3, ↓K1, reduceIte, Nat.reduceEqDiff, Nat.reduceAdd, Nat.reduceLeDiff, hc, Bool.not_false]) ?_
     refine zAo ?_
     simp only [zAa]
     refine zAy ?_
     refine zAc ?_
     refine zFo (K := 2) (b := h3.next) (id := id) (lo := h.next) (X := [h.next, h3.next, id]) (r := r) (f := 74) (args := [.ptr r 0, .int .i64 ((5 : Nat) : Int)]) (by simp (disch := omega) only [EL, ↓K3, ↓K1, reduceIte, Nat.reduceEqDiff, Nat.reduceAdd, Nat.reduceLeDiff, l0, l2]) bx8 nc8 k8 (by omega) (by omega) (by intro k hk; simp at hk; omega) (by simp) (by simp) (by omega) (by omega) (by omega) (by omega) (fun tmp => ⟨.ptr r 0, by simp (disch := omega) only [EL, ↓K3, ↓K1, reduceIte, Nat.reduceEqDiff, Nat.reduceAdd, Nat.reduceLeDiff, l0, l2], by simp (disch := omega) only [EL, ↓K3, ↓K1, reduceIte, Nat.reduceEqDiff, Nat.reduceAdd, Nat.reduceLeDiff, l0, l2]⟩) (part_ge H R8 5 _ rfl (zAw hy hne)) (fun v h9 q => ?_) (fun v h9 e => ?_)
     rotate_left
     ·obtain ⟨p, er, hx, rfl, fr'⟩ := e
      rw [hx] at hy
      exact ⟨p, er, hy.symm, rfl, MoreBut.trans c8 fr'⟩
     obtain ⟨p, i, hx, li9, R9, b9, u, rfl, tr⟩ := q
     rw [hx, zAr] at hy
     have n9 := b9.next
     refine ⟨b9, u, p, rfl, tr, fun h10 kv' n10 keep nc10 k10 => ?_⟩
     have R10 := R9.keep n10 fun k hk => keep k (by have := R9.lt; omega) (.inl (by omega)) (by omega)
     have c10 : MoreBut r _ h10 := ⟨Nat.le_trans (MoreBut.trans c8 b9).next n10, fun k h1 h2 => by rw [keep k (by omega) (.inl (by omega)) (by omega)]; exact (MoreBut.trans c8 b9).keep k h1 h2⟩
     simp only [zAa]
     have rc10 := (keep h.next (by omega) (.inr (by simp)) (by omega)).trans ((b9.keep h.next (by omega) (by omega)).trans rc8)
     have bx10 := bx8.keep ((keep h3.next (by omega) (.inr (by simp)) (by omega)).trans (b9.keep h3.next (by omega) (by omega)))
     refine zAb fun Q1 hQ => ?_
     simp (disch := omega) only [EL, ↓K3, ↓K1, reduceIte, Nat.reduceEqDiff, Nat.reduceAdd, Nat.reduceLeDiff, l0, e4]
     refine (zBi H R10 _ _ rfl (zAw hy hne)).mono (fun v h11 q => ?_) (fun v h11 e => ?_)
     rotate_left
     ·obtain ⟨p, er, hx, rfl, fr'⟩ := e
      rw [hx] at hy
      exact hQ _ ⟨p, er, hy.symm, rfl, MoreBut.trans c10 fr'⟩
     obtain ⟨p11, i, hx, lib11, R11, b11, q⟩ := q
     rw [hx, zAr] at hy
     have nb11 := MoreBut.next b11
     simp (disch := omega) only [EL, ↓K3, ↓K1, reduceIte, Nat.reduceEqDiff, Nat.reduceAdd, Nat.reduceLeDiff, l0]
     refine hQ _ ?_
     simp only [zAi, zAa]
     have rc11 := (b11.keep h.next (by omega) (by omega)).trans rc10
     have bx11 := bx10.keep (b11.keep h3.next (by omega) (by omega))
     have nc11 := nc10.keep (b11.keep id (by omega) (by omega))
     have k11 := k10.keep (b11.stay (F := fun k => h.next ≤ k ∧ k ∉ [h.next, h3.next, id]) (by simp; omega))
     exact ⟨m, by omega, _, _, _, trivial, by simp (disch := omega) only [EL, ↓K3, ↓K1, reduceIte, Nat.reduceEqDiff, Nat.reduceAdd, Nat.reduceLeDiff, l0], by simp (disch := omega) only [EL, ↓K3, ↓K1, reduceIte, Nat.reduceEqDiff, Nat.reduceAdd, Nat.reduceLeDiff, l2], by simp (disch := omega) only [EL, ↓K3, ↓K1, reduceIte, Nat.reduceEqDiff, Nat.reduceAdd, Nat.reduceLeDiff, l3], R11, c10.trans b11, bx11, nc11, k11, rc11, by omega, by omega, by simp; omega, hy⟩
  ·exact ⟨_, [], .nils, rfl, by simp (disch := omega) only [EL, ↓K3, ↓K1, reduceIte, Nat.reduceEqDiff, Nat.reduceAdd, Nat.reduceLeDiff, i0], by simp (disch := omega) only [EL, ↓K3, ↓K1, reduceIte, Nat.reduceEqDiff, Nat.reduceAdd, Nat.reduceLeDiff, i0], by simp (disch := omega) only [EL, ↓K3, ↓K1, reduceIte, Nat.reduceEqDiff, Nat.reduceAdd, Nat.reduceLeDiff, i0], R6, b4.trans b46, bx6, nc6, Kids.nils, rc6, by omega, by omega, by simp, hy⟩
 ·rintro l d1 h7 ⟨i, ks, kv, rfl, l0, l2, l3, R7, b7, bx7, nc7, k7, rc7, rfl, n7, zi⟩
  obtain ⟨cx, gx, cx0⟩ := bx7
  refine zCh (b := h3.next) (rc := h.next) l2 gx cx0 l3 rc7 (by rw [zAj]; rfl) fun h8 o8 => ?_
  have k8 := k7.keep (o8.stay (F := fun k => h.next ≤ k ∧ k ∉ [h.next, h3.next, id]) (by simp))
  refine ⟨_, _, rfl, by omega, o8.rs R7 (by omega), o8.mb b7 (Nat.le_refl _), _, rfl, ?_⟩
  exact k8.tree (nc7.keep (o8.keep _ (by omega))) (by show h.next ≤ id; omega) (by rw [o8.next]; omega) fun k hk => hk
end
end Go.Ev
namespace Go.Ev
open Go Go.Pa
set_option linter.unusedSimpArgs false
set_option linter.unusedVariables false
set_option maxRecDepth 100000
set_option maxHeartbeats 4000000
def StrA (h : AH) (v : AV) (xs : List Str) : Prop := ∃ id off cap s p ro c, v = .sl id off xs.length cap ∧ h.mem.get id = some (.cells c s p ro) ∧ ∀ i (hi : i < xs.length), c.get (off + i) = some (sv xs[i])
def zF2 (xs : List Str) (s : Str) : Int := if s ∈ xs then (xs.idxOf s : Nat) else -1
theorem idxOf_ge {xs : List Str} {s : Str} : ∀ (k : Nat), (∀ i, i < k → (hi : i < xs.length) → xs[i] ≠ s) → ∀ (hk : k < xs.length), xs[k] = s → s ∈ xs ∧ xs.idxOf s = k := by
 intro k h hk e
 have hm : s ∈ xs := e ▸ List.getElem_mem hk
 refine ⟨hm, ?_⟩
 have hlt := List.idxOf_lt_length_of_mem hm
 rcases Nat.lt_trichotomy (xs.idxOf s) k with h1 | h1 | h1
 ·exact absurd (List.getElem_idxOf hlt) (h _ h1 hlt)
 ·exact h1
 ·have := List.not_of_lt_findIdx (xs := xs) (p := (· == s)) h1
  simp [e] at this
section
variable {tab : Nat → Option AFunc} {h : AH} (H : PT tab) {ts : List Tok} {en r i d : Nat}
include H in
theorem zLm {v : AV} {xs : List Str} {s : Str} (a : StrA h v xs) (hl : xs.length < 1000) : GP tab 128 [v, sv s] h fun w h1 => w = .int .i64 (zF2 xs s) ∧ h1 = h := by
 obtain ⟨ia, off, cap, sz, p, ro, c, rfl, gc, ga⟩ := a
 have i0 : zAh [.sl ia off xs.length cap, sv s] = zAd [.sl ia off xs.length cap, sv s] := rfl
 refine GE.gp (ge_of H.t128 rfl ?_) (E := fun _ _ => False) fun _ _ => id
 refine zAc (zAb fun Q1 hQ => ?_)
 simp (disch := omega) only [EL, ↓K3, ↓K1, reduceIte, Nat.reduceEqDiff, Nat.reduceAdd, Nat.reduceLeDiff, i0]
 refine hQ _ ?_
 clear hQ Q1
 refine zAc ?_
 refine zAc (zAb fun Q1 hQ => ?_)
 simp (disch := omega) only [EL, ↓K3, ↓K1, reduceIte, Nat.reduceEqDiff, Nat.reduceAdd, Nat.reduceLeDiff, i0]
 refine hQ _ ?_
 clear hQ Q1
 refine zAy ?_
 refine zB2 (fun m l d1 h1 => ∃ k, m = xs.length - k ∧ k ≤ xs.length ∧ d1 = [] ∧ h1 = h ∧ l.get 0 = some (.sl ia off xs.length cap) ∧ l.get 1 = some (sv s) ∧ l.get 2 = some (.int .i64 (k : Int)) ∧ l.get 3 = some (.int .i64 (xs.length : Int)) ∧ ∀ i, i < k → (hi : i < xs.length) → xs[i] ≠ s) ?_ (xs.length - 0) ?_
 ·rintro m l d1 h1 ⟨k, rfl, hk, rfl, rfl, l0, l1, l2, l3, hall⟩
  refine zAc (zAb fun Q1 hQ => ?_)
  simp (disch := omega) only [EL, ↓K3, ↓K1, reduceIte, Nat.reduceEqDiff, Nat.reduceAdd, Nat.reduceLeDiff, l2, l3]
  refine hQ _ ?_
  clear hQ Q1
  refine zAc ?_
  refine wc_if (k < xs.length) (by simp (disch := omega) only [EL, ↓K3, ↓K1, reduceIte, Nat.reduceEqDiff, Nat.reduceAdd, Nat.reduceLeDiff]) (fun hlt => ?_) (fun hge => ?_)
  ·refine zAo ?_
   simp only [zAa]
   refine zAc ?_
   refine zAy ?_
   refine zAc (zAb fun Q1 hQ => ?_)
   simp (disch := omega) only [EL, ↓K3, ↓K1, reduceIte, Nat.reduceEqDiff, Nat.reduceAdd, Nat.reduceLeDiff, l2]
   refine hQ _ ?_
   clear hQ Q1
   have gk := ga k hlt
   refine zAc (zAb fun Q1 hQ => ?_)
   simp (disch := omega) only [EL, ↓K3, ↓K1, reduceIte, Nat.reduceEqDiff, Nat.reduceAdd, Nat.reduceLeDiff, l0, l1, l2, gc, gk, Nat.mul_one]
   refine hQ _ ?_
   clear hQ Q1
   refine wc_if (s = xs[k]) (by simp (disch := omega) only [EL, ↓K3, ↓K1, reduceIte, Nat.reduceEqDiff, Nat.reduceAdd, Nat.reduceLeDiff]) (fun he => ?_) (fun hne => ?_)
   ·refine zAc (zAb fun Q1 hQ => ?_)
    simp (disch := omega) only [EL, ↓K3, ↓K1, reduceIte, Nat.reduceEqDiff, Nat.reduceAdd, Nat.reduceLeDiff, l2]
    refine hQ _ ?_
    clear hQ Q1
    refine zAk ?_
    try simp only [zAg, zAf]
    obtain ⟨e1, e2⟩ := idxOf_ge k hall hlt he.symm
    simp (disch := omega) only [EL, ↓K3, ↓K1, reduceIte, Nat.reduceEqDiff, Nat.reduceAdd, Nat.reduceLeDiff]
    unfold zF2
    rw [if_pos e1, e2]
   ·refine zAo ?_
    simp only [zAi, zAa]
    refine zAb fun Q1 hQ => ?_
    simp (disch := omega) only [EL, ↓K3, ↓K1, reduceIte, Nat.reduceEqDiff, Nat.reduceAdd, Nat.reduceLeDiff, l2]
    refine hQ _ ?_
    clear hQ Q1
    simp only [zAa]
    refine ⟨xs.length - (k + 1), by omega, k + 1, rfl, hlt, trivial, trivial, by simp (disch := omega) only [EL, ↓K3, ↓K1, reduceIte, Nat.reduceEqDiff, Nat.reduceAdd, Nat.reduceLeDiff, l0], by simp (disch := omega) only [EL, ↓K3, ↓K1, reduceIte, Nat.reduceEqDiff, Nat.reduceAdd, Nat.reduceLeDiff, l1], by simp (disch := omega) only [EL, ↓K3, ↓K1, reduceIte, Nat.reduceEqDiff, Nat.reduceAdd, Nat.reduceLeDiff], by simp (disch := omega) only [EL, ↓K3, ↓K1, reduceIte, Nat.reduceEqDiff, Nat.reduceAdd, Nat.reduceLeDiff, l3], fun i hi hi' => ?_⟩
    by_cases e : i = k
    ·subst e; exact fun e => hne e.symm
    ·exact hall i (by omega) hi'
  ·refine zC5 ?_
   simp only [zA8, zA5, if_true, zAa]
   refine zAc (zAb fun Q1 hQ => ?_)
   simp (disch := omega) only [EL, ↓K3, ↓K1, reduceIte, Nat.reduceEqDiff, Nat.reduceAdd, Nat.reduceLeDiff]
   refine hQ _ ?_
   clear hQ Q1
   refine zAk ?_
   simp (disch := omega) only [EL, ↓K3, ↓K1, reduceIte, Nat.reduceEqDiff, Nat.reduceAdd, Nat.reduceLeDiff]
   unfold zF2
   rw [if_neg (fun hm => ?_)]
   ·rfl
   ·have hlt := List.idxOf_lt_length_of_mem hm
    exact hall _ (by omega) hlt (List.getElem_idxOf hlt)
 ·exact ⟨0, rfl, Nat.zero_le _, rfl, rfl, by simp (disch := omega) only [EL, ↓K3, ↓K1, reduceIte, Nat.reduceEqDiff, Nat.reduceAdd, Nat.reduceLeDiff, i0], by simp (disch := omega) only [EL, ↓K3, ↓K1, reduceIte, Nat.reduceEqDiff, Nat.reduceAdd, Nat.reduceLeDiff, i0], by simp (disch := omega) only [EL, ↓K3, ↓K1, reduceIte, Nat.reduceEqDiff, Nat.reduceAdd, Nat.reduceLeDiff, i0], by simp (disch := omega) only [EL, ↓K3, ↓K1, reduceIte, Nat.reduceEqDiff, Nat.reduceAdd, Nat.reduceLeDiff, i0], fun i hi => by omega⟩
def signs19 : List Str := signs ++ [[45], [33]]
include H in
theorem signs_gp : GP tab 110 [] h fun v h1 => v = .sl h.next 0 19 (.known 19) ∧ More h h1 ∧ ∃ c, h1.mem.get h.next = some (.cells c 19 none false) ∧ ∀ i (hi : i < signs19.length), c.get i = some (sv signs19[i]) := by
 have i0 : zAh [] = zAd [] := rfl
 refine GE.gp (ge_of H.t110 rfl ?_) (E := fun _ _ => False) fun _ _ => id
 refine zAc (zAb fun Q1 hQ => ?_)
 simp (disch := omega) only [EL, ↓K3, ↓K1, reduceIte, Nat.reduceEqDiff, Nat.reduceAdd, Nat.reduceLeDiff, i0]
 refine hQ _ ?_
 clear hQ Q1
 refine zAc (zAb fun Q1 hQ => ?_)
 simp (disch := omega) only [EL, ↓K3, ↓K1, reduceIte, Nat.reduceEqDiff, Nat.reduceAdd, Nat.reduceLeDiff, i0]
 refine hQ _ ?_
 clear hQ Q1
 refine zAk ?_
 try simp only [zAg, zAf]
 simp (disch := omega) only [EL, ↓K3, ↓K1, reduceIte, Nat.reduceEqDiff, Nat.reduceAdd, Nat.reduceLeDiff]
 refine ⟨More.add _ _, _, rfl, ?_⟩
 intro i hi
 rw [zAj]
 have e : ([sv [], sv [43], sv [45], sv [42], sv [47], sv [37], sv [38], sv [124], sv [94], sv [60, 60], sv [62, 62], sv [61, 61], sv [33, 61], sv [60], sv [60, 61], sv [62], sv [62, 61], sv [45], sv [33]] : List AV) = signs19.map sv := rfl
 rw [e, List.getElem?_map, List.getElem?_eq_getElem hi]; rfl
end
end Go.Ev
namespace Go.Ev
open Go Go.Pa
set_option linter.unusedSimpArgs false
set_option linter.unusedVariables false
set_option maxRecDepth 100000
set_option maxHeartbeats 4000000
section
variable {tab : Nat → Option AFunc} {h : AH} (H : PT tab) {ts : List Tok} {en r i d : Nat}
theorem gp_run {f n : Nat} {af : AFunc} {args : List AV} {v : AV} {h' : AH} (ht : tab f = some af) (e : callFn tab (evC tab n) f args h af = .ret v h') : GP tab f args h fun w h1 => w = v ∧ h1 = h' := by
 refine ⟨v, h', ⟨trivial, n, ?_⟩, rfl, rfl⟩
 show obind (tab f) _ _ = _
 rw [ht]; exact e
include H in
theorem oplevel_gp {op : Nat} (ho : op ≤ 16) : GP tab 169 [.int .i64 (op : Int)] h fun w h1 => w = .int .i64 (opLevel op : Int) ∧ h1 = h := by
 have : ∀ op : Nat, op ≤ 16 → callFn tab (evC tab 60) 169 [.int .i64 (op : Int)] h af169 = .ret (.int .i64 (opLevel op : Int)) h := by
  intro op ho
  match op, ho with
  | 0, _ => rfl | 1, _ => rfl | 2, _ => rfl | 3, _ => rfl | 4, _ => rfl | 5, _ => rfl | 6, _ => rfl | 7, _ => rfl | 8, _ => rfl
  | 9, _ => rfl | 10, _ => rfl | 11, _ => rfl | 12, _ => rfl | 13, _ => rfl | 14, _ => rfl | 15, _ => rfl | 16, _ => rfl | n + 17, h => exact absurd h (by omega)
 exact gp_run H.t169 (this op ho)
theorem signs_len : signs.length = 17 := rfl
theorem binOp_le (s : Str) : sgnOp s ≤ 16 := by
 unfold sgnOp
 split
 ·omega
 ·split
  ·rename_i hm
   have := List.idxOf_lt_length_of_mem hm
   rw [signs_len] at this; omega
  ·omega
include H in
theorem signed2_gp (s : Str) : GP tab 168 [sv s, .int .i64 ((2 : Nat) : Int)] h fun w h1 => w = .tup [.int .i64 (sgnOp s : Int), .bool (decide (0 < sgnOp s))] ∧ More h h1 := by
 have i0 : zAh [sv s, .int .i64 ((2 : Nat) : Int)] = zAd [sv s, .int .i64 ((2 : Nat) : Int)] := rfl
 refine GE.gp (ge_of H.t168 rfl ?_) (E := fun _ _ => False) fun _ _ => id
 refine zAc (zAb fun Q1 hQ => ?_)
 simp (disch := omega) only [EL, ↓K3, ↓K1, reduceIte, Nat.reduceEqDiff, Nat.reduceAdd, Nat.reduceLeDiff, i0]
 refine hQ _ ?_
 clear hQ Q1
 refine zAc (zAb fun Q1 hQ => ?_)
 simp (disch := omega) only [EL, ↓K3, ↓K1, reduceIte, Nat.reduceEqDiff, Nat.reduceAdd, Nat.reduceLeDiff, i0]
 refine (signs_gp H).to fun v h1 q => ?_
 obtain ⟨rfl, m1, c, gc, ga⟩ := q
 simp (disch := omega) only [EL, ↓K3, ↓K1, reduceIte, Nat.reduceEqDiff, Nat.reduceAdd, Nat.reduceLeDiff, i0]
 refine hQ _ ?_
 clear hQ Q1
 simp only [zAa]
 refine zAc ?_
 refine zAy ?_
 have f1 : ¬ ((2 : Nat) : Int) < ((1 : Nat) : Int) := by decide
 have f2 : ¬ ((2 : Nat) : Int) < ((2 : Nat) : Int) := by decide
 by_cases hs : s = []
 ·refine zAc (zAb fun Q1 hQ => ?_)
  simp (disch := omega) only [EL, ↓K3, ↓K1, reduceIte, Nat.reduceEqDiff, Nat.reduceAdd, Nat.reduceLeDiff, i0, hs]
  refine hQ _ ?_
  clear hQ Q1
  refine zAq (by simp (disch := omega) only [EL, ↓K3, ↓K1, reduceIte, Nat.reduceEqDiff, Nat.reduceAdd, Nat.reduceLeDiff]) ?_
  refine zAc (zAb fun Q1 hQ => ?_)
  simp (disch := omega) only [EL, ↓K3, ↓K1, reduceIte, Nat.reduceEqDiff, Nat.reduceAdd, Nat.reduceLeDiff]
  refine hQ _ ?_
  clear hQ Q1
  refine zAk ?_
  try simp only [zAg, zAf]
  refine ⟨_, zAv (zAv zAl), ?_⟩
  simp (disch := omega) only [EL, ↓K3, ↓K1, reduceIte, Nat.reduceEqDiff, Nat.reduceAdd, Nat.reduceLeDiff, zDd]
  exact ⟨by rw [hs]; rfl, m1⟩
 ·refine zAc (zAb fun Q1 hQ => ?_)
  simp (disch := omega) only [EL, ↓K3, ↓K1, reduceIte, Nat.reduceEqDiff, Nat.reduceAdd, Nat.reduceLeDiff, i0, hs, f1, f2]
  refine hQ _ ?_
  clear hQ Q1
  refine wc_no (by simp (disch := omega) only [EL, ↓K3, ↓K1, reduceIte, Nat.reduceEqDiff, Nat.reduceAdd, Nat.reduceLeDiff]) ?_
  refine zAc (zAb fun Q1 hQ => ?_)
  simp (disch := omega) only [EL, ↓K3, ↓K1, reduceIte, Nat.reduceEqDiff, Nat.reduceAdd, Nat.reduceLeDiff, i0]
  refine hQ _ ?_
  clear hQ Q1
  refine zAq (by simp (disch := omega) only [EL, ↓K3, ↓K1, reduceIte, Nat.reduceEqDiff, Nat.reduceAdd, Nat.reduceLeDiff]) ?_
  have s1 : ∀ h', zE9 true 1 (.c (.sl h.next 0 19 (.known 19))) none (some (.c (.int .i64 ((17 : Nat) : Int)))) none .leaf [] h' = .val (.sl h.next 0 17 (.known 19)) h' := fun _ => rfl
  have s2 : ∀ loc tmp h', evOp (.sliceV true 1 (.t 0) none (some (.c (.int .i64 ((17 : Nat) : Int)))) none) loc tmp h' = zE9 true 1 (.c (ev loc tmp (.t 0))) none (some (.c (.int .i64 ((17 : Nat) : Int)))) none .leaf [] h' := fun _ _ _ => rfl
  refine zAc (zAb fun Q1 hQ => ?_)
  simp (disch := omega) only [EL, ↓K3, ↓K1, reduceIte, Nat.reduceEqDiff, Nat.reduceAdd, Nat.reduceLeDiff, i0, s2, s1]
  have sa : StrA h1 (.sl h.next 0 17 (.known 19)) signs := ⟨h.next, 0, _, _, _, _, c, rfl, gc, fun i hi => by
   rw [Nat.zero_add]
   have := ga i (by rw [signs_len] at hi; show i < 19; omega)
   rw [this]
   congr 1
   unfold signs19
   rw [List.getElem_append_left]⟩
  rw [ge_rw (zLm H sa (by decide))]
  simp (disch := omega) only [EL, ↓K3, ↓K1, reduceIte, Nat.reduceEqDiff, Nat.reduceAdd, Nat.reduceLeDiff, i0]
  refine hQ _ ?_
  clear hQ Q1
  simp only [zAa]
  have hop : (if zF2 signs s < ((0 : Nat) : Int) then ((0 : Nat) : Int) else zF2 signs s) = (sgnOp s : Int) ∧ decide (((0 : Nat) : Int) < zF2 signs s) = decide (0 < sgnOp s) := by
   unfold zF2 sgnOp
   rw [if_neg hs]
   by_cases hm : s ∈ signs
   ·rw [if_pos hm, if_pos hm]
    refine ⟨by rw [if_neg (by omega)], by simp⟩
   ·rw [if_neg hm, if_neg hm]
    exact ⟨rfl, rfl⟩
  refine zAc (zAb fun Q1 hQ => ?_)
  simp (disch := omega) only [EL, ↓K3, ↓K1, reduceIte, Nat.reduceEqDiff, Nat.reduceAdd, Nat.reduceLeDiff, hop.1, hop.2]
  refine hQ _ ?_
  clear hQ Q1
  refine zAk ?_
  try simp only [zAg, zAf]
  refine ⟨_, zAv (zAv zAl), ?_⟩
  simp (disch := omega) only [EL, ↓K3, ↓K1, reduceIte, Nat.reduceEqDiff, Nat.reduceAdd, Nat.reduceLeDiff, zDd]
  exact m1
end
end Go.Ev
namespace Go.Ev
open Go Go.Pa
set_option linter.unusedSimpArgs false
set_option linter.unusedVariables false
set_option maxRecDepth 100000
set_option maxHeartbeats 4000000
theorem zH8 : ∀ (s : Str) (acc : Nat), (∀ c ∈ s, 48 ≤ c.toNat ∧ c.toNat ≤ 57) → Lib.parseUint10 acc s = .range ∨ ∃ v, Lib.parseUint10 acc s = .ok v
 | [], acc, _ => .inr ⟨acc, rfl⟩
 | c :: s, acc, h => by
  unfold Lib.parseUint10
  rw [if_pos (h c (by simp))]
  split
  ·exact .inl rfl
  ·split
   ·exact .inl rfl
   ·exact zH8 s _ fun c hc => h c (by simp [hc])
theorem atoi_digs {s : Str} (h : Digs s) : Lib.atoiAll s = .range ∨ ∃ v, Lib.atoiAll s = .ok v := by
 obtain ⟨h0, h1, _⟩ := h
 cases s with
 | nil => exact absurd rfl h0
 | cons c r =>
  have hc := h1 c (by simp)
  have hp : Lib.parseMag (c :: r) = .range ∨ ∃ v, Lib.parseMag (c :: r) = .ok v := by
   unfold Lib.parseMag
   rw [if_neg (by simp)]
   exact zH8 _ _ h1
  unfold Lib.atoiAll
  simp only [show ¬ (c.toNat = 43 ∨ c.toNat = 45) by omega, if_false]
  rcases hp with e | ⟨u, e⟩
  ·rw [e]; exact .inl rfl
  ·rw [e]
   simp only
   by_cases a1 : ¬ c.toNat = 45 ∧ 9223372036854775808 ≤ u
   ·rw [if_pos a1]; exact .inl rfl
   ·rw [if_neg a1]
    by_cases a2 : c.toNat = 45 ∧ 9223372036854775808 < u
    ·rw [if_pos a2]; exact .inl rfl
    ·rw [if_neg a2]; exact .inr ⟨_, rfl⟩
def digits10 : Str := [48, 49, 50, 51, 52, 53, 54, 55, 56, 57]
theorem digs_in {c : UInt8} (h1 : 48 ≤ c.toNat) (h2 : c.toNat ≤ 57) : digits10.contains c = true := by
 have : ∀ n : Nat, 48 ≤ n → n ≤ 57 → digits10.contains (UInt8.ofNat n) = true := by
  intro n h1 h2
  have : n = 48 ∨ n = 49 ∨ n = 50 ∨ n = 51 ∨ n = 52 ∨ n = 53 ∨ n = 54 ∨ n = 55 ∨ n = 56 ∨ n = 57 := by omega
  rcases this with rfl | rfl | rfl | rfl | rfl | rfl | rfl | rfl | rfl | rfl <;> decide
 have := this c.toNat h1 h2
 rwa [UInt8.ofNat_toNat] at this
theorem digs_trim {s : Str} (h : Digs s) : zE2 s digits10 = true := by
 obtain ⟨_, h1, h2⟩ := h
 simp only [zE2, Bool.and_eq_true, List.all_eq_true, decide_eq_true_eq]
 exact ⟨⟨⟨fun c hc => digs_in (h1 c hc).1 (h1 c hc).2, by decide⟩, h2⟩, by decide⟩
section
variable {tab : Nat → Option AFunc} {h : AH} (H : PT tab) {ts : List Tok} {en r i d : Nat}
theorem nat_gp {f n : Nat} {g : List AV → AH → Option (AV × AH)} {args : List AV} {v : AV} {h' : AH} (ht : tab f = some (natF n g)) (hn : args.length = n) (e : g args h = some (v, h')) : GP tab f args h fun w h1 => w = v ∧ h1 = h' := by
 refine GE.gp (ge_of (n := n) ht hn (zI0 ?_)) (E := fun _ _ => False) fun _ _ hh => hh
 rw [zDu, zBf, zBl]
 have hargs : evs (zAh args) [] (zCr n 0) = args := by
  show evs (zAd args) [] (zCr n 0) = args
  rw [zJp n 0 args (by omega), ← hn]; simp
 have hev : evOp (.nat g (zCr n 0)) (zAh args) [] h = .val v h' := by
  show obind (g (evs (zAh args) [] (zCr n 0)) h) (F 67) (fun r => Prod.rec (motive := fun _ => OR) (fun v h => OR.val v h) r) = _
  rw [hargs, e]; rfl
 rw [hev, zB0]
 refine ⟨rfl, ?_⟩
 rw [zK0]
 refine ⟨_, zAv zAl, ?_⟩
 rw [zLd, evl, zBy, T.get_put_self]
 exact ⟨rfl, rfl⟩
include H in
theorem zIe {a b : Str} : GP tab 89 [sv a, sv b] h fun v h1 => v = .bool (decide (b.isPrefixOf a = true)) ∧ h1 = h := by
 have i0 : zAh [sv a, sv b] = zAd [sv a, sv b] := rfl
 refine GE.gp (ge_of H.t89 rfl ?_) (E := fun _ _ => False) fun _ _ hh => hh
 refine zAc (zAb fun Q1 hQ => ?_)
 simp (disch := omega) only [EL, ↓K3, ↓K1, reduceIte, Nat.reduceEqDiff, Nat.reduceAdd, Nat.reduceLeDiff, i0]
 refine hQ _ ?_
 clear hQ Q1
 have pre : b.isPrefixOf a = true ↔ (b.length ≤ a.length ∧ a.take b.length = b) := by
  rw [List.isPrefixOf_iff_prefix]
  constructor
  ·intro hp; exact ⟨hp.length_le, by obtain ⟨t, rfl⟩ := hp; simp⟩
  ·intro ⟨h1, h2⟩; exact ⟨a.drop b.length, by have := List.take_append_drop b.length a; rwa [h2] at this⟩
 by_cases hl : b.length ≤ a.length
 ·have sl : ∀ h' : AH, zCz (.c (sv a)) none (some (.c (.int .i64 (b.length : Int)))) .leaf [] h' = .val (sv (a.take b.length)) h' := fun h' => zI3 hl
  refine zAc (zAb fun Q1 hQ => ?_)
  simp (disch := omega) only [EL, ↓K3, ↓K1, reduceIte, Nat.reduceEqDiff, Nat.reduceAdd, Nat.reduceLeDiff, i0, hl, sl]
  refine hQ _ ?_
  clear hQ Q1
  refine zAk ?_
  simp (disch := omega) only [EL, ↓K3, ↓K1, reduceIte, Nat.reduceEqDiff, Nat.reduceAdd, Nat.reduceLeDiff]
  congr 1
  rw [decide_eq_decide, pre]
  exact ⟨fun e => ⟨hl, e⟩, fun e => e.2⟩
 ·refine zAc (zAb fun Q1 hQ => ?_)
  simp (disch := omega) only [EL, ↓K3, ↓K1, reduceIte, Nat.reduceEqDiff, Nat.reduceAdd, Nat.reduceLeDiff, i0, hl]
  refine hQ _ ?_
  clear hQ Q1
  refine zAk ?_
  simp (disch := omega) only [EL, ↓K3, ↓K1, reduceIte, Nat.reduceEqDiff, Nat.reduceAdd, Nat.reduceLeDiff]
  congr 1
  symm
  rw [decide_eq_false_iff_not, pre]
  exact fun e => hl e.1
include H in
theorem trimPre_gp {s : Str} (hs : Digs s) : GP tab 116 [sv s, sv [45]] h fun v h1 => v = sv s ∧ h1 = h := by
 have i0 : zAh [sv s, sv [45]] = zAd [sv s, sv [45]] := rfl
 have np : ([45] : Str).isPrefixOf s = false := by
  obtain ⟨h0, h1, _⟩ := hs
  cases s with
  | nil => exact absurd rfl h0
  | cons c r =>
   have hc := h1 c (by simp)
   simp only [List.isPrefixOf, Bool.and_true, beq_eq_false_iff_ne, ne_eq]
   intro e; subst e; simp at hc
 have g : GP tab 129 [sv s, sv [45]] h fun v h1 => v = sv s ∧ h1 = h := by
  refine GE.gp (ge_of H.t129 rfl ?_) (E := fun _ _ => False) fun _ _ hh => hh
  refine zAc (zAb fun Q1 hQ => ?_)
  simp (disch := omega) only [EL, ↓K3, ↓K1, reduceIte, Nat.reduceEqDiff, Nat.reduceAdd, Nat.reduceLeDiff, i0]
  refine hQ _ ?_
  clear hQ Q1
  refine zAc ?_
  refine zAc (zAb fun Q1 hQ => ?_)
  simp (disch := omega) only [EL, ↓K3, ↓K1, reduceIte, Nat.reduceEqDiff, Nat.reduceAdd, Nat.reduceLeDiff, i0]
  rw [ge_rw (zIe H)]
  simp (disch := omega) only [EL, ↓K3, ↓K1, reduceIte, Nat.reduceEqDiff, Nat.reduceAdd, Nat.reduceLeDiff, i0, np]
  refine hQ _ ?_
  simp only [zAa]
  refine wc_no (by simp (disch := omega) only [EL, ↓K3, ↓K1, reduceIte, Nat.reduceEqDiff, Nat.reduceAdd, Nat.reduceLeDiff]) ?_
  refine zAo ?_
  simp only [zAa]
  refine zAc (zAb fun Q1 hQ => ?_)
  simp (disch := omega) only [EL, ↓K3, ↓K1, reduceIte, Nat.reduceEqDiff, Nat.reduceAdd, Nat.reduceLeDiff, i0]
  refine hQ _ ?_
  clear hQ Q1
  refine zAk ?_
  simp (disch := omega) only [EL, ↓K3, ↓K1, reduceIte, Nat.reduceEqDiff, Nat.reduceAdd, Nat.reduceLeDiff]
 refine GE.gp (ge_of H.t116 rfl ?_) (E := fun _ _ => False) fun _ _ hh => hh
 refine zAc (zAb fun Q1 hQ => ?_)
 simp (disch := omega) only [EL, ↓K3, ↓K1, reduceIte, Nat.reduceEqDiff, Nat.reduceAdd, Nat.reduceLeDiff, i0]
 refine hQ _ ?_
 clear hQ Q1
 refine zAc (zAb fun Q1 hQ => ?_)
 simp (disch := omega) only [EL, ↓K3, ↓K1, reduceIte, Nat.reduceEqDiff, Nat.reduceAdd, Nat.reduceLeDiff, i0]
 rw [ge_rw g]
 simp (disch := omega) only [EL, ↓K3, ↓K1, reduceIte, Nat.reduceEqDiff, Nat.reduceAdd, Nat.reduceLeDiff, i0]
 refine hQ _ ?_
 simp only [zAa]
 refine zAk ?_
 simp (disch := omega) only [EL, ↓K3, ↓K1, reduceIte, Nat.reduceEqDiff, Nat.reduceAdd, Nat.reduceLeDiff]
include H in
theorem isDigits_gp {s : Str} (hs : Digs s) : GP tab 117 [sv s] h fun v h1 => v = .bool (decide (¬ (s.head? = some 48 ∧ s ≠ [48]))) ∧ h1 = h := by
 have i0 : zAh [sv s] = zAd [sv s] := rfl
 have e10 : (AV.str 10 270211885617516653982000) = sv digits10 := rfl
 obtain ⟨c, t, hct⟩ : ∃ c t, s = c :: t := by
  cases s with
  | nil => exact absurd rfl hs.1
  | cons c t => exact ⟨c, t, rfl⟩
 refine GE.gp (ge_of H.t117 rfl ?_) (E := fun _ _ => False) fun _ _ hh => hh
 refine zAc (zAb fun Q1 hQ => ?_)
 simp (disch := omega) only [EL, ↓K3, ↓K1, reduceIte, Nat.reduceEqDiff, Nat.reduceAdd, Nat.reduceLeDiff, i0]
 refine hQ _ ?_
 clear hQ Q1
 refine zAc (zAb fun Q1 hQ => ?_)
 have ix : ∀ h' : AH, oIdxS (.c (sv s)) (.c (.int .i64 ((0 : Nat) : Int))) .leaf [] h' = .val (.int .u8 (c.toNat : Int)) h' := fun h' => idx_sv (i := 0) (by rw [hct]; rfl)
 simp (disch := omega) only [e10, ↓zEo, ↓zEp, reduceIte, Nat.reduceEqDiff, Nat.reduceAdd, Nat.reduceLeDiff, Nat.succ_eq_add_one, zId, zEn, EE, i0, hs.1]
 rw [ge_rw (nat_gp H.t130 rfl (trim_sv (digs_trim hs)))]
 have hz : (c.toNat = 48) ↔ c = 48 := ⟨fun e => by rw [← UInt8.toNat_inj]; exact e, fun e => by rw [e]; rfl⟩
 have hh : s.head? = some c := by rw [hct]; rfl
 by_cases hc : c.toNat = 48
 ·simp (disch := omega) only [↓zEo, ↓zEp, reduceIte, Nat.reduceEqDiff, Nat.reduceAdd, Nat.reduceLeDiff, Nat.succ_eq_add_one, zId, zEn, EE, LITS, i0, ix, hc]
  refine hQ _ ?_
  simp only [zAa]
  refine zAk ?_
  simp (disch := omega) only [EL, ↓K3, ↓K1, reduceIte, Nat.reduceEqDiff, Nat.reduceAdd, Nat.reduceLeDiff]
  congr 1
  rw [hh, hz.mp hc]
  simp
 ·simp (disch := omega) only [↓zEo, ↓zEp, reduceIte, Nat.reduceEqDiff, Nat.reduceAdd, Nat.reduceLeDiff, Nat.succ_eq_add_one, zId, zEn, EE, LITS, i0, ix, hc]
  refine hQ _ ?_
  simp only [zAa]
  refine zAk ?_
  simp (disch := omega) only [EL, ↓K3, ↓K1, reduceIte, Nat.reduceEqDiff, Nat.reduceAdd, Nat.reduceLeDiff]
  congr 1
  have : ¬ c = 48 := fun e => hc (hz.mpr e)
  rw [hh]
  simp [this]
include H in
theorem zJf {s : Str} (hs : Digs s) : GP tab 92 [sv s] h fun v h1 => v = .tup [.int .i64 (numP s).1, .int .i64 ((numP s).2 : Int)] ∧ h1 = h := by
 have i0 : zAh [sv s] = zAd [sv s] := rfl
 refine GE.gp (ge_of H.t92 rfl ?_) (E := fun _ _ => False) fun _ _ hh => hh
 refine zAc (zAb fun Q1 hQ => ?_)
 simp (disch := omega) only [EL, ↓K3, ↓K1, reduceIte, Nat.reduceEqDiff, Nat.reduceAdd, Nat.reduceLeDiff, i0]
 refine hQ _ ?_
 clear hQ Q1
 refine zAc (zAb fun Q1 hQ => ?_)
 simp (disch := omega) only [EL, ↓K3, ↓K1, reduceIte, Nat.reduceEqDiff, Nat.reduceAdd, Nat.reduceLeDiff, i0]
 rw [ge_rw (trimPre_gp H hs)]
 simp (disch := omega) only [EL, ↓K3, ↓K1, reduceIte, Nat.reduceEqDiff, Nat.reduceAdd, Nat.reduceLeDiff, i0]
 refine hQ _ ?_
 clear hQ Q1
 simp only [zAa]
 refine zAc ?_
 refine zAc (zAb fun Q1 hQ => ?_)
 simp (disch := omega) only [EL, ↓K3, ↓K1, reduceIte, Nat.reduceEqDiff, Nat.reduceAdd, Nat.reduceLeDiff, i0]
 rw [ge_rw (isDigits_gp H hs)]
 have nm : ¬ s = [45, 48] := by
  intro e
  have := hs.2.1 45 (by rw [e]; simp)
  simp at this
 by_cases hz : s.head? = some 48 ∧ s ≠ [48]
 ·have hn : numP s = (0, 1) := by unfold numP; rw [if_pos hz]
  have hd : decide (¬ (s.head? = some 48 ∧ s ≠ [48])) = false := by simp [hz]
  simp (disch := omega) only [EL, ↓K3, ↓K1, reduceIte, Nat.reduceEqDiff, Nat.reduceAdd, Nat.reduceLeDiff, i0, hd, nm]
  refine hQ _ ?_
  clear hQ Q1
  simp only [zAa]
  refine zAq (by simp (disch := omega) only [EL, ↓K3, ↓K1, reduceIte, Nat.reduceEqDiff, Nat.reduceAdd, Nat.reduceLeDiff]) ?_
  refine zAc (zAb fun Q1 hQ => ?_)
  simp (disch := omega) only [EL, ↓K3, ↓K1, reduceIte, Nat.reduceEqDiff, Nat.reduceAdd, Nat.reduceLeDiff]
  refine hQ _ ?_
  clear hQ Q1
  refine zAk ?_
  try simp only [zAg, zAf]
  refine ⟨_, zAv (zAv zAl), ?_⟩
  rw [hn]
  simp (disch := omega) only [EL, ↓K3, ↓K1, reduceIte, Nat.reduceEqDiff, Nat.reduceAdd, Nat.reduceLeDiff, zDd]
  rfl
 ·have hd : decide (¬ (s.head? = some 48 ∧ s ≠ [48])) = true := by simp only [hz, not_false_eq_true, decide_true]
  simp (disch := omega) only [EL, ↓K3, ↓K1, reduceIte, Nat.reduceEqDiff, Nat.reduceAdd, Nat.reduceLeDiff, i0, hd, nm]
  refine hQ _ ?_
  clear hQ Q1
  simp only [zAa]
  refine wc_no (by simp (disch := omega) only [EL, ↓K3, ↓K1, reduceIte, Nat.reduceEqDiff, Nat.reduceAdd, Nat.reduceLeDiff]) ?_
  refine zAo ?_
  simp only [zAa]
  refine zAc (zAb fun Q1 hQ => ?_)
  simp (disch := omega) only [EL, ↓K3, ↓K1, reduceIte, Nat.reduceEqDiff, Nat.reduceAdd, Nat.reduceLeDiff, i0]
  rcases atoi_digs hs with ha | ⟨z, ha⟩
  ·have hn : numP s = (0, 2) := by unfold numP; rw [if_neg hz, ha]
   rw [ge_rw (nat_gp H.t118 rfl (atoi_range (by have := hs.2.2; omega) ha))]
   simp (disch := omega) only [EL, ↓K3, ↓K1, reduceIte, Nat.reduceEqDiff, Nat.reduceAdd, Nat.reduceLeDiff, i0]
   refine hQ _ ?_
   clear hQ Q1
   simp only [zAa]
   refine zAc ?_
   refine zAc (zAb fun Q1 hQ => ?_)
   simp (disch := omega) only [EL, ↓K3, ↓K1, reduceIte, Nat.reduceEqDiff, Nat.reduceAdd, Nat.reduceLeDiff]
   refine hQ _ ?_
   clear hQ Q1
   refine zAq (by simp (disch := omega) only [EL, ↓K3, ↓K1, reduceIte, Nat.reduceEqDiff, Nat.reduceAdd, Nat.reduceLeDiff]) ?_
   refine zAc (zAb fun Q1 hQ => ?_)
   simp (disch := omega) only [EL, ↓K3, ↓K1, reduceIte, Nat.reduceEqDiff, Nat.reduceAdd, Nat.reduceLeDiff]
   refine hQ _ ?_
   clear hQ Q1
   refine zAk ?_
   try simp only [zAg, zAf]
   refine ⟨_, zAv (zAv zAl), ?_⟩
   rw [hn]
   simp (disch := omega) only [EL, ↓K3, ↓K1, reduceIte, Nat.reduceEqDiff, Nat.reduceAdd, Nat.reduceLeDiff, zDd]
   rfl
  ·have hn : numP s = (z, 0) := by unfold numP; rw [if_neg hz, ha]
   rw [ge_rw (nat_gp H.t118 rfl (atoi_ok (by have := hs.2.2; omega) ha))]
   simp (disch := omega) only [EL, ↓K3, ↓K1, reduceIte, Nat.reduceEqDiff, Nat.reduceAdd, Nat.reduceLeDiff, i0]
   refine hQ _ ?_
   clear hQ Q1
   simp only [zAa]
   refine zAc ?_
   refine zAc (zAb fun Q1 hQ => ?_)
   simp (disch := omega) only [EL, ↓K3, ↓K1, reduceIte, Nat.reduceEqDiff, Nat.reduceAdd, Nat.reduceLeDiff]
   refine hQ _ ?_
   clear hQ Q1
   refine wc_no (by simp (disch := omega) only [EL, ↓K3, ↓K1, reduceIte, Nat.reduceEqDiff, Nat.reduceAdd, Nat.reduceLeDiff]) ?_
   refine zAo ?_
   simp only [zAa]
   refine zAc (zAb fun Q1 hQ => ?_)
   simp (disch := omega) only [EL, ↓K3, ↓K1, reduceIte, Nat.reduceEqDiff, Nat.reduceAdd, Nat.reduceLeDiff]
   refine hQ _ ?_
   clear hQ Q1
   refine zAk ?_
   try simp only [zAg, zAf]
   refine ⟨_, zAv (zAv zAl), ?_⟩
   rw [hn]
   simp (disch := omega) only [EL, ↓K3, ↓K1, reduceIte, Nat.reduceEqDiff, Nat.reduceAdd, Nat.reduceLeDiff, zDd]
end
end Go.Ev
namespace Go.Ev
open Go Go.Pa
set_option linter.unusedSimpArgs false
set_option linter.unusedVariables false
set_option maxRecDepth 100000
set_option maxHeartbeats 4000000
section
variable {tab : Nat → Option AFunc} {h : AH} (H : PT tab) {ts : List Tok} {en r i d : Nat}
include H in
theorem level_gp (R : RS ts en h r i d) : GP tab 153 [.ptr r 0] h fun v h1 => v = .tup [.int .i64 ((zB7 ts en i).1 : Int), .int .i64 ((zB7 ts en i).2 : Int)] ∧ More h h1 := by
 have i0 : zAh [.ptr r 0] = zAd [.ptr r 0] := rfl
 refine GE.gp (ge_of H.t153 rfl ?_) (E := fun _ _ => False) fun _ _ hh => hh
 refine zAc (zAb fun Q1 hQ => ?_)
 simp (disch := omega) only [EL, ↓K3, ↓K1, reduceIte, Nat.reduceEqDiff, Nat.reduceAdd, Nat.reduceLeDiff, i0]
 refine hQ _ ?_
 clear hQ Q1
 refine zAc (zAb fun Q1 hQ => ?_)
 simp (disch := omega) only [EL, ↓K3, ↓K1, reduceIte, Nat.reduceEqDiff, Nat.reduceAdd, Nat.reduceLeDiff, i0]
 refine (zG8 H R).to fun v h1 q => ?_
 obtain ⟨rfl, m1⟩ := q
 simp (disch := omega) only [EL, ↓K3, ↓K1, reduceIte, Nat.reduceEqDiff, Nat.reduceAdd, Nat.reduceLeDiff, i0]
 refine hQ _ ?_
 clear hQ Q1
 refine zDc fun h2 n2 g2 m2 => ?_
 obtain ⟨c, g2, k0, k1, k2⟩ := g2
 have m12 := m1.trans m2
 simp only [zAa]
 refine zAc ?_
 refine zAy ?_
 by_cases hk : (now ts en i).kind = 4
 ·refine zAc (zAb fun Q1 hQ => ?_)
  simp (disch := omega) only [EL, ↓K3, ↓K1, reduceIte, Nat.reduceEqDiff, Nat.reduceAdd, Nat.reduceLeDiff, g2, k0, hk]
  refine hQ _ ?_
  clear hQ Q1
  refine wc_no (by simp (disch := omega) only [EL, ↓K3, ↓K1, reduceIte, Nat.reduceEqDiff, Nat.reduceAdd, Nat.reduceLeDiff]) ?_
  by_cases h1' : (now ts en i).text = [124, 124]
  ·have hl : zB7 ts en i = (1, 0) := by unfold zB7; simp [hk, h1']
   refine zAc (zAb fun Q1 hQ => ?_)
   simp (disch := omega) only [EL, ↓K3, ↓K1, reduceIte, Nat.reduceEqDiff, Nat.reduceAdd, Nat.reduceLeDiff, g2, k1, h1']
   refine hQ _ ?_
   clear hQ Q1
   refine zAq (by simp (disch := omega) only [EL, ↓K3, ↓K1, reduceIte, Nat.reduceEqDiff, Nat.reduceAdd, Nat.reduceLeDiff]) ?_
   refine zAc (zAb fun Q1 hQ => ?_)
   simp (disch := omega) only [EL, ↓K3, ↓K1, reduceIte, Nat.reduceEqDiff, Nat.reduceAdd, Nat.reduceLeDiff]
   refine hQ _ ?_
   clear hQ Q1
   refine zAk ?_
   try simp only [zAg, zAf]
   refine ⟨_, zAv (zAv zAl), ?_⟩
   rw [hl]
   simp (disch := omega) only [EL, ↓K3, ↓K1, reduceIte, Nat.reduceEqDiff, Nat.reduceAdd, Nat.reduceLeDiff, zDd]
   exact m12
  ·refine zAc (zAb fun Q1 hQ => ?_)
   simp (disch := omega) only [EL, ↓K3, ↓K1, reduceIte, Nat.reduceEqDiff, Nat.reduceAdd, Nat.reduceLeDiff, g2, k1, h1']
   refine hQ _ ?_
   clear hQ Q1
   refine wc_no (by simp (disch := omega) only [EL, ↓K3, ↓K1, reduceIte, Nat.reduceEqDiff, Nat.reduceAdd, Nat.reduceLeDiff]) ?_
   by_cases h2' : (now ts en i).text = [38, 38]
   ·have hl : zB7 ts en i = (2, 0) := by unfold zB7; simp [hk, h1', h2']
    refine zAc (zAb fun Q1 hQ => ?_)
    simp (disch := omega) only [EL, ↓K3, ↓K1, reduceIte, Nat.reduceEqDiff, Nat.reduceAdd, Nat.reduceLeDiff, g2, k1, h2']
    refine hQ _ ?_
    clear hQ Q1
    refine zAq (by simp (disch := omega) only [EL, ↓K3, ↓K1, reduceIte, Nat.reduceEqDiff, Nat.reduceAdd, Nat.reduceLeDiff]) ?_
    refine zAc (zAb fun Q1 hQ => ?_)
    simp (disch := omega) only [EL, ↓K3, ↓K1, reduceIte, Nat.reduceEqDiff, Nat.reduceAdd, Nat.reduceLeDiff]
    refine hQ _ ?_
    clear hQ Q1
    refine zAk ?_
    try simp only [zAg, zAf]
    refine ⟨_, zAv (zAv zAl), ?_⟩
    rw [hl]
    simp (disch := omega) only [EL, ↓K3, ↓K1, reduceIte, Nat.reduceEqDiff, Nat.reduceAdd, Nat.reduceLeDiff, zDd]
    exact m12
   ·have hl : zB7 ts en i = (opLevel (sgnOp (now ts en i).text), sgnOp (now ts en i).text) := by unfold zB7; simp only [hk, h1', h2', ne_eq, not_true, if_false]
    refine zAc (zAb fun Q1 hQ => ?_)
    simp (disch := omega) only [EL, ↓K3, ↓K1, reduceIte, Nat.reduceEqDiff, Nat.reduceAdd, Nat.reduceLeDiff, g2, k1, h2']
    refine hQ _ ?_
    clear hQ Q1
    refine wc_no (by simp (disch := omega) only [EL, ↓K3, ↓K1, reduceIte, Nat.reduceEqDiff, Nat.reduceAdd, Nat.reduceLeDiff]) ?_
    refine zAo ?_
    simp only [zAi, zAa]
    refine zAc (zAb fun Q1 hQ => ?_)
    simp (disch := omega) only [EL, ↓K3, ↓K1, reduceIte, Nat.reduceEqDiff, Nat.reduceAdd, Nat.reduceLeDiff, g2, k1]
    refine (signed2_gp H _).to fun v h3 q => ?_
    obtain ⟨rfl, m3⟩ := q
    simp (disch := omega) only [EL, ↓K3, ↓K1, reduceIte, Nat.reduceEqDiff, Nat.reduceAdd, Nat.reduceLeDiff]
    refine hQ _ ?_
    clear hQ Q1
    simp only [zAa]
    refine zAc (zAb fun Q1 hQ => ?_)
    simp (disch := omega) only [EL, ↓K3, ↓K1, reduceIte, Nat.reduceEqDiff, Nat.reduceAdd, Nat.reduceLeDiff]
    rw [ge_rw (oplevel_gp H (binOp_le _))]
    simp (disch := omega) only [EL, ↓K3, ↓K1, reduceIte, Nat.reduceEqDiff, Nat.reduceAdd, Nat.reduceLeDiff]
    refine hQ _ ?_
    clear hQ Q1
    refine zAk ?_
    try simp only [zAg, zAf]
    refine ⟨_, zAv (zAv zAl), ?_⟩
    rw [hl]
    simp (disch := omega) only [EL, ↓K3, ↓K1, reduceIte, Nat.reduceEqDiff, Nat.reduceAdd, Nat.reduceLeDiff, zDd]
    exact m12.trans m3
 ·have hl : zB7 ts en i = (0, 0) := by unfold zB7; simp [hk]
  have hk' : ¬ ((now ts en i).kind : Int) = ((4 : Nat) : Int) := by omega
  refine zAc (zAb fun Q1 hQ => ?_)
  simp (disch := omega) only [EL, ↓K3, ↓K1, reduceIte, Nat.reduceEqDiff, Nat.reduceAdd, Nat.reduceLeDiff, g2, k0, hk']
  refine hQ _ ?_
  clear hQ Q1
  refine zAq (by simp (disch := omega) only [EL, ↓K3, ↓K1, reduceIte, Nat.reduceEqDiff, Nat.reduceAdd, Nat.reduceLeDiff, hk]) ?_
  refine zAc (zAb fun Q1 hQ => ?_)
  simp (disch := omega) only [EL, ↓K3, ↓K1, reduceIte, Nat.reduceEqDiff, Nat.reduceAdd, Nat.reduceLeDiff]
  refine hQ _ ?_
  clear hQ Q1
  refine zAk ?_
  try simp only [zAg, zAf]
  refine ⟨_, zAv (zAv zAl), ?_⟩
  rw [hl]
  simp (disch := omega) only [EL, ↓K3, ↓K1, reduceIte, Nat.reduceEqDiff, Nat.reduceAdd, Nat.reduceLeDiff, zDd]
  exact m12
include H in
theorem number_gp {t : Tok} (hd : Digs t.text) : GP tab 190 [tokV t] h fun v h1 => okT (.mk 15 [] [] (numP t.text).1 t.pos []) h.next v h1 ∧ More h h1 := by
 have i0 : zAh [tokV t] = zAd [tokV t] := rfl
 refine GE.gp (ge_of H.t190 rfl ?_) (E := fun _ _ => False) fun _ _ hh => hh
 refine zDz (l := [.int .i64 (t.kind : Int), sv t.text, .int .i64 (t.pos : Int)]) rfl fun h1 n1 g1 g2 m1 => ?_
 refine zAc (zAb fun Q1 hQ => ?_)
 simp (disch := omega) only [EL, ↓K3, ↓K1, reduceIte, Nat.reduceEqDiff, Nat.reduceAdd, Nat.reduceLeDiff, i0, g1]
 refine (zCy H (op := 15) (pos := t.pos) (fun _ => rfl) rfl).to fun v h2 q => ?_
 obtain ⟨ia, rfl, i1, i2, nc, m2⟩ := q
 simp (disch := omega) only [EL, ↓K3, ↓K1, reduceIte, Nat.reduceEqDiff, Nat.reduceAdd, Nat.reduceLeDiff, i0]
 refine hQ _ ?_
 clear hQ Q1
 refine zBk fun h3 n3 g3 m3 => ?_
 obtain ⟨cb, gb, cb0⟩ := g3
 simp only [zAa]
 have m13 := m2.trans m3
 have nc3 := nc.keep (m3.keep ia i2)
 have g13 := (m13.keep h.next (by omega)).trans g1
 have g23 := (m13.keep (h.next + 1) (by omega)).trans g2
 have n2 := m2.next
 obtain ⟨c, gn, c0, c1, c2, c3, c4, c5, _, _, ncN, _⟩ := nc3.set
 refine zAc (zAb fun Q1 hQ => ?_)
 simp (disch := omega) only [EL, ↓K3, ↓K1, reduceIte, Nat.reduceEqDiff, Nat.reduceAdd, Nat.reduceLeDiff, i0, gb, cb0, g13]
 rw [ge_rw (zJf H hd)]
 simp (disch := omega) only [EL, ↓K3, ↓K1, reduceIte, Nat.reduceEqDiff, Nat.reduceAdd, Nat.reduceLeDiff, zB1, zBx, gb, cb0, zB3, gn, c3]
 refine hQ _ ?_
 clear hQ Q1
 simp only [zAa]
 have o4 : Only ia h3 (h3.set ia (.cells (T.put (some (.int .i64 (numP t.text).1)) c 3) 6 none false)) := Only.set
 have nc4 := ncN (numP t.text).1
 generalize (h3.set ia (.cells (T.put (some (.int .i64 (numP t.text).1)) c 3) 6 none false)) = h4 at *
 have n4 := o4.next
 refine zCh (b := h2.next) (rc := h.next + 1) (by simp (disch := omega) only [EL, ↓K3, ↓K1, reduceIte, Nat.reduceEqDiff, Nat.reduceAdd, Nat.reduceLeDiff]) (by rw [o4.keep _ (by omega)]; exact gb) cb0 (by simp (disch := omega) only [EL, ↓K3, ↓K1, reduceIte, Nat.reduceEqDiff, Nat.reduceAdd, Nat.reduceLeDiff]) (by rw [o4.keep _ (by omega)]; exact g23) (by rw [zAj]; rfl) fun h5 o5 => ?_
 refine ⟨⟨_, rfl, ?_⟩, ⟨by rw [o5.next, n4]; have := m1.next; omega, fun k hk => by rw [o5.keep k (by omega), o4.keep k (by omega), m13.keep k (by omega), m1.keep k hk]⟩⟩
 exact Kids.tree (lo := h.next) (X := []) Kids.nils (nc4.keep (o5.keep _ (by omega))) (by show h.next ≤ ia; omega) (by rw [o5.next]; omega) fun k hk => hk
end
end Go.Ev
namespace Go.Ev
open Go Go.Pa
set_option linter.unusedSimpArgs false
set_option linter.unusedVariables false
set_option maxRecDepth 100000
set_option maxHeartbeats 4000000
theorem numVal_eq {s : Str} (h : (numP s).2 = 0) : (numP s).1 = numVal s := by
 unfold numP at h ⊢
 unfold numVal
 split at h
 ·cases h
 ·rename_i hn
  rw [if_neg hn]
  cases e : Lib.atoiAll s with
  | ok v => rfl
  | range => simp [e] at h
  | _ => simp [e] at h
section
variable {tab : Nat → Option AFunc} {h : AH} (H : PT tab) {ts : List Tok} {en r i d : Nat}
include H in
theorem key_ge (R : RS ts en h r i d) (hi : i < ts.length) : GS tab 192 [.ptr r 0] ts en r i d h (keyS ts en i d) fun t v h1 => okT t h.next v h1 := by
 intro y hy hne
 have i0 : zAh [.ptr r 0] = zAd [.ptr r 0] := rfl
 have hr := R.lt
 refine ge_of H.t192 rfl ?_
 refine zBc fun h1 n1 g1 m1 => ?_
 have R1 := R.more m1
 refine zAc (zAb fun Q1 hQ => ?_)
 simp (disch := omega) only [EL, ↓K3, ↓K1, reduceIte, Nat.reduceEqDiff, Nat.reduceAdd, Nat.reduceLeDiff, i0]
 refine (zB5 H R1 hi).to fun v h2 q => ?_
 obtain ⟨rfl, R2, b2⟩ := q
 have nb2 := b2.next
 have c2 := (m1.but r).trans b2
 have rc2 := (b2.keep h.next (by omega) (by omega)).trans g1
 simp (disch := omega) only [EL, ↓K3, ↓K1, reduceIte, Nat.reduceEqDiff, Nat.reduceAdd, Nat.reduceLeDiff, i0]
 refine hQ _ ?_
 clear hQ Q1
 refine zDc fun h3 n3 g3 m3 => ?_
 obtain ⟨ct, gt, k0, k1, k2⟩ := g3
 simp only [zAa]
 have R3 := R2.more m3
 have rc3 := (m3.keep h.next (by omega)).trans rc2
 refine zAc (zAb fun Q1 hQ => ?_)
 simp (disch := omega) only [EL, ↓K3, ↓K1, reduceIte, Nat.reduceEqDiff, Nat.reduceAdd, Nat.reduceLeDiff, i0, gt, k2]
 refine (zCy H (op := 17) (pos := (now ts en i).pos) (fun _ => rfl) rfl).to fun v h4 q => ?_
 obtain ⟨ia, rfl, i1, i2, nc, m4⟩ := q
 simp (disch := omega) only [EL, ↓K3, ↓K1, reduceIte, Nat.reduceEqDiff, Nat.reduceAdd, Nat.reduceLeDiff, i0]
 refine hQ _ ?_
 clear hQ Q1
 refine zBk fun h5 n5 g5 m5 => ?_
 obtain ⟨cb, gb, cb0⟩ := g5
 simp only [zAa]
 have m45 := m4.trans m5
 have n4 := m4.next
 have R5 := R3.more m45
 have b5 : MoreBut r h h5 := c2.trans ((m3.trans m45).but r)
 have nc5 := nc.keep (m5.keep ia i2)
 have rc5 := (m45.keep h.next (by omega)).trans rc3
 have gt5 := (m45.keep h2.next (by omega)).trans gt
 have fin : ∀ (l : T AV) (h6 : AH) (op : Nat) (n : Int) (nm : Str) (pos i' ib : Nat), l.get 4 = some (.ptr h4.next 0) → l.get 8 = some (.ptr h.next 0) → (∃ c, h6.mem.get h4.next = some (.cells c 1 none false) ∧ c.get 0 = some (.ptr ib 0)) →
   h6.mem.get h.next = some (.cells (zAd [.nilp]) (llen [.nilp]) none false) → NodeC h6 ib op nm [] n pos .nils → h.next < ib → ib < h6.next → RS ts en h6 r i' d → MoreBut r h h6 → i < i' → y = .ok (.mk op nm [] n pos []) i' d →
   WC tab (.seq (.ops [⟨.loadN 1 (.l 4), none, none, []⟩, ⟨.store 1 (.l 8) (.t 0), none, none, []⟩]) .ret) l [] h6 (zDw [.cellN 1 (.l 8)] (okP y ts en r i d h fun t v h1 => okT t h.next v h1) (erP y r h)) := by
  intro l h6 op n nm pos i' ib l4 l8 ⟨c, gc, gc0⟩ rc6 nc6 hib hib2 R6 b6 hlt hy'
  refine zCh (b := h4.next) (rc := h.next) l4 gc gc0 l8 rc6 (by rw [zAj]; rfl) fun h7 o7 => ?_
  refine ⟨_, _, hy', hlt, o7.rs R6 (by omega), o7.mb b6 (Nat.le_refl _), _, rfl, ?_⟩
  exact Kids.tree (lo := h.next) (X := []) Kids.nils (nc6.keep (o7.keep _ (by omega))) (by show h.next ≤ ib; omega) (by rw [o7.next]; omega) fun k hk => hk
 obtain ⟨c, gn, c0, c1, c2', c3, c4, c5, ncT, _, ncN, ncO⟩ := nc5.set
 refine zAc ?_
 refine zAc ?_
 refine zAb fun Q1 hQ => ?_
 simp (disch := omega) only [EL, ↓K3, ↓K1, reduceIte, Nat.reduceEqDiff, Nat.reduceAdd, Nat.reduceLeDiff, gt5, k1]
 refine hQ _ ?_
 clear hQ Q1
 simp only [zAa]
 refine zAy ?_
 refine zAc ?_
 unfold keyS at hy
 simp only at hy
 by_cases t1 : (now ts en i).text = [116, 114, 117, 101]
 ·rw [if_pos t1] at hy
  refine zAc ?_
  refine zAb fun Q1 hQ => ?_
  simp (disch := omega) only [EL, ↓K3, ↓K1, reduceIte, Nat.reduceEqDiff, Nat.reduceAdd, Nat.reduceLeDiff, t1]
  refine hQ _ ?_
  clear hQ Q1
  simp only [zAa]
  refine zAq (by simp (disch := omega) only [EL, ↓K3, ↓K1, reduceIte, Nat.reduceEqDiff, Nat.reduceAdd, Nat.reduceLeDiff]) ?_
  refine zAo ?_
  simp only [zAa]
  refine zAq (by simp (disch := omega) only [EL, ↓K3, ↓K1, reduceIte, Nat.reduceEqDiff, Nat.reduceAdd, Nat.reduceLeDiff]) ?_
  refine zAc (zAb fun Q1 hQ => ?_)
  simp (disch := omega) only [EL, ↓K3, ↓K1, reduceIte, Nat.reduceEqDiff, Nat.reduceAdd, Nat.reduceLeDiff, gb, cb0, gn, c0]
  refine hQ _ ?_
  clear hQ Q1
  have nc6 := ncO 16
  have o6 : Only ia h5 (h5.set ia (.cells (T.put (some (.int .i64 ((16 : Nat) : Int))) c 0) 6 none false)) := Only.set
  generalize (h5.set ia (.cells (T.put (some (.int .i64 ((16 : Nat) : Int))) c 0) 6 none false)) = h6 at *
  have n6 := o6.next
  have gb6 := (o6.keep h4.next (by omega)).trans gb
  have gt6 := (o6.keep h2.next (by omega)).trans gt5
  obtain ⟨d', gn', d0, d1, d2, d3, d4, d5, _, _, ncN', _⟩ := nc6.set
  refine zAc (zAb fun Q1 hQ => ?_)
  simp (disch := omega) only [EL, ↓K3, ↓K1, reduceIte, Nat.reduceEqDiff, Nat.reduceAdd, Nat.reduceLeDiff, gt6, k1, t1]
  refine hQ _ ?_
  clear hQ Q1
  refine zAq (by simp (disch := omega) only [EL, ↓K3, ↓K1, reduceIte, Nat.reduceEqDiff, Nat.reduceAdd, Nat.reduceLeDiff]) ?_
  refine zAb fun Q1 hQ => ?_
  simp (disch := omega) only [EL, ↓K3, ↓K1, reduceIte, Nat.reduceEqDiff, Nat.reduceAdd, Nat.reduceLeDiff, gb6, cb0, gn', d3]
  refine hQ _ ?_
  clear hQ Q1
  simp only [zAa, zAi]
  have nc7 := ncN' 1
  have o7 : Only ia h6 (h6.set ia (.cells (T.put (some (.int .i64 1)) d' 3) 6 none false)) := Only.set
  have e7 : ((1 : Nat) : Int) = 1 := rfl
  rw [e7]
  generalize (h6.set ia (.cells (T.put (some (.int .i64 1)) d' 3) 6 none false)) = h7 at *
  have n7 := o7.next
  refine fin _ h7 16 1 [] _ (i + 1) ia (by simp (disch := omega) only [EL, ↓K3, ↓K1, reduceIte, Nat.reduceEqDiff, Nat.reduceAdd, Nat.reduceLeDiff]) (by simp (disch := omega) only [EL, ↓K3, ↓K1, reduceIte, Nat.reduceEqDiff, Nat.reduceAdd, Nat.reduceLeDiff]) ⟨cb, (o7.keep _ (by omega)).trans gb6, cb0⟩ ((o7.keep _ (by omega)).trans ((o6.keep _ (by omega)).trans rc5)) nc7 (by omega) (by omega) (o7.rs (o6.rs R5 (by omega)) (by omega)) (o7.mb (o6.mb b5 (by omega)) (by omega)) (by omega) hy.symm
 ·rw [if_neg t1] at hy
  refine zAc ?_
  refine zAb fun Q1 hQ => ?_
  simp (disch := omega) only [EL, ↓K3, ↓K1, reduceIte, Nat.reduceEqDiff, Nat.reduceAdd, Nat.reduceLeDiff, t1]
  refine hQ _ ?_
  clear hQ Q1
  simp only [zAa]
  refine wc_no (by simp (disch := omega) only [EL, ↓K3, ↓K1, reduceIte, Nat.reduceEqDiff, Nat.reduceAdd, Nat.reduceLeDiff]) ?_
  by_cases t2 : (now ts en i).text = [102, 97, 108, 115, 101]
  ·rw [if_pos t2] at hy
   refine zAb fun Q1 hQ => ?_
   simp (disch := omega) only [EL, ↓K3, ↓K1, reduceIte, Nat.reduceEqDiff, Nat.reduceAdd, Nat.reduceLeDiff, t2]
   refine hQ _ ?_
   clear hQ Q1
   simp only [zAa]
   refine zAq (by simp (disch := omega) only [EL, ↓K3, ↓K1, reduceIte, Nat.reduceEqDiff, Nat.reduceAdd, Nat.reduceLeDiff]) ?_
   refine zAc (zAb fun Q1 hQ => ?_)
   simp (disch := omega) only [EL, ↓K3, ↓K1, reduceIte, Nat.reduceEqDiff, Nat.reduceAdd, Nat.reduceLeDiff, gb, cb0, gn, c0]
   refine hQ _ ?_
   clear hQ Q1
   have nc6 := ncO 16
   have o6 : Only ia h5 (h5.set ia (.cells (T.put (some (.int .i64 ((16 : Nat) : Int))) c 0) 6 none false)) := Only.set
   generalize (h5.set ia (.cells (T.put (some (.int .i64 ((16 : Nat) : Int))) c 0) 6 none false)) = h6 at *
   have n6 := o6.next
   have gb6 := (o6.keep h4.next (by omega)).trans gb
   have gt6 := (o6.keep h2.next (by omega)).trans gt5
   refine zAc (zAb fun Q1 hQ => ?_)
   simp (disch := omega) only [EL, ↓K3, ↓K1, reduceIte, Nat.reduceEqDiff, Nat.reduceAdd, Nat.reduceLeDiff, gt6, k1, t1]
   refine hQ _ ?_
   clear hQ Q1
   refine wc_no (by simp (disch := omega) only [EL, ↓K3, ↓K1, reduceIte, Nat.reduceEqDiff, Nat.reduceAdd, Nat.reduceLeDiff]) ?_
   refine zAo ?_
   simp only [zAa, zAi]
   refine fin _ h6 16 0 [] _ (i + 1) ia (by simp (disch := omega) only [EL, ↓K3, ↓K1, reduceIte, Nat.reduceEqDiff, Nat.reduceAdd, Nat.reduceLeDiff]) (by simp (disch := omega) only [EL, ↓K3, ↓K1, reduceIte, Nat.reduceEqDiff, Nat.reduceAdd, Nat.reduceLeDiff]) ⟨cb, gb6, cb0⟩ ((o6.keep _ (by omega)).trans rc5) nc6 (by omega) (by omega) (o6.rs R5 (by omega)) (o6.mb b5 (by omega)) (by omega) hy.symm
  ·rw [if_neg t2] at hy
   refine zAb fun Q1 hQ => ?_
   simp (disch := omega) only [EL, ↓K3, ↓K1, reduceIte, Nat.reduceEqDiff, Nat.reduceAdd, Nat.reduceLeDiff, t2]
   refine hQ _ ?_
   clear hQ Q1
   simp only [zAa]
   refine wc_no (by simp (disch := omega) only [EL, ↓K3, ↓K1, reduceIte, Nat.reduceEqDiff, Nat.reduceAdd, Nat.reduceLeDiff]) ?_
   by_cases t3 : (now ts en i).text = [110, 101, 119]
   ·rw [if_pos t3] at hy
    refine zAc (zAb fun Q1 hQ => ?_)
    simp (disch := omega) only [EL, ↓K3, ↓K1, reduceIte, Nat.reduceEqDiff, Nat.reduceAdd, Nat.reduceLeDiff, t3]
    refine hQ _ ?_
    clear hQ Q1
    refine zAq (by simp (disch := omega) only [EL, ↓K3, ↓K1, reduceIte, Nat.reduceEqDiff, Nat.reduceAdd, Nat.reduceLeDiff]) ?_
    refine zAc (zAb fun Q1 hQ => ?_)
    simp (disch := omega) only [EL, ↓K3, ↓K1, reduceIte, Nat.reduceEqDiff, Nat.reduceAdd, Nat.reduceLeDiff, i0]
    refine (zBi H R5 _ _ rfl (zAw hy hne)).mono (fun v h6 q => ?_) (fun v h6 e => ?_)
    rotate_left
    ·obtain ⟨p, er, hx, rfl, fr'⟩ := e
     rw [hx] at hy
     exact hQ _ ⟨p, er, hy.symm, rfl, MoreBut.trans b5 fr'⟩
    obtain ⟨p6, i, hx, lib6, R6, b6, q⟩ := q
    rw [hx, zAr] at hy
    have nb6 := MoreBut.next b6
    simp (disch := omega) only [EL, ↓K3, ↓K1, reduceIte, Nat.reduceEqDiff, Nat.reduceAdd, Nat.reduceLeDiff, i0]
    refine hQ _ ?_
    clear hQ Q1
    simp only [zAa]
    have gb6 := (b6.keep h4.next (by omega) (by omega)).trans gb
    have rc6 := (b6.keep h.next (by omega) (by omega)).trans rc5
    refine zAc (zAb fun Q1 hQ => ?_)
    simp (disch := omega) only [EL, ↓K3, ↓K1, reduceIte, Nat.reduceEqDiff, Nat.reduceAdd, Nat.reduceLeDiff, i0]
    refine (zGq H R6 _ rfl (zAw hy hne)).mono (fun v h7 q => ?_) (fun v h7 e => ?_)
    rotate_left
    ·obtain ⟨p, er, hx, rfl, fr'⟩ := e
     rw [hx] at hy
     exact hQ _ ⟨p, er, hy.symm, rfl, MoreBut.trans (b5.trans b6) fr'⟩
    obtain ⟨w, i, hx, lib7, R7, b7, q⟩ := q
    rw [hx, zAr] at hy
    have nb7 := MoreBut.next b7
    obtain ⟨rfl, tb⟩ := q
    have gb7 := (b7.keep h4.next (by omega) (by omega)).trans gb6
    have rc7 := (b7.keep h.next (by omega) (by omega)).trans rc6
    simp (disch := omega) only [EL, ↓K3, ↓K1, reduceIte, Nat.reduceEqDiff, Nat.reduceAdd, Nat.reduceLeDiff, i0]
    refine (zFz H (op := 19) (fun _ => rfl) rfl).to fun v h8 q => ?_
    obtain ⟨ib, rfl, j1, j2, nc8, m8⟩ := q
    have gb8 := (m8.keep h4.next (by omega)).trans gb7
    have rc8 := (m8.keep h.next (by omega)).trans rc7
    have n8 := m8.next
    simp (disch := omega) only [EL, ↓K3, ↓K1, reduceIte, Nat.reduceEqDiff, Nat.reduceAdd, Nat.reduceLeDiff, i0, gb8, cb0]
    refine hQ _ ?_
    clear hQ Q1
    simp only [zAa]
    have gb9 : ∃ c, (h8.set h4.next (.cells (T.put (some (.ptr ib 0)) cb 0) 1 none false)).mem.get h4.next = some (.cells c 1 none false) ∧ c.get 0 = some (.ptr ib 0) := ⟨_, AH.get_set, T.get_put_self _ _ _⟩
    have o9 : Only h4.next h8 (h8.set h4.next (.cells (T.put (some (.ptr ib 0)) cb 0) 1 none false)) := Only.set
    generalize (h8.set h4.next (.cells (T.put (some (.ptr ib 0)) cb 0) 1 none false)) = h9 at *
    have n9 := o9.next
    have nc9 := nc8.keep (o9.keep ib (by omega))
    have rc9 := (o9.keep h.next (by omega)).trans rc8
    have R9 := o9.rs (R7.more m8) (by omega)
    have b9 : MoreBut r h h9 := o9.mb (((b5.trans b6).trans b7).trans (m8.but r)) (by omega)
    refine zAb fun Q1 hQ => ?_
    simp (disch := omega) only [EL, ↓K3, ↓K1, reduceIte, Nat.reduceEqDiff, Nat.reduceAdd, Nat.reduceLeDiff, i0]
    refine (zBi H R9 _ _ rfl (zAw hy hne)).mono (fun v h10 q => ?_) (fun v h10 e => ?_)
    rotate_left
    ·obtain ⟨p, er, hx, rfl, fr'⟩ := e
     rw [hx] at hy
     exact hQ _ ⟨p, er, hy.symm, rfl, MoreBut.trans b9 fr'⟩
    obtain ⟨p10, i, hx, lib10, R10, b10, q⟩ := q
    rw [hx, zAr] at hy
    have nb10 := MoreBut.next b10
    simp (disch := omega) only [EL, ↓K3, ↓K1, reduceIte, Nat.reduceEqDiff, Nat.reduceAdd, Nat.reduceLeDiff, i0]
    refine hQ _ ?_
    clear hQ Q1
    simp only [zAa, zAi]
    obtain ⟨c9, gc9, gc90⟩ := gb9
    refine fin _ h10 19 0 w.text w.pos i ib (by simp (disch := omega) only [EL, ↓K3, ↓K1, reduceIte, Nat.reduceEqDiff, Nat.reduceAdd, Nat.reduceLeDiff]) (by simp (disch := omega) only [EL, ↓K3, ↓K1, reduceIte, Nat.reduceEqDiff, Nat.reduceAdd, Nat.reduceLeDiff]) ⟨c9, (b10.keep _ (by omega) (by omega)).trans gc9, gc90⟩ ((b10.keep _ (by omega) (by omega)).trans rc9) (nc9.keep (b10.keep _ (by omega) (by omega))) (by omega) (by omega) R10 (b9.trans b10) (by omega) hy.symm
   ·rw [if_neg t3] at hy
    refine zAc (zAb fun Q1 hQ => ?_)
    simp (disch := omega) only [EL, ↓K3, ↓K1, reduceIte, Nat.reduceEqDiff, Nat.reduceAdd, Nat.reduceLeDiff, t3]
    refine hQ _ ?_
    clear hQ Q1
    refine wc_no (by simp (disch := omega) only [EL, ↓K3, ↓K1, reduceIte, Nat.reduceEqDiff, Nat.reduceAdd, Nat.reduceLeDiff]) ?_
    by_cases t4 : (now ts en i).text = [114, 101, 97, 100]
    ·rw [if_pos t4] at hy
     refine zAc (zAb fun Q1 hQ => ?_)
     simp (disch := omega) only [EL, ↓K3, ↓K1, reduceIte, Nat.reduceEqDiff, Nat.reduceAdd, Nat.reduceLeDiff, t4]
     refine hQ _ ?_
     clear hQ Q1
     refine zAq (by simp (disch := omega) only [EL, ↓K3, ↓K1, reduceIte, Nat.reduceEqDiff, Nat.reduceAdd, Nat.reduceLeDiff]) ?_
     refine zAc (zAb fun Q1 hQ => ?_)
     simp (disch := omega) only [EL, ↓K3, ↓K1, reduceIte, Nat.reduceEqDiff, Nat.reduceAdd, Nat.reduceLeDiff, i0]
     refine (zBi H R5 _ _ rfl (zAw hy hne)).mono (fun v h6 q => ?_) (fun v h6 e => ?_)
     rotate_left
     ·obtain ⟨p, er, hx, rfl, fr'⟩ := e
      rw [hx] at hy
      exact hQ _ ⟨p, er, hy.symm, rfl, MoreBut.trans b5 fr'⟩
     obtain ⟨p6, i, hx, lib6, R6, b6, q⟩ := q
     rw [hx, zAr] at hy
     have nb6 := MoreBut.next b6
     simp (disch := omega) only [EL, ↓K3, ↓K1, reduceIte, Nat.reduceEqDiff, Nat.reduceAdd, Nat.reduceLeDiff, i0]
     refine hQ _ ?_
     clear hQ Q1
     simp only [zAa]
     have gb6 := (b6.keep h4.next (by omega) (by omega)).trans gb
     have rc6 := (b6.keep h.next (by omega) (by omega)).trans rc5
     have nc6 := nc5.keep (b6.keep ia (by omega) (by omega))
     refine zAc (zAb fun Q1 hQ => ?_)
     simp (disch := omega) only [EL, ↓K3, ↓K1, reduceIte, Nat.reduceEqDiff, Nat.reduceAdd, Nat.reduceLeDiff, i0]
     refine (zBi H R6 _ _ rfl (zAw hy hne)).mono (fun v h7 q => ?_) (fun v h7 e => ?_)
     rotate_left
     ·obtain ⟨p, er, hx, rfl, fr'⟩ := e
      rw [hx] at hy
      exact hQ _ ⟨p, er, hy.symm, rfl, MoreBut.trans (b5.trans b6) fr'⟩
     obtain ⟨p7, i, hx, lib7, R7, b7, q⟩ := q
     rw [hx, zAr] at hy
     have nb7 := MoreBut.next b7
     simp (disch := omega) only [EL, ↓K3, ↓K1, reduceIte, Nat.reduceEqDiff, Nat.reduceAdd, Nat.reduceLeDiff, i0]
     refine hQ _ ?_
     clear hQ Q1
     simp only [zAa]
     have gb7 := (b7.keep h4.next (by omega) (by omega)).trans gb6
     have rc7 := (b7.keep h.next (by omega) (by omega)).trans rc6
     have nc7 := nc6.keep (b7.keep ia (by omega) (by omega))
     obtain ⟨d', gn', d0, d1, d2, d3, d4, d5, _, _, _, ncO'⟩ := nc7.set
     refine zAb fun Q1 hQ => ?_
     simp (disch := omega) only [EL, ↓K3, ↓K1, reduceIte, Nat.reduceEqDiff, Nat.reduceAdd, Nat.reduceLeDiff, gb7, cb0, gn', d0]
     refine hQ _ ?_
     clear hQ Q1
     simp only [zAa, zAi]
     have nc8 := ncO' 22
     have o8 : Only ia h7 (h7.set ia (.cells (T.put (some (.int .i64 ((22 : Nat) : Int))) d' 0) 6 none false)) := Only.set
     generalize (h7.set ia (.cells (T.put (some (.int .i64 ((22 : Nat) : Int))) d' 0) 6 none false)) = h8 at *
     have n8 := o8.next
     refine fin _ h8 22 0 [] _ _ ia (by simp (disch := omega) only [EL, ↓K3, ↓K1, reduceIte, Nat.reduceEqDiff, Nat.reduceAdd, Nat.reduceLeDiff]) (by simp (disch := omega) only [EL, ↓K3, ↓K1, reduceIte, Nat.reduceEqDiff, Nat.reduceAdd, Nat.reduceLeDiff]) ⟨cb, (o8.keep _ (by omega)).trans gb7, cb0⟩ ((o8.keep _ (by omega)).trans rc7) nc8 (by omega) (by omega) (o8.rs R7 (by omega)) (o8.mb ((b5.trans b6).trans b7) (by omega)) (by omega) hy.symm
    ·rw [if_neg t4] at hy
     refine zAc (zAb fun Q1 hQ => ?_)
     simp (disch := omega) only [EL, ↓K3, ↓K1, reduceIte, Nat.reduceEqDiff, Nat.reduceAdd, Nat.reduceLeDiff, t4]
     refine hQ _ ?_
     clear hQ Q1
     refine wc_no (by simp (disch := omega) only [EL, ↓K3, ↓K1, reduceIte, Nat.reduceEqDiff, Nat.reduceAdd, Nat.reduceLeDiff]) ?_
     refine zAo ?_
     simp only [zAa, zAi]
     refine fin _ h5 17 0 [] _ (i + 1) ia (by simp (disch := omega) only [EL, ↓K3, ↓K1, reduceIte, Nat.reduceEqDiff, Nat.reduceAdd, Nat.reduceLeDiff]) (by simp (disch := omega) only [EL, ↓K3, ↓K1, reduceIte, Nat.reduceEqDiff, Nat.reduceAdd, Nat.reduceLeDiff]) ⟨cb, gb, cb0⟩ rc5 nc5 (by omega) (by omega) R5 b5 (by omega) hy.symm
end
end Go.Ev
namespace Go.Ev
open Go Go.Pa
set_option linter.unusedSimpArgs false
set_option linter.unusedVariables false
set_option maxRecDepth 100000
set_option maxHeartbeats 4000000
theorem zEm {h : AH} {lo s : Nat} {X : List Nat} {u : AV} {t : Tree} (g : h.mem.get s = some (.cells (zAd [u]) 1 none false)) (hs : s < h.next) (hlo : lo ≤ s) (hX : s ∉ X) (x : TreeR h (fun k => lo ≤ k ∧ k ∉ X ∧ k ≠ s) u t) : Kids h lo X (.sl s 0 1 (.known 1)) [t] := by
 refine ⟨[u], Arr.sl (cs := [u]) (by simp) ⟨hlo, hX⟩ hs g (fun i _ => zAj _ _) (.inr rfl) (by simp), x.less fun k hk _ => ⟨hk.1, hk.2.1, fun l n e => ?_⟩, trivial⟩
 injection e with e; exact hk.2.2 e.symm
theorem kids_of2 {h : AH} {lo s : Nat} {X : List Nat} {u w : AV} {t t' : Tree} (g : h.mem.get s = some (.cells (zAd [u, w]) 2 none false)) (hs : s < h.next) (hlo : lo ≤ s) (hX : s ∉ X) (x : TreeR h (fun k => lo ≤ k ∧ k ∉ X ∧ k ≠ s) u t) (x' : TreeR h (fun k => lo ≤ k ∧ k ∉ X ∧ k ≠ s) w t') : Kids h lo X (.sl s 0 2 (.known 2)) [t, t'] := by
 refine ⟨[u, w], Arr.sl (cs := [u, w]) (by simp) ⟨hlo, hX⟩ hs g (fun i _ => zAj _ _) (.inr rfl) (by simp), x.less fun k hk _ => ⟨hk.1, hk.2.1, fun l n e => ?_⟩, x'.less fun k hk _ => ⟨hk.1, hk.2.1, fun l n e => ?_⟩, trivial⟩
 ·injection e with e; exact hk.2.2 e.symm
 ·injection e with e; exact hk.2.2 e.symm
structure EX (tab : Nat → Option AFunc) (ts : List Tok) (en n : Nat) : Prop where
 expr : ∀ {h : AH} {r i d : Nat} (least : Nat), RS ts en h r i d → d ≤ 40 → least ≤ 6 → GS tab 134 [.ptr r 0, .int .i64 (least : Int)] ts en r i d h (exprS ts en n least i d) fun t v h1 => okT t h.next v h1
 unary : ∀ {h : AH} {r i d : Nat}, RS ts en h r i d → d ≤ 40 → GS tab 152 [.ptr r 0] ts en r i d h (zCu ts en n i d) fun t v h1 => okT t h.next v h1
 post : ∀ {h : AH} {r i d : Nat}, RS ts en h r i d → d ≤ 40 → GS tab 166 [.ptr r 0] ts en r i d h (postS ts en n i d) fun t v h1 => okT t h.next v h1
 prim : ∀ {h : AH} {r i d : Nat}, RS ts en h r i d → d ≤ 40 → GS tab 180 [.ptr r 0] ts en r i d h (primS ts en n i d) fun t v h1 => okT t h.next v h1
 call : ∀ {h : AH} {r i d : Nat} (t : Tok), RS ts en h r i d → d ≤ 40 → isT ts en [40] i = true → GS tab 196 [.ptr r 0, tokV t] ts en r i d h (callS ts en n t i d) fun t v h1 => okT t h.next v h1
 brack : ∀ {h : AH} {r i d : Nat}, RS ts en h r i d → d ≤ 40 → GS tab 154 [.ptr r 0] ts en r i d h (zBj ts en n i d) fun t v h1 => okT t h.next v h1
theorem levelS_lt {ts : List Tok} {en i : Nat} : (zB7 ts en i).1 ≤ 5 := by
 unfold zB7
 repeat' split
 all_goals try (show _ ≤ 5; decide)
 show opLevel _ ≤ 5
 unfold opLevel
 repeat' split
 all_goals omega
theorem zKh {ts : List Tok} {en i : Nat} (h : (zB7 ts en i).1 ≠ 0) : i < ts.length := by
 rcases Nat.lt_or_ge i ts.length with h1 | h1
 ·exact h1
 ·refine absurd ?_ h
  unfold zB7
  rw [zEa (by omega)]
  simp
section
variable {tab : Nat → Option AFunc} {h : AH} (H : PT tab) {ts : List Tok} {en r i d : Nat}
include H in
theorem expr_ge {n : Nat} (IH : ∀ m, m < n → EX tab ts en m) (R : RS ts en h r i d) (hd : d ≤ 40) (least : Nat) (hle : least ≤ 6) : GS tab 134 [.ptr r 0, .int .i64 (least : Int)] ts en r i d h (exprS ts en n least i d) fun t v h1 => okT t h.next v h1 := by
 intro y hy hne
 cases n with
 | zero => exact absurd (by rw [← hy]; simp [exprS]) hne
 | succ n =>
 have i0 : zAh [.ptr r 0, .int .i64 (least : Int)] = zAd [.ptr r 0, .int .i64 (least : Int)] := rfl
 have hr := R.lt
 obtain ⟨z, hz⟩ : ∃ z, z = i := ⟨_, rfl⟩
 refine ge_of H.t134 rfl ?_
 refine zBc fun h1 n1 g1 m1 => ?_
 have R1 := R.more m1
 unfold exprS at hy
 refine zAc (zAb fun Q1 hQ => ?_)
 simp (disch := omega) only [EL, ↓K3, ↓K1, reduceIte, Nat.reduceEqDiff, Nat.reduceAdd, Nat.reduceLeDiff, i0]
 refine ((IH n (by omega)).unary R1 hd _ rfl (zAw hy hne)).mono (fun v h2 q => ?_) (fun v h2 e => ?_)
 rotate_left
 ·obtain ⟨p, er, hx, rfl, fr'⟩ := e
  rw [hx] at hy
  exact hQ _ ⟨p, er, hy.symm, rfl, MoreBut.trans (m1.but r) fr'⟩
 obtain ⟨lt, i, hx, lib2, R2, b2, q⟩ := q
 rw [hx, zAr] at hy
 have nb2 := MoreBut.next b2
 obtain ⟨u, rfl, tr⟩ := q
 simp (disch := omega) only [EL, ↓K3, ↓K1, reduceIte, Nat.reduceEqDiff, Nat.reduceAdd, Nat.reduceLeDiff, i0]
 refine hQ _ ?_
 clear hQ Q1
 refine zBk fun h3 n3 g3 m3 => ?_
 simp only [zAa]
 have R3 := R2.more m3
 have b3 := ((m1.but r).trans b2).trans (m3.but r)
 have rc3 := (m3.keep h.next (by omega)).trans ((b2.keep h.next (by omega) (by omega)).trans g1)
 have tr3 : TreeR h3 (fun k => h.next ≤ k ∧ k ∉ [h.next, h2.next]) u lt := TreeR.keep m3.stay (fun k hk hl => ⟨by omega, by simp; omega⟩) tr
 refine zAy ?_
 refine zB2 (fun m l d1 h7 => ∃ i left u, m ≤ n ∧ d1 = [] ∧ l.get 0 = some (.ptr r 0) ∧ l.get 1 = some (.int .i64 (least : Int)) ∧ l.get 4 = some (.ptr h2.next 0) ∧ l.get 5 = some (.ptr h.next 0) ∧ RS ts en h7 r i d ∧ MoreBut r h h7 ∧ (∃ c, h7.mem.get h2.next = some (.cells c 1 none false) ∧ c.get 0 = some u) ∧
  h7.mem.get h.next = some (.cells (zAd [.nilp]) (llen [.nilp]) none false) ∧ TreeR h7 (fun k => h.next ≤ k ∧ k ∉ [h.next, h2.next]) u left ∧ h3.next ≤ h7.next ∧ z < i ∧ exprL ts en m least i d left = y) ?_ n ?_
 ·rintro m l d1 h7 ⟨i, left, u, hm, rfl, l0, l1, l4, l5, R7, b7, ⟨cb, gb, cb0⟩, rc7, tr7, n7, zi, hy⟩
  cases m with
  | zero => exact absurd (by rw [← hy]; simp [exprL]) hne
  | succ m =>
  unfold exprL at hy
  refine zAy ?_
  refine zAc (zAb fun Q1 hQ => ?_)
  simp (disch := omega) only [EL, ↓K3, ↓K1, reduceIte, Nat.reduceEqDiff, Nat.reduceAdd, Nat.reduceLeDiff, l0]
  refine (level_gp H R7).to fun v h8 q => ?_
  obtain ⟨rfl, m8⟩ := q
  simp (disch := omega) only [EL, ↓K3, ↓K1, reduceIte, Nat.reduceEqDiff, Nat.reduceAdd, Nat.reduceLeDiff, l0]
  refine hQ _ ?_
  clear hQ Q1
  simp only [zAa]
  have R8 := R7.more m8
  have n8 := m8.next
  have gb8 := (m8.keep h2.next (by omega)).trans gb
  have rc8 := (m8.keep h.next (by omega)).trans rc7
  have tr8 := TreeR.keep (G := fun k => h.next ≤ k ∧ k ∉ [h.next, h2.next]) m8.stay (fun _ h _ => h) tr7
  have b8 := b7.trans (m8.but r)
  have hl5 := levelS_lt (ts := ts) (en := en) (i := i)
  have hlt := zKh (ts := ts) (en := en) (i := i)
  generalize hlev : zB7 ts en i = lev at *
  obtain ⟨lv, op⟩ := lev
  simp only at hy hl5 hlt
  refine zAc ?_
  by_cases hstop : lv = 0 ∨ lv < least
  ·rw [if_pos hstop] at hy
   refine zAc (zAb fun Q1 hQ => ?_)
   have fin : ∀ (l' : T AV), l'.get 3 = some (.bool true) → l'.get 4 = l.get 4 → l'.get 5 = l.get 5 → ∀ (K : T AV → List AV → AH → Prop) (Q : Res → Prop), (∀ v l'' h9, zDw [.cellN 1 (.l 5)] (okP y ts en r z d h fun t v h1 => okT t h.next v h1) (erP y r h) (.ret l'' [] h9) → v = (.ret l'' [] h9) → zEk K Q v) →
     WC tab (.cond (.l 3) (.seq (.ops [⟨.loadN 1 (.l 4), none, none, []⟩, ⟨.store 1 (.l 5) (.t 0), none, none, []⟩]) .ret) .skip) l' [] h8 (zEk K Q) := by
    intro l' e3 e4 e5 K Q hk
    refine zAq (by rw [evl, e3]; rfl) ?_
    refine zIx (b := h2.next) (rc := h.next) (e4.trans l4) gb8 cb0 (e5.trans l5) rc8 (by rw [zAj]; rfl) fun h9 o9 hfin => ?_
    refine hk _ _ _ (hfin _ _ ⟨_, _, hy.symm, by omega, o9.rs R8 (by omega), o9.mb b8 (Nat.le_refl _), _, rfl, ?_⟩) rfl
    exact TreeR.keep (o9.stay (by simp)) (fun k hk _ => hk.1) tr8
   subst hz
   by_cases h0 : lv = 0
   ·simp (disch := omega) only [EL, ↓K3, ↓K1, reduceIte, Nat.reduceEqDiff, Nat.reduceAdd, Nat.reduceLeDiff, h0]
    refine hQ _ ?_
    simp only [zAa]
    refine fin _ (by simp (disch := omega) only [EL, ↓K3, ↓K1, reduceIte, Nat.reduceEqDiff, Nat.reduceAdd, Nat.reduceLeDiff]) (by simp (disch := omega) only [EL, ↓K3, ↓K1, reduceIte, Nat.reduceEqDiff, Nat.reduceAdd, Nat.reduceLeDiff]) (by simp (disch := omega) only [EL, ↓K3, ↓K1, reduceIte, Nat.reduceEqDiff, Nat.reduceAdd, Nat.reduceLeDiff]) _ _ fun v l'' h9 hf e => ?_
    subst e
    simp only [zAg, zAf]
    exact hf
   ·have h1' : lv < least := by omega
    simp (disch := omega) only [EL, ↓K3, ↓K1, reduceIte, Nat.reduceEqDiff, Nat.reduceAdd, Nat.reduceLeDiff, h0, h1', l1]
    refine hQ _ ?_
    simp only [zAa]
    refine fin _ (by simp (disch := omega) only [EL, ↓K3, ↓K1, reduceIte, Nat.reduceEqDiff, Nat.reduceAdd, Nat.reduceLeDiff]) (by simp (disch := omega) only [EL, ↓K3, ↓K1, reduceIte, Nat.reduceEqDiff, Nat.reduceAdd, Nat.reduceLeDiff]) (by simp (disch := omega) only [EL, ↓K3, ↓K1, reduceIte, Nat.reduceEqDiff, Nat.reduceAdd, Nat.reduceLeDiff]) _ _ fun v l'' h9 hf e => ?_
    subst e
    simp only [zAg, zAf]
    exact hf
  ·rw [if_neg hstop] at hy
   have h0 : ¬ lv = 0 := fun e => hstop (.inl e)
   have h1' : ¬ lv < least := fun e => hstop (.inr e)
   have hi := hlt h0
   refine zAc (zAb fun Q1 hQ => ?_)
   simp (disch := omega) only [EL, ↓K3, ↓K1, reduceIte, Nat.reduceEqDiff, Nat.reduceAdd, Nat.reduceLeDiff, h0, h1', l1]
   refine hQ _ ?_
   clear hQ Q1
   refine wc_no (by simp (disch := omega) only [EL, ↓K3, ↓K1, reduceIte, Nat.reduceEqDiff, Nat.reduceAdd, Nat.reduceLeDiff]) ?_
   refine zAo ?_
   simp only [zAa]
   refine zAc (zAb fun Q1 hQ => ?_)
   simp (disch := omega) only [EL, ↓K3, ↓K1, reduceIte, Nat.reduceEqDiff, Nat.reduceAdd, Nat.reduceLeDiff, l0]
   refine (zB5 H R8 hi).to fun v h9 q => ?_
   obtain ⟨rfl, R9, b9⟩ := q
   have n9 := b9.next
   have f2 : ∀ h', zCi 2 1 false (.c (tokV (now ts en i))) .leaf [] h' = .val (.int .i64 ((now ts en i).pos : Int)) h' := fun _ => rfl
   simp (disch := omega) only [EL, ↓K3, ↓K1, reduceIte, Nat.reduceEqDiff, Nat.reduceAdd, Nat.reduceLeDiff, l0, f2]
   refine hQ _ ?_
   clear hQ Q1
   simp only [zAa]
   have gb9 := (b9.keep h2.next (by omega) (by omega)).trans gb8
   have rc9 := (b9.keep h.next (by omega) (by omega)).trans rc8
   have tr9 := TreeR.keep (G := fun k => h.next ≤ k ∧ k ∉ [h.next, h2.next]) (b9.stay (by simp; omega)) (fun _ h _ => h) tr8
   have c9 := b8.trans b9
   generalize (now ts en i).pos = pos at *
   refine zAc (zAb fun Q1 hQ => ?_)
   have arr : ∀ h' : AH, (zAd [AV.int .i64 ((0 : Nat) : Int), .int .i64 ((26 : Nat) : Int), .int .i64 ((25 : Nat) : Int), .int .i64 ((24 : Nat) : Int), .int .i64 ((24 : Nat) : Int), .int .i64 ((24 : Nat) : Int)]).get lv = some (.int .i64 (binNode lv : Int)) := by
    intro _
    match lv, hl5 with
    | 0, _ => rfl
    | 1, _ => rfl
    | 2, _ => rfl
    | 3, _ => rfl
    | 4, _ => rfl
    | 5, _ => rfl
   have arr := arr h
   have hlv6 : lv < 6 := by omega
   simp (disch := omega) only [EL, ↓K3, ↓K1, reduceIte, Nat.reduceEqDiff, Nat.reduceAdd, Nat.reduceLeDiff, l0, l4, gb9, cb0, arr, zAe, hlv6]
   have m10 : More h9 ((h9.add (.cells (zAd [.int .i64 ((0 : Nat) : Int), .int .i64 ((26 : Nat) : Int), .int .i64 ((25 : Nat) : Int), .int .i64 ((24 : Nat) : Int), .int .i64 ((24 : Nat) : Int), .int .i64 ((24 : Nat) : Int)]) 6 none false)).add (.cells (zAd [.nilp]) 1 none false)) := (More.add _ _).trans (More.add _ _)
   have ga : ((h9.add (.cells (zAd [.int .i64 ((0 : Nat) : Int), .int .i64 ((26 : Nat) : Int), .int .i64 ((25 : Nat) : Int), .int .i64 ((24 : Nat) : Int), .int .i64 ((24 : Nat) : Int), .int .i64 ((24 : Nat) : Int)]) 6 none false)).add (.cells (zAd [.nilp]) 1 none false)).mem.get h9.next = some (.cells (zAd [.int .i64 ((0 : Nat) : Int), .int .i64 ((26 : Nat) : Int), .int .i64 ((25 : Nat) : Int), .int .i64 ((24 : Nat) : Int), .int .i64 ((24 : Nat) : Int), .int .i64 ((24 : Nat) : Int)]) 6 none false) := by
    rw [AH.add_mem, T.get_put_ne _ _ _ _ (by rw [AH.add_next]; omega), AH.add_mem, T.get_put_self]
   have g7 : ((h9.add (.cells (zAd [.int .i64 ((0 : Nat) : Int), .int .i64 ((26 : Nat) : Int), .int .i64 ((25 : Nat) : Int), .int .i64 ((24 : Nat) : Int), .int .i64 ((24 : Nat) : Int), .int .i64 ((24 : Nat) : Int)]) 6 none false)).add (.cells (zAd [.nilp]) 1 none false)).mem.get (h9.next + 1) = some (.cells (zAd [.nilp]) 1 none false) := by
    rw [AH.add_mem]; exact T.get_put_self _ _ _
   have n10 : ((h9.add (.cells (zAd [.int .i64 ((0 : Nat) : Int), .int .i64 ((26 : Nat) : Int), .int .i64 ((25 : Nat) : Int), .int .i64 ((24 : Nat) : Int), .int .i64 ((24 : Nat) : Int), .int .i64 ((24 : Nat) : Int)]) 6 none false)).add (.cells (zAd [.nilp]) 1 none false)).next = h9.next + 2 := rfl
   generalize (h9.add (.cells (zAd [.int .i64 ((0 : Nat) : Int), .int .i64 ((26 : Nat) : Int), .int .i64 ((25 : Nat) : Int), .int .i64 ((24 : Nat) : Int), .int .i64 ((24 : Nat) : Int), .int .i64 ((24 : Nat) : Int)]) 6 none false)).add (.cells (zAd [.nilp]) 1 none false) = h10 at *
   generalize zAd [AV.int .i64 ((0 : Nat) : Int), .int .i64 ((26 : Nat) : Int), .int .i64 ((25 : Nat) : Int), .int .i64 ((24 : Nat) : Int), .int .i64 ((24 : Nat) : Int), .int .i64 ((24 : Nat) : Int)] = c6 at *
   have R10 := R9.more m10
   have gb10 := (m10.keep h2.next (by omega)).trans gb9
   have rc10 := (m10.keep h.next (by omega)).trans rc9
   have tr10 := TreeR.keep (G := fun k => h.next ≤ k ∧ k ∉ [h.next, h2.next] ∧ k < h9.next) m10.stay (fun _ h hl => ⟨h.1, h.2, hl⟩) tr9
   have c10 := c9.trans (m10.but r)
   refine ((IH m (by omega)).expr (lv + 1) R10 hd (by omega) _ rfl (zAw hy hne)).mono (fun v h11 q => ?_) (fun v h11 e => ?_)
   rotate_left
   ·obtain ⟨p, er, hx, rfl, fr'⟩ := e
    rw [hx] at hy
    exact hQ _ ⟨p, er, hy.symm, rfl, MoreBut.trans c10 fr'⟩
   obtain ⟨rt, i, hx, lib11, R11, b11, q⟩ := q
   rw [hx, zAr] at hy
   have nb11 := MoreBut.next b11
   obtain ⟨u2, rfl, tr11⟩ := q
   obtain ⟨ui, rfl, _, hul⟩ := tr10.ptr
   obtain ⟨uj, rfl, hj1, hj2⟩ := tr11.ptr
   have gb11 := (b11.keep h2.next (by omega) (by omega)).trans gb10
   have rc11 := (b11.keep h.next (by omega) (by omega)).trans rc10
   have ga11 := (b11.keep h9.next (by omega) (by omega)).trans ga
   have g711 := (b11.keep (h9.next + 1) (by omega) (by omega)).trans g7
   have tl11 := TreeR.keep (G := fun k => h.next ≤ k ∧ k ∉ [h.next, h2.next] ∧ k < h9.next) (b11.stay (by simp; omega)) (fun _ h _ => h) tr10
   have c11 := c10.trans b11
   simp (disch := omega) only [EL, ↓K3, ↓K1, reduceIte, Nat.reduceEqDiff, Nat.reduceAdd, Nat.reduceLeDiff, l0, l4, gb11, cb0, arr, zAe, hlv6, zB1, zBx, zB3, ga11]
   refine (zCy H (kv := .sl h11.next 0 2 (.known 2)) (op := binNode lv) (pos := pos) (fun _ => rfl) rfl).to fun v h13 q => ?_
   obtain ⟨ia, rfl, i1, i2, nc, m13⟩ := q
   have m12 : More h11 (h11.add (.cells (zAd [.ptr ui 0, .ptr uj 0]) 2 none false)) := More.add _ _
   have g12 : (h11.add (.cells (zAd [.ptr ui 0, .ptr uj 0]) 2 none false)).mem.get h11.next = some (.cells (zAd [.ptr ui 0, .ptr uj 0]) 2 none false) := by rw [AH.add_mem, T.get_put_self]
   have n12 : (h11.add (.cells (zAd [.ptr ui 0, .ptr uj 0]) 2 none false)).next = h11.next + 1 := rfl
   generalize h11.add (.cells (zAd [.ptr ui 0, .ptr uj 0]) 2 none false) = h12 at *
   have n13 := m13.next
   have kd := kids_of2 (lo := h.next) (X := [h.next, h2.next, ia, h9.next + 1]) g12 (by omega) (by omega) (by simp; omega) (TreeR.keep m12.stay (fun k hk hl => ⟨hk.1, by have := hk.2.1; have := hk.2.2; simp at *; omega, by have := hk.2.2; omega⟩) tl11) (TreeR.keep m12.stay (fun k hk hl => ⟨by omega, by simp; omega, by omega⟩) tr11)
   have kd13 := kd.keep m13.stay
   have mm := m12.trans m13
   have g713 := (mm.keep (h9.next + 1) (by omega)).trans g711
   have gb13 := (mm.keep h2.next (by omega)).trans gb11
   have rc13 := (mm.keep h.next (by omega)).trans rc11
   have R13 := R11.more mm
   have c13 := c11.trans (mm.but r)
   simp (disch := omega) only [EL, ↓K3, ↓K1, reduceIte, Nat.reduceEqDiff, Nat.reduceAdd, Nat.reduceLeDiff, g713]
   refine hQ _ ?_
   clear hQ Q1
   simp only [zAa]
   have g714 : (h13.set (h9.next + 1) (.cells (T.put (some (.ptr ia 0)) (zAd [.nilp]) 0) 1 none false)).mem.get (h9.next + 1) = some (.cells (T.put (some (.ptr ia 0)) (zAd [.nilp]) 0) 1 none false) := AH.get_set
   have o14 : Only (h9.next + 1) h13 (h13.set (h9.next + 1) (.cells (T.put (some (.ptr ia 0)) (zAd [.nilp]) 0) 1 none false)) := Only.set
   generalize h13.set (h9.next + 1) (.cells (T.put (some (.ptr ia 0)) (zAd [.nilp]) 0) 1 none false) = h14 at *
   have n14 := o14.next
   have nc14 := nc.keep (o14.keep ia (by omega))
   have kd14 := kd13.keep (o14.stay (by simp))
   obtain ⟨c', gn, d0, d1, d2, d3, d4, d5, _, _, ncN, _⟩ := nc14.set
   refine zAc (zAb fun Q1 hQ => ?_)
   simp (disch := omega) only [EL, ↓K3, ↓K1, reduceIte, Nat.reduceEqDiff, Nat.reduceAdd, Nat.reduceLeDiff, l0, g714, gn, d3]
   refine hQ _ ?_
   clear hQ Q1
   have nc15 := ncN (op : Int)
   have o15 : Only ia h14 (h14.set ia (.cells (T.put (some (.int .i64 (op : Int))) c' 3) 6 none false)) := Only.set
   generalize h14.set ia (.cells (T.put (some (.int .i64 (op : Int))) c' 3) 6 none false) = h15 at *
   have n15 := o15.next
   have g715 := (o15.keep (h9.next + 1) (by omega)).trans g714
   have gb15 := (o15.keep h2.next (by omega)).trans ((o14.keep h2.next (by omega)).trans gb13)
   have rc15 := (o15.keep h.next (by omega)).trans ((o14.keep h.next (by omega)).trans rc13)
   have kd15 := kd14.keep (o15.stay (by simp))
   refine zAb fun Q1 hQ => ?_
   simp (disch := omega) only [EL, ↓K3, ↓K1, reduceIte, Nat.reduceEqDiff, Nat.reduceAdd, Nat.reduceLeDiff, g715, l4, gb15, cb0, zAe]
   refine hQ _ ?_
   clear hQ Q1
   simp only [zAa, zAi]
   have gb16 : (h15.set h2.next (.cells (T.put (some (.ptr ia 0)) cb 0) 1 none false)).mem.get h2.next = some (.cells (T.put (some (.ptr ia 0)) cb 0) 1 none false) := AH.get_set
   have o16 : Only h2.next h15 (h15.set h2.next (.cells (T.put (some (.ptr ia 0)) cb 0) 1 none false)) := Only.set
   generalize h15.set h2.next (.cells (T.put (some (.ptr ia 0)) cb 0) 1 none false) = h16 at *
   have n16 := o16.next
   have kd16 := kd15.keep (o16.stay (by simp))
   refine ⟨m, by omega, _, _, _, by omega, trivial, by simp (disch := omega) only [EL, ↓K3, ↓K1, reduceIte, Nat.reduceEqDiff, Nat.reduceAdd, Nat.reduceLeDiff, l0], by simp (disch := omega) only [EL, ↓K3, ↓K1, reduceIte, Nat.reduceEqDiff, Nat.reduceAdd, Nat.reduceLeDiff, l1], by simp (disch := omega) only [EL, ↓K3, ↓K1, reduceIte, Nat.reduceEqDiff, Nat.reduceAdd, Nat.reduceLeDiff, l4], by simp (disch := omega) only [EL, ↓K3, ↓K1, reduceIte, Nat.reduceEqDiff, Nat.reduceAdd, Nat.reduceLeDiff, l5], o16.rs (o15.rs (o14.rs R13 (by omega)) (by omega)) (by omega), o16.mb (o15.mb (o14.mb c13 (by omega)) (by omega)) (by omega), ⟨_, gb16, T.get_put_self _ _ _⟩, (o16.keep h.next (by omega)).trans rc15, kd16.tree2 (nc15.keep (o16.keep ia (by omega))) ⟨by omega, by simp; omega⟩ (by omega) (fun k hk hx => ⟨hk, by simp at hx ⊢; omega⟩), by omega, by omega, hy⟩
 ·exact ⟨_, lt, u, Nat.le_refl _, rfl, by simp (disch := omega) only [EL, ↓K3, ↓K1, reduceIte, Nat.reduceEqDiff, Nat.reduceAdd, Nat.reduceLeDiff, i0], by simp (disch := omega) only [EL, ↓K3, ↓K1, reduceIte, Nat.reduceEqDiff, Nat.reduceAdd, Nat.reduceLeDiff, i0], by simp (disch := omega) only [EL, ↓K3, ↓K1, reduceIte, Nat.reduceEqDiff, Nat.reduceAdd, Nat.reduceLeDiff, i0], by simp (disch := omega) only [EL, ↓K3, ↓K1, reduceIte, Nat.reduceEqDiff, Nat.reduceAdd, Nat.reduceLeDiff, i0], R3, b3, g3, rc3, tr3, Nat.le_refl _, by omega, hy⟩
end
end Go.Ev
