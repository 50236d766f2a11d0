/- EvU7 EvU8 EvU9 EvV1 EvV2 EvV3 EvV4 EvW EvM EvX -/
import Derived.Test.YtlolcfdllehpgaaGreatDoorPaD
import Derived.Recover
import Derived.Below
set_option linter.unusedSimpArgs false
set_option linter.unusedVariables false
set_option linter.unusedSectionVars false
set_option linter.defProp false
set_option maxRecDepth 100000
set_option maxHeartbeats 4000000
namespace Go.Ev
open Go
variable [Glob]
section
variable {P : Program} {m : List Nat} {ops : Array Oper} {ord : List Nat} {call : Nat → List AV → AH → CR} {n : Nat} {R : Runs} {q : Nat} {ρ0 : Rho} {a0 : Act} {w0 : World} {listed : Array Bool} {a : Act} {w : World} {ρ : Rho} {ps : Nat}
theorem Dr.next (K : Dr P m ops ord call n R q) : ∀ (k s : Nat), q - s = k → s ≤ q → ∃ ps', s ≤ ps' ∧ ps' ≤ q ∧ (∀ p i o, s ≤ p → p < ps' → ord[p]? = some i → ops[i]? = some o → clsO o.op ≠ 3) ∧ (ps' = ord.length ∨ ∃ i o, ord[ps']? = some i ∧ ops[i]? = some o ∧ clsO o.op = 3)
 | 0, s, hk, hs => ⟨s, Nat.le_refl _, hs, fun p i o h1 h2 => by omega, by rw [show s = q by omega]; exact K.en⟩
 | k + 1, s, hk, hs => by
  obtain ⟨i, o, ao, g, re, S⟩ := K.st s (by omega)
  by_cases h3 : clsO o.op = 3
  ·exact ⟨s, Nat.le_refl _, hs, fun p i o h1 h2 => by omega, .inr ⟨i, o, S.oi, S.oo, h3⟩⟩
  ·obtain ⟨ps', h1, h2, h4, h5⟩ := Dr.next K k (s + 1) (by omega) (by omega)
   refine ⟨ps', by omega, h2, fun p i2 o2 q1 q2 q3 q4 => ?_, h5⟩
   by_cases hp : p = s
   ·subst hp
    rw [S.oi] at q3; injection q3 with q3; subst q3
    rw [S.oo] at q4; injection q4 with q4; subst q4
    exact h3
   ·exact h4 p i2 o2 (by omega) q2 q3 q4
theorem zLe (K : Dr P m ops ord call n R q) {p p' i : Nat} (h : ord[p]? = some i) (h' : ord[p']? = some i) : p = p' := by
 rcases Nat.lt_trichotomy p p' with hl | hl | hl
 ·exact absurd rfl (K.ok.pair h' h hl).1
 ·exact hl
 ·exact absurd rfl (K.ok.pair h h' hl).1
theorem getD_set {i j : Nat} (h : i < listed.size) : (listed.setIfInBounds i true).getD j false = if i = j then true else listed.getD j false := by
 by_cases hij : i = j
 ·subst hij; simp [h]
 ·rw [if_neg hij, getD_set_ne false hij]
theorem Inv.put (K : Dr P m ops ord call n R q) (I : Inv ops ord n R q ρ0 a0 w0 listed a w ρ ps) {p i : Nat} {o : Oper} (hp : ord[p]? = some i) (ho : ops[i]? = some o) (hps : p < ps) (hanc : ∀ j, bef (ancs ops) j i = true → listed.getD j false = true)
  {ρ' : Rho} {w' : World} {v' : Value} (hv : VR ρ' (R.V p) v') (hle : ρ.le ρ') (W' : WR ρ' (R.H ps) w') (S' : Step ρ0 (R.H 0) w0 ρ' (R.H ps) w')
  (hfl : ∀ {p2 i2 : Nat} {ob : AObj}, p2 < ps → ord[p2]? = some i2 → i2 ≠ i → listed.getD i2 false = false → R.H (p2 + 1) = (R.H p2).add ob → ρ' (R.H p2).next = none) :
  Inv ops ord n R q ρ0 a0 w0 (listed.setIfInBounds i true) (a.put o.dst v') w' ρ' ps := by
 have hi : i < listed.size := by rw [I.sz]; exact (Array.getElem?_eq_some_iff.1 ho).1
 have hdo : ∀ x, o.dst = some x → x < a.tmps.size := fun x hx => by rw [I.N]; exact K.dst ho hx
 have hset : ∀ {j : Nat}, (listed.setIfInBounds i true).getD j false = if i = j then true else listed.getD j false := fun {j} => getD_set hi
 refine ⟨by simp [I.sz], I.le, I.act, ?_, ?_, ?_, W', S', I.wf, I.nx, ?_, ?_, ?_, by rw [zGq]; exact I.N, ?_⟩
 ·intro p2 i2 o2 h1 h2 h3 h4
  rw [hset]; split
  ·rfl
  ·exact I.low h1 h2 h3 h4
 ·intro p2 i2 h1 h2
  rw [hset, if_neg (fun e => ?_)]
  ·exact I.high h1 h2
  ·subst e
   have := zLe K hp h2
   omega
 ·intro i2 j h1 h2
  rw [hset] at h1 ⊢
  split at h1
  ·rename_i e; subst e
   split
   ·rfl
   ·exact hanc j h2
  ·split
   ·rfl
   ·exact I.dc h1 h2
 ·intro p2 i2 ob h1 h2 h3 h4
  rw [hset] at h3
  split at h3
  ·cases h3
  ·rename_i hne
   exact ⟨hfl h1 h2 (Ne.symm hne) h3 h4, (I.fl h1 h2 h3 h4).2⟩
 ·intro p2 i2 o2 t h1 h2 h3 h4 h5
  rw [zFk hdo]
  rw [hset] at h4
  split at h4
  ·rename_i e; subst e
   have := zLe K hp h2
   subst this
   rw [ho] at h3; injection h3 with h3; subst h3
   rw [if_pos h5]; exact hv
  ·rename_i hne
   rw [if_neg (fun e => (K.ok.dst h3 ho (Ne.symm hne) e).1 h5)]
   exact (I.T h1 h2 h3 h4 h5).mono hle
 ·intro t ht
  rw [zFk hdo, if_neg (ht i o ho (by rw [hset, if_pos rfl]))]
  refine I.U fun i2 o2 h1 h2 => ht i2 o2 h1 ?_
  rw [hset]; split
  ·rfl
  ·exact h2
 ·have : (a.put o.dst v').defers = a.defers := by cases o.dst <;> rfl
  rw [this]; exact I.Df.mono hle
theorem Inv.act_put (K : Dr P m ops ord call n R q) (I : Inv ops ord n R q ρ0 a0 w0 listed a w ρ ps) (hq : ps < q) {i : Nat} {o : Oper} (hp : ord[ps]? = some i) (ho : ops[i]? = some o) (hanc : ∀ j, bef (ancs ops) j i = true → listed.getD j false = true)
  {ρ' : Rho} {w' : World} {v' : Value} {ds' : List Deferred} (hv : VR ρ' (R.V ps) v') (W' : WR ρ' (R.H (ps + 1)) w') (S' : Step ρ (R.H ps) w ρ' (R.H (ps + 1)) w') (D' : DefsR ρ' (R.D (ps + 1)) ds') :
  ∃ ps', Inv ops ord n R q ρ0 a0 w0 (listed.setIfInBounds i true) (({ a with defers := ds' } : Act).put o.dst v') w' ρ' ps' := by
 have hi : i < listed.size := by rw [I.sz]; exact (Array.getElem?_eq_some_iff.1 ho).1
 have hdo : ∀ x, o.dst = some x → x < ({ a with defers := ds' } : Act).tmps.size := fun x hx => by show x < a.tmps.size; rw [I.N]; exact K.dst ho hx
 have hset : ∀ {j : Nat}, (listed.setIfInBounds i true).getD j false = if i = j then true else listed.getD j false := fun {j} => getD_set hi
 obtain ⟨ps', g1, g2, g3, g4⟩ := K.next (q - (ps + 1)) (ps + 1) rfl (by omega)
 have gr : ∀ r, ps + 1 ≤ r → r ≤ ps' → Grows (R.H (ps + 1)) (R.H r) ∧ R.D r = R.D (ps + 1) := fun r h1 h2 => K.grow h1 (by omega) (fun p i o q1 q2 => g3 p i o q1 (by omega))
 obtain ⟨W2, S2⟩ := W'.grow (gr ps' g1 (Nat.le_refl _)).1
 refine ⟨ps', by simp [I.sz], g2, g4, ?_, ?_, ?_, W2, I.S.trans (S'.trans S2), ?_, ?_, ?_, ?_, ?_, by rw [zGq]; exact I.N, ?_⟩
 ·intro p2 i2 o2 h1 h2 h3 h4
  rw [hset]; split
  ·rfl
  ·rename_i hne
   rcases Nat.lt_trichotomy p2 ps with hl | hl | hl
   ·exact I.low hl h2 h3 h4
   ·subst hl; rw [hp] at h2; injection h2 with h2; exact absurd h2 hne
   ·exact absurd h4 (g3 p2 i2 o2 (by omega) h1 h2 h3)
 ·intro p2 i2 h1 h2
  rw [hset, if_neg (fun e => ?_)]
  ·exact I.high (by omega) h2
  ·subst e
   have := zLe K hp h2
   omega
 ·intro i2 j h1 h2
  rw [hset] at h1 ⊢
  split at h1
  ·rename_i e; subst e
   split
   ·rfl
   ·exact hanc j h2
  ·split
   ·rfl
   ·exact I.dc h1 h2
 ·intro p2 h1
  rcases Nat.lt_or_ge ps p2 with hl | hl
  ·exact (gr p2 hl h1).1.wf W'.wf
  ·exact I.wf p2 hl
 ·intro p2 p3 h1 h2
  rcases Nat.lt_or_ge ps p3 with hl | hl
  ·have b1 := (gr p3 hl h2).1.le
   rcases Nat.lt_or_ge ps p2 with hl2 | hl2
   ·have cl : ∀ p i o, p2 ≤ p → p < p3 → ord[p]? = some i → ops[i]? = some o → clsO o.op ≠ 3 := fun p i o q1 q2 => g3 p i o (by omega) (by omega)
    exact (K.grow h1 (by omega) cl).1.le
   ·exact Nat.le_trans (I.nx hl2 (Nat.le_refl _)) (Nat.le_trans S'.next b1)
  ·exact I.nx h1 hl
 ·intro p2 i2 ob h1 h2 h3 h4
  rw [hset] at h3
  split at h3
  ·cases h3
  ·rename_i hne
   rcases Nat.lt_trichotomy p2 ps with hl | hl | hl
   ·obtain ⟨f1, f2⟩ := I.fl hl h2 h3 h4
    have hlt : (R.H p2).next < (R.H ps).next := by
     rcases Nat.lt_or_ge (R.H p2).next (R.H ps).next with hh | hh
     ·exact hh
     ·rw [I.wf ps (Nat.le_refl _) _ hh] at f2; cases f2
    refine ⟨?_, ?_⟩
    ·cases e : ρ' (R.H p2).next with
     | none => rfl
     | some x => have := S'.new f1 (by rw [e]; simp); omega
    ·rw [(gr ps' g1 (Nat.le_refl _)).1.old (Nat.lt_of_lt_of_le hlt S'.next), S'.keep hlt f1]; exact f2
   ·subst hl; rw [hp] at h2; injection h2 with h2; exact absurd h2 hne
   ·have b1 := (gr p2 hl (by omega)).1.le
    refine ⟨?_, ?_⟩
    ·cases e : ρ' (R.H p2).next with
     | none => rfl
     | some x => have := (W'.dom e).1; omega
    ·have cl : ∀ p i o, p2 + 1 ≤ p → p < ps' → ord[p]? = some i → ops[i]? = some o → clsO o.op ≠ 3 := fun p i o q1 q2 => g3 p i o (by omega) (by omega)
     rw [(K.grow (s := p2 + 1) (r := ps') (by omega) (by omega) cl).1.old (by rw [h4]; exact Nat.lt_succ_self _), h4, AH.add_get, if_pos rfl]
 ·intro p2 i2 o2 t h1 h2 h3 h4 h5
  rw [zFk hdo]
  rw [hset] at h4
  split at h4
  ·rename_i e; subst e
   have := zLe K hp h2
   subst this
   rw [ho] at h3; injection h3 with h3; subst h3
   rw [if_pos h5]; exact hv
  ·rename_i hne
   rw [if_neg (fun e => (K.ok.dst h3 ho (Ne.symm hne) e).1 h5)]
   have hl : p2 < ps := by
    rcases Nat.lt_or_ge p2 ps with hh | hh
    ·exact hh
    ·rw [I.high hh h2] at h4; cases h4
   exact (I.T hl h2 h3 h4 h5).mono S'.le
 ·intro t ht
  rw [zFk hdo, if_neg (ht i o ho (by rw [hset, if_pos rfl]))]
  refine I.U fun i2 o2 h1 h2 => ht i2 o2 h1 ?_
  rw [hset]; split
  ·rfl
  ·exact h2
 ·have : (({ a with defers := ds' } : Act).put o.dst v').defers = ds' := by cases o.dst <;> rfl
  rw [this, (gr ps' g1 (Nat.le_refl _)).2]; exact D'
end
end Go.Ev
namespace Go.Ev
open Go
variable [Glob]
section
variable {P : Program} {m : List Nat} {ops : Array Oper} {ord : List Nat} {call : Nat → List AV → AH → CR} {n : Nat} {R : Runs} {q : Nat} {ρ0 : Rho} {a0 : Act} {w0 : World} {listed : Array Bool} {a : Act} {w : World} {ρ : Rho} {ps : Nat}
theorem Inv.land (K : Dr P m ops ord call n R q) (I : Inv ops ord n R q ρ0 a0 w0 listed a w ρ ps) {p i : Nat} {ob : AObj} (hp : ord[p]? = some i) (hps : p < ps) (hun : listed.getD i false = false) (hob : R.H (p + 1) = (R.H p).add ob)
  {x : Obj} {sz : Nat} {w' : World} (hx : ObjR ρ ob x 0 sz) (hh : w'.heap = w.heap.push x) (hs : Same w w') :
  ρ.le (ρ.ext (R.H p).next (w.heap.size, 0, sz)) ∧ WR (ρ.ext (R.H p).next (w.heap.size, 0, sz)) (R.H ps) w' ∧ Step ρ0 (R.H 0) w0 (ρ.ext (R.H p).next (w.heap.size, 0, sz)) (R.H ps) w' ∧
   ∀ {p2 i2 : Nat} {ob2 : AObj}, p2 < ps → ord[p2]? = some i2 → i2 ≠ i → listed.getD i2 false = false → R.H (p2 + 1) = (R.H p2).add ob2 → (ρ.ext (R.H p).next (w.heap.size, 0, sz)) (R.H p2).next = none := by
 obtain ⟨f1, f2⟩ := I.fl hps hp hun hob
 have hle : ρ.le (ρ.ext (R.H p).next (w.heap.size, 0, sz)) := Rho.le_ext f1
 have hlt : (R.H p).next < (R.H ps).next := by
  rcases Nat.lt_or_ge (R.H p).next (R.H ps).next with hh | hh
  ·exact hh
  ·rw [I.wf ps (Nat.le_refl _) _ hh] at f2; cases f2
 have hold : ∀ k, k < w.heap.size → w'.heap[k]? = w.heap[k]? := fun k hk => by rw [hh, Array.getElem?_push, if_neg (by omega)]
 have hsz : w.heap.size ≤ w'.heap.size := by rw [hh]; simp
 have gl : ∀ k, k < Glob.n → k < w'.heap.size ∧ w'.heap[k]? = Glob.g k ∧ ¬ Owned (ρ.ext (R.H p).next (w.heap.size, 0, sz)) (R.H ps) k := fun k hk => by
  obtain ⟨a, b, c⟩ := I.W.gl k hk
  refine ⟨Nat.lt_of_lt_of_le a hsz, by rw [hold k a]; exact b, ?_⟩
  rintro ⟨id, o, p', s', h1, h2, h3⟩
  by_cases hi : id = (R.H p).next
  ·subst hi
   rw [Rho.ext_self] at h3; injection h3 with h3; injection h3 with h3 _
   omega
  ·rw [Rho.ext_ne _ _ hi] at h3
   exact c ⟨id, o, p', s', h1, h2, h3⟩
 refine ⟨hle, ⟨⟨?_, ?_, ?_, ?_⟩, gl⟩, ⟨Rho.le_trans I.S.le hle, ?_, ?_, Nat.le_trans I.S.size hsz, hs.os.trans I.S.os, hs.tape.trans I.S.tape, hs.output.trans I.S.output, I.S.next, I.S.keep, ?_⟩, ?_⟩
 ·intro id o b p' s' hg he
  by_cases hi : id = (R.H p).next
  ·subst hi
   rw [Rho.ext_self] at he
   rw [f2] at hg; injection hg with hg; subst hg
   injection he with he; injection he with h1 h2; injection h2 with h2 h3
   subst h1; subst h2; subst h3
   exact ⟨x, by rw [hh]; simp, hx.mono hle⟩
  ·rw [Rho.ext_ne _ _ hi] at he
   obtain ⟨y, hy, hr⟩ := I.W.obj hg he
   exact ⟨y, by rw [hold _ (I.W.dom he).2]; exact hy, hr.mono hle⟩
 ·intro i1 j1 o1 o2 b p1 s1 p2 s2 h1 h2 hne e1 e2
  by_cases hi : i1 = (R.H p).next
  ·subst hi
   rw [Rho.ext_self] at e1
   rw [Rho.ext_ne _ _ (Ne.symm hne)] at e2
   injection e1 with e1; injection e1 with e1 _
   have := (I.W.dom e2).2; omega
  ·rw [Rho.ext_ne _ _ hi] at e1
   by_cases hj : j1 = (R.H p).next
   ·subst hj
    rw [Rho.ext_self] at e2
    injection e2 with e2; injection e2 with e2 _
    have := (I.W.dom e1).2; omega
   ·rw [Rho.ext_ne _ _ hj] at e2
    exact I.W.inj h1 h2 hne e1 e2
 ·intro id y he
  by_cases hi : id = (R.H p).next
  ·subst hi
   rw [Rho.ext_self] at he; injection he with he; subst he
   exact ⟨hlt, by rw [hh]; simp⟩
  ·rw [Rho.ext_ne _ _ hi] at he
   exact ⟨(I.W.dom he).1, Nat.lt_of_lt_of_le (I.W.dom he).2 hsz⟩
 ·intro id hid; exact I.W.fresh hid
 ·rintro k hk ⟨id, o, p', s', h1, h2, h3⟩
  by_cases hi : id = (R.H p).next
  ·subst hi
   rw [Rho.ext_self] at h3; injection h3 with h3; injection h3 with h3 _
   have := I.S.size; omega
  ·rw [Rho.ext_ne _ _ hi] at h3
   exact I.S.own hk ⟨id, o, p', s', h1, h2, h3⟩
 ·intro k hk ho
  rw [hold k (Nat.lt_of_lt_of_le hk I.S.size)]
  exact I.S.frame hk ho
 ·intro id h1 h2
  by_cases hi : id = (R.H p).next
  ·subst hi; exact I.nx (Nat.zero_le _) (by omega)
  ·rw [Rho.ext_ne _ _ hi] at h2
   exact I.S.new h1 h2
 ·intro p2 i2 ob2 h1 h2 hne h3 h4
  rw [Rho.ext_ne _ _ (fun e => ?_)]
  ·exact (I.fl h1 h2 h3 h4).1
  ·have hpp : p2 ≠ p := fun e => by subst e; rw [hp] at h2; injection h2 with h2; exact hne h2.symm
   rcases Nat.lt_or_gt_of_ne hpp with hl | hl
   ·have := I.nx (p := p2 + 1) (p' := p) (by omega) (by omega)
    rw [h4, AH.add_next] at this; omega
   ·have := I.nx (p := p + 1) (p' := p2) (by omega) (by omega)
    rw [hob, AH.add_next] at this; omega
structure Fin (P : Program) (m : List Nat) (ops : Array Oper) (ord : List Nat) (call : Nat → List AV → AH → CR) (n : Nat) (R : Runs) (q : Nat) (whole : List AOper) (r : Res) : Prop where
 outs : ∀ i o k, i ∈ ord → ops[i]? = some o → o.dst.bind (zA0 m) = some k → k ∈ outs whole
 fin : (q = ord.length ∧ r = .norm (R.L q) (R.D q) (R.H q)) ∨ ∃ v h', PanAt P m ops ord call R q v h' ∧ r = .pan v (forget whole (R.L 0)) (R.D q) h'
theorem wp_ready (K : Dr P m ops ord call n R q) (L0 : LocR ρ0 m (R.L 0) a0) {whole : List AOper} {r : Res} (F : Fin P m ops ord call n R q whole r) (I : Inv ops ord n R q ρ0 a0 w0 listed a w ρ ps) {i : Nat} (hr : i ∈ Region.ready .any ops listed)
  {K' : Act → World → Prop} (hK : ∀ a' w' ρ' ps', Inv ops ord n R q ρ0 a0 w0 (listed.setIfInBounds i true) a' w' ρ' ps' → K' a' w') : wpOp P ops (QRes ρ0 (R.H 0) w0 m n r) i K' a w := by
 obtain ⟨hun0, o, ho, hdeps⟩ := mem_ready.1 hr
 have hi : i < ops.size := (Array.getElem?_eq_some_iff.1 ho).1
 have hun : listed.getD i false = false := by
  have : i < listed.size := by rw [I.sz]; exact hi
  simp [this] at hun0 ⊢; exact hun0
 have hanc : ∀ j, bef (ancs ops) j i = true → listed.getD j false = true := by
  intro j hb
  obtain ⟨o', e, h1, h2, h3, h4⟩ := bef_edge hb
  rw [ho] at h1; injection h1 with h1; subst h1
  have hl := hdeps e h2 h3
  rcases h4 with h4 | h4
  ·rw [← h4]; exact hl
  ·exact I.dc hl h4
 obtain ⟨p, hp1, hp2⟩ := List.getElem_of_mem (K.ok.cover hi)
 have hp : ord[p]? = some i := by rw [List.getElem?_eq_getElem hp1, hp2]
 have hpps : p ≤ ps := by
  rcases Nat.lt_or_ge ps p with hl | hl
  ·exfalso
   rcases I.act with h | ⟨j, oj, h1, h2, h3⟩
   ·omega
   ·obtain ⟨_, _, oi, oj', e1, e2, e3⟩ := K.ok.pair hp h1 hl
    rw [h2] at e2; injection e2 with e2; subst e2
    have := hanc j (e3 h3)
    rw [I.high (Nat.le_refl _) h1] at this; cases this
  ·exact hl
 have calm0 : ∀ e, Calm ops ord o e e := fun e b _ _ _ h1 h2 => by omega
 unfold wpOp
 rw [ho]
 simp only
 rcases Nat.lt_or_ge p ps with hlt | hge
 ·obtain ⟨i2, o2, ao, g, re, S⟩ := K.st p (by have := I.le; omega)
  have e1 := hp.symm.trans S.oi; injection e1 with e1; subst e1
  have e2 := ho.symm.trans S.oo; injection e2 with e2; subst e2
  have hc3 : clsO o.op ≠ 3 := fun h3 => by rw [I.low hlt hp ho h3] at hun; cases hun
  obtain ⟨hd, hgr, hsm, hv⟩ := zEr S.st S.co hc3
  rcases hv with ⟨hg, hV, hH⟩ | ⟨hg, he⟩
  ·rw [if_neg (by rw [zFq K L0 I hp ho hun hanc (Nat.le_refl _) hpps (calm0 p) S.cg hg]; simp)]
   exact hK _ _ ρ ps (I.put K hp ho hlt hanc (v' := undef) (by rw [hV]; exact .tup .nil rfl) ρ.le_refl I.W I.S (fun h1 h2 _ h3 h4 => (I.fl h1 h2 h3 h4).1))
  ·rw [if_pos (zFq K L0 I hp ho hun hanc (Nat.le_refl _) hpps (calm0 p) S.cg hg)]
   left
   unfold Oper.wp
   by_cases hc2 : clsO o.op < 2
   ·obtain ⟨e, ao', h1, h2, h3, h4, h5⟩ := stable K L0 I S hun hanc hc2 hg ps hpps (Nat.le_refl _)
    have G := good_op (P := P) (ρ := ρ) (h := R.H ps) (w := w) (loc := R.L e) (tmp := R.X e) (kill := false) I.W (opds_at K L0 I hp ho hun hanc h1 h2 h3) (fun _ => rfl) (fun _ => rfl) (own_op h4)
    rw [h5] at G
    obtain ⟨ρ', v', w', hrun, hvr, W', S'⟩ := G
    have hnext : K' (a.put o.dst v') w' := by
     refine hK _ _ ρ' ps (I.put K hp ho hlt hanc hvr S'.le W' (I.S.trans S') (fun q1 q2 _ q3 q4 => ?_))
     obtain ⟨f1, f2⟩ := I.fl q1 q2 q3 q4
     cases hq : ρ' (R.H _).next with
     | none => rfl
     | some x =>
      have b1 := S'.new f1 (by rw [hq]; simp)
      have b2 := (W'.dom hq).1
      omega
    rcases hrun with hrun | ⟨hrun, rfl⟩
    ·rw [hrun]; exact hnext
    ·rw [hrun]; exact hnext
   ·have hle3 := clsO_le o.op
    have hcl2 : clsO o.op = 2 := by omega
    have X := opds_at K L0 I hp ho hun hanc (Nat.le_refl _) hpps (calm0 p)
    rcases make_op (P := P) (w := w) X (own_op S.co) hcl2 with ⟨k, hk⟩ | ⟨V, ob, x, sz, w', v', hf, hox, hhp, hsame, hrun, hvv⟩
    ·cases he.symm.trans (hk _)
    ·have e3 := he.symm.trans (hf _)
     injection e3 with e3 e4
     obtain ⟨l1, l2, l3, l4⟩ := I.land K hp hlt hun e4 hox hhp hsame
     rw [hrun]
     refine hK _ _ _ ps (I.put K hp ho hlt hanc ?_ l1 l2 l3 l4)
     rw [e3]; exact hvv _ _ (Rho.ext_self _ _ _)
 ·have hpe : p = ps := by omega
  subst hpe
  have h3 : clsO o.op = 3 := by
   rcases I.act with h | ⟨j, oj, h1, h2, h3⟩
   ·omega
   ·have e1 := hp.symm.trans h1; injection e1 with e1; subst e1
    have e2 := ho.symm.trans h2; injection e2 with e2; subst e2
    exact h3
  have X := opds_at K L0 I hp ho hun hanc (Nat.le_refl _) hpps (calm0 p)
  rcases Nat.lt_or_ge p q with hq | hq
  ·obtain ⟨i2, o2, ao, g, re, S⟩ := K.st p hq
   have e1 := hp.symm.trans S.oi; injection e1 with e1; subst e1
   have e2 := ho.symm.trans S.oo; injection e2 with e2; subst e2
   by_cases hgt : zBh (R.L p) (R.X p) g = some true
   ·rw [if_pos (zFq K L0 I hp ho hun hanc (Nat.le_refl _) hpps (calm0 p) S.cg hgt)]
    left
    refine step_wp K.hcall S.st hgt I.W X (own_op S.co) I.Df ?_
    intro ρ' v' w' ds' hv W' S' D'
    obtain ⟨ps', I'⟩ := I.act_put K hq hp ho hanc hv W' S' D'
    exact hK _ _ _ _ I'
   ·have hst := S.st
    have hskip : zBh (R.L p) (R.X p) g = some false ∧ R.V p = .tup [] ∧ R.D (p + 1) = R.D p ∧ R.H (p + 1) = R.H p := by
     generalize R.V p = v at hst
     generalize R.D (p + 1) = d' at hst
     generalize R.H (p + 1) = h' at hst
     cases hst with
     | skip hgf => exact ⟨hgf, rfl, rfl, rfl⟩
     | val h1 _ _ => exact absurd h1 hgt
     | enter h1 _ _ _ => exact absurd h1 hgt
     | dfr h1 _ => exact absurd h1 hgt
    obtain ⟨hgf, hV, hD, hH⟩ := hskip
    rw [if_neg (by rw [zFq K L0 I hp ho hun hanc (Nat.le_refl _) hpps (calm0 p) S.cg hgf]; simp)]
    obtain ⟨ps', I'⟩ := I.act_put K hq hp ho hanc (ρ' := ρ) (w' := w) (v' := undef) (ds' := a.defers) (by rw [hV]; exact .tup .nil rfl) (by rw [hH]; exact I.W) (by rw [hH]; exact .refl _ _ _) (by rw [hD]; exact I.Df)
    exact hK _ _ _ _ I'
  ·have hpq : p = q := by have := I.le; omega
   rcases F.fin with ⟨h1, _⟩ | ⟨v, h', hpan, hres⟩
   ·omega
   ·obtain ⟨i2, o2, ao, g, b1, b2, b3, b4, b5⟩ := hpan.ex
    rw [← hpq] at b1 b3 b4 b5 hres
    have e1 := hp.symm.trans b1; injection e1 with e1; subst e1
    have e2 := ho.symm.trans b2; injection e2 with e2; subst e2
    have hgt : zBh (R.L p) (R.X p) g = some true := by cases b5 <;> assumption
    rw [if_pos (zFq K L0 I hp ho hun hanc (Nat.le_refl _) hpps (calm0 p) b4 hgt)]
    left
    refine pan_wp K.hcall b5 I.W X (own_op b3) ?_
    intro ρ' v' w' hv W' S'
    rw [hres]
    refine ⟨ρ', v', rfl, hv, ?_, I.Df.mono S'.le, W', I.S.trans S', I.N⟩
    intro t k hk
    rw [zFr]
    split
    ·exact .bad _
    ·rename_i hnk
     rw [I.U (t := t) ?_]
     ·exact (L0 t k hk).mono (Rho.le_trans I.S.le S'.le)
     ·intro i2 o2 h1 h2 hd
      have hmem := K.ok.cover (Array.getElem?_eq_some_iff.1 h1).1
      exact hnk (F.outs i2 o2 k hmem h1 (by rw [hd]; exact hk))
end
end Go.Ev
namespace Go.Ev
open Go
variable [Glob]
theorem countP_lt {p p' : Nat → Bool} : ∀ {l : List Nat} {i : Nat}, i ∈ l → p i = true → p' i = false → (∀ x, p' x = true → p x = true) → l.countP p' < l.countP p
 | [], i, h, _, _, _ => by simp at h
 | x :: l, i, h, h1, h2, h3 => by
  rw [List.countP_cons, List.countP_cons]
  have hm : l.countP p' ≤ l.countP p := List.countP_mono_left fun y _ hy => h3 y hy
  rcases List.mem_cons.1 h with rfl | h
  ·rw [h1, h2]; simp; omega
  ·have := countP_lt h h1 h2 h3
   by_cases hx : p' x = true
   ·rw [hx, h3 x hx]; simp; omega
   ·have hx : p' x = false := by simpa using hx
    rw [hx]; simp; split <;> omega
section
variable {P : Program} {m : List Nat} {ops : Array Oper} {ord : List Nat} {call : Nat → List AV → AH → CR} {n : Nat} {R : Runs} {q : Nat} {ρ0 : Rho} {a0 : Act} {w0 : World}
theorem all_listed {listed : Array Bool} (K : Dr P m ops ord call n R q) (hsz : listed.size = ops.size) (h : Region.ready .any ops listed = []) : ∀ i, i < ops.size → listed.getD i false = true := by
 intro i
 induction i using Nat.strongRecOn with
 | _ i ih =>
  intro hi
  cases hl : listed.getD i false with
  | true => rfl
  | false =>
   exfalso
   have ho : ops[i]? = some ops[i] := Array.getElem?_eq_getElem hi
   have : i ∈ Region.ready .any ops listed := by
    refine mem_ready.2 ⟨?_, ops[i], ho, fun e he hb => ?_⟩
    ·have : i < listed.size := by omega
     simp [this] at hl ⊢; exact hl
    ·have hlt := K.ok.back ho e he hb
     exact ih e.on hlt (by omega)
   rw [h] at this; simp at this
theorem zKp {listed : Array Bool} {a : Act} {w : World} {ρ : Rho} {ps : Nat} (K : Dr P m ops ord call n R q) (L0 : LocR ρ0 m (R.L 0) a0) {whole : List AOper} {r : Res} (F : Fin P m ops ord call n R q whole r) (I : Inv ops ord n R q ρ0 a0 w0 listed a w ρ ps)
  (hall : ∀ i, i < ops.size → listed.getD i false = true) : QRes ρ0 (R.H 0) w0 m n r .normal a w := by
 have hps : ps = ord.length := by
  rcases I.act with h | ⟨i, o, h1, h2, _⟩
  ·exact h
  ·have := hall i (Array.getElem?_eq_some_iff.1 h2).1
   rw [I.high (Nat.le_refl _) h1] at this; cases this
 have hq : q = ps := by have := I.le; have := K.ql; omega
 rcases F.fin with ⟨_, hr⟩ | ⟨v, h', hpan, _⟩
 ·rw [hr]
  subst hq
  refine ⟨ρ, ?_, I.Df, I.W, I.S, I.N⟩
  intro t k hk
  rcases zK5 K.st k q (Nat.le_refl _) with ⟨h1, h2⟩ | ⟨b, i, o, h1, h2, h3, h4, h5⟩
  ·rw [h1, I.U (t := t) ?_]
   ·exact (L0 t k hk).mono I.S.le
   ·intro i o ho _ hd
    obtain ⟨b, hb, hbe⟩ := List.getElem_of_mem (K.ok.cover (Array.getElem?_eq_some_iff.1 ho).1)
    exact h2 b i o (by omega) (by rw [List.getElem?_eq_getElem hb, hbe]) ho (by rw [hd]; exact hk)
  ·rw [h5]
   cases hd : o.dst with
   | none => rw [hd] at h4; cases h4
   | some t' =>
    rw [hd] at h4
    have : t' = t := zGj h4 hk
    subst this
    exact I.T h1 h2 h3 (hall i (Array.getElem?_eq_some_iff.1 h3).1) hd
 ·obtain ⟨i, o, ao, g, h1, _⟩ := hpan.ex
  rw [hq, hps, List.getElem?_eq_none (Nat.le_refl _)] at h1; cases h1
theorem wp_any (K : Dr P m ops ord call n R q) (L0 : LocR ρ0 m (R.L 0) a0) {whole : List AOper} {r : Res} (F : Fin P m ops ord call n R q whole r) : ∀ (fuel : Nat) (listed : Array Bool) (a : Act) (w : World) (ρ : Rho) (ps : Nat),
  Inv ops ord n R q ρ0 a0 w0 listed a w ρ ps → (List.range ops.size).countP (fun i => !listed.getD i true) ≤ fuel → wpAny P .any ops (QRes ρ0 (R.H 0) w0 m n r) fuel listed a w
 | 0, listed, a, w, ρ, ps, I, hc => by
  have hall : ∀ i, i < ops.size → listed.getD i false = true := by
   intro i hi
   have h0 : (List.range ops.size).countP (fun i => !listed.getD i true) = 0 := by omega
   have := List.countP_eq_zero.1 h0 i (by simpa using hi)
   have hs : i < listed.size := by rw [I.sz]; exact hi
   simp [hs] at this ⊢; exact this
  refine ⟨?_, zKp K L0 F I hall⟩
  apply List.eq_nil_iff_forall_not_mem.2
  intro i hi
  obtain ⟨h1, o, ho, _⟩ := mem_ready.1 hi
  have hlt := (Array.getElem?_eq_some_iff.1 ho).1
  have := hall i hlt
  have hs : i < listed.size := by rw [I.sz]; exact hlt
  simp [hs] at h1 this
  rw [this] at h1; cases h1
 | fuel + 1, listed, a, w, ρ, ps, I, hc => by
  refine ⟨fun hr => zKp K L0 F I (all_listed K I.sz hr), fun i hi => ?_⟩
  refine wp_ready K L0 F I hi fun a' w' ρ' ps' I' => wp_any K L0 F fuel _ a' w' ρ' ps' I' ?_
  obtain ⟨h1, o, ho, _⟩ := mem_ready.1 hi
  have hlt := (Array.getElem?_eq_some_iff.1 ho).1
  have hs : i < listed.size := by rw [I.sz]; exact hlt
  have := countP_lt (p := fun i => !listed.getD i true) (p' := fun j => !(listed.setIfInBounds i true).getD j true) (l := List.range ops.size) (i := i) (by simpa using hlt) (by simp only [h1, Bool.not_false]) (by simp [hs]) (fun x hx => by
   by_cases hxi : i = x
   ·subst hxi; simp [hs] at hx
   ·rw [getD_set_ne true hxi] at hx; exact hx)
  omega
theorem draw_region {id : Nat} {ac : ACode} {loc : T AV} {d : List AV} {h : AH} {ρ : Rho} {a : Act} {w : World} {r : Res} (hm : P.follows .mixedOrders = true) (hcall : zIp P call) (hdst : ∀ o ∈ ops, ∀ x, o.dst = some x → x < n)
  (hc : zId P m ops true = some ac) (hr : ∀ aos, ac = .ops aos → evOps call aos loc aos loc [] d h = r) (hgood : r.good) (L : LocR ρ m loc a) (W : WR ρ h w) (D : DefsR ρ d a.defers) (hn : a.tmps.size = n) :
  (Code.region id ops true).wp P (QRes ρ h w m n r) a w := by
 have hc : (do let ord ← order ops (ancs ops) ops.size []; if drawOk ops (ancs ops) ord then (do some (ACode.ops (← cDraw P m ops (ancs ops) ord [] []))) else none) = some ac := hc
 obtain ⟨ord, hord, hc⟩ := bindS hc
 split at hc
 ·rename_i hok
  obtain ⟨aos, haos, hc⟩ := bindS hc
  injection hc with hc; subst hc
  have hr := hr aos rfl
  have ok := drawOk_spec hok
  obtain ⟨R, q, h1, h2, e1, e2, e3, e4, hall, hend⟩ := trace_ex (call := call) (anc := ancs ops) ord 0 aos loc [] d h r (Nat.zero_le _) rfl (by simpa [DN, TS] using haos) hr hgood
  subst e1; subst e3; subst e4
  have K : Dr P m ops ord call n R q := by
   refine ⟨hcall, ok, e2, h2, fun p hp => hall p (Nat.zero_le _) hp, ?_, fun ho hd => hdst _ (Array.mem_of_getElem? ho) _ hd⟩
   rcases hend with ⟨hq, _⟩ | ⟨v, h', hpan, _⟩
   ·exact .inl hq
   ·obtain ⟨i, o, ao, g, b1, b2, b3, b4, b5⟩ := hpan.ex
    refine .inr ⟨i, o, b1, b2, ?_⟩
    by_cases h3 : clsO o.op = 3
    ·exact h3
    ·exfalso
     rcases zLb (loc := R.L q) (tmp := R.X q) b3 h3 (R.H q) with ⟨k, hk⟩ | ⟨u, hu, hk⟩
     ·cases b5 with
      | enter _ he _ => cases he.symm.trans hk
      | pan _ he => cases he.symm.trans hk
     ·cases b5 with
      | enter _ he _ => cases he.symm.trans hk
      | pan _ he => cases he.symm.trans hk
  have F : Fin P m ops ord call n R q aos r := ⟨fun i o k hi ho hk => outs_draw haos i o k hi ho hk, hend⟩
  obtain ⟨ps, g1, g2, g3, g4⟩ := K.next q 0 (by omega) (Nat.zero_le _)
  have gr : ∀ s r, s ≤ r → r ≤ ps → Grows (R.H s) (R.H r) ∧ R.D r = R.D s := fun s r h1 h2 => K.grow h1 (by omega) (fun p i o _ q2 => g3 p i o (Nat.zero_le _) (by omega))
  have W1 : WR ρ (R.H 0) { w with drawn := w.drawn + 1 } := W.of_heap rfl
  obtain ⟨W2, S2⟩ := W1.grow (gr 0 ps (Nat.zero_le _) (Nat.le_refl _)).1
  refine wp_region_any hm ?_
  refine wp_any K L F ops.size _ a _ ρ ps ?_ ?_
  ·have hf : ∀ i, (Array.replicate ops.size false).getD i false = false := fun i => by
    rw [Array.getD_eq_getD_getElem?, Array.getElem?_replicate]; split <;> rfl
   have S1 : Step ρ (R.H 0) w ρ (R.H 0) { w with drawn := w.drawn + 1 } := Step.of_heap rfl ⟨rfl, rfl, rfl⟩
   refine ⟨by simp, g2, g4, fun q1 q2 q3 q4 => absurd q4 (g3 _ _ _ (Nat.zero_le _) q1 q2 q3), fun _ _ => hf _, fun q1 _ => ?_, W2, S1.trans S2, fun p hp => (gr 0 p (Nat.zero_le _) hp).1.wf W.wf, fun q1 q2 => (gr _ _ q1 q2).1.le, fun {p i ob} q1 q2 q3 q4 => ?_, fun _ _ _ q4 _ => ?_, fun _ => rfl, hn, ?_⟩
   ·rw [hf] at q1; cases q1
   ·refine ⟨?_, ?_⟩
    ·cases e : ρ (R.H p).next with
     | none => rfl
     | some x => have := (W.dom e).1; have := (gr 0 p (Nat.zero_le _) (by omega)).1.le; omega
    ·rw [(gr (p + 1) ps (by omega) (Nat.le_refl _)).1.old (by rw [q4]; exact Nat.lt_succ_self _), q4, AH.add_get, if_pos rfl]
   ·rw [hf] at q4; cases q4
   ·rw [(gr 0 ps (Nat.zero_le _) (Nat.le_refl _)).2]; exact D
  ·have := List.countP_le_length (p := fun i => !(Array.replicate ops.size false).getD i true) (l := List.range ops.size)
   simpa using this
 ·cases hc
end
end Go.Ev
namespace Go.Ev
open Go
variable [Glob]
theorem Post.trans {ρ0 ρ : Rho} {h0 h : AH} {w0 w : World} {m : List Nat} {n : Nat} {loc : T AV} {d : List AV} {h' : AH} {a' : Act} {w' : World} (S : Step ρ0 h0 w0 ρ h w) (p : Post ρ h w m n loc d h' a' w') : Post ρ0 h0 w0 m n loc d h' a' w' := by
 obtain ⟨ρ', a1, a2, a3, a4, a5⟩ := p
 exact ⟨ρ', a1, a2, a3, S.trans a4, a5⟩
theorem QRes.trans {ρ0 ρ : Rho} {h0 h : AH} {w0 w : World} {m : List Nat} {n : Nat} {r : Res} {e : Exit} {a' : Act} {w' : World} (S : Step ρ0 h0 w0 ρ h w) (p : QRes ρ h w m n r e a' w') : QRes ρ0 h0 w0 m n r e a' w' := by
 cases r <;> cases e <;> first | exact p.elim | skip
 ·exact Post.trans S p
 ·exact ⟨p.1, Post.trans S p.2⟩
 ·exact Post.trans S p
 ·obtain ⟨ρ', v', q1, q2, a1, a2, a3, a4, a5⟩ := p
  exact ⟨ρ', v', q1, q2, a1, a2, a3, S.trans a4, a5⟩
def wpL (P : Program) (c : Code) (Q : Exit → Act → World → Prop) (a : Act) (w : World) : Prop :=
 ∀ (b : Frame) (k : List Item) (cs : List Frame), ∃ e a' w', Q e a' w' ∧ Arrives P (lone (b.at a (.code c :: .inLoop c :: k)) cs w) b k cs e a' w'
theorem wpL_of {P : Program} {c : Code} {Q : Exit → Act → World → Prop} {a : Act} {w : World} (h : c.wp P (Exit.then (wpL P c Q) Q) a w) : wpL P c Q a w := by
 intro b k cs
 obtain ⟨e, a₁, w₁, hq, harr⟩ := h b (.inLoop c :: k) cs
 cases e with
 | normal =>
  obtain ⟨e₂, a₂, w₂, hq₂, harr₂⟩ := hq b k cs
  exact ⟨e₂, a₂, w₂, hq₂, .of_steps (Steps.trans harr (.one step_inLoop)) harr₂⟩
 | exit id => exact ⟨_, a₁, w₁, hq, .pass (x := .inLoop c) rfl (fun _ _ => .inl (by simp)) harr⟩
 | goto l => exact ⟨_, a₁, w₁, hq, .pass (x := .inLoop c) rfl (fun _ _ => .inl (by simp)) harr⟩
 | ret => exact ⟨_, a₁, w₁, hq, .pass (x := .inLoop c) rfl (fun _ _ => .inl (by simp)) harr⟩
 | panic ch => exact ⟨_, a₁, w₁, hq, .pass (x := .inLoop c) rfl (fun _ _ => .inl (by simp)) harr⟩
 | outgrown => exact ⟨_, a₁, w₁, hq, .pass (x := .inLoop c) rfl (fun _ _ => .inl (by simp)) harr⟩
theorem wp_of_wpL {P : Program} {c : Code} {Q : Exit → Act → World → Prop} {a : Act} {w : World} (h : wpL P c Q a w) : (Code.loop c).wp P Q a w := by
 intro b k cs
 obtain ⟨e, a', w', hq, harr⟩ := h b k cs
 exact ⟨e, a', w', hq, .of_steps (.one step_loop) harr⟩
section
variable {P : Program} {tab : Nat → Option AFunc}
def zJ8 (P : Program) (tab : Nat → Option AFunc) (n : Nat) : Prop := ∀ (m : List Nat) (N : Nat) (c : Code) (c' : ACode), cCode P m c = some c' → dstOk N c = true → ∀ (loc : T AV) (d : List AV) (h : AH) (r : Res), evC tab n c' loc d h = r → r.good →
 ∀ (ρ : Rho) (a : Act) (w : World), LocR ρ m loc a → WR ρ h w → DefsR ρ d a.defers → N ≤ a.tmps.size → c.wp P (QRes ρ h w m a.tmps.size r) a w
def LoopOK (P : Program) (tab : Nat → Option AFunc) (n : Nat) : Prop := ∀ (m : List Nat) (N : Nat) (c : Code) (c' : ACode), cCode P m c = some c' → dstOk N c = true → ∀ (loc : T AV) (d : List AV) (h : AH) (r : Res), evC tab n (.loop c') loc d h = r → r.good →
 ∀ (ρ : Rho) (a : Act) (w : World), LocR ρ m loc a → WR ρ h w → DefsR ρ d a.defers → N ≤ a.tmps.size → wpL P c (QRes ρ h w m a.tmps.size r) a w
theorem stuck_bad {n : Nat} {loc : T AV} {d : List AV} {h : AH} {r : Res} (hr : evC tab (n + 1) stuckC loc d h = r) (hg : r.good) : False := by
 have hr : Res.fail [59] = r := hr
 rw [← hr] at hg; exact hg
theorem tmp_nil {ρ : Rho} {a : Act} {tmp : List AV} : TmpR ρ [] tmp a := fun t i e => by cases e
theorem zF7 {ρ : Rho} {h : AH} {w : World} {m : List Nat} {n : Nat} {r1 r : Res} {K : Act → World → Prop} (hn : ∀ loc d h' a' w', r1 = .norm loc d h' → Post ρ h w m n loc d h' a' w' → K a' w') (ho : (∀ loc d h', r1 ≠ .norm loc d h') → r = r1) :
  ∀ e a' w', QRes ρ h w m n r1 e a' w' → Exit.then K (QRes ρ h w m n r) e a' w' := by
 intro e a' w' q
 cases r1 with
 | norm loc d h' => cases e <;> first | exact q.elim | exact hn _ _ _ _ _ rfl q
 | exit id loc d h' => rw [ho (by intros; simp)]; cases e <;> first | exact q.elim | exact q
 | ret loc d h' => rw [ho (by intros; simp)]; cases e <;> first | exact q.elim | exact q
 | pan v loc d h' => rw [ho (by intros; simp)]; cases e <;> first | exact q.elim | exact q
 | fail l => cases e <;> exact q.elim
theorem code_step (hm : P.follows .mixedOrders = true) {n : Nat} (hcall : zIp P (zCt tab (evC tab n))) (A : zJ8 P tab n) (B : LoopOK P tab n) : zJ8 P tab (n + 1) ∧ LoopOK P tab (n + 1) := by
 have loopOK : LoopOK P tab (n + 1) := by
  intro m N c c' hc hd loc d h r hr hgood ρ a w L W D hN
  have hr : (Res.rec (motive := fun _ => Res) (fun loc d h => evC tab n (ACode.loop c') loc d h) Res.exit Res.ret Res.pan Res.fail (evC tab n c' loc d h) : Res) = r := hr
  refine wpL_of ?_
  cases h1 : evC tab n c' loc d h with
  | fail l => rw [h1] at hr; have hr : Res.fail l = r := hr; rw [← hr] at hgood; exact hgood.elim
  | norm l1 d1 hh1 =>
   rw [h1] at hr
   have X := A m N c c' hc hd loc d h _ h1 trivial ρ a w L W D hN
   refine wp_mono X (zF7 (fun loc2 d2 h2 a2 w2 e1 p => ?_) (fun ho => absurd rfl (ho _ _ _)))
   injection e1 with e1 e2 e3; subst e1; subst e2; subst e3
   obtain ⟨ρ2, L2, D2, W2, S2, N2⟩ := p
   have := B m N c c' hc hd _ _ _ r hr hgood ρ2 a2 w2 L2 W2 D2 (by omega)
   intro b k cs
   obtain ⟨e, a', w', q, rr⟩ := this b k cs
   refine ⟨e, a', w', ?_, rr⟩
   rw [N2] at q
   exact q.trans S2
  | exit id l1 d1 hh1 =>
   rw [h1] at hr; have hr : Res.exit id l1 d1 hh1 = r := hr
   have X := A m N c c' hc hd loc d h _ h1 trivial ρ a w L W D hN
   exact wp_mono X (zF7 (fun loc2 d2 h2 a2 w2 e1 p => by cases e1) (fun ho => hr.symm))
  | ret l1 d1 hh1 =>
   rw [h1] at hr; have hr : Res.ret l1 d1 hh1 = r := hr
   have X := A m N c c' hc hd loc d h _ h1 trivial ρ a w L W D hN
   exact wp_mono X (zF7 (fun loc2 d2 h2 a2 w2 e1 p => by cases e1) (fun ho => hr.symm))
  | pan v l1 d1 hh1 =>
   rw [h1] at hr; have hr : Res.pan v l1 d1 hh1 = r := hr
   have X := A m N c c' hc hd loc d h _ h1 trivial ρ a w L W D hN
   exact wp_mono X (zF7 (fun loc2 d2 h2 a2 w2 e1 p => by cases e1) (fun ho => hr.symm))
 refine ⟨?_, loopOK⟩
 intro m N c c' hc hd loc d h r hr hgood ρ a w L W D hN
 cases c with
 | skip =>
  injection hc with hc; subst hc
  have hr : Res.norm loc d h = r := hr
  subst hr
  exact wp_skip ⟨ρ, L, D, W, .refl _ _ _, rfl⟩
 | ret =>
  injection hc with hc; subst hc
  have hr : Res.ret loc d h = r := hr
  subst hr
  exact wp_ret ⟨ρ, L, D, W, .refl _ _ _, rfl⟩
 | exit id =>
  injection hc with hc; subst hc
  have hr : Res.exit id loc d h = r := hr
  subst hr
  exact wp_exit ⟨rfl, ρ, L, D, W, .refl _ _ _, rfl⟩
 | region id ops draw =>
  have hdst : ∀ o ∈ ops, ∀ x, o.dst = some x → x < a.tmps.size := by
   intro o ho x hx
   have hd : (ops.all fun o => match o.dst with | some d => decide (d < N) | none => true) = true := hd
   have := Array.all_eq_true_iff_forall_mem.1 hd o ho
   rw [hx] at this
   exact Nat.lt_of_lt_of_le (of_decide_eq_true this) hN
  have hc : (match zId P m ops draw with | some c => some c | none => some stuckC) = some c' := hc
  cases hcr : zId P m ops draw with
  | none =>
   rw [hcr] at hc
   injection hc with hc; subst hc
   exact (stuck_bad hr hgood).elim
  | some c1 =>
  rw [hcr] at hc
  injection hc with hc; subst hc
  have hc := hcr
  cases draw with
  | true =>
   refine draw_region hm hcall hdst hc (fun aos e => ?_) hgood L W D rfl
   subst e; exact hr
  | false =>
   have hc : (if (ops.toList.any fun o => zHr o.op) then (do let r ← zF9 ops.toList; if (zA0 m r.1).isSome then none else some (ACode.recov (zA0 m r.2))) else (do some (ACode.ops (← zKy P m ops ops.toList [])))) = some c1 := hc
   split at hc
   ·obtain ⟨s, hs, hc⟩ := bindS hc
    split at hc
    ·cases hc
    ·injection hc with hc; subst hc
     have hr : Res.fail [89] = r := hr
     rw [← hr] at hgood; exact hgood.elim
   ·obtain ⟨aos, haos, hc⟩ := bindS hc
    injection hc with hc; subst hc
    exact plain_region hcall hdst haos hr hgood L W D rfl
 | seq x y =>
  obtain ⟨x', hx, hc⟩ := bindS hc
  obtain ⟨y', hy, hc⟩ := bindS hc
  injection hc with hc; subst hc
  have hd : (dstOk N x && dstOk N y) = true := hd
  rw [Bool.and_eq_true] at hd
  have hr : (Res.rec (motive := fun _ => Res) (fun loc d h => evC tab n y' loc d h) Res.exit Res.ret Res.pan Res.fail (evC tab n x' loc d h) : Res) = r := hr
  refine wp_seq ?_
  cases h1 : evC tab n x' loc d h with
  | fail l => rw [h1] at hr; have hr : Res.fail l = r := hr; rw [← hr] at hgood; exact hgood.elim
  | norm l1 d1 hh1 =>
   rw [h1] at hr
   have X := A m N x x' hx hd.1 loc d h _ h1 trivial ρ a w L W D hN
   refine wp_mono X (zF7 (fun loc2 d2 h2 a2 w2 e1 p => ?_) (fun ho => absurd rfl (ho _ _ _)))
   injection e1 with e1 e2 e3; subst e1; subst e2; subst e3
   obtain ⟨ρ2, L2, D2, W2, S2, N2⟩ := p
   have := A m N y y' hy hd.2 _ _ _ r hr hgood ρ2 a2 w2 L2 W2 D2 (by omega)
   rw [N2] at this
   exact wp_mono this fun e a' w' q => q.trans S2
  | exit id l1 d1 hh1 =>
   rw [h1] at hr; have hr : Res.exit id l1 d1 hh1 = r := hr
   have X := A m N x x' hx hd.1 loc d h _ h1 trivial ρ a w L W D hN
   exact wp_mono X (zF7 (fun loc2 d2 h2 a2 w2 e1 p => by cases e1) (fun ho => hr.symm))
  | ret l1 d1 hh1 =>
   rw [h1] at hr; have hr : Res.ret l1 d1 hh1 = r := hr
   have X := A m N x x' hx hd.1 loc d h _ h1 trivial ρ a w L W D hN
   exact wp_mono X (zF7 (fun loc2 d2 h2 a2 w2 e1 p => by cases e1) (fun ho => hr.symm))
  | pan v l1 d1 hh1 =>
   rw [h1] at hr; have hr : Res.pan v l1 d1 hh1 = r := hr
   have X := A m N x x' hx hd.1 loc d h _ h1 trivial ρ a w L W D hN
   exact wp_mono X (zF7 (fun loc2 d2 h2 a2 w2 e1 p => by cases e1) (fun ho => hr.symm))
 | cond cc x y =>
  obtain ⟨o, ho, hc⟩ := bindS hc
  obtain ⟨x', hx, hc⟩ := bindS hc
  obtain ⟨y', hy, hc⟩ := bindS hc
  injection hc with hc; subst hc
  have hd : (dstOk N x && dstOk N y) = true := hd
  rw [Bool.and_eq_true] at hd
  have hv := zLg (ρ := ρ) (tmp := []) (ts := []) L tmp_nil _ _ ho
  have hr : AV.on (Res.fail [90]) (fun q => bi q (evC tab n x' loc d h) (evC tab n y' loc d h)) (fun _ _ => Res.fail [90]) (fun _ _ => Res.fail [90]) (fun _ _ => Res.fail [90]) (Res.fail [90]) (fun _ _ _ _ => Res.fail [90]) (Res.fail [90]) (fun _ => Res.fail [90]) (Res.fail [90]) (fun _ _ _ => Res.fail [90]) (Res.fail [90]) (fun _ _ => Res.fail [90]) (Res.fail [90]) (fun _ => Res.fail [90]) (fun _ => Res.fail [90]) (ev loc [] o) = r := hr
  generalize ev loc [] o = av at hv hr
  cases av <;> try (have hr : Res.fail [90] = r := hr; rw [← hr] at hgood; exact hgood.elim)
  rename_i b
  generalize hae : a.eval cc = u at hv
  cases hv
  refine wp_cond hae ?_
  cases b with
  | true => exact A m N x x' hx hd.1 loc d h r hr hgood ρ a w L W D hN
  | false => exact A m N y y' hy hd.2 loc d h r hr hgood ρ a w L W D hN
 | block id x =>
  obtain ⟨x', hx, hc⟩ := bindS hc
  injection hc with hc; subst hc
  have hr : (Res.rec (motive := fun _ => Res) Res.norm (fun id' loc d h => bi (Nat.beq id id') (Res.norm loc d h) (Res.exit id' loc d h)) Res.ret Res.pan Res.fail (evC tab n x' loc d h) : Res) = r := hr
  refine wp_block ?_
  cases h1 : evC tab n x' loc d h with
  | fail l => rw [h1] at hr; have hr : Res.fail l = r := hr; rw [← hr] at hgood; exact hgood.elim
  | norm l1 d1 hh1 =>
   rw [h1] at hr; have hr : Res.norm l1 d1 hh1 = r := hr; subst hr
   refine wp_mono (A m N x x' hx hd loc d h _ h1 trivial ρ a w L W D hN) fun e a' w' q => ?_
   cases e <;> first | exact q.elim | exact q
  | ret l1 d1 hh1 =>
   rw [h1] at hr; have hr : Res.ret l1 d1 hh1 = r := hr; subst hr
   refine wp_mono (A m N x x' hx hd loc d h _ h1 trivial ρ a w L W D hN) fun e a' w' q => ?_
   cases e <;> first | exact q.elim | exact q
  | pan v l1 d1 hh1 =>
   rw [h1] at hr; have hr : Res.pan v l1 d1 hh1 = r := hr; subst hr
   refine wp_mono (A m N x x' hx hd loc d h _ h1 trivial ρ a w L W D hN) fun e a' w' q => ?_
   cases e <;> first | exact q.elim | exact q
  | exit id' l1 d1 hh1 =>
   rw [h1] at hr
   have hr : bi (Nat.beq id id') (Res.norm l1 d1 hh1) (Res.exit id' l1 d1 hh1) = r := hr
   refine wp_mono (A m N x x' hx hd loc d h _ h1 trivial ρ a w L W D hN) fun e a' w' q => ?_
   cases e <;> try exact q.elim
   rename_i id2
   obtain ⟨e1, p⟩ := q
   subst e1
   show if id' = id then _ else _
   rw [bi_eq] at hr
   by_cases hid : id' = id
   ·subst hid
    rw [if_pos (Nat.beq_refl _)] at hr
    rw [if_pos rfl, ← hr]; exact p
   ·have : Nat.beq id id' = false := by
     cases hb : Nat.beq id id' with
     | false => rfl
     | true => exact absurd (Nat.eq_of_beq_eq_true hb).symm hid
    rw [this] at hr
    have hr : Res.exit id' l1 d1 hh1 = r := hr
    rw [if_neg hid, ← hr]; exact ⟨rfl, p⟩
 | loop x =>
  obtain ⟨x', hx, hc⟩ := bindS hc
  injection hc with hc; subst hc
  exact wp_of_wpL (loopOK m N x x' hx hd loc d h r hr hgood ρ a w L W D hN)
 | _ => injection hc with hc; subst hc; exact (stuck_bad hr hgood).elim
end
end Go.Ev
namespace Go.Ev
open Go
variable [Glob]
theorem wpS_block {P : Program} {Q : Exit → Act → List Frame → World → Prop} {a : Act} {cs : List Frame} {w : World} {id : Nat} {c : Code} (h : c.wpS P (fun e a cs w => match e with | .exit id' => if id' = id then Q .normal a cs w else Q (.exit id') a cs w | e => Q e a cs w) a cs w) : (Code.block id c).wpS P Q a cs w := by
 intro b k hb hr
 obtain ⟨e, a₁, cs₁, w₁, hq, harr⟩ := h b (.inBlock id :: k) hb hr
 cases e with
 | normal => exact ⟨.normal, a₁, cs₁, w₁, hq, .head step_block (Steps.trans harr (.one step_inBlock))⟩
 | exit id' =>
  by_cases hid : id' = id
  ·simp only [hid, if_true] at hq
   exact ⟨.normal, a₁, cs₁, w₁, hq, .head step_block (harr k (by simp [exitTo, hid]))⟩
  ·simp only [hid, if_false] at hq
   refine ⟨.exit id', a₁, cs₁, w₁, hq, fun k' hk => .head step_block (harr k' ?_)⟩
   have : (id == id') = false := by simp; exact fun h => hid h.symm
   simp [exitTo, this, hk]
 | goto l => exact ⟨_, a₁, cs₁, w₁, hq, fun k' hk => .head step_block (harr k' (by simp [gotoIn, hk]))⟩
 | ret => exact ⟨_, a₁, cs₁, w₁, hq, .of_steps (.one step_block) harr⟩
 | panic ch => exact ⟨_, a₁, cs₁, w₁, hq, .of_steps (.one step_block) harr⟩
 | outgrown => exact ⟨_, a₁, cs₁, w₁, hq, .of_steps (b := b) (k := k) (cs := cs₁) (e := .outgrown) (.one step_block) harr⟩
theorem zEa {P : Program} {Q Q' : Exit → Act → List Frame → World → Prop} {a : Act} {cs : List Frame} {w : World} {c : Code} (h : c.wpS P Q a cs w) (hq : ∀ e a cs w, Q e a cs w → Q' e a cs w) : c.wpS P Q' a cs w :=
 fun b k hb hr => let ⟨e, a', cs', w', q, r⟩ := h b k hb hr; ⟨e, a', cs', w', hq _ _ _ _ q, r⟩
inductive ModeR (ρ : Rho) : Mode → FrameMode → Prop
 | ret : ModeR ρ .ret .returning
 | pan {v : AV} {v' : Value} {r : Bool} : VR ρ v v' → ModeR ρ (.pan v r) (.panicking [{ v := v', recovered := r }])
theorem ModeR.mono {ρ ρ' : Rho} (h : ρ.le ρ') {m : Mode} {u : FrameMode} (k : ModeR ρ m u) : ModeR ρ' m u := by
 cases k with
 | ret => exact .ret
 | pan v => exact .pan (v.mono h)
section
variable {P : Program} {tab : Nat → Option AFunc}
def QD (ρ0 : Rho) (h0 : AH) (w0 : World) (m : List Nat) (n : Nat) (c0 : Frame) (cs : List Frame) : DR → Exit → Act → List Frame → World → Prop
 | .norm md loc h, .normal, a, cs', w => ∃ ρ u', cs' = { c0 with mode := u' } :: cs ∧ ModeR ρ md u' ∧ LocR ρ m loc a ∧ a.defers = [] ∧ WR ρ h w ∧ Step ρ0 h0 w0 ρ h w ∧ a.tmps.size = n
 | .exit id md loc h, .exit id', a, cs', w => id = id' ∧ ∃ ρ u', cs' = { c0 with mode := u' } :: cs ∧ ModeR ρ md u' ∧ LocR ρ m loc a ∧ a.defers = [] ∧ WR ρ h w ∧ Step ρ0 h0 w0 ρ h w ∧ a.tmps.size = n
 | .ret md h, .ret, a, cs', w => ∃ ρ u', cs' = { c0 with mode := u' } :: cs ∧ ModeR ρ md u' ∧ a.defers = [] ∧ WR ρ h w ∧ Step ρ0 h0 w0 ρ h w ∧ a.tmps.size = n
 | _, _, _, _, _ => False
def DR.good : DR → Prop
 | .fail _ => False
 | _ => True
theorem QD.trans {ρ0 ρ : Rho} {h0 h : AH} {w0 w : World} {m : List Nat} {n : Nat} {c0 : Frame} {cs : List Frame} {r : DR} {e : Exit} {a' : Act} {cs' : List Frame} {w' : World} (S : Step ρ0 h0 w0 ρ h w) (p : QD ρ h w m n c0 cs r e a' cs' w') : QD ρ0 h0 w0 m n c0 cs r e a' cs' w' := by
 cases r <;> cases e <;> first | exact p.elim | skip
 ·obtain ⟨ρ', u', q1, q2, q3, q4, q5, q6, q7⟩ := p; exact ⟨ρ', u', q1, q2, q3, q4, q5, S.trans q6, q7⟩
 ·obtain ⟨hid, ρ', u', q1, q2, q3, q4, q5, q6, q7⟩ := p; exact ⟨hid, ρ', u', q1, q2, q3, q4, q5, S.trans q6, q7⟩
 ·obtain ⟨ρ', u', q1, q2, q4, q5, q6, q7⟩ := p; exact ⟨ρ', u', q1, q2, q4, q5, S.trans q6, q7⟩
theorem plain_d {evc : ACode → T AV → List AV → AH → Res} {m : List Nat} {c : Code} {c' : ACode} {md : Mode} {loc : T AV} {h : AH} {r : DR} {ρ : Rho} {a : Act} {c0 : Frame} {cs : List Frame} {w : World} {u : FrameMode}
  (A : ∀ r, evc c' loc [] h = r → r.good → c.wp P (QRes ρ h w m a.tmps.size r) a w) (hr : zF1 evc c' md loc h = r) (hgood : r.good) (hmd : ModeR ρ md u) :
  c.wpS P (QD ρ h w m a.tmps.size c0 cs r) a ({ c0 with mode := u } :: cs) w := by
 have hr : (Res.rec (motive := fun _ => DR) (fun loc d h => List.rec (motive := fun _ => DR) (DR.norm md loc h) (fun _ _ _ => DR.fail [80]) d) (fun id loc d h => List.rec (motive := fun _ => DR) (DR.exit id md loc h) (fun _ _ _ => DR.fail [80]) d)
  (fun _ d h => List.rec (motive := fun _ => DR) (DR.ret md h) (fun _ _ _ => DR.fail [80]) d) (fun _ _ _ _ => DR.fail [81]) DR.fail (evc c' loc [] h) : DR) = r := hr
 have dn : ∀ {ρ' : Rho} {ds : List Deferred}, DefsR ρ' [] ds → ds = [] := fun hd => by cases hd; rfl
 cases h1 : evc c' loc [] h with
 | fail l => rw [h1] at hr; have hr : DR.fail l = r := hr; rw [← hr] at hgood; exact hgood.elim
 | pan v l d h2 => rw [h1] at hr; have hr : DR.fail [81] = r := hr; rw [← hr] at hgood; exact hgood.elim
 | norm l d h2 =>
  rw [h1] at hr
  cases d with
  | cons _ _ => have hr : DR.fail [80] = r := hr; rw [← hr] at hgood; exact hgood.elim
  | nil =>
   have hr : DR.norm md l h2 = r := hr
   subst hr
   refine wpS_of_wp (wp_mono (A _ h1 trivial) fun e a' w' q => ?_)
   cases e <;> try exact q.elim
   obtain ⟨ρ', q1, q2, q3, q4, q5⟩ := q
   exact ⟨ρ', u, rfl, hmd.mono q4.le, q1, dn q2, q3, q4, q5⟩
 | exit id l d h2 =>
  rw [h1] at hr
  cases d with
  | cons _ _ => have hr : DR.fail [80] = r := hr; rw [← hr] at hgood; exact hgood.elim
  | nil =>
   have hr : DR.exit id md l h2 = r := hr
   subst hr
   refine wpS_of_wp (wp_mono (A _ h1 trivial) fun e a' w' q => ?_)
   cases e <;> try exact q.elim
   obtain ⟨hid, ρ', q1, q2, q3, q4, q5⟩ := q
   exact ⟨hid, ρ', u, rfl, hmd.mono q4.le, q1, dn q2, q3, q4, q5⟩
 | ret l d h2 =>
  rw [h1] at hr
  cases d with
  | cons _ _ => have hr : DR.fail [80] = r := hr; rw [← hr] at hgood; exact hgood.elim
  | nil =>
   have hr : DR.ret md h2 = r := hr
   subst hr
   refine wpS_of_wp (wp_mono (A _ h1 trivial) fun e a' w' q => ?_)
   cases e <;> try exact q.elim
   obtain ⟨ρ', q1, q2, q3, q4, q5⟩ := q
   exact ⟨ρ', u, rfl, hmd.mono q4.le, dn q2, q3, q4, q5⟩
theorem zE5 {ops : Array Oper} {Q : Exit → Act → List Frame → World → Prop} {i : Nat} {rest : List Nat} {o : Oper} {a : Act} {cs : List Frame} {w : World} (ho : ops[i]? = some o) (hg : o.guard = none) (hr : (execOp a.eval o).run P w = .ok .recover w)
  (h : match recoverD cs with | some (v, cs') => wpOpsS P ops Q rest (a.put o.dst v) cs' w | none => wpOpsS P ops Q rest (a.put o.dst .nilIface) cs w) : wpOpsS P ops Q (i :: rest) a cs w := by
 unfold wpOpsS
 rw [ho]
 simp only [Region.wanted, hg, if_true, hr]
 exact h
theorem wpOpsS_value {ops : Array Oper} {Q : Exit → Act → List Frame → World → Prop} {i : Nat} {rest : List Nat} {o : Oper} {a : Act} {cs : List Frame} {w : World} {v : Value} (ho : ops[i]? = some o) (hg : o.guard = none) (hr : (execOp a.eval o).run P w = .ok (.value v) w)
  (h : wpOpsS P ops Q rest (a.put o.dst v) cs w) : wpOpsS P ops Q (i :: rest) a cs w := by
 unfold wpOpsS
 rw [ho]
 simp only [Region.wanted, hg, if_true, hr]
 exact h
theorem recov_ok {m : List Nat} {ops : Array Oper} {id : Nat} {x y : Nat} (hs : zF9 ops.toList = some (x, y)) (hx : zA0 m x = none) {N : Nat} (hdst : ∀ o ∈ ops, ∀ x, o.dst = some x → x < N) {md : Mode} {loc : T AV} {h : AH} {ρ : Rho} {a : Act} {w : World} {u : FrameMode} {c0 : Frame} {cs : List Frame}
  (L : LocR ρ m loc a) (W : WR ρ h w) (hd : a.defers = []) (hN : a.tmps.size = N) (hmd : ModeR ρ md u) :
  (Code.region id ops false).wpS P (QD ρ h w m N c0 cs (Mode.rec (motive := fun _ => DR) (DR.norm Mode.ret (zAo (zA0 m y) AV.nili loc) h) (fun v r => bi r (DR.norm (Mode.pan v r) (zAo (zA0 m y) AV.nili loc) h) (DR.norm (Mode.pan v true) (zAo (zA0 m y) v loc) h)) md)) a ({ c0 with mode := u } :: cs) w := by
 unfold zF9 at hs
 split at hs
 ·rename_i x1 args1 ats1 ty1 ps1 af1 y1 c1 ty2 ps2 af2 hops
  split at hs
  ·rename_i hcond
   injection hs with hs; injection hs with hs1 hs2
   subst hs1; subst hs2
   obtain ⟨rfl, hargs⟩ := hcond
   obtain ⟨l⟩ := ops
   have hops : l = _ := hops
   subst hops
   have b1 : x1 < a.tmps.size := by rw [hN]; exact hdst _ (List.mem_toArray.2 (List.mem_cons_self ..)) _ rfl
   have b2 : y1 < a.tmps.size := by rw [hN]; exact hdst _ (List.mem_toArray.2 (List.mem_cons_of_mem _ (List.mem_cons_self ..))) _ rfl
   refine wpS_region ?_
   have hput : ∀ (v : AV) (v' : Value) (md2 : Mode) (u2 : FrameMode), VR ρ v v' → ModeR ρ md2 u2 → QD ρ h w m N c0 cs (DR.norm md2 (zAo (zA0 m y1) v loc) h) .normal ((a.put (some x1) v').put (some y1) ((a.put (some x1) v').eval (.tmp x1))) ({ c0 with mode := u2 } :: cs) w := by
    intro v v' md2 u2 hv hm2
    have he : (a.put (some x1) v').eval (.tmp x1) = v' := by
     show (a.put (some x1) v').tmps.getD x1 undef = v'
     rw [zFk (fun x e => by injection e with e; subst e; exact b1), if_pos rfl]
    rw [he]
    have hsz : (a.put (some x1) v').tmps.size = a.tmps.size := zGq
    refine ⟨ρ, u2, rfl, hm2, ?_, by simp [Act.put, hd], W, .refl _ _ _, by rw [zGq, hsz]; exact hN⟩
    have L1 : LocR ρ m loc (a.put (some x1) v') := by
     have := LocR.put (d := some x1) (m := m) (loc := loc) (fun x e => by injection e with e; subst e; exact b1) hv L
     have e0 : ((some x1 : Option Nat).bind (zA0 m)) = none := hx
     rw [e0] at this
     exact this
    exact LocR.put (d := some y1) (fun x e => by injection e with e; subst e; rw [hsz]; exact b2) hv L1
   have hr1 : ∀ {o : Oper} {a : Act}, o = { dst := some x1, op := Op.call { callee := Callee.builtin Builtin.recover, args := args1, argTypes := ats1 }, type := ty1, pos := ps1, after := af1, guard := none } → (execOp a.eval o).run P w = .ok .recover w := by
    intro o a e; subst e; simp [execOp, resolve, invoke, builtin]
   have fin : ∀ (v : AV) (v' : Value) (md2 : Mode) (u2 : FrameMode), VR ρ v v' → ModeR ρ md2 u2 → wpOpsS P _ (QD ρ h w m N c0 cs (DR.norm md2 (zAo (zA0 m y1) v loc) h)) [1] (a.put (some x1) v') ({ c0 with mode := u2 } :: cs) w :=
    fun v v' md2 u2 hv hm2 => wpOpsS_value (ops := ⟨[{ dst := some x1, op := Op.call { callee := Callee.builtin Builtin.recover, args := args1, argTypes := ats1 }, type := ty1, pos := ps1, after := af1, guard := none }, { dst := some y1, op := Op.assign (Operand.tmp x1), type := ty2, pos := ps2, after := af2, guard := none }]⟩) (i := 1) rfl rfl rfl (hput v v' md2 u2 hv hm2)
   cases hmd with
   | ret => exact zE5 (i := 0) (rest := [1]) rfl rfl (hr1 rfl) (fin .nili .nilIface .ret .returning .nili .ret)
   | pan hv =>
    rename_i v v' r
    cases r with
    | true => exact zE5 (i := 0) (rest := [1]) rfl rfl (hr1 rfl) (fin .nili .nilIface (.pan v true) _ .nili (.pan hv))
    | false => exact zE5 (i := 0) (rest := [1]) rfl rfl (hr1 rfl) (fin v v' (.pan v true) _ hv (.pan hv))
  ·cases hs
 ·cases hs
theorem evD_ok {n : Nat} (A : zJ8 P tab n) : ∀ (c : Code) (c' : ACode) (m : List Nat) (N : Nat), cCode P m c = some c' → dstOk N c = true → ∀ (md : Mode) (loc : T AV) (h : AH) (r : DR), evD (evC tab n) c' md loc h = r → r.good →
  ∀ (ρ : Rho) (a : Act) (w : World) (u : FrameMode) (c0 : Frame) (cs : List Frame), LocR ρ m loc a → WR ρ h w → a.defers = [] → N ≤ a.tmps.size → ModeR ρ md u → c.wpS P (QD ρ h w m a.tmps.size c0 cs r) a ({ c0 with mode := u } :: cs) w := by
 intro c
 have plain : ∀ (c : Code) (c' : ACode) (m : List Nat) (N : Nat), cCode P m c = some c' → dstOk N c = true → ∀ (md : Mode) (loc : T AV) (h : AH) (r : DR), zF1 (evC tab n) c' md loc h = r → r.good →
  ∀ (ρ : Rho) (a : Act) (w : World) (u : FrameMode) (c0 : Frame) (cs : List Frame), LocR ρ m loc a → WR ρ h w → a.defers = [] → N ≤ a.tmps.size → ModeR ρ md u → c.wpS P (QD ρ h w m a.tmps.size c0 cs r) a ({ c0 with mode := u } :: cs) w := by
  intro c c' m N hc hd md loc h r hr hgood ρ a w u c0 cs L W hdf hN hmd
  exact plain_d (fun r1 h1 g1 => A m N c c' hc hd loc [] h r1 h1 g1 ρ a w L W (by rw [hdf]; exact .nil) hN) hr hgood hmd
 induction c with
 | skip => intro c' m N hc hd md loc h r hr; injection hc with hc; subst hc; exact plain _ _ m N rfl hd md loc h r hr
 | ret => intro c' m N hc hd md loc h r hr; injection hc with hc; subst hc; exact plain _ _ m N rfl hd md loc h r hr
 | exit id => intro c' m N hc hd md loc h r hr; injection hc with hc; subst hc; exact plain _ _ m N rfl hd md loc h r hr
 | loop x ih =>
  intro c' m N hc hd md loc h r hr
  obtain ⟨x', hx, hc'⟩ := bindS hc
  injection hc' with hc'; subst hc'
  exact plain _ _ m N hc hd md loc h r hr
 | region id ops draw =>
  intro c' m N hc hd md loc h r hr hgood ρ a w u c0 cs L W hdf hN hmd
  have hcx : (match zId P m ops draw with | some c => some c | none => some stuckC) = some c' := hc
  cases hcr : zId P m ops draw with
  | none =>
   rw [hcr] at hcx
   injection hcx with hcx; subst hcx
   exact plain _ _ m N hc hd md loc h r hr hgood ρ a w u c0 cs L W hdf hN hmd
  | some c1 =>
  rw [hcr] at hcx
  injection hcx with hcx; subst hcx
  cases draw with
  | true =>
   have hc0 : (do let ord ← order ops (ancs ops) ops.size []; if drawOk ops (ancs ops) ord then (do some (ACode.ops (← cDraw P m ops (ancs ops) ord [] []))) else none) = some c1 := hcr
   obtain ⟨ord, hord, hc1⟩ := bindS hc0
   split at hc1
   ·obtain ⟨aos, haos, hc1⟩ := bindS hc1
    injection hc1 with hc1; subst hc1
    exact plain _ _ m N hc hd md loc h r hr hgood ρ a w u c0 cs L W hdf hN hmd
   ·cases hc1
  | false =>
   have hc0 : (if (ops.toList.any fun o => zHr o.op) then (do let r ← zF9 ops.toList; if (zA0 m r.1).isSome then none else some (ACode.recov (zA0 m r.2))) else (do some (ACode.ops (← zKy P m ops ops.toList [])))) = some c1 := hcr
   split at hc0
   ·obtain ⟨⟨x, y⟩, hs, hc1⟩ := bindS hc0
    split at hc1
    ·cases hc1
    ·rename_i hx
     injection hc1 with hc1; subst hc1
     have hx : zA0 m x = none := by
      cases hh : zA0 m x with
      | none => rfl
      | some k => rw [hh] at hx; exact absurd rfl hx
     have hdst : ∀ o ∈ ops, ∀ x, o.dst = some x → x < a.tmps.size := by
      intro o ho x hx
      have hd : (ops.all fun o => match o.dst with | some d => decide (d < N) | none => true) = true := hd
      have := Array.all_eq_true_iff_forall_mem.1 hd o ho
      rw [hx] at this
      exact Nat.lt_of_lt_of_le (of_decide_eq_true this) hN
     have := recov_ok (P := P) (id := id) (c0 := c0) (cs := cs) hs hx hdst L W hdf rfl hmd
     have hr : (Mode.rec (motive := fun _ => DR) (DR.norm Mode.ret (zAo (zA0 m y) AV.nili loc) h) (fun v r => bi r (DR.norm (Mode.pan v r) (zAo (zA0 m y) AV.nili loc) h) (DR.norm (Mode.pan v true) (zAo (zA0 m y) v loc) h)) md) = r := hr
     rw [hr] at this
     exact this
   ·obtain ⟨aos, haos, hc1⟩ := bindS hc0
    injection hc1 with hc1; subst hc1
    exact plain _ _ m N hc hd md loc h r hr hgood ρ a w u c0 cs L W hdf hN hmd
 | seq x y ihx ihy =>
  intro c' m N hc hd md loc h r hr hgood ρ a w u c0 cs L W hdf hN hmd
  obtain ⟨x', hx, hc⟩ := bindS hc
  obtain ⟨y', hy, hc⟩ := bindS hc
  injection hc with hc; subst hc
  have hd : (dstOk N x && dstOk N y) = true := hd
  rw [Bool.and_eq_true] at hd
  have hr : (DR.rec (motive := fun _ => DR) (fun m loc h => evD (evC tab n) y' m loc h) DR.exit DR.ret DR.fail (evD (evC tab n) x' md loc h) : DR) = r := hr
  refine wpS_seq ?_
  cases h1 : evD (evC tab n) x' md loc h with
  | fail l => rw [h1] at hr; have hr : DR.fail l = r := hr; rw [← hr] at hgood; exact hgood.elim
  | norm md1 l1 h2 =>
   rw [h1] at hr
   refine zEa (ihx x' m N hx hd.1 md loc h _ h1 trivial ρ a w u c0 cs L W hdf hN hmd) fun e a' cs' w' q => ?_
   cases e <;> try exact q.elim
   obtain ⟨ρ', u', rfl, q2, q3, q4, q5, q6, q7⟩ := q
   have := ihy y' m N hy hd.2 md1 l1 h2 r hr hgood ρ' a' w' u' c0 cs q3 q5 q4 (by omega) q2
   rw [q7] at this
   exact zEa this fun e a2 cs2 w2 q => q.trans q6
  | exit id md1 l1 h2 =>
   rw [h1] at hr; have hr : DR.exit id md1 l1 h2 = r := hr
   refine zEa (ihx x' m N hx hd.1 md loc h _ h1 trivial ρ a w u c0 cs L W hdf hN hmd) fun e a' cs' w' q => ?_
   rw [← hr]
   cases e <;> first | exact q.elim | exact q
  | ret md1 h2 =>
   rw [h1] at hr; have hr : DR.ret md1 h2 = r := hr
   refine zEa (ihx x' m N hx hd.1 md loc h _ h1 trivial ρ a w u c0 cs L W hdf hN hmd) fun e a' cs' w' q => ?_
   rw [← hr]
   cases e <;> first | exact q.elim | exact q
 | cond cc x y ihx ihy =>
  intro c' m N hc hd md loc h r hr hgood ρ a w u c0 cs L W hdf hN hmd
  obtain ⟨o, ho, hc⟩ := bindS hc
  obtain ⟨x', hx, hc⟩ := bindS hc
  obtain ⟨y', hy, hc⟩ := bindS hc
  injection hc with hc; subst hc
  have hd : (dstOk N x && dstOk N y) = true := hd
  rw [Bool.and_eq_true] at hd
  have hv := zLg (ρ := ρ) (tmp := []) (ts := []) L tmp_nil _ _ ho
  have hr : AV.on (DR.fail [82]) (fun q => bi q (evD (evC tab n) x' md loc h) (evD (evC tab n) y' md loc h)) (fun _ _ => DR.fail [82]) (fun _ _ => DR.fail [82]) (fun _ _ => DR.fail [82]) (DR.fail [82]) (fun _ _ _ _ => DR.fail [82]) (DR.fail [82]) (fun _ => DR.fail [82]) (DR.fail [82]) (fun _ _ _ => DR.fail [82]) (DR.fail [82]) (fun _ _ => DR.fail [82]) (DR.fail [82]) (fun _ => DR.fail [82]) (fun _ => DR.fail [82]) (ev loc [] o) = r := hr
  generalize ev loc [] o = av at hv hr
  cases av <;> try (have hr : DR.fail [82] = r := hr; rw [← hr] at hgood; exact hgood.elim)
  rename_i b
  generalize hae : a.eval cc = vv at hv
  cases hv
  refine wpS_cond hae ?_
  cases b with
  | true => exact ihx x' m N hx hd.1 md loc h r hr hgood ρ a w u c0 cs L W hdf hN hmd
  | false => exact ihy y' m N hy hd.2 md loc h r hr hgood ρ a w u c0 cs L W hdf hN hmd
 | block id x ih =>
  intro c' m N hc hd md loc h r hr hgood ρ a w u c0 cs L W hdf hN hmd
  obtain ⟨x', hx, hc⟩ := bindS hc
  injection hc with hc; subst hc
  have hr : (DR.rec (motive := fun _ => DR) DR.norm (fun id' m loc h => bi (Nat.beq id id') (DR.norm m loc h) (DR.exit id' m loc h)) DR.ret DR.fail (evD (evC tab n) x' md loc h) : DR) = r := hr
  refine wpS_block ?_
  cases h1 : evD (evC tab n) x' md loc h with
  | fail l => rw [h1] at hr; have hr : DR.fail l = r := hr; rw [← hr] at hgood; exact hgood.elim
  | norm md1 l1 h2 =>
   rw [h1] at hr; have hr : DR.norm md1 l1 h2 = r := hr; subst hr
   refine zEa (ih x' m N hx hd md loc h _ h1 trivial ρ a w u c0 cs L W hdf hN hmd) fun e a' cs' w' q => ?_
   cases e <;> first | exact q.elim | exact q
  | ret md1 h2 =>
   rw [h1] at hr; have hr : DR.ret md1 h2 = r := hr; subst hr
   refine zEa (ih x' m N hx hd md loc h _ h1 trivial ρ a w u c0 cs L W hdf hN hmd) fun e a' cs' w' q => ?_
   cases e <;> first | exact q.elim | exact q
  | exit id' md1 l1 h2 =>
   rw [h1] at hr
   have hr : bi (Nat.beq id id') (DR.norm md1 l1 h2) (DR.exit id' md1 l1 h2) = r := hr
   refine zEa (ih x' m N hx hd md loc h _ h1 trivial ρ a w u c0 cs L W hdf hN hmd) fun e a' cs' w' q => ?_
   cases e <;> try exact q.elim
   rename_i id2
   obtain ⟨e1, p⟩ := q
   subst e1
   show if id' = id then _ else _
   rw [bi_eq] at hr
   by_cases hid : id' = id
   ·subst hid
    rw [if_pos (Nat.beq_refl _)] at hr
    rw [if_pos rfl, ← hr]; exact p
   ·have : Nat.beq id id' = false := by
     cases hb : Nat.beq id id' with
     | false => rfl
     | true => exact absurd (Nat.eq_of_beq_eq_true hb).symm hid
    rw [this] at hr
    have hr : DR.exit id' md1 l1 h2 = r := hr
    rw [if_neg hid, ← hr]; exact ⟨rfl, p⟩
 | _ => intro c' m N hc hd md loc h r hr; have hc1 := hc; injection hc1 with hc1; subst hc1; exact plain _ _ m N hc hd md loc h r hr
end
end Go.Ev
namespace Go.Ev
open Go
variable [Glob]
theorem zJz : ∀ (l acc : List Nat), ∃ s, dedup acc l = acc.reverse ++ s
 | [], acc => ⟨[], by simp [dedup]⟩
 | x :: l, acc => by
  unfold dedup
  split
  ·exact zJz l acc
  ·obtain ⟨s, hs⟩ := zJz l (x :: acc)
   exact ⟨x :: s, by rw [hs]; simp⟩
theorem dedup_get (l : List Nat) {n k : Nat} (h : k < n) : (dedup (List.range n).reverse l)[k]? = some k := by
 obtain ⟨s, hs⟩ := zJz l (List.range n).reverse
 rw [hs, List.reverse_reverse, List.getElem?_append_left (by simpa using h)]
 simp [h]
theorem slots_get {fn : Func} {c : Code} {k : Nat} (h : k < fn.params.size + fn.nfree) : (slots fn c)[k]? = some k := dedup_get _ h
section
variable {P : Program} {tab : Nat → Option AFunc}
theorem zKz {f : Nat} {af : AFunc} (h : cFunc P f = some af) : ∃ fn c, P.funcs[f]? = some fn ∧ fn.body = some c ∧ dstOk fn.ntmps c = true ∧ zBn P f = true ∧ af.nargs = fn.params.size + fn.nfree ∧ cCode P (slots fn c) c = some af.body ∧ fn.results.toList.mapM (cRes P (slots fn c)) = some af.res := by
 obtain ⟨fn, hfn, h⟩ := bindS h
 obtain ⟨c, hc, h⟩ := bindS h
 have h : (if fn.name = "runtime.NumGoroutine" ∨ dstOk fn.ntmps c = false then none else (do some { nargs := fn.params.size + fn.nfree, body := ← cCode P (slots fn c) c, res := ← fn.results.toList.mapM (cRes P (slots fn c)) })) = some af := h
 split at h
 ·cases h
 ·rename_i hcond
  obtain ⟨b, hb, h⟩ := bindS h
  obtain ⟨rs, hrs, h⟩ := bindS h
  injection h with h; subst h
  have h1 : fn.name ≠ "runtime.NumGoroutine" := fun e => hcond (.inl e)
  have h2 : dstOk fn.ntmps c = true := by
   cases hd : dstOk fn.ntmps c with
   | true => rfl
   | false => exact absurd (.inr hd) hcond
  refine ⟨fn, c, hfn, hc, h2, ?_, rfl, hb, hrs⟩
  unfold zBn
  rw [hfn]
  simp [h1, hc]
def zGi (fn : Func) (args' : List Value) : Act := { tmps := args'.toArray ++ Array.replicate (fn.ntmps - args'.toArray.size) undef, defers := [] }
theorem zEs (fn : Func) (args' : List Value) : fn.ntmps ≤ (zGi fn args').tmps.size := by
 simp [zGi]; omega
theorem zKm {ρ : Rho} {fn : Func} {c : Code} {args : List AV} {args' : List Value} (hlen : args.length = fn.params.size + fn.nfree) (ha : VRs ρ args args') : LocR ρ (slots fn c) (zAg args) (zGi fn args') := by
 intro t k hk
 have hm := zGk hk
 have hl := ha.length
 unfold slot zAg
 rw [zAk]
 rcases Nat.lt_or_ge k args.length with h | h
 ·rw [slots_get (by omega)] at hm
  injection hm with hm; subst hm
  have : args[k]? = some args[k] := List.getElem?_eq_getElem h
  obtain ⟨v, hv, hr⟩ := ha.get this
  rw [this]
  show VR ρ args[k] _
  have hk' : k < args'.length := by omega
  have : (zGi fn args').tmps.getD k undef = v := by
   have h2 : (zGi fn args').tmps[k]? = some v := by
    simp only [zGi]
    rw [Array.getElem?_append_left (by simpa using hk')]
    simpa using hv
   rw [Array.getD_eq_getD_getElem?, h2]; rfl
  rw [this]; exact hr
 ·rw [List.getElem?_eq_none h]; exact .bad _
theorem load_res {ρ : Rho} {h : AH} {w : World} (W : WR ρ h w) {id off : Nat} {c : T AV} {s : Nat} {o : Option Nat} {r : Bool} {t : TypeId} {v : Value} (hg : h.mem.get id = some (.cells c s o r)) (hv : VR ρ (.ptr id off) v) :
  ∃ addr, v = .pointer (some addr) ∧ (∀ a, tyAgg P t = some false → c.get off = some a → ∃ u, (loadVar t addr).run P w = .ok u w ∧ VR ρ a u) ∧
   ∀ n l, tyAgg P t = some true → zA2 P t = some n → loadL c n off = some l → ∃ u, (loadVar t addr).run P w = .ok u w ∧ VR ρ (.agg l) u := by
 cases hv with
 | ptr hr hp =>
  subst hp
  obtain ⟨y, hy, hyr⟩ := W.obj hg hr
  refine ⟨_, rfl, fun a ht ha => ?_, fun n l ht hn hl => ?_⟩
  ·cases hyr with
   | cells a1 a2 a3 a4 a5 =>
    obtain ⟨_, _, u, hu, hur⟩ := a3 _ _ ha
    refine ⟨u, ?_, hur⟩
    simp only [loadVar, Sem.run_bind, zDu ht, Result.andThen_ok, Bool.false_eq_true, if_false, run_load, zHc hy hu]
  ·obtain ⟨l', hrun, hl'⟩ := zFa (P := P) hy hyr hl
   refine ⟨_, ?_, .agg hl' rfl⟩
   simp only [loadVar, Sem.run_bind, zDu ht, Result.andThen_ok, if_true, zAw hn, hrun]
   rfl
theorem zIf {ρ : Rho} {m : List Nat} {loc : T AV} {a : Act} {h : AH} {w : World} (L : LocR ρ m loc a) (W : WR ρ h w) (g : ResultVar → Sem Value) (hg1 : ∀ t, (g (.tmp t)).run P w = .ok (a.tmps.getD t undef) w)
  (hg2 : ∀ x t addr u, a.tmps.getD x undef = .pointer (some addr) → (loadVar t addr).run P w = .ok u w → (g (.cell x t)).run P w = .ok u w) : ∀ (l : List ResultVar) (rs : List ARes) (vs : List AV), l.mapM (cRes P m) = some rs → results rs loc h = some vs → ∃ us : List Value, (l.mapM g).run P w = .ok us w ∧ VRs ρ vs us
 | [], rs, vs, hc, hr => by
  simp at hc; subst hc
  injection hr with hr; subst hr
  exact ⟨[], by simp, .nil⟩
 | x :: l, rs, vs, hc, hr => by
  rw [List.mapM_cons] at hc
  obtain ⟨r1, h1, hc⟩ := bindS hc
  obtain ⟨rs', h2, hc⟩ := bindS hc
  injection hc with hc; subst hc
  have hr : obind (results rs' loc h) none (fun l => ARes.rec (motive := fun _ => Option (List AV)) (fun x => some (ev loc [] x :: l))
   (fun x => AV.on none (fun _ => none) (fun _ _ => none) (fun _ _ => none) (fun id off => obind (AH.get h id) none fun o => AObj.rec (motive := fun _ => Option (List AV)) (fun c _ _ _ => obind (T.get c off) none fun v => some (v :: l)) (fun _ _ => none) (fun _ _ _ _ => none) o) none (fun _ _ _ _ => none) none (fun _ => none) none (fun _ _ _ => none) none (fun _ _ => none) none (fun _ => none) (fun _ => none) (ev loc [] x))
   (fun n x => AV.on none (fun _ => none) (fun _ _ => none) (fun _ _ => none) (fun id off => obind (AH.get h id) none fun o => AObj.rec (motive := fun _ => Option (List AV)) (fun c _ _ _ => obind (loadL c n off) none fun v => some (AV.agg v :: l)) (fun _ _ => none) (fun _ _ _ _ => none) o) none (fun _ _ _ _ => none) none (fun _ => none) none (fun _ _ _ => none) none (fun _ _ => none) none (fun _ => none) (fun _ => none) (ev loc [] x)) r1) = some vs := hr
  cases hrr : results rs' loc h with
  | none => rw [hrr] at hr; cases hr
  | some vs' =>
   rw [hrr] at hr
   obtain ⟨us, hus, hvs⟩ := zIf L W g hg1 hg2 l rs' vs' h2 hrr
   have O := zLg (ρ := ρ) (tmp := []) (ts := []) L tmp_nil
   have fin : ∀ {v : AV} {u : Value}, (g x).run P w = .ok u w → VR ρ v u → some (v :: vs') = some vs → ∃ us : List Value, ((x :: l).mapM g).run P w = .ok us w ∧ VRs ρ vs us := by
    intro v u hrun hv e
    injection e with e; subst e
    refine ⟨u :: us, ?_, .cons hv hvs⟩
    rw [List.mapM_cons]
    simp only [Sem.run_bind, hrun, Result.andThen_ok, hus, Sem.run_pure]
   cases x with
   | tmp t =>
    obtain ⟨y, hy, e⟩ := mapS h1
    subst e
    exact fin (hg1 t) (O _ _ hy) hr
   | cell x t =>
    obtain ⟨y, hy, h1⟩ := bindS h1
    obtain ⟨ga, hga, h1⟩ := bindS h1
    have hv : VR ρ (ev loc [] y) (a.tmps.getD x undef) := O _ _ hy
    cases ga with
    | true =>
     obtain ⟨n, hn, h1⟩ := bindS h1
     injection h1 with h1; subst h1
     generalize hev : ev loc [] y = av at hv
     have hr : AV.on none (fun _ => none) (fun _ _ => none) (fun _ _ => none) (fun id off => obind (AH.get h id) none fun o => AObj.rec (motive := fun _ => Option (List AV)) (fun c _ _ _ => obind (loadL c n off) none fun v => some (AV.agg v :: vs')) (fun _ _ => none) (fun _ _ _ _ => none) o) none (fun _ _ _ _ => none) none (fun _ => none) none (fun _ _ _ => none) none (fun _ _ => none) none (fun _ => none) (fun _ => none) (ev loc [] y) = some vs := hr
     rw [hev] at hr
     cases av <;> try (cases hr; done)
     rename_i id off
     have hr : obind (AH.get h id) none (fun o => AObj.rec (motive := fun _ => Option (List AV)) (fun c _ _ _ => obind (loadL c n off) none fun v => some (AV.agg v :: vs')) (fun _ _ => none) (fun _ _ _ _ => none) o) = some vs := hr
     rw [AH.get_eq] at hr
     cases hgt : h.mem.get id with
     | none => rw [hgt] at hr; cases hr
     | some ob =>
      rw [hgt] at hr
      cases ob <;> try (cases hr; done)
      rename_i c s o r
      have hr : obind (loadL c n off) none (fun v => some (AV.agg v :: vs')) = some vs := hr
      cases hl : loadL c n off with
      | none => rw [hl] at hr; cases hr
      | some ll =>
       rw [hl] at hr
       obtain ⟨addr, e1, _, e3⟩ := load_res (P := P) (t := t) W hgt hv
       obtain ⟨u, hrun, hvu⟩ := e3 n ll hga hn hl
       exact fin (hg2 x t addr u e1 hrun) hvu hr
    | false =>
     injection h1 with h1; subst h1
     generalize hev : ev loc [] y = av at hv
     have hr : AV.on none (fun _ => none) (fun _ _ => none) (fun _ _ => none) (fun id off => obind (AH.get h id) none fun o => AObj.rec (motive := fun _ => Option (List AV)) (fun c _ _ _ => obind (T.get c off) none fun v => some (v :: vs')) (fun _ _ => none) (fun _ _ _ _ => none) o) none (fun _ _ _ _ => none) none (fun _ => none) none (fun _ _ _ => none) none (fun _ _ => none) none (fun _ => none) (fun _ => none) (ev loc [] y) = some vs := hr
     rw [hev] at hr
     cases av <;> try (cases hr; done)
     rename_i id off
     have hr : obind (AH.get h id) none (fun o => AObj.rec (motive := fun _ => Option (List AV)) (fun c _ _ _ => obind (T.get c off) none fun v => some (v :: vs')) (fun _ _ => none) (fun _ _ _ _ => none) o) = some vs := hr
     rw [AH.get_eq] at hr
     cases hgt : h.mem.get id with
     | none => rw [hgt] at hr; cases hr
     | some ob =>
      rw [hgt] at hr
      cases ob <;> try (cases hr; done)
      rename_i c s o r
      have hr : obind (T.get c off) none (fun v => some (v :: vs')) = some vs := hr
      cases hl : T.get c off with
      | none => rw [hl] at hr; cases hr
      | some ll =>
       rw [hl] at hr
       obtain ⟨addr, e1, e2, _⟩ := load_res (P := P) (t := t) W hgt hv
       obtain ⟨u, hrun, hvu⟩ := e2 ll hga hl
       exact fin (hg2 x t addr u e1 hrun) hvu hr
theorem results_ok {ρ : Rho} {m : List Nat} {loc : T AV} {a : Act} {h : AH} {w : World} {fn : Func} {rs : List ARes} {vs : List AV} (L : LocR ρ m loc a) (W : WR ρ h w) (hc : fn.results.toList.mapM (cRes P m) = some rs) (hr : results rs loc h = some vs) :
  ∃ u, (Go.results fn a.tmps).run P w = .ok u w ∧ VR ρ (one vs) u := by
 let g : ResultVar → Sem Value := fun
  | .tmp t => pure (a.tmps.getD t undef)
  | .cell x t => do loadVar t (← asAddr (a.tmps.getD x undef))
 obtain ⟨us, hus, hvs⟩ := zIf (P := P) L W g (fun t => rfl) (fun x t addr u e1 hrun => by
  show (do loadVar t (← asAddr (a.tmps.getD x undef)) : Sem Value).run P w = _
  rw [e1]
  simp only [asAddr, Sem.run_bind, Sem.run_pure, Result.andThen_ok, hrun]) _ _ _ hc hr
 have hm : (fn.results.mapM g).run P w = .ok us.toArray w := by
  rw [Array.mapM_eq_mapM_toList]
  simp only [Sem.run_map, hus]
  rfl
 refine ⟨if h : us.toArray.size = 1 then us.toArray[0] else .tuple us.toArray, ?_, ?_⟩
 ·show (do let vs ← fn.results.mapM g; pure (if h : vs.size = 1 then vs[0] else .tuple vs) : Sem Value).run P w = _
  simp only [Sem.run_bind, hm, Result.andThen_ok, Sem.run_pure]
 ·cases hvs with
  | nil => exact .tup .nil rfl
  | cons h1 h2 =>
   cases h2 with
   | nil => exact h1
   | cons h3 h4 =>
    rw [dif_neg (by simp)]
    exact .tup (.cons h1 (.cons h3 h4)) rfl
def RC (ρ0 : Rho) (h0 : AH) (w0 : World) : CR → Ending → World → Prop
 | .ret v h', e, w' => ∃ ρ' v', e = .returned v' ∧ VR ρ' v v' ∧ WR ρ' h' w' ∧ Step ρ0 h0 w0 ρ' h' w'
 | .pan v h', e, w' => ∃ ρ' v', e = .panicked [{ v := v', recovered := false }] ∧ VR ρ' v v' ∧ WR ρ' h' w' ∧ Step ρ0 h0 w0 ρ' h' w'
 | .fail _, _, _ => False
def CR.good : CR → Prop
 | .fail _ => False
 | _ => True
inductive Going : Mode → Prop
 | ret : Going .ret
 | pan (v : AV) : Going (.pan v false)
def zC6 : Nat → Nat → List Opd
 | 0, _ => []
 | n + 1, i => .l i :: zC6 n (i + 1)
def natF (n : Nat) (g : List AV → AH → Option (AV × AH)) : AFunc := .mk n (.ops [⟨.nat g (zC6 n 0), none, some 0, []⟩]) [.val (.l 0)]
noncomputable def knownF (n : Nat) (rows : List (List AV × AV)) : AFunc := natF n (rowsG rows)
def NatOK (P : Program) (f : Nat) (g : List AV → AH → Option (AV × AH)) : Prop := zBn P f = true ∧ ∀ (args : List AV) (h : AH) (v : AV) (h' : AH), g args h = some (v, h') →
 ∀ (ρ : Rho) (w : World) (args' : List Value), VRs ρ args args' → WR ρ h w → Calls P f args'.toArray w (RC ρ h w (.ret v h'))
def SaysV (P : Program) (f : Nat) (args : List AV) (v : AV) : Prop := ∀ (w : World) (ρ : Rho) (args' : List Value), VRs ρ args args' →
 Calls P f args'.toArray w fun e w' => ∃ v', e = .returned v' ∧ VR ρ v v' ∧ w.heap.size ≤ w'.heap.size ∧ (∀ k, k < w.heap.size → w'.heap[k]? = w.heap[k]?) ∧ w'.os = w.os ∧ w'.tape = w.tape ∧ w'.output = w.output
def Known (P : Program) (f : Nat) (rows : List (List AV × AV)) : Prop := zBn P f = true ∧ ∀ r ∈ rows, SaysV P f r.1 r.2
def TabOK (P : Program) (tab : Nat → Option AFunc) : Prop := ∀ f af, tab f = some af → cFunc P f = some af ∨ ∃ n g, af = natF n g ∧ NatOK P f g
theorem zJu : ∀ (n i : Nat) (args : List AV), i + n ≤ args.length → evs (zAc args) [] (zC6 n i) = (args.drop i).take n
 | 0, i, args, _ => by simp [zC6]; rfl
 | n + 1, i, args, h => by
  show ev (zAc args) [] (.l i) :: evs (zAc args) [] (zC6 n (i + 1)) = _
  rw [zJu n (i + 1) args (by omega)]
  have hi : i < args.length := by omega
  have : ev (zAc args) [] (.l i) = args[i] := by
   show obind (T.get (zAc args) i) AV.bad (fun v => v) = _
   rw [zAk, List.getElem?_eq_getElem hi]; rfl
  rw [this, List.drop_eq_getElem_cons (i := i) hi, List.take_succ_cons]
theorem zGl {args : List AV} {v : AV} : ∀ {rows : List (List AV × AV)}, zHb args rows = some v → ∃ r ∈ rows, r.1 = args ∧ r.2 = v
 | [], h => by cases h
 | r :: rows, h => by
  have h : bi (same (.tup r.1) (.tup args)) (some r.2) (zHb args rows) = some v := h
  rw [bi_eq] at h
  split at h
  ·rename_i hs
   injection h with h
   exact ⟨r, by simp, zGr hs, h⟩
  ·obtain ⟨r', h1, h2⟩ := zGl h
   exact ⟨r', by simp [h1], h2⟩
theorem zEi {n : Nat} (htab : TabOK P tab) (A : zJ8 P tab n) {fn : Func} {m : List Nat} {rs : List ARes} {loc : T AV} {a : Act} {ρ0 : Rho} {h0 : AH} {w0 : World} (hrs : fn.results.toList.mapM (cRes P m) = some rs) :
  ∀ (ds : List AV) (md : Mode) (h : AH) (r : CR), runD tab (evC tab n) (zA3 rs loc) ds md h = r → r.good → Going md → ∀ (ρ : Rho) (w : World) (u : FrameMode) (ds' : List Deferred), DefsR ρ ds ds' → LocR ρ m loc a → WR ρ h w → Step ρ0 h0 w0 ρ h w → ModeR ρ md u →
  Leaves P fn a.tmps (RC ρ0 h0 w0 r) ds' u w
 | [], md, h, r, hr, hgood, hgo, ρ, w, u, ds', hds, L, W, S, hmd => by
  cases hds
  have hr : (Mode.rec (motive := fun _ => CR) (obind (results rs loc h) (CR.fail [86]) fun l => CR.ret (one l) h) (fun v _ => CR.pan v h) md) = r := hr
  cases hmd with
  | ret =>
   have hr : obind (results rs loc h) (CR.fail [86]) (fun l => CR.ret (one l) h) = r := hr
   cases hres : results rs loc h with
   | none => rw [hres] at hr; have hr : CR.fail [86] = r := hr; rw [← hr] at hgood; exact hgood.elim
   | some vs =>
    rw [hres] at hr; have hr : CR.ret (one vs) h = r := hr
    subst hr
    obtain ⟨v, hrun, hv⟩ := results_ok L W hrs hres
    exact ⟨v, hrun, ρ, v, rfl, hv, W, S⟩
  | pan hv =>
   have hr : CR.pan _ h = r := hr
   subst hr
   cases hgo
   exact ⟨ρ, _, rfl, hv, W, S⟩
 | d :: ds, md, h, r, hr, hgood, hgo, ρ, w, u, ds', hds, L, W, S, hmd => by
  cases hds with
  | cons hd hds =>
   rename_i dd ds'
   obtain ⟨f, first, caps, first', caps', rfl, rfl, hf1, hf2⟩ := hd
   have hr : obind (tab f) (CR.fail [84]) (fun fn => AFunc.rec (motive := fun _ => CR) (fun n1 body rs1 => bi (Nat.beq n1 (llen (lapp first caps)))
    (List.rec (motive := fun _ => CR) (DR.rec (motive := fun _ => CR)
     (fun m _ h => Mode.rec (motive := fun _ => CR) (runD tab (evC tab n) (zA3 rs loc) ds Mode.ret h) (fun v r => bi r (runD tab (evC tab n) (zA3 rs loc) ds Mode.ret h) (runD tab (evC tab n) (zA3 rs loc) ds (Mode.pan v r) h)) m) (fun _ _ _ _ => CR.fail [85])
     (fun m h => Mode.rec (motive := fun _ => CR) (runD tab (evC tab n) (zA3 rs loc) ds Mode.ret h) (fun v r => bi r (runD tab (evC tab n) (zA3 rs loc) ds Mode.ret h) (runD tab (evC tab n) (zA3 rs loc) ds (Mode.pan v r) h)) m) CR.fail (evD (evC tab n) body md (zAg (lapp first caps)) h)) (fun _ _ _ => CR.fail [93]) rs1) (CR.fail [92])) fn) = r := hr
   cases ht : tab f with
   | none => rw [ht] at hr; have hr : CR.fail [84] = r := hr; rw [← hr] at hgood; exact hgood.elim
   | some af =>
    rw [ht] at hr
    rcases htab f af ht with hcf | ⟨k0, rows, rfl, _⟩
    rotate_left
    ·have hr : bi (Nat.beq k0 (llen (lapp first caps))) (CR.fail [93]) (CR.fail [92]) = r := hr
     rw [bi_eq] at hr
     split at hr <;> (rw [← hr] at hgood; exact hgood.elim)
    obtain ⟨fn1, c, hfn, hbody, hdst, hcb, hna, hcode, hres1⟩ := zKz hcf
    obtain ⟨n1, body, rs1⟩ := af
    have hr : bi (Nat.beq n1 (llen (lapp first caps)))
     (List.rec (motive := fun _ => CR) (DR.rec (motive := fun _ => CR)
      (fun m _ h => Mode.rec (motive := fun _ => CR) (runD tab (evC tab n) (zA3 rs loc) ds Mode.ret h) (fun v r => bi r (runD tab (evC tab n) (zA3 rs loc) ds Mode.ret h) (runD tab (evC tab n) (zA3 rs loc) ds (Mode.pan v r) h)) m) (fun _ _ _ _ => CR.fail [85])
      (fun m h => Mode.rec (motive := fun _ => CR) (runD tab (evC tab n) (zA3 rs loc) ds Mode.ret h) (fun v r => bi r (runD tab (evC tab n) (zA3 rs loc) ds Mode.ret h) (runD tab (evC tab n) (zA3 rs loc) ds (Mode.pan v r) h)) m) CR.fail (evD (evC tab n) body md (zAg (lapp first caps)) h)) (fun _ _ _ => CR.fail [93]) rs1) (CR.fail [92]) = r := hr
    rw [bi_eq] at hr
    split at hr
    ·rename_i hlen
     cases rs1 with
     | cons _ _ => have hr : CR.fail [93] = r := hr; rw [← hr] at hgood; exact hgood.elim
     | nil =>
      have hlen := Nat.eq_of_beq_eq_true hlen
      rw [zBt, zDn] at hlen
      have hna : n1 = fn1.params.size + fn1.nfree := hna
      have hra : VRs ρ (first ++ caps) (first' ++ caps') := hf1.append hf2
      have L1 := zKm (fn := fn1) (c := c) (by omega) hra
      have hnil : fn1.results.toList = [] := by
       cases hl : fn1.results.toList with
       | nil => rfl
       | cons x l =>
        have hres1 : fn1.results.toList.mapM (cRes P (slots fn1 c)) = some [] := hres1
        rw [hl, List.mapM_cons] at hres1
        obtain ⟨_, _, h3⟩ := bindS hres1
        obtain ⟨_, _, h3⟩ := bindS h3
        cases h3
      have hnil2 : fn1.results = #[] := by apply Array.ext'; simpa using hnil
      have hrun0 : ∀ tm w1, (Go.results fn1 tm).run P w1 = .ok (.tuple #[]) w1 := fun tm w1 => by simp [Go.results, hnil2]
      have hr : (DR.rec (motive := fun _ => CR)
       (fun m _ h => Mode.rec (motive := fun _ => CR) (runD tab (evC tab n) (zA3 rs loc) ds Mode.ret h) (fun v r => bi r (runD tab (evC tab n) (zA3 rs loc) ds Mode.ret h) (runD tab (evC tab n) (zA3 rs loc) ds (Mode.pan v r) h)) m) (fun _ _ _ _ => CR.fail [85])
       (fun m h => Mode.rec (motive := fun _ => CR) (runD tab (evC tab n) (zA3 rs loc) ds Mode.ret h) (fun v r => bi r (runD tab (evC tab n) (zA3 rs loc) ds Mode.ret h) (runD tab (evC tab n) (zA3 rs loc) ds (Mode.pan v r) h)) m) CR.fail (evD (evC tab n) body md (zAg (lapp first caps)) h)) = r := hr
      have hu : u ≠ .run := by cases hmd <;> simp
      have hinv : ∀ w, (invoke (.fn (.func f) caps'.toArray) first'.toArray).run P w = .ok (.enter f (first' ++ caps').toArray) w := by
       intro w
       simp only [invoke, zF8 hcb]
       congr 2
       apply Array.ext'
       simp
      refine leaves_cons hu (hinv w) ?_
      rw [zDn] at hr
      have go : ∀ (md1 : Mode) (h1 : AH) (ρ1 : Rho) (u1 : FrameMode) (w1 : World), (Mode.rec (motive := fun _ => CR) (runD tab (evC tab n) (zA3 rs loc) ds Mode.ret h1) (fun v r => bi r (runD tab (evC tab n) (zA3 rs loc) ds Mode.ret h1) (runD tab (evC tab n) (zA3 rs loc) ds (Mode.pan v r) h1)) md1) = r →
        ModeR ρ1 md1 u1 → WR ρ1 h1 w1 → Step ρ h w ρ1 h1 w1 → Leaves P fn a.tmps (RC ρ0 h0 w0 r) ds' (settle u1) w1 := by
       intro md1 h1 ρ1 u1 w1 hr1 hm1 W1 S1
       cases hm1 with
       | ret => exact zEi htab A hrs ds .ret h1 r hr1 hgood .ret ρ1 w1 _ ds' (hds.mono S1.le) (L.mono S1.le) W1 (S.trans S1) .ret
       | pan hv =>
        rename_i v v' rc
        cases rc with
        | true => exact zEi htab A hrs ds .ret h1 r hr1 hgood .ret ρ1 w1 _ ds' (hds.mono S1.le) (L.mono S1.le) W1 (S.trans S1) .ret
        | false => exact zEi htab A hrs ds (.pan v false) h1 r hr1 hgood (.pan v) ρ1 w1 _ ds' (hds.mono S1.le) (L.mono S1.le) W1 (S.trans S1) (.pan hv)
      refine callsD_of_wpS hfn hbody fun c0 cs hc0 => ?_
      have hc0' : c0 = { c0 with mode := u } := by subst hc0; rfl
      have D := evD_ok A c body (slots fn1 c) fn1.ntmps hcode hdst md (zAg (first ++ caps)) h _ rfl
      cases hev : evD (evC tab n) body md (zAg (first ++ caps)) h with
      | fail l => rw [hev] at hr; have hr : CR.fail l = r := hr; rw [← hr] at hgood; exact hgood.elim
      | exit id md1 l1 h1 => rw [hev] at hr; have hr : CR.fail [85] = r := hr; rw [← hr] at hgood; exact hgood.elim
      | norm md1 l1 h1 =>
       rw [hev] at hr D
       have D := D trivial ρ (zGi fn1 (first' ++ caps')) w u c0 cs L1 W rfl (zEs _ _) hmd
       rw [← hc0'] at D
       refine zEa D fun e a' cs' w' q => ?_
       cases e <;> try exact q.elim
       obtain ⟨ρ1, u1, q1, q2, q3, q4, q5, q6, q7⟩ := q
       exact ⟨q4, u1, q1, _, hrun0 _ _, go md1 h1 ρ1 u1 w' hr q2 q5 q6⟩
      | ret md1 h1 =>
       rw [hev] at hr D
       have D := D trivial ρ (zGi fn1 (first' ++ caps')) w u c0 cs L1 W rfl (zEs _ _) hmd
       rw [← hc0'] at D
       refine zEa D fun e a' cs' w' q => ?_
       cases e <;> try exact q.elim
       obtain ⟨ρ1, u1, q1, q2, q4, q5, q6, q7⟩ := q
       exact ⟨q4, u1, q1, _, hrun0 _ _, go md1 h1 ρ1 u1 w' hr q2 q5 q6⟩
    ·have hr : CR.fail [92] = r := hr; rw [← hr] at hgood; exact hgood.elim
end
end Go.Ev
namespace Go.Ev
open Go
section
variable [Glob]
section
variable {P : Program} {tab : Nat → Option AFunc}
theorem zI3 {n : Nat} (htab : TabOK P tab) (A : zJ8 P tab n) {f : Nat} {args : List AV} {h : AH} {r : CR} (hr : zCt tab (evC tab n) f args h = r) (hgood : r.good) :
  zBn P f = true ∧ ∀ {ρ : Rho} {w : World} {args' : List Value}, VRs ρ args args' → WR ρ h w → Calls P f args'.toArray w (RC ρ h w r) := by
 have hr : obind (tab f) (CR.fail [87, f]) (fun fn => AFunc.rec (motive := fun _ => CR) (fun n1 body rs => bi (Nat.beq n1 (llen args))
  (Res.rec (motive := fun _ => CR) (fun loc d h => runD tab (evC tab n) (zA3 rs loc) d Mode.ret h) (fun _ _ _ _ => CR.fail [88]) (fun loc d h => runD tab (evC tab n) (zA3 rs loc) d Mode.ret h)
   (fun v loc d h => runD tab (evC tab n) (zA3 rs loc) d (Mode.pan v false) h) (fun l => CR.fail (f :: l)) (evC tab n body (zAg args) [] h)) (CR.fail [92])) fn) = r := hr
 cases ht : tab f with
 | none => rw [ht] at hr; have hr : CR.fail [87, f] = r := hr; rw [← hr] at hgood; exact hgood.elim
 | some af =>
  rw [ht] at hr
  rcases htab f af ht with hcf | ⟨k0, g, rfl, hyes⟩
  rotate_left
  ·have hr : bi (Nat.beq k0 (llen args)) (Res.rec (motive := fun _ => CR) (fun loc d h => runD tab (evC tab n) (zA3 [.val (.l 0)] loc) d Mode.ret h) (fun _ _ _ _ => CR.fail [88]) (fun loc d h => runD tab (evC tab n) (zA3 [.val (.l 0)] loc) d Mode.ret h)
    (fun v loc d h => runD tab (evC tab n) (zA3 [.val (.l 0)] loc) d (Mode.pan v false) h) (fun l => CR.fail (f :: l)) (evC tab n (.ops [⟨.nat g (zC6 k0 0), none, some 0, []⟩]) (zAg args) [] h)) (CR.fail [92]) = r := hr
   rw [bi_eq] at hr
   split at hr
   ·rename_i hlen
    have hlen := Nat.eq_of_beq_eq_true hlen
    rw [zBt] at hlen
    cases n with
    | zero => have hr : CR.fail [f, 91] = r := hr; rw [← hr] at hgood; exact hgood.elim
    | succ n =>
     have hargs : evs (zAg args) [] (zC6 k0 0) = args := by
      show evs (zAc args) [] (zC6 k0 0) = args
      rw [zJu k0 0 args (by omega), hlen]; simp
     have hev : evOp (.nat g (zC6 k0 0)) (zAg args) [] h = obind (g args h) (F 67) fun r => Prod.rec (motive := fun _ => OR) (fun v h => OR.val v h) r := by
      show obind (g (evs (zAg args) [] (zC6 k0 0)) h) (F 67) (fun r => Prod.rec (motive := fun _ => OR) (fun v h => OR.val v h) r) = _
      rw [hargs]
     have hC : evC tab (n + 1) (.ops [⟨.nat g (zC6 k0 0), none, some 0, []⟩]) (zAg args) [] h = (OR.rec (motive := fun _ => Res) (fun v h => Res.norm (T.put (some v) (zAg args) 0) [] h)
       (opEnter (zCt tab (evC tab n)) [⟨.nat g (zC6 k0 0), none, some 0, []⟩] (zAg args) (evOps (zCt tab (evC tab n)) [⟨.nat g (zC6 k0 0), none, some 0, []⟩] (zAg args) []) (zAg args) [] [] h (some 0) [])
       (opPan [⟨.nat g (zC6 k0 0), none, some 0, []⟩] (zAg args) [] h) (opDfr (evOps (zCt tab (evC tab n)) [⟨.nat g (zC6 k0 0), none, some 0, []⟩] (zAg args) []) (zAg args) [] [] h (some 0)) opFail (evOp (.nat g (zC6 k0 0)) (zAg args) [] h) : Res) := rfl
     rw [hC, hev] at hr
     cases hf : g args h with
     | none => rw [hf] at hr; have hr : CR.fail [f, 67] = r := hr; rw [← hr] at hgood; exact hgood.elim
     | some x =>
      obtain ⟨v, h1⟩ := x
      rw [hf] at hr
      have hr : obind (some [ev (T.put (some v) (zAg args) 0) [] (.l 0)]) (CR.fail [86]) (fun l => CR.ret (one l) h1) = r := hr
      have hv : ev (T.put (some v) (zAg args) 0) [] (.l 0) = v := by
       show obind (T.get (T.put (some v) (zAg args) 0) 0) AV.bad (fun v => v) = v
       rw [T.get_put_self]; rfl
      rw [hv] at hr
      have hr : CR.ret v h1 = r := hr
      subst hr
      exact ⟨hyes.1, fun {ρ w args'} ha W => hyes.2 args h v h1 hf ρ w args' ha W⟩
   ·have hr : CR.fail [92] = r := hr; rw [← hr] at hgood; exact hgood.elim
  obtain ⟨fn, c, hfn, hbody, hdst, hcb, hna, hcode, hres⟩ := zKz hcf
  obtain ⟨n1, body, rs⟩ := af
  have hr : bi (Nat.beq n1 (llen args))
   (Res.rec (motive := fun _ => CR) (fun loc d h => runD tab (evC tab n) (zA3 rs loc) d Mode.ret h) (fun _ _ _ _ => CR.fail [88]) (fun loc d h => runD tab (evC tab n) (zA3 rs loc) d Mode.ret h)
    (fun v loc d h => runD tab (evC tab n) (zA3 rs loc) d (Mode.pan v false) h) (fun l => CR.fail (f :: l)) (evC tab n body (zAg args) [] h)) (CR.fail [92]) = r := hr
  rw [bi_eq] at hr
  split at hr
  ·rename_i hlen
   refine ⟨hcb, fun {ρ w args'} ha W => ?_⟩
   have hlen := Nat.eq_of_beq_eq_true hlen
   rw [zBt] at hlen
   have hna : n1 = fn.params.size + fn.nfree := hna
   have L1 := zKm (fn := fn) (c := c) (ρ := ρ) (args' := args') (by omega) ha
   refine calls_of_wp_defers hfn hbody ?_
   have X := A (slots fn c) fn.ntmps c body hcode hdst (zAg args) [] h _ rfl
   cases hev : evC tab n body (zAg args) [] h with
   | fail l => rw [hev] at hr; have hr : CR.fail (f :: l) = r := hr; rw [← hr] at hgood; exact hgood.elim
   | exit id l d h1 => rw [hev] at hr; have hr : CR.fail [88] = r := hr; rw [← hr] at hgood; exact hgood.elim
   | norm l d h1 =>
    rw [hev] at hr X
    refine wp_mono (X trivial ρ (zGi fn args') w L1 W .nil (zEs _ _)) fun e a' w' q => ?_
    cases e <;> try exact q.elim
    obtain ⟨ρ1, q1, q2, q3, q4, q5⟩ := q
    exact zEi htab A hres d .ret h1 r hr hgood .ret ρ1 w' _ a'.defers q2 q1 q3 q4 .ret
   | ret l d h1 =>
    rw [hev] at hr X
    refine wp_mono (X trivial ρ (zGi fn args') w L1 W .nil (zEs _ _)) fun e a' w' q => ?_
    cases e <;> try exact q.elim
    obtain ⟨ρ1, q1, q2, q3, q4, q5⟩ := q
    exact zEi htab A hres d .ret h1 r hr hgood .ret ρ1 w' _ a'.defers q2 q1 q3 q4 .ret
   | pan v l d h1 =>
    rw [hev] at hr X
    refine wp_mono (X trivial ρ (zGi fn args') w L1 W .nil (zEs _ _)) fun e a' w' q => ?_
    cases e <;> try exact q.elim
    obtain ⟨ρ1, v', rfl, qv, q1, q2, q3, q4, q5⟩ := q
    exact zEi htab A hres d (.pan v false) h1 r hr hgood (.pan v) ρ1 w' _ a'.defers q2 q1 q3 q4 (.pan qv)
  ·have hr : CR.fail [92] = r := hr; rw [← hr] at hgood; exact hgood.elim
theorem call_ok {n : Nat} (htab : TabOK P tab) (A : zJ8 P tab n) : zIp P (zCt tab (evC tab n)) := by
 refine ⟨fun {f args h} hne => ?_, fun {f args h ρ w args'} ha W => ?_⟩
 ·refine (zI3 htab A (f := f) (args := args) (h := h) rfl ?_).1
  cases hc : zCt tab (evC tab n) f args h with
  | fail l => exact absurd hc (hne l)
  | ret v h => trivial
  | pan v h => trivial
 ·cases hc : zCt tab (evC tab n) f args h with
  | fail l => trivial
  | ret v h' => exact (zI3 htab A hc trivial).2 ha W
  | pan v h' => exact (zI3 htab A hc trivial).2 ha W
theorem all_ok (hm : P.follows .mixedOrders = true) (htab : TabOK P tab) : ∀ n, zJ8 P tab n ∧ LoopOK P tab n
 | 0 => by
  refine ⟨?_, ?_⟩
  ·intro m N c c' hc hd loc d h r hr hgood
   have hr : Res.fail [91] = r := hr
   rw [← hr] at hgood; exact hgood.elim
  ·intro m N c c' hc hd loc d h r hr hgood
   have hr : Res.fail [91] = r := hr
   rw [← hr] at hgood; exact hgood.elim
 | n + 1 => by
  obtain ⟨A, B⟩ := all_ok hm htab n
  exact code_step hm (call_ok htab A) A B
theorem evF_ok (hm : P.follows .mixedOrders = true) (htab : TabOK P tab) {n f : Nat} {args : List AV} {h : AH} {r : CR} (hr : evF tab n f args h = r) (hgood : r.good)
  {ρ : Rho} {w : World} {args' : List Value} (ha : VRs ρ args args') (W : WR ρ h w) : Calls P f args'.toArray w (RC ρ h w r) :=
 (zI3 htab (all_ok hm htab n).1 hr hgood).2 ha W
end
end
section
variable {P : Program} {tab : Nat → Option AFunc}
noncomputable def pureV (v : AV) : Bool := AV.rec (motive_1 := fun _ => Bool) (motive_2 := fun _ => Bool) true (fun _ => true) (fun _ _ => true) (fun _ _ => true) (fun _ _ => false) true (fun _ _ _ _ => false) true (fun _ => false) true (fun _ a b ia ib => ia && ib) true (fun _ _ i => i) true (fun _ i => i) (fun _ i => i) true (fun _ _ i j => i && j) v
mutual
theorem VR.pure {ρ ρ' : Rho} : ∀ {a : AV} {v : Value}, pureV a = true → VR ρ a v → VR ρ' a v
 | _, _, _, .bad v => .bad v
 | _, _, _, .bool b => .bool b
 | _, _, _, .int k n => .int k n
 | _, _, _, .str s e1 e2 => .str s e1 e2
 | _, _, h, .ptr e p => by cases h
 | _, _, _, .nilp => .nilp
 | _, _, h, .sl e p c => by cases h
 | _, _, h, .slz => by cases h
 | _, _, h, .sle => by cases h
 | _, _, _, .nils => .nils
 | _, _, h, .mp e => by cases h
 | _, _, _, .nilm => .nilm
 | _, _, h, .fn a c x y => .fn (VRs.pure (Bool.and_eq_true _ _ ▸ (show (_ && _) = true from h)).1 a) (VRs.pure (Bool.and_eq_true _ _ ▸ (show (_ && _) = true from h)).2 c) x y
 | _, _, _, .nilf => .nilf
 | _, _, h, .ifc v => .ifc (VR.pure h v)
 | _, _, _, .nili => .nili
 | _, _, h, .agg l x => .agg (VCs.pure h l) x
 | _, _, h, .tup l x => .tup (VRs.pure h l) x
theorem VRs.pure {ρ ρ' : Rho} : ∀ {l : List AV} {l' : List Value}, pureV (.tup l) = true → VRs ρ l l' → VRs ρ' l l'
 | _, _, _, .nil => .nil
 | _, _, h, .cons a r => .cons (VR.pure (Bool.and_eq_true _ _ ▸ (show (_ && _) = true from h)).1 a) (VRs.pure (Bool.and_eq_true _ _ ▸ (show (_ && _) = true from h)).2 r)
theorem VCs.pure {ρ ρ' : Rho} : ∀ {l : List AV} {l' : List Value}, pureV (.tup l) = true → VCs ρ l l' → VCs ρ' l l'
 | _, _, _, .nil => .nil
 | _, _, h, .cons c a r => .cons c (VR.pure (Bool.and_eq_true _ _ ▸ (show (_ && _) = true from h)).1 a) (VCs.pure (Bool.and_eq_true _ _ ▸ (show (_ && _) = true from h)).2 r)
end
theorem WR.empty (w : World) : WR (fun _ => none) (AH.mk T.leaf 0) w := by
 refine ⟨⟨fun h _ => ?_, fun h _ _ _ _ => ?_, fun h => ?_, fun _ => T.get_leaf _⟩, fun k hk => absurd hk (Nat.not_lt_zero k)⟩
 ·rw [T.get_leaf] at h; cases h
 ·rw [T.get_leaf] at h; cases h
 ·cases h
theorem evF_bool (hm : P.follows .mixedOrders = true) (htab : TabOK P tab) {n f : Nat} {b : Bool} {h' : AH} (hr : evF tab n f [] (AH.mk T.leaf 0) = .ret (.bool b) h') (w : World) :
  Calls P f #[] w fun e w' => e = .returned (.bool b) ∧ w.heap.size ≤ w'.heap.size ∧ (∀ k, k < w.heap.size → w'.heap[k]? = w.heap[k]?) ∧ w'.os = w.os ∧ w'.tape = w.tape ∧ w'.output = w.output := by
 refine Calls.mono (evF_ok hm htab hr trivial (ρ := fun _ => none) (args' := []) .nil (WR.empty w)) fun e w' he => ?_
 obtain ⟨ρ', v', rfl, hv, W', S'⟩ := he
 cases hv
 refine ⟨rfl, S'.size, fun k hk => S'.frame hk ?_, S'.os, S'.tape, S'.output⟩
 rintro ⟨id, o, p, s, h1, _⟩
 rw [T.get_leaf] at h1; cases h1
end
end Go.Ev
#print axioms Go.Ev.evF_bool
namespace Go.Ev
open Go
inductive AllT {α : Type} (Q : Nat → α → Prop) : T α → (Nat → Nat) → Prop
 | leaf {g : Nat → Nat} : AllT Q .leaf g
 | node {v : Option α} {l r : T α} {g : Nat → Nat} : (∀ a, v = some a → Q (g 0) a) → AllT Q l (fun j => g (2 * j + 1)) → AllT Q r (fun j => g (2 * j + 2)) → AllT Q (.node v l r) g
theorem AllT.get {α : Type} {Q : Nat → α → Prop} {t : T α} {g : Nat → Nat} (h : AllT Q t g) : ∀ {k : Nat} {a : α}, t.get k = some a → Q (g k) a := by
 induction h with
 | leaf => intro k a e; rw [T.get_leaf] at e; cases e
 | node hv _ _ il ir =>
  intro k a e
  cases k with
  | zero => exact hv a e
  | succ k =>
   rw [T.get_succ] at e
   split at e
   ·rename_i hk
    have := il e
    have h2 : 2 * (k / 2) + 1 = k + 1 := by omega
    simp only [h2] at this
    exact this
   ·rename_i hk
    have := ir e
    have h2 : 2 * (k / 2) + 2 = k + 1 := by omega
    simp only [h2] at this
    exact this
theorem entE {P : Program} {k : Nat} {x : AFunc} (h : cFunc P k = some x) : ∀ a, some x = some a → cFunc P k = some a := fun a e => by rw [h, e]
theorem noE {P : Program} {k : Nat} : ∀ a : AFunc, (none : Option AFunc) = some a → cFunc P k = some a := fun a e => by cases e
noncomputable def isTrue (c : CR) : Bool := CR.rec (motive := fun _ => Bool) (fun v _ => AV.on false (fun b => b) (fun _ _ => false) (fun _ _ => false) (fun _ _ => false) false (fun _ _ _ _ => false) false (fun _ => false) false (fun _ _ _ => false) false (fun _ _ => false) false (fun _ => false) (fun _ => false) v) (fun _ _ => false) (fun _ => false) c
theorem isTrue_eq {c : CR} (h : isTrue c = true) : ∃ h', c = .ret (.bool true) h' := by
 cases c with
 | ret v h' =>
  cases v <;> try (cases h; done)
  rename_i b
  have h : b = true := h
  subst h
  exact ⟨h', rfl⟩
 | _ => cases h
theorem Known.app {P : Program} {f : Nat} {a b : List (List AV × AV)} (x : Known P f a) (y : Known P f b) : Known P f (a ++ b) :=
 ⟨x.1, fun r hr => by rcases List.mem_append.1 hr with h | h; exact x.2 r h; exact y.2 r h⟩
theorem Known.nat [Glob]  {P : Program} {f : Nat} {rows : List (List AV × AV)} (x : Known P f rows) : NatOK P f (rowsG rows) := by
 refine ⟨x.1, fun args h v h' hg ρ w args' ha W => ?_⟩
 have hg : obind (zHb args rows) Option.none (fun v => some (v, h)) = some (v, h') := hg
 cases hf : zHb args rows with
 | none => rw [hf] at hg; cases hg
 | some u =>
  rw [hf] at hg
  have hg : some (u, h) = some (v, h') := hg
  injection hg with hg; injection hg with g1 g2; subst g1; subst g2
  obtain ⟨rw', hm, h1, h2⟩ := zGl hf
  have hs := x.2 rw' hm
  rw [h1, h2] at hs
  refine Calls.mono (hs w ρ args' ha) fun e w' he => ?_
  obtain ⟨v', he, hvr, hs, hf, ho, hta, hout⟩ := he
  refine ⟨ρ, v', he, hvr, W.step ⟨⟨fun {id o b p s} h1 h2 => ?_, W.inj, fun {id x} h1 => ⟨(W.dom h1).1, Nat.lt_of_lt_of_le (W.dom h1).2 hs⟩, W.fresh⟩,
   ⟨ρ.le_refl, fun _ k => k, fun hk _ => hf _ hk, hs, ho, hta, hout, Nat.le_refl _, fun _ _ => rfl, fun a b => absurd a b⟩⟩⟩
  rw [hf b (W.dom h2).2]
  exact W.obj h1 h2
theorem RC.below [Glob]  {ρ : Rho} {h : AH} {w w' : World} {v : AV} {v' : Value} (W : WR ρ h w) (hv : VR ρ v v') (B : Go.RowKit.Below w.heap.size w w') : RC ρ h w (.ret v h) (.returned v') w' :=
 ⟨ρ, v', rfl, hv, W.step ⟨⟨fun {id o b p s} h1 h2 => by rw [B.block b (W.dom h2).2]; exact W.obj h1 h2, W.inj, fun {id x} h1 => ⟨(W.dom h1).1, Nat.lt_of_lt_of_le (W.dom h1).2 B.size⟩, W.fresh⟩,
  ⟨ρ.le_refl, fun _ k => k, fun hk _ => B.block _ hk, B.size, B.os, B.tape, B.output, Nat.le_refl _, fun _ _ => rfl, fun a b => absurd a b⟩⟩⟩
theorem TabOK.logN [Glob]  {P : Program} {t : T AFunc} (h : TabOK P (fun f => T.get t f)) {n k m : Nat} {g : List AV → AH → Option (AV × AH)} (hk : NatOK P k g) : TabOK P (fun f => T.get (T.log n k (some (natF m g)) t) f) := by
 intro f af e0
 have e : (T.log n k (some (natF m g)) t).get f = some af := e0
 clear e0
 rw [T.get_log] at e
 split at e
 ·rename_i hf
  injection e with e1
  subst hf
  exact .inr ⟨m, g, e1.symm, hk⟩
 ·exact h f af e
theorem TabOK.log [Glob] {P : Program} {t : T AFunc} (h : TabOK P (fun f => T.get t f)) {n k m : Nat} {rows : List (List AV × AV)} (hk : Known P k rows) : TabOK P (fun f => T.get (T.log n k (some (knownF m rows)) t) f) := h.logN hk.nat
end Go.Ev
namespace Go.Ev
open Go
def LeC (f g : ACode → T AV → List AV → AH → Res) : Prop := ∀ c loc d h, (f c loc d h).good → g c loc d h = f c loc d h
def LeK (f g : Nat → List AV → AH → CR) : Prop := ∀ k args h, (f k args h).good → g k args h = f k args h
theorem zFg {f g : Nat → List AV → AH → CR} (H : LeK f g) {whole : List AOper} {loc0 : T AV} : ∀ (l : List AOper) (loc : T AV) (tmp d : List AV) (h : AH), (evOps f whole loc0 l loc tmp d h).good → evOps g whole loc0 l loc tmp d h = evOps f whole loc0 l loc tmp d h
 | [], loc, tmp, d, h, hg => rfl
 | ⟨op, gd, out, re⟩ :: l, loc, tmp, d, h, hg => by
  have e : ∀ k : Nat → List AV → AH → CR, evOps k whole loc0 (⟨op, gd, out, re⟩ :: l) loc tmp d h = obind (zBh loc tmp gd) (Res.fail [70]) (fun q => bi q
   (OR.rec (motive := fun _ => Res)
    (fun v h => bi (reads loc tmp h re) (evOps k whole loc0 l (zAo out v loc) (v :: tmp) d h) (Res.fail [71]))
    (fun f args => CR.rec (motive := fun _ => Res) (fun v h => bi (reads loc tmp h re) (evOps k whole loc0 l (zAo out v loc) (v :: tmp) d h) (Res.fail [71])) (fun v h => Res.pan v (forget whole loc0) d h) (fun l => Res.fail l) (k f args h))
    (fun v => Res.pan v (forget whole loc0) d h)
    (fun v => evOps k whole loc0 l (zAo out (AV.tup []) loc) (AV.tup [] :: tmp) (v :: d) h)
    (fun n => Res.fail [n]) (evOp op loc tmp h)) (evOps k whole loc0 l (zAo out (AV.tup []) loc) (AV.tup [] :: tmp) d h)) := fun _ => rfl
  rw [e] at hg
  rw [e, e]
  cases hgd : zBh loc tmp gd with
  | none => rfl
  | some q =>
   rw [hgd] at hg
   cases q with
   | false => exact zFg H l _ _ _ _ hg
   | true =>
    have hg : (OR.rec (motive := fun _ => Res)
     (fun v h => bi (reads loc tmp h re) (evOps f whole loc0 l (zAo out v loc) (v :: tmp) d h) (Res.fail [71]))
     (fun fn args => CR.rec (motive := fun _ => Res) (fun v h => bi (reads loc tmp h re) (evOps f whole loc0 l (zAo out v loc) (v :: tmp) d h) (Res.fail [71])) (fun v h => Res.pan v (forget whole loc0) d h) (fun l => Res.fail l) (f fn args h))
     (fun v => Res.pan v (forget whole loc0) d h)
     (fun v => evOps f whole loc0 l (zAo out (AV.tup []) loc) (AV.tup [] :: tmp) (v :: d) h)
     (fun n => Res.fail [n]) (evOp op loc tmp h) : Res).good := hg
    show (OR.rec (motive := fun _ => Res)
     (fun v h => bi (reads loc tmp h re) (evOps g whole loc0 l (zAo out v loc) (v :: tmp) d h) (Res.fail [71]))
     (fun f args => CR.rec (motive := fun _ => Res) (fun v h => bi (reads loc tmp h re) (evOps g whole loc0 l (zAo out v loc) (v :: tmp) d h) (Res.fail [71])) (fun v h => Res.pan v (forget whole loc0) d h) (fun l => Res.fail l) (g f args h))
     (fun v => Res.pan v (forget whole loc0) d h)
     (fun v => evOps g whole loc0 l (zAo out (AV.tup []) loc) (AV.tup [] :: tmp) (v :: d) h)
     (fun n => Res.fail [n]) (evOp op loc tmp h) : Res) = (OR.rec (motive := fun _ => Res)
     (fun v h => bi (reads loc tmp h re) (evOps f whole loc0 l (zAo out v loc) (v :: tmp) d h) (Res.fail [71]))
     (fun fn args => CR.rec (motive := fun _ => Res) (fun v h => bi (reads loc tmp h re) (evOps f whole loc0 l (zAo out v loc) (v :: tmp) d h) (Res.fail [71])) (fun v h => Res.pan v (forget whole loc0) d h) (fun l => Res.fail l) (f fn args h))
     (fun v => Res.pan v (forget whole loc0) d h)
     (fun v => evOps f whole loc0 l (zAo out (AV.tup []) loc) (AV.tup [] :: tmp) (v :: d) h)
     (fun n => Res.fail [n]) (evOp op loc tmp h) : Res)
    cases ho : evOp op loc tmp h with
    | val v h' =>
     rw [ho] at hg
     have hg : (bi (reads loc tmp h' re) (evOps f whole loc0 l (zAo out v loc) (v :: tmp) d h') (Res.fail [71])).good := hg
     show bi (reads loc tmp h' re) (evOps g whole loc0 l (zAo out v loc) (v :: tmp) d h') (Res.fail [71]) = bi (reads loc tmp h' re) (evOps f whole loc0 l (zAo out v loc) (v :: tmp) d h') (Res.fail [71])
     cases hr : reads loc tmp h' re with
     | false => rfl
     | true => rw [hr] at hg; exact zFg H l _ _ _ _ hg
    | enter fn args =>
     rw [ho] at hg
     have hg : (CR.rec (motive := fun _ => Res) (fun v h => bi (reads loc tmp h re) (evOps f whole loc0 l (zAo out v loc) (v :: tmp) d h) (Res.fail [71])) (fun v h => Res.pan v (forget whole loc0) d h) (fun l => Res.fail l) (f fn args h) : Res).good := hg
     show (CR.rec (motive := fun _ => Res) (fun v h => bi (reads loc tmp h re) (evOps g whole loc0 l (zAo out v loc) (v :: tmp) d h) (Res.fail [71])) (fun v h => Res.pan v (forget whole loc0) d h) (fun l => Res.fail l) (g fn args h) : Res) =
      (CR.rec (motive := fun _ => Res) (fun v h => bi (reads loc tmp h re) (evOps f whole loc0 l (zAo out v loc) (v :: tmp) d h) (Res.fail [71])) (fun v h => Res.pan v (forget whole loc0) d h) (fun l => Res.fail l) (f fn args h) : Res)
     cases hc : f fn args h with
     | fail l => rw [hc] at hg; exact hg.elim
     | pan v h' => rw [H fn args h (by rw [hc]; trivial), hc]
     | ret v h' =>
      rw [H fn args h (by rw [hc]; trivial), hc]
      rw [hc] at hg
      have hg : (bi (reads loc tmp h' re) (evOps f whole loc0 l (zAo out v loc) (v :: tmp) d h') (Res.fail [71])).good := hg
      show bi (reads loc tmp h' re) (evOps g whole loc0 l (zAo out v loc) (v :: tmp) d h') (Res.fail [71]) = bi (reads loc tmp h' re) (evOps f whole loc0 l (zAo out v loc) (v :: tmp) d h') (Res.fail [71])
      cases hr : reads loc tmp h' re with
      | false => rfl
      | true => rw [hr] at hg; exact zFg H l _ _ _ _ hg
    | pan v => rfl
    | dfr v => rw [ho] at hg; exact zFg H l _ _ _ _ hg
    | fail n => rfl
theorem zEw {f g : ACode → T AV → List AV → AH → Res} (H : LeC f g) {c : ACode} {md : Mode} {loc : T AV} {h : AH} (hg : (zF1 f c md loc h).good) : zF1 g c md loc h = zF1 f c md loc h := by
 have : (f c loc [] h).good := by
  cases e : f c loc [] h with
  | fail l => unfold zF1 at hg; rw [e] at hg; exact hg.elim
  | _ => trivial
 unfold zF1
 rw [H c loc [] h this]
theorem zEg {f g : ACode → T AV → List AV → AH → Res} (H : LeC f g) : ∀ (c : ACode) (md : Mode) (loc : T AV) (h : AH), (evD f c md loc h).good → evD g c md loc h = evD f c md loc h
 | .skip, md, loc, h, hg => zEw H hg
 | .ops l, md, loc, h, hg => zEw H hg
 | .recov o, md, loc, h, hg => rfl
 | .loop a, md, loc, h, hg => zEw H hg
 | .exit id, md, loc, h, hg => zEw H hg
 | .ret, md, loc, h, hg => zEw H hg
 | .seq a b, md, loc, h, hg => by
  have e : ∀ k, evD k (.seq a b) md loc h = (DR.rec (motive := fun _ => DR) (fun m loc h => evD k b m loc h) DR.exit DR.ret DR.fail (evD k a md loc h) : DR) := fun _ => rfl
  rw [e] at hg
  rw [e, e]
  cases h1 : evD f a md loc h with
  | fail l => rw [h1] at hg; exact hg.elim
  | norm md1 l1 h2 => rw [zEg H a md loc h (by rw [h1]; trivial), h1]; rw [h1] at hg; exact zEg H b _ _ _ hg
  | exit id md1 l1 h2 => rw [zEg H a md loc h (by rw [h1]; trivial), h1]
  | ret md1 h2 => rw [zEg H a md loc h (by rw [h1]; trivial), h1]
 | .cond c a b, md, loc, h, hg => by
  have e : ∀ k, evD k (.cond c a b) md loc h = AV.on (DR.fail [82]) (fun q => bi q (evD k a md loc h) (evD k b md loc h)) (fun _ _ => DR.fail [82]) (fun _ _ => DR.fail [82]) (fun _ _ => DR.fail [82]) (DR.fail [82]) (fun _ _ _ _ => DR.fail [82]) (DR.fail [82]) (fun _ => DR.fail [82]) (DR.fail [82]) (fun _ _ _ => DR.fail [82]) (DR.fail [82]) (fun _ _ => DR.fail [82]) (DR.fail [82]) (fun _ => DR.fail [82]) (fun _ => DR.fail [82]) (ev loc [] c) := fun _ => rfl
  rw [e] at hg
  rw [e, e]
  cases hv : ev loc [] c <;> rw [hv] at hg <;> try rfl
  rename_i q
  cases q with
  | true => exact zEg H a _ _ _ hg
  | false => exact zEg H b _ _ _ hg
 | .block id a, md, loc, h, hg => by
  have e : ∀ k, evD k (.block id a) md loc h = (DR.rec (motive := fun _ => DR) DR.norm (fun id' m loc h => bi (Nat.beq id id') (DR.norm m loc h) (DR.exit id' m loc h)) DR.ret DR.fail (evD k a md loc h) : DR) := fun _ => rfl
  rw [e] at hg
  rw [e, e]
  cases h1 : evD f a md loc h with
  | fail l => rw [h1] at hg; exact hg.elim
  | _ => rw [zEg H a md loc h (by rw [h1]; trivial), h1]
section
variable {tab : Nat → Option AFunc}
theorem zFb {f g : ACode → T AV → List AV → AH → Res} (H : LeC f g) {fin : Mode → AH → CR} : ∀ (ds : List AV) (md : Mode) (h : AH), (runD tab f fin ds md h).good → runD tab g fin ds md h = runD tab f fin ds md h
 | [], md, h, hg => rfl
 | d :: ds, md, h, hg => by
  have go : ∀ (m : Mode) (h : AH), (Mode.rec (motive := fun _ => CR) (runD tab f fin ds Mode.ret h) (fun v r => bi r (runD tab f fin ds Mode.ret h) (runD tab f fin ds (Mode.pan v r) h)) m : CR).good →
    (Mode.rec (motive := fun _ => CR) (runD tab g fin ds Mode.ret h) (fun v r => bi r (runD tab g fin ds Mode.ret h) (runD tab g fin ds (Mode.pan v r) h)) m : CR) = (Mode.rec (motive := fun _ => CR) (runD tab f fin ds Mode.ret h) (fun v r => bi r (runD tab f fin ds Mode.ret h) (runD tab f fin ds (Mode.pan v r) h)) m : CR) := by
   intro m h hg
   cases m with
   | ret => exact zFb H ds _ _ hg
   | pan v r =>
    cases r with
    | true => exact zFb H ds _ _ hg
    | false => exact zFb H ds _ _ hg
  cases d <;> try (exact hg.elim)
  rename_i fn first caps
  have e : ∀ k, runD tab k fin (AV.fn fn first caps :: ds) md h = obind (tab fn) (CR.fail [84]) (fun fn => AFunc.rec (motive := fun _ => CR) (fun n body rs => bi (Nat.beq n (llen (lapp first caps)))
   (List.rec (motive := fun _ => CR) (DR.rec (motive := fun _ => CR) (fun m _ h => (Mode.rec (motive := fun _ => CR) (runD tab k fin ds Mode.ret h) (fun v r => bi r (runD tab k fin ds Mode.ret h) (runD tab k fin ds (Mode.pan v r) h)) m)) (fun _ _ _ _ => CR.fail [85])
    (fun m h => (Mode.rec (motive := fun _ => CR) (runD tab k fin ds Mode.ret h) (fun v r => bi r (runD tab k fin ds Mode.ret h) (runD tab k fin ds (Mode.pan v r) h)) m)) CR.fail (evD k body md (zAg (lapp first caps)) h)) (fun _ _ _ => CR.fail [93]) rs) (CR.fail [92])) fn) := fun _ => rfl
  rw [e] at hg
  rw [e, e]
  cases ht : tab fn with
  | none => rfl
  | some af =>
   rw [ht] at hg
   obtain ⟨n, body, rs⟩ := af
   have hg : (bi (Nat.beq n (llen (lapp first caps))) (List.rec (motive := fun _ => CR) (DR.rec (motive := fun _ => CR) (fun m _ h => (Mode.rec (motive := fun _ => CR) (runD tab f fin ds Mode.ret h) (fun v r => bi r (runD tab f fin ds Mode.ret h) (runD tab f fin ds (Mode.pan v r) h)) m)) (fun _ _ _ _ => CR.fail [85])
    (fun m h => (Mode.rec (motive := fun _ => CR) (runD tab f fin ds Mode.ret h) (fun v r => bi r (runD tab f fin ds Mode.ret h) (runD tab f fin ds (Mode.pan v r) h)) m)) CR.fail (evD f body md (zAg (lapp first caps)) h)) (fun _ _ _ => CR.fail [93]) rs) (CR.fail [92])).good := hg
   show bi (Nat.beq n (llen (lapp first caps))) (List.rec (motive := fun _ => CR) (DR.rec (motive := fun _ => CR) (fun m _ h => (Mode.rec (motive := fun _ => CR) (runD tab g fin ds Mode.ret h) (fun v r => bi r (runD tab g fin ds Mode.ret h) (runD tab g fin ds (Mode.pan v r) h)) m)) (fun _ _ _ _ => CR.fail [85])
    (fun m h => (Mode.rec (motive := fun _ => CR) (runD tab g fin ds Mode.ret h) (fun v r => bi r (runD tab g fin ds Mode.ret h) (runD tab g fin ds (Mode.pan v r) h)) m)) CR.fail (evD g body md (zAg (lapp first caps)) h)) (fun _ _ _ => CR.fail [93]) rs) (CR.fail [92]) =
    bi (Nat.beq n (llen (lapp first caps))) (List.rec (motive := fun _ => CR) (DR.rec (motive := fun _ => CR) (fun m _ h => (Mode.rec (motive := fun _ => CR) (runD tab f fin ds Mode.ret h) (fun v r => bi r (runD tab f fin ds Mode.ret h) (runD tab f fin ds (Mode.pan v r) h)) m)) (fun _ _ _ _ => CR.fail [85])
    (fun m h => (Mode.rec (motive := fun _ => CR) (runD tab f fin ds Mode.ret h) (fun v r => bi r (runD tab f fin ds Mode.ret h) (runD tab f fin ds (Mode.pan v r) h)) m)) CR.fail (evD f body md (zAg (lapp first caps)) h)) (fun _ _ _ => CR.fail [93]) rs) (CR.fail [92])
   cases hb : Nat.beq n (llen (lapp first caps)) with
   | false => rfl
   | true =>
    rw [hb] at hg
    cases rs with
    | cons _ _ => rfl
    | nil =>
     cases hev : evD f body md (zAg (lapp first caps)) h with
     | fail l => rw [hev] at hg; exact hg.elim
     | exit id md1 l1 h1 => rw [hev] at hg; exact hg.elim
     | norm md1 l1 h1 =>
      rw [zEg H body md _ h (by rw [hev]; trivial), hev]
      rw [hev] at hg
      exact go _ _ hg
     | ret md1 h1 =>
      rw [zEg H body md _ h (by rw [hev]; trivial), hev]
      rw [hev] at hg
      exact go _ _ hg
theorem zJw {f g : ACode → T AV → List AV → AH → Res} (H : LeC f g) : LeK (zCt tab f) (zCt tab g) := by
 intro fn args h hg
 have e : ∀ k, zCt tab k fn args h = obind (tab fn) (CR.fail [87, fn]) (fun af => AFunc.rec (motive := fun _ => CR) (fun n1 body rs => bi (Nat.beq n1 (llen args))
  (Res.rec (motive := fun _ => CR) (fun loc d h => runD tab k (zA3 rs loc) d Mode.ret h) (fun _ _ _ _ => CR.fail [88]) (fun loc d h => runD tab k (zA3 rs loc) d Mode.ret h)
   (fun v loc d h => runD tab k (zA3 rs loc) d (Mode.pan v false) h) (fun l => CR.fail (fn :: l)) (k body (zAg args) [] h)) (CR.fail [92])) af) := fun _ => rfl
 rw [e] at hg
 rw [e, e]
 cases ht : tab fn with
 | none => rfl
 | some af =>
  rw [ht] at hg
  obtain ⟨n, body, rs⟩ := af
  have hg : (bi (Nat.beq n (llen args)) (Res.rec (motive := fun _ => CR) (fun loc d h => runD tab f (zA3 rs loc) d Mode.ret h) (fun _ _ _ _ => CR.fail [88]) (fun loc d h => runD tab f (zA3 rs loc) d Mode.ret h)
   (fun v loc d h => runD tab f (zA3 rs loc) d (Mode.pan v false) h) (fun l => CR.fail (fn :: l)) (f body (zAg args) [] h)) (CR.fail [92])).good := hg
  show bi (Nat.beq n (llen args)) (Res.rec (motive := fun _ => CR) (fun loc d h => runD tab g (zA3 rs loc) d Mode.ret h) (fun _ _ _ _ => CR.fail [88]) (fun loc d h => runD tab g (zA3 rs loc) d Mode.ret h)
   (fun v loc d h => runD tab g (zA3 rs loc) d (Mode.pan v false) h) (fun l => CR.fail (fn :: l)) (g body (zAg args) [] h)) (CR.fail [92]) = bi (Nat.beq n (llen args)) (Res.rec (motive := fun _ => CR) (fun loc d h => runD tab f (zA3 rs loc) d Mode.ret h) (fun _ _ _ _ => CR.fail [88]) (fun loc d h => runD tab f (zA3 rs loc) d Mode.ret h)
   (fun v loc d h => runD tab f (zA3 rs loc) d (Mode.pan v false) h) (fun l => CR.fail (fn :: l)) (f body (zAg args) [] h)) (CR.fail [92])
  cases hb : Nat.beq n (llen args) with
  | false => rfl
  | true =>
   rw [hb] at hg
   cases hev : f body (zAg args) [] h with
   | fail l => rw [hev] at hg; exact hg.elim
   | exit id l d h1 => rw [hev] at hg; exact hg.elim
   | norm l d h1 => rw [H body _ _ h (by rw [hev]; trivial), hev]; rw [hev] at hg; exact zFb H _ _ _ hg
   | ret l d h1 => rw [H body _ _ h (by rw [hev]; trivial), hev]; rw [hev] at hg; exact zFb H _ _ _ hg
   | pan v l d h1 => rw [H body _ _ h (by rw [hev]; trivial), hev]; rw [hev] at hg; exact zFb H _ _ _ hg
theorem stepC_mono {f g : ACode → T AV → List AV → AH → Res} (H : LeC f g) : LeC (stepC tab f) (stepC tab g) := by
 intro c loc d h hg
 cases c with
 | skip => rfl
 | ops l => exact zFg (zJw H) l loc [] d h hg
 | recov o => rfl
 | exit id => rfl
 | ret => rfl
 | seq a b =>
  have e : ∀ k, stepC tab k (.seq a b) loc d h = (Res.rec (motive := fun _ => Res) (fun loc d h => k b loc d h) Res.exit Res.ret Res.pan Res.fail (k a loc d h) : Res) := fun _ => rfl
  rw [e] at hg
  rw [e, e]
  cases h1 : f a loc d h with
  | fail l => rw [h1] at hg; exact hg.elim
  | norm l1 d1 h2 => rw [H a loc d h (by rw [h1]; trivial), h1]; rw [h1] at hg; exact H b _ _ _ hg
  | _ => rw [H a loc d h (by rw [h1]; trivial), h1]
 | cond c a b =>
  have e : ∀ k, stepC tab k (.cond c a b) loc d h = AV.on (Res.fail [90]) (fun q => bi q (k a loc d h) (k b loc d h)) (fun _ _ => Res.fail [90]) (fun _ _ => Res.fail [90]) (fun _ _ => Res.fail [90]) (Res.fail [90]) (fun _ _ _ _ => Res.fail [90]) (Res.fail [90]) (fun _ => Res.fail [90]) (Res.fail [90]) (fun _ _ _ => Res.fail [90]) (Res.fail [90]) (fun _ _ => Res.fail [90]) (Res.fail [90]) (fun _ => Res.fail [90]) (fun _ => Res.fail [90]) (ev loc [] c) := fun _ => rfl
  rw [e] at hg
  rw [e, e]
  cases hv : ev loc [] c <;> rw [hv] at hg <;> try rfl
  rename_i q
  cases q with
  | true => exact H a _ _ _ hg
  | false => exact H b _ _ _ hg
 | block id a =>
  have e : ∀ k, stepC tab k (.block id a) loc d h = (Res.rec (motive := fun _ => Res) Res.norm (fun id' loc d h => bi (Nat.beq id id') (Res.norm loc d h) (Res.exit id' loc d h)) Res.ret Res.pan Res.fail (k a loc d h) : Res) := fun _ => rfl
  rw [e] at hg
  rw [e, e]
  cases h1 : f a loc d h with
  | fail l => rw [h1] at hg; exact hg.elim
  | _ => rw [H a loc d h (by rw [h1]; trivial), h1]
 | loop a =>
  have e : ∀ k, stepC tab k (.loop a) loc d h = (Res.rec (motive := fun _ => Res) (fun loc d h => k (.loop a) loc d h) Res.exit Res.ret Res.pan Res.fail (k a loc d h) : Res) := fun _ => rfl
  rw [e] at hg
  rw [e, e]
  cases h1 : f a loc d h with
  | fail l => rw [h1] at hg; exact hg.elim
  | norm l1 d1 h2 => rw [H a loc d h (by rw [h1]; trivial), h1]; rw [h1] at hg; exact H (.loop a) _ _ _ hg
  | _ => rw [H a loc d h (by rw [h1]; trivial), h1]
theorem evC_succ : ∀ n, LeC (evC tab n) (evC tab (n + 1))
 | 0 => fun c loc d h hg => hg.elim
 | n + 1 => stepC_mono (evC_succ n)
theorem evC_mono {n m : Nat} (h : n ≤ m) : LeC (evC tab n) (evC tab m) := by
 induction h with
 | refl => exact fun _ _ _ _ _ => rfl
 | step _ ih => intro c loc d h hg; rw [evC_succ _ c loc d h (by rw [ih c loc d h hg]; exact hg), ih c loc d h hg]
theorem evF_mono {n m : Nat} (h : n ≤ m) {f : Nat} {args : List AV} {hp : AH} {r : CR} (hr : evF tab n f args hp = r) (hg : r.good) : evF tab m f args hp = r := by
 subst hr
 exact zJw (evC_mono h) f args hp hg
end
end Go.Ev
namespace Go.Ev
open Go
section
variable {tab : Nat → Option AFunc}
def Does (tab : Nat → Option AFunc) (c : ACode) (loc : T AV) (d : List AV) (h : AH) (r : Res) : Prop := r.good ∧ ∃ n, evC tab n c loc d h = r
def Gives (tab : Nat → Option AFunc) (f : Nat) (args : List AV) (h : AH) (r : CR) : Prop := r.good ∧ ∃ n, evF tab n f args h = r
theorem Does.at {c : ACode} {loc : T AV} {d : List AV} {h : AH} {r : Res} (x : Does tab c loc d h r) : ∃ n, ∀ m, n ≤ m → evC tab m c loc d h = r := by
 obtain ⟨hg, n, hn⟩ := x
 refine ⟨n, fun m hm => ?_⟩
 rw [evC_mono hm c loc d h (by rw [hn]; exact hg), hn]
variable {loc l1 : T AV} {d d1 : List AV} {h h1 : AH} {r : Res} {a b : ACode}
theorem does_skip : Does tab .skip loc d h (.norm loc d h) := ⟨trivial, 1, rfl⟩
theorem does_ret : Does tab .ret loc d h (.ret loc d h) := ⟨trivial, 1, rfl⟩
theorem does_exit {id : Nat} : Does tab (.exit id) loc d h (.exit id loc d h) := ⟨trivial, 1, rfl⟩
theorem does_seq (x : Does tab a loc d h (.norm l1 d1 h1)) (y : Does tab b l1 d1 h1 r) : Does tab (.seq a b) loc d h r := by
 obtain ⟨n, hn⟩ := x.at
 obtain ⟨m, hm⟩ := y.at
 refine ⟨y.1, max n m + 1, ?_⟩
 show (Res.rec (motive := fun _ => Res) (fun loc d h => evC tab (max n m) b loc d h) Res.exit Res.ret Res.pan Res.fail (evC tab (max n m) a loc d h) : Res) = r
 rw [hn _ (Nat.le_max_left _ _)]
 exact hm _ (Nat.le_max_right _ _)
def Res.out : Res → Prop
 | .norm _ _ _ => False
 | _ => True
theorem zGm (x : Does tab a loc d h r) (ho : r.out) : Does tab (.seq a b) loc d h r := by
 obtain ⟨n, hn⟩ := x.at
 refine ⟨x.1, n + 1, ?_⟩
 show (Res.rec (motive := fun _ => Res) (fun loc d h => evC tab n b loc d h) Res.exit Res.ret Res.pan Res.fail (evC tab n a loc d h) : Res) = r
 rw [hn _ (Nat.le_refl _)]
 cases r <;> first | exact ho.elim | rfl
theorem does_cond {c : Opd} {q : Bool} (hc : ev loc [] c = .bool q) (x : Does tab (if q then a else b) loc d h r) : Does tab (.cond c a b) loc d h r := by
 obtain ⟨n, hn⟩ := x.at
 refine ⟨x.1, n + 1, ?_⟩
 show AV.on (Res.fail [90]) (fun q => bi q (evC tab n a loc d h) (evC tab n b loc d h)) (fun _ _ => Res.fail [90]) (fun _ _ => Res.fail [90]) (fun _ _ => Res.fail [90]) (Res.fail [90]) (fun _ _ _ _ => Res.fail [90]) (Res.fail [90]) (fun _ => Res.fail [90]) (Res.fail [90]) (fun _ _ _ => Res.fail [90]) (Res.fail [90]) (fun _ _ => Res.fail [90]) (Res.fail [90]) (fun _ => Res.fail [90]) (fun _ => Res.fail [90]) (ev loc [] c) = r
 rw [hc]
 have := hn n (Nat.le_refl _)
 cases q <;> exact this
def zHd (id : Nat) : Res → Res
 | .exit id' l d h => if id = id' then .norm l d h else .exit id' l d h
 | r => r
theorem does_block {id : Nat} (x : Does tab a loc d h r) : Does tab (.block id a) loc d h (zHd id r) := by
 obtain ⟨n, hn⟩ := x.at
 refine ⟨?_, n + 1, ?_⟩
 ·have := x.1
  cases r <;> first | exact this | (simp only [zHd]; split <;> trivial)
 show (Res.rec (motive := fun _ => Res) Res.norm (fun id' loc d h => bi (Nat.beq id id') (Res.norm loc d h) (Res.exit id' loc d h)) Res.ret Res.pan Res.fail (evC tab n a loc d h) : Res) = _
 rw [hn _ (Nat.le_refl _)]
 cases r with
 | exit id' l d h =>
  show bi (Nat.beq id id') _ _ = if id = id' then _ else _
  rw [bi_eq]
  by_cases he : id = id'
  ·subst he; rw [if_pos (Nat.beq_refl _), if_pos rfl]
  ·rw [if_neg he]
   have : Nat.beq id id' = false := by
    cases hb : Nat.beq id id' with
    | false => rfl
    | true => exact absurd (Nat.eq_of_beq_eq_true hb) he
   rw [this]; rfl
 | _ => rfl
theorem does_loop (x : Does tab a loc d h (.norm l1 d1 h1)) (y : Does tab (.loop a) l1 d1 h1 r) : Does tab (.loop a) loc d h r := by
 obtain ⟨n, hn⟩ := x.at
 obtain ⟨m, hm⟩ := y.at
 refine ⟨y.1, max n m + 1, ?_⟩
 show (Res.rec (motive := fun _ => Res) (fun loc d h => evC tab (max n m) (.loop a) loc d h) Res.exit Res.ret Res.pan Res.fail (evC tab (max n m) a loc d h) : Res) = r
 rw [hn _ (Nat.le_max_left _ _)]
 exact hm _ (Nat.le_max_right _ _)
theorem zFv (x : Does tab a loc d h r) (ho : r.out) : Does tab (.loop a) loc d h r := by
 obtain ⟨n, hn⟩ := x.at
 refine ⟨x.1, n + 1, ?_⟩
 show (Res.rec (motive := fun _ => Res) (fun loc d h => evC tab n (.loop a) loc d h) Res.exit Res.ret Res.pan Res.fail (evC tab n a loc d h) : Res) = r
 rw [hn _ (Nat.le_refl _)]
 cases r <;> first | exact ho.elim | rfl
end
end Go.Ev
