/- EvS EvO EvO2 EvO3 EvO4 EvO5 EvO6 -/
import Derived.Test.YtlolcfdllehpgaaGreatDoorPaA
import Derived.Laws.IdiomCopy
import Derived.Laws.Entries
import Derived.Laws.Strings
import Derived.Laws.StructEq
set_option linter.unusedSimpArgs false
set_option linter.unusedVariables false
set_option linter.unusedSectionVars false
set_option linter.defProp false
set_option maxRecDepth 100000
set_option maxHeartbeats 4000000
namespace Go.Ev
variable [Glob]
structure Same (w w' : World) : Prop where
 os : w'.os = w.os
 tape : w'.tape = w.tape
 output : w'.output = w.output
theorem Same.refl (w : World) : Same w w := ⟨rfl, rfl, rfl⟩
theorem WR0.of_heap {ρ : Rho} {h : AH} {w w' : World} (W : WR0 ρ h w) (e : w'.heap = w.heap) : WR0 ρ h w' :=
 ⟨fun a b => by rw [e]; exact W.obj a b, W.inj, fun a => by rw [e]; exact W.dom a, W.fresh⟩
theorem Step.of_heap {ρ : Rho} {h : AH} {w w' : World} (e : w'.heap = w.heap) (s : Same w w') : Step ρ h w ρ h w' :=
 ⟨ρ.le_refl, fun _ k => k, fun _ _ => by rw [e], by rw [e]; exact Nat.le_refl _, s.os, s.tape, s.output, Nat.le_refl _, fun _ _ => rfl, fun a b => absurd a b⟩
def Rho.ext (ρ : Rho) (id : Nat) (x : Nat × Nat × Nat) : Rho := fun i => if i = id then some x else ρ i
theorem Rho.ext_self (ρ : Rho) (id : Nat) (x : Nat × Nat × Nat) : ρ.ext id x id = some x := by simp [Rho.ext]
theorem Rho.ext_ne (ρ : Rho) {id i : Nat} (x : Nat × Nat × Nat) (h : i ≠ id) : ρ.ext id x i = ρ i := by simp [Rho.ext, h]
theorem Rho.le_ext {ρ : Rho} {id : Nat} {x : Nat × Nat × Nat} (h : ρ id = none) : ρ.le (ρ.ext id x) := by
 intro i y e
 by_cases hi : i = id
 ·subst hi; rw [h] at e; cases e
 ·rw [Rho.ext_ne _ _ hi]; exact e
theorem WR0.none_next {ρ : Rho} {h : AH} {w : World} (W : WR0 ρ h w) : ρ h.next = none := by
 cases e : ρ h.next with
 | none => rfl
 | some x => have := (W.dom e).1; omega
noncomputable def AH.add (h : AH) (o : AObj) : AH := ⟨T.put (some o) h.mem h.next, h.next + 1⟩
theorem AH.new_eq {β : Type} (h : AH) (o : AObj) (k : Nat → AH → β) : h.new o k = k h.next (h.add o) := by
 cases h with
 | mk m n => cases n <;> rfl
theorem AH.get_eq (h : AH) (id : Nat) : h.get id = h.mem.get id := by cases h; rfl
theorem AH.set_eq (h : AH) (id : Nat) (o : AObj) : h.set id o = ⟨T.put (some o) h.mem id, h.next⟩ := by cases h; rfl
theorem AH.kill_eq (h : AH) (id : Nat) : h.kill id = ⟨T.put none h.mem id, h.next⟩ := by cases h; rfl
theorem AH.kill_next (h : AH) (id : Nat) : (h.kill id).next = h.next := by rw [AH.kill_eq]
theorem WR0.alloc {ρ : Rho} {h : AH} {w w' : World} (W : WR0 ρ h w) {o : AObj} {x : Obj} {s : Nat} (hx : ObjR ρ o x 0 s) (hh : w'.heap = w.heap.push x) (hs : Same w w') :
  WR0 (ρ.ext h.next (w.heap.size, 0, s)) (h.add o) w' ∧ Step ρ h w (ρ.ext h.next (w.heap.size, 0, s)) (h.add o) w' := by
 have hn := W.none_next
 have hle : ρ.le (ρ.ext h.next (w.heap.size, 0, s)) := Rho.le_ext hn
 have hget : ∀ i, (h.add o).mem.get i = if h.next = i then some o else h.mem.get i := fun i => T.get_put _ _ _ _
 have hold : ∀ k, k < w.heap.size → w'.heap[k]? = w.heap[k]? := fun k hk => by rw [hh, Array.getElem?_push, if_neg (by omega)]
 have hown : ∀ {k}, k < w.heap.size → Owned (ρ.ext h.next (w.heap.size, 0, s)) (h.add o) k → Owned ρ h k := by
  rintro k hk ⟨i, o', p, s', hg, hr, he⟩
  rw [hget] at hg
  by_cases hi : h.next = i
  ·subst hi; rw [Rho.ext_self] at he; injection he with he; injection he with he _; omega
  ·rw [if_neg hi] at hg; rw [Rho.ext_ne _ _ (Ne.symm hi)] at he; exact ⟨i, o', p, s', hg, hr, he⟩
 refine ⟨⟨?_, ?_, ?_, ?_⟩, ⟨hle, hown, fun hk _ => hold _ hk, by rw [hh]; simp, hs.os, hs.tape, hs.output, Nat.le_succ _, ?_, ?_⟩⟩
 ·intro id o' b p s' hg he
  rw [hget] at hg
  by_cases hi : h.next = id
  ·subst hi
   rw [if_pos rfl] at hg
   rw [Rho.ext_self] at he
   injection hg with hg; subst hg
   injection he with he; injection he with h1 h2; injection h2 with h2 h3
   subst h1; subst h2; subst h3
   exact ⟨x, by rw [hh]; simp, hx.mono hle⟩
  ·rw [if_neg hi] at hg
   rw [Rho.ext_ne _ _ (Ne.symm hi)] at he
   obtain ⟨y, hy, hr⟩ := W.obj hg he
   exact ⟨y, by rw [hold _ (W.dom he).2]; exact hy, hr.mono hle⟩
 ·intro i j o1 o2 b p s1 p' s2 h1 h2 hne e1 e2
  rw [hget] at h1 h2
  by_cases hi : h.next = i
  ·subst hi
   have hj : ¬ h.next = j := hne
   rw [Rho.ext_self] at e1
   rw [Rho.ext_ne _ _ (Ne.symm hj)] at e2
   injection e1 with e1; injection e1 with e1 _
   have := (W.dom e2).2
   omega
  ·by_cases hj : h.next = j
   ·subst hj
    rw [Rho.ext_self] at e2
    rw [Rho.ext_ne _ _ (Ne.symm hi)] at e1
    injection e2 with e2; injection e2 with e2 _
    have := (W.dom e1).2
    omega
   ·rw [if_neg hi] at h1; rw [if_neg hj] at h2
    rw [Rho.ext_ne _ _ (Ne.symm hi)] at e1
    rw [Rho.ext_ne _ _ (Ne.symm hj)] at e2
    exact W.inj h1 h2 hne e1 e2
 ·intro id y he
  by_cases hi : h.next = id
  ·subst hi
   rw [Rho.ext_self] at he; injection he with he; subst he
   exact ⟨Nat.lt_succ_self _, by rw [hh]; simp⟩
  ·rw [Rho.ext_ne _ _ (Ne.symm hi)] at he
   have := W.dom he
   exact ⟨Nat.lt_succ_of_lt this.1, by rw [hh]; simp; omega⟩
 ·intro id hid
  have hid' : h.next + 1 ≤ id := hid
  rw [hget, if_neg (by omega)]
  exact W.fresh (by omega)
 ·intro id hid _
  rw [hget, if_neg (by omega)]
 ·intro id _ h2
  by_cases hi : h.next = id
  ·omega
  ·rw [Rho.ext_ne _ _ (Ne.symm hi)] at h2
   exact absurd ‹_› h2
theorem WR0.set {ρ : Rho} {h : AH} {w w' : World} (W : WR0 ρ h w) {id b p s : Nat} {o o' : AObj} {x : Obj} (hg : h.mem.get id = some o) (hro : o.ro = false) (hr : ρ id = some (b, p, s))
  (hro' : o'.ro = false) (hx : ObjR ρ o' x p s) (hb : w'.heap[b]? = some x) (hk : ∀ k, k ≠ b → w'.heap[k]? = w.heap[k]?) (hsz : w'.heap.size = w.heap.size) (hs : Same w w') :
  WR0 ρ (h.set id o') w' ∧ Step ρ h w ρ (h.set id o') w' := by
 rw [AH.set_eq]
 have hget : ∀ i, (T.put (some o') h.mem id).get i = if id = i then some o' else h.mem.get i := fun i => T.get_put _ _ _ _
 have hown : ∀ {k}, Owned ρ ⟨T.put (some o') h.mem id, h.next⟩ k → Owned ρ h k := by
  rintro k ⟨i, q, p', s', h1, h2, h3⟩
  simp only [hget] at h1
  by_cases hi : id = i
  ·subst hi; exact ⟨id, o, p', s', hg, hro, h3⟩
  ·rw [if_neg hi] at h1; exact ⟨i, q, p', s', h1, h2, h3⟩
 refine ⟨⟨?_, ?_, fun a => by rw [hsz]; exact W.dom a, ?_⟩, ⟨ρ.le_refl, fun _ o => hown o, ?_, by rw [hsz]; exact Nat.le_refl _, hs.os, hs.tape, hs.output, Nat.le_refl _, ?_, fun a b => absurd a b⟩⟩
 ·intro i q b' p' s' h1 h2
  simp only [hget] at h1
  by_cases hi : id = i
  ·subst hi
   rw [if_pos rfl] at h1
   injection h1 with h1; subst h1
   rw [hr] at h2; injection h2 with h2; injection h2 with h3 h4; injection h4 with h4 h5
   subst h3; subst h4; subst h5
   exact ⟨x, hb, hx⟩
  ·rw [if_neg hi] at h1
   obtain ⟨y, hy, hyr⟩ := W.obj h1 h2
   refine ⟨y, ?_, hyr⟩
   rw [hk b' (fun e => ?_)]; exact hy
   subst e
   have := (W.inj hg h1 hi hr h2).1
   rw [hro] at this; cases this
 ·intro i j o1 o2 b1 p1 s1 p2 s2 h1 h2 hne e1 e2
  simp only [hget] at h1 h2
  by_cases hi : id = i
  ·subst hi
   rw [if_neg hne] at h2
   have := (W.inj hg h2 hne e1 e2).1
   rw [hro] at this; cases this
  ·by_cases hj : id = j
   ·subst hj
    rw [if_neg hi] at h1
    have := (W.inj h1 hg hne e1 e2).2
    rw [hro] at this; cases this
   ·rw [if_neg hi] at h1; rw [if_neg hj] at h2
    exact W.inj h1 h2 hne e1 e2
 ·intro i hi
  show (T.put (some o') h.mem id).get i = none
  rw [hget]
  have := (W.dom hr).1
  rw [if_neg (by simp at hi; omega)]
  exact W.fresh hi
 ·intro k hkk ho
  refine hk k (fun e => ho ⟨id, o, p, s, hg, hro, by rw [e]; exact hr⟩)
 ·intro i _ hn
  show (T.put (some o') h.mem id).get i = _
  rw [hget, if_neg (fun e => by subst e; rw [hr] at hn; cases hn)]
theorem WR0.kill {ρ : Rho} {h : AH} {w : World} (W : WR0 ρ h w) {id : Nat} {x : Nat × Nat × Nat} (hr : ρ id = some x) :
  WR0 ρ (h.kill id) w ∧ Step ρ h w ρ (h.kill id) w := by
 rw [AH.kill_eq]
 have hget : ∀ i, (T.put none h.mem id).get i = if id = i then none else h.mem.get i := fun i => T.get_put _ _ _ _
 have hsome : ∀ {i o}, (T.put none h.mem id).get i = some o → h.mem.get i = some o := by
  intro i o e
  rw [hget] at e
  split at e
  ·cases e
  ·exact e
 refine ⟨⟨fun a b => W.obj (hsome a) b, fun a b => W.inj (hsome a) (hsome b), W.dom, ?_⟩, ⟨ρ.le_refl, ?_, fun _ _ => rfl, Nat.le_refl _, rfl, rfl, rfl, Nat.le_refl _, ?_, fun a b => absurd a b⟩⟩
 ·intro i hi
  show (T.put none h.mem id).get i = none
  rw [hget]; split
  ·rfl
  ·exact W.fresh hi
 ·rintro k _ ⟨i, o, p, s, h1, h2, h3⟩
  exact ⟨i, o, p, s, hsome h1, h2, h3⟩
 ·intro i _ hn
  show (T.put none h.mem id).get i = _
  rw [hget, if_neg (fun e => by subst e; rw [hr] at hn; cases hn)]
theorem WR0.adopt {ρ : Rho} {h : AH} {w w' : World} (W : WR0 ρ h w) {id b p s p' s' : Nat} {o o' : AObj} {x : Obj} (hg : h.mem.get id = some o) (hro : o.ro = false) (hr : ρ id = some (b, p, s))
  (hro' : o'.ro = false) (hx : ObjR ρ o' x p' s') (hb : w'.heap[b]? = some x) (hk : ∀ k, k ≠ b → w'.heap[k]? = w.heap[k]?) (hsz : w'.heap.size = w.heap.size) (hs : Same w w') :
  WR0 (ρ.ext h.next (b, p', s')) ((h.kill id).add o') w' ∧ Step ρ h w (ρ.ext h.next (b, p', s')) ((h.kill id).add o') w' := by
 rw [AH.kill_eq]
 have hn := W.none_next
 have hle : ρ.le (ρ.ext h.next (b, p', s')) := Rho.le_ext hn
 have hidlt := (W.dom hr).1
 have hget : ∀ i, ((⟨T.put none h.mem id, h.next⟩ : AH).add o').mem.get i = if h.next = i then some o' else if id = i then none else h.mem.get i := by
  intro i
  show (T.put (some o') (T.put none h.mem id) h.next).get i = _
  rw [T.get_put, T.get_put]
 refine ⟨⟨?_, ?_, ?_, ?_⟩, ⟨hle, ?_, ?_, by rw [hsz]; exact Nat.le_refl _, hs.os, hs.tape, hs.output, Nat.le_succ _, ?_, ?_⟩⟩
 ·intro i q b' p1 s1 h1 h2
  rw [hget] at h1
  by_cases hi : h.next = i
  ·subst hi
   rw [if_pos rfl] at h1; injection h1 with h1; subst h1
   rw [Rho.ext_self] at h2; injection h2 with h2; injection h2 with h3 h4; injection h4 with h4 h5
   subst h3; subst h4; subst h5
   exact ⟨x, hb, hx.mono hle⟩
  ·rw [if_neg hi] at h1
   split at h1
   ·cases h1
   ·rename_i hid
    rw [Rho.ext_ne _ _ (Ne.symm hi)] at h2
    obtain ⟨y, hy, hyr⟩ := W.obj h1 h2
    refine ⟨y, ?_, hyr.mono hle⟩
    rw [hk b' (fun e => ?_)]; exact hy
    subst e
    have := (W.inj hg h1 hid hr h2).1
    rw [hro] at this; cases this
 ·intro i j o1 o2 b1 p1 s1 p2 s2 h1 h2 hne e1 e2
  rw [hget] at h1 h2
  by_cases hi : h.next = i
  ·subst hi
   have hj : ¬ h.next = j := hne
   rw [if_neg hj] at h2
   split at h2
   ·cases h2
   ·rename_i hidj
    rw [Rho.ext_self] at e1
    rw [Rho.ext_ne _ _ (Ne.symm hj)] at e2
    injection e1 with e1; injection e1 with e1 _; subst e1
    have := (W.inj hg h2 hidj hr e2).1
    rw [hro] at this; cases this
  ·by_cases hj : h.next = j
   ·subst hj
    rw [if_neg hi] at h1
    split at h1
    ·cases h1
    ·rename_i hidi
     rw [Rho.ext_self] at e2
     rw [Rho.ext_ne _ _ (Ne.symm hi)] at e1
     injection e2 with e2; injection e2 with e2 _; subst e2
     have := (W.inj hg h1 hidi hr e1).1
     rw [hro] at this; cases this
   ·rw [if_neg hi] at h1; rw [if_neg hj] at h2
    rw [Rho.ext_ne _ _ (Ne.symm hi)] at e1
    rw [Rho.ext_ne _ _ (Ne.symm hj)] at e2
    split at h1
    ·cases h1
    ·split at h2
     ·cases h2
     ·exact W.inj h1 h2 hne e1 e2
 ·intro i y he
  by_cases hi : h.next = i
  ·subst hi
   rw [Rho.ext_self] at he; injection he with he; subst he
   exact ⟨Nat.lt_succ_self _, by rw [hsz]; exact (W.dom hr).2⟩
  ·rw [Rho.ext_ne _ _ (Ne.symm hi)] at he
   have := W.dom he
   exact ⟨Nat.lt_succ_of_lt this.1, by rw [hsz]; exact this.2⟩
 ·intro i hi
  have hi' : h.next + 1 ≤ i := hi
  rw [hget, if_neg (by omega), if_neg (by omega)]
  exact W.fresh (by omega)
 ·rintro k _ ⟨i, q, p1, s1, h1, h2, h3⟩
  rw [hget] at h1
  by_cases hi : h.next = i
  ·subst hi
   rw [Rho.ext_self] at h3; injection h3 with h3; injection h3 with h3 _; subst h3
   exact ⟨id, o, p, s, hg, hro, hr⟩
  ·rw [if_neg hi] at h1
   rw [Rho.ext_ne _ _ (Ne.symm hi)] at h3
   split at h1
   ·cases h1
   ·exact ⟨i, q, p1, s1, h1, h2, h3⟩
 ·intro k _ ho
  exact hk k (fun e => ho ⟨id, o, p, s, hg, hro, by rw [e]; exact hr⟩)
 ·intro i hi hne
  rw [hget, if_neg (by have : i < h.next := hi; omega), if_neg (fun e => by subst e; rw [hr] at hne; cases hne)]
 ·intro i h1 h2
  by_cases hi : h.next = i
  ·omega
  ·rw [Rho.ext_ne _ _ (Ne.symm hi)] at h2
   exact absurd h1 h2
theorem WR.of_heap {ρ : Rho} {h : AH} {w w' : World} (W : WR ρ h w) (e : w'.heap = w.heap) : WR ρ h w' := ⟨W.toWR0.of_heap e, fun k hk => by rw [e]; exact W.gl k hk⟩
theorem WR.none_next {ρ : Rho} {h : AH} {w : World} (W : WR ρ h w) : ρ h.next = none := W.toWR0.none_next
theorem WR.alloc {ρ : Rho} {h : AH} {w w' : World} (W : WR ρ h w) {o : AObj} {x : Obj} {s : Nat} (hx : ObjR ρ o x 0 s) (hh : w'.heap = w.heap.push x) (hs : Same w w') :
  WR (ρ.ext h.next (w.heap.size, 0, s)) (h.add o) w' ∧ Step ρ h w (ρ.ext h.next (w.heap.size, 0, s)) (h.add o) w' := W.step (W.toWR0.alloc hx hh hs)
theorem WR.set {ρ : Rho} {h : AH} {w w' : World} (W : WR ρ h w) {id b p s : Nat} {o o' : AObj} {x : Obj} (hg : h.mem.get id = some o) (hro : o.ro = false) (hr : ρ id = some (b, p, s))
  (hro' : o'.ro = false) (hx : ObjR ρ o' x p s) (hb : w'.heap[b]? = some x) (hk : ∀ k, k ≠ b → w'.heap[k]? = w.heap[k]?) (hsz : w'.heap.size = w.heap.size) (hs : Same w w') :
  WR ρ (h.set id o') w' ∧ Step ρ h w ρ (h.set id o') w' := W.step (W.toWR0.set hg hro hr hro' hx hb hk hsz hs)
theorem WR.kill {ρ : Rho} {h : AH} {w : World} (W : WR ρ h w) {id : Nat} {x : Nat × Nat × Nat} (hr : ρ id = some x) :
  WR ρ (h.kill id) w ∧ Step ρ h w ρ (h.kill id) w := W.step (W.toWR0.kill hr)
theorem WR.adopt {ρ : Rho} {h : AH} {w w' : World} (W : WR ρ h w) {id b p s p' s' : Nat} {o o' : AObj} {x : Obj} (hg : h.mem.get id = some o) (hro : o.ro = false) (hr : ρ id = some (b, p, s))
  (hro' : o'.ro = false) (hx : ObjR ρ o' x p' s') (hb : w'.heap[b]? = some x) (hk : ∀ k, k ≠ b → w'.heap[k]? = w.heap[k]?) (hsz : w'.heap.size = w.heap.size) (hs : Same w w') :
  WR (ρ.ext h.next (b, p', s')) ((h.kill id).add o') w' ∧ Step ρ h w (ρ.ext h.next (b, p', s')) ((h.kill id).add o') w' := W.step (W.toWR0.adopt hg hro hr hro' hx hb hk hsz hs)
theorem zHc {w : World} {b i : Nat} {cs : Array Value} {e : TypeId} {fr : Nat × Nat} {v : Value} (h : w.heap[b]? = some (.cells cs e fr)) (hv : cs[i]? = some v) : w.cell? ⟨b, i, none⟩ = some v := by
 simp [World.cell?, h, hv]
theorem zHt {w : World} {b i : Nat} {cs : Array Value} {e : TypeId} {fr : Nat × Nat} (h : w.heap[b]? = some (.cells cs e fr)) (hf : ¬ (fr.1 ≤ i ∧ i < fr.2)) : w.frozen? ⟨b, i, none⟩ = false := by
 obtain ⟨lo, hi⟩ := fr
 simp only [World.frozen?, h]
 simp at hf ⊢
 exact hf
theorem zFp {b : Nat} : ∀ (vs : List Value) (o : Nat) {w : World} {cs : Array Value} {e : TypeId} {fr : Nat × Nat}, w.heap[b]? = some (.cells cs e fr) →
  ∃ cs' : Array Value, (w.setCells b o vs).heap[b]? = some (.cells cs' e fr) ∧ cs'.size = cs.size ∧ ∀ i, cs'[i]? = if o ≤ i ∧ i < o + vs.length ∧ i < cs.size then vs[i - o]? else cs[i]?
 | [], o, w, cs, e, fr, h => ⟨cs, h, rfl, fun i => by rw [if_neg (by simp; omega)]⟩
 | v :: r, o, w, cs, e, fr, h => by
  have h1 : (w.setCell ⟨b, o, none⟩ v).heap[b]? = some (.cells (cs.setIfInBounds o v) e fr) := by
   simp [World.setCell, Array.getElem?_modify, h]
  obtain ⟨cs', e1, e2, e3⟩ := zFp r (o + 1) h1
  refine ⟨cs', e1, by simpa using e2, fun i => ?_⟩
  rw [e3]
  simp only [Array.size_setIfInBounds, List.length_cons]
  by_cases hi : o = i
  ·subst hi
   rw [if_neg (by omega)]
   by_cases hs : o < cs.size
   ·rw [if_pos (by omega)]; simp [hs]
   ·rw [if_neg (by omega), Array.getElem?_eq_none (by simp; omega), Array.getElem?_eq_none (by omega)]
  ·by_cases hc : o + 1 ≤ i ∧ i < o + 1 + r.length ∧ i < cs.size
   ·rw [if_pos hc, if_pos (by omega)]
    obtain ⟨j, hj⟩ : ∃ j, i - o = j + 1 := ⟨i - o - 1, by omega⟩
    rw [hj, show i - (o + 1) = j by omega]; simp
   ·rw [if_neg hc, if_neg (by omega), Array.getElem?_setIfInBounds_ne hi]
theorem zD5 {b : Nat} : ∀ (vs : List Value) (o : Nat) {w : World} {k : Nat}, k ≠ b → (w.setCells b o vs).heap[k]? = w.heap[k]?
 | [], _, _, _, _ => rfl
 | v :: r, o, w, k, h => by
  rw [World.setCells, zD5 r (o + 1) h]
  simp only [World.setCell, Array.getElem?_modify]
  rw [if_neg (by omega)]
theorem zDg {b : Nat} : ∀ (vs : List Value) (o : Nat) {w : World}, (w.setCells b o vs).heap.size = w.heap.size
 | [], _, _ => rfl
 | v :: r, o, w => by rw [World.setCells, zDg r (o + 1)]; simp [World.setCell]
theorem zFm {b : Nat} : ∀ (vs : List Value) (o : Nat) {w : World}, Same w (w.setCells b o vs)
 | [], _, w => .refl w
 | v :: r, o, w => by
  have := zFm (b := b) r (o + 1) (w := w.setCell ⟨b, o, none⟩ v)
  exact ⟨this.os, this.tape, this.output⟩
theorem VR.oneCell {ρ : Rho} {a : AV} {v : Value} (h : VR ρ a v) (hc : a.isCell = true) : v.oneCell' = true := by
 cases h <;> first | rfl | (simp [AV.isCell] at hc)
theorem VCs.oneCell {ρ : Rho} : ∀ {l : List AV} {l' : List Value}, VCs ρ l l' → ∀ v ∈ l', v.oneCell' = true
 | _, _, .nil, v, h => by simp at h
 | _, _, .cons c x r, v, h => by
  rcases List.mem_cons.1 h with h | h
  ·subst h; exact x.oneCell c
  ·exact VCs.oneCell r v h
theorem zDt (b o n : Nat) : (⟨b, o, none⟩ : Addr).add n = ⟨b, o + n, none⟩ := by unfold Addr.add; split <;> simp_all
theorem zFa {P : Program} {ρ : Rho} {w : World} {c : T AV} {size o s : Nat} {opn : Option Nat} {ro : Bool} {x : Obj} {b : Nat} (hb : w.heap[b]? = some x) (hx : ObjR ρ (.cells c size opn ro) x o s)
  {n off : Nat} {l : List AV} (hl : loadL c n off = some l) :
  ∃ l', (loadCells ⟨b, o + off, none⟩ n).run P w = .ok l'.toArray w ∧ VCs ρ l l' := by
 obtain ⟨hlen, hget⟩ := zEn hl
 cases hx with
 | cells a1 a2 a3 a4 a5 =>
  rename_i cs e fr
  have hall : ∀ i, i < n → ∃ v, cs[o + (off + i)]? = some v := by
   intro i hi
   have : l[i]? = some l[i] := by rw [List.getElem?_eq_getElem (by omega)]
   rw [← hget i hi] at this
   obtain ⟨_, _, v, hv, _⟩ := a3 _ _ this
   exact ⟨v, hv⟩
  let l' : List Value := (List.range n).map fun i => (cs[o + (off + i)]?).getD undef
  have hl' : ∀ i, i < n → l'[i]? = cs[o + (off + i)]? := by
   intro i hi
   obtain ⟨v, hv⟩ := hall i hi
   simp [l', hi, hv]
  have hlen' : l'.length = n := by simp [l']
  refine ⟨l', ?_, ?_⟩
  ·have := run_loadCells_list (P := P) w ⟨b, o + off, none⟩ l' (fun j v hj => by
    have hjn : j < n := by
     rcases Nat.lt_or_ge j n with h | h
     ·exact h
     ·rw [List.getElem?_eq_none (by omega)] at hj; cases hj
    rw [zDt]
    rw [hl' j hjn] at hj
    exact zHc hb (by rw [Nat.add_assoc]; exact hj))
   rwa [hlen'] at this
  ·refine VCs.of_get (by omega) fun i a ha => ?_
   have hi : i < n := by
    rcases Nat.lt_or_ge i n with h | h
    ·exact h
    ·rw [List.getElem?_eq_none (by omega)] at ha; cases ha
   rw [← hget i hi] at ha
   obtain ⟨_, hc, v, hv, hr⟩ := a3 _ _ ha
   exact ⟨v, by rw [hl' i hi]; exact hv, hr, hc⟩
theorem zCf {P : Program} {ρ : Rho} {h : AH} {w : World} (W : WR ρ h w) {c c' : T AV} {size b o s id : Nat} {opn : Option Nat} (hg : h.mem.get id = some (.cells c size opn false)) (hr : ρ id = some (b, o, s))
  {l : List AV} {l' : List Value} {off : Nat} (hv : VCs ρ l l') (hs : zCh l c off = some c') :
  (storeCells ⟨b, o + off, none⟩ l').run P w = .ok () (w.setCells b (o + off) l') ∧ WR ρ (h.set id (.cells c' size opn false)) (w.setCells b (o + off) l') ∧
   Step ρ h w ρ (h.set id (.cells c' size opn false)) (w.setCells b (o + off) l') := by
 obtain ⟨rfl, hthere⟩ := storeL_some hs
 obtain ⟨x, hb, hx⟩ := W.obj hg hr
 have hlen := hv.length
 cases hx with
 | cells a1 a2 a3 a4 a5 =>
  rename_i cs e fr
  have hin : ∀ j, j < l'.length → off + j < size := by
   intro j hj
   have := hthere (off + j) (by omega) (by omega)
   cases hc : c.get (off + j) with
   | none => exact absurd hc this
   | some a => exact (a3 _ _ hc).1
  have hrun := run_storeCells_cells (P := P) b (o + off) l' 0 w (fun j hj => by
    have := hin j hj
    simp only [Nat.add_zero]
    have hlt : o + off + j < cs.size := by omega
    rw [zHc hb (Array.getElem?_eq_getElem hlt)]; rfl)
   (fun j hj => by
    have := hin j hj
    simp only [Nat.add_zero]
    refine zHt hb ?_
    have := a4 rfl
    omega) hv.oneCell
  obtain ⟨cs', e1, e2, e3⟩ := zFp l' (o + off) hb
  have hset := W.set (w' := w.setCells b (o + off) l') (o' := .cells (putL l c off) size opn false) hg rfl hr rfl (x := .cells cs' e fr) (p := o) (s := s)
   (ObjR.cells (by omega) a2 (fun i a ha => by
    rw [zEd] at ha
    split at ha
    ·rename_i hi
     have hlt := hin (i - off) (by omega)
     obtain ⟨v, hv1, hv2, hv3⟩ := hv.get ha
     refine ⟨by omega, hv3, v, ?_, hv2⟩
     rw [e3, if_pos (by omega)]
     rw [← hv1]; congr 1; omega
    ·rename_i hi
     obtain ⟨q1, q2, v, q3, q4⟩ := a3 _ _ ha
     refine ⟨q1, q2, v, ?_, q4⟩
     rw [e3, if_neg (by omega)]
     exact q3) a4 a5) e1 (fun k hk => zD5 _ _ hk) (zDg _ _) (zFm _ _)
  simp only [Nat.add_zero] at hrun
  exact ⟨hrun, hset.1, hset.2⟩
end Go.Ev
namespace Go.Ev
open Go
variable [Glob]
def Defs (ρ : Rho) (a : AV) (d : Deferred) : Prop := ∃ f l c l' c', a = .fn f l c ∧ d = { target := .fn (.func f) c'.toArray, args := l'.toArray } ∧ VRs ρ l l' ∧ VRs ρ c c'
def Good (P : Program) (ρ : Rho) (h : AH) (w : World) (s : Sem Next) : OR → Prop
 | .val v h' => ∃ ρ' v' w', (s.run P w = .ok (.value v') w' ∨ (s.run P w = .ok .skip w' ∧ v' = undef)) ∧ VR ρ' v v' ∧ WR ρ' h' w' ∧ Step ρ h w ρ' h' w'
 | .enter f args => zBn P f = true → ∃ args', s.run P w = .ok (.enter f args'.toArray) w ∧ VRs ρ args args'
 | .pan v => ∃ v', s.run P w = .halt (.panic v') w ∧ VR ρ v v'
 | .dfr v => ∃ d, s.run P w = .ok (.defer d) w ∧ Defs ρ v d
 | .fail _ => True
section lifts
theorem lift_bool {G : OR → Prop} (hF : ∀ n, G (.fail n)) {v : AV} {k : Bool → OR} (hk : ∀ b, v = .bool b → G (k b)) : G (onBool v k) := by cases v <;> first | exact hk _ rfl | exact hF _
theorem zB1 {G : OR → Prop} (hF : ∀ n, G (.fail n)) {v : AV} {k : IntKind → Int → OR} (hk : ∀ a b, v = .int a b → G (k a b)) : G (onInt v k) := by cases v <;> first | exact hk _ _ rfl | exact hF _
theorem zGv {G : OR → Prop} (hF : ∀ n, G (.fail n)) {v : AV} {k : Nat → Nat → OR} (hk : ∀ a b, v = .str a b → G (k a b)) : G (onStr v k) := by cases v <;> first | exact hk _ _ rfl | exact hF _
theorem zE3 {G : OR → Prop} (hF : ∀ n, G (.fail n)) {v : AV} {k : Nat → Nat → OR} (hk : ∀ a b, v = .ptr a b → G (k a b)) : G (onPtr v k) := by cases v <;> first | exact hk _ _ rfl | exact hF _
theorem lift_mp {G : OR → Prop} (hF : ∀ n, G (.fail n)) {v : AV} {k : Nat → OR} (hk : ∀ a, v = .mp a → G (k a)) : G (onMp v k) := by cases v <;> first | exact hk _ rfl | exact hF _
theorem lift_fn {G : OR → Prop} (hF : ∀ n, G (.fail n)) {v : AV} {k : Nat → List AV → List AV → OR} (hk : ∀ a b c, v = .fn a b c → G (k a b c)) : G (onFn v k) := by cases v <;> first | exact hk _ _ _ rfl | exact hF _
theorem lift_agg {G : OR → Prop} (hF : ∀ n, G (.fail n)) {v : AV} {k : List AV → OR} (hk : ∀ a, v = .agg a → G (k a)) : G (onAgg v k) := by cases v <;> first | exact hk _ rfl | exact hF _
theorem lift_tup {G : OR → Prop} (hF : ∀ n, G (.fail n)) {v : AV} {k : List AV → OR} (hk : ∀ a, v = .tup a → G (k a)) : G (onTup v k) := by cases v <;> first | exact hk _ rfl | exact hF _
theorem zGf {G : OR → Prop} (hF : ∀ n, G (.fail n)) {v : AV} {kn : OR} {k : Nat → Nat → Nat → ACap → OR} (hn : v = .nils → G kn) (hk : ∀ a b c d, v = .sl a b c d → G (k a b c d)) : G (onSl v kn k) := by cases v <;> first | exact hk _ _ _ _ rfl | exact hn rfl | exact hF _
theorem zCs {G : OR → Prop} (hF : ∀ n, G (.fail n)) {o : Option AObj} {k : T AV → Nat → Option Nat → Bool → OR} (hk : ∀ c s p r, o = some (.cells c s p r) → G (k c s p r)) : G (zBx o k) := by
 cases o with
 | none => exact hF _
 | some o => cases o <;> first | exact hk _ _ _ _ rfl | exact hF _
theorem zDf {G : OR → Prop} (hF : ∀ n, G (.fail n)) {o : Option AObj} {k : List (AV × AV × Nat) → Nat → OR} (hk : ∀ es c, o = some (.map es c) → G (k es c)) : G (zGd o k) := by
 cases o with
 | none => exact hF _
 | some o => cases o <;> first | exact hk _ _ rfl | exact hF _
theorem zAx {G : OR → Prop} (hF : ∀ n, G (.fail n)) {α : Type} {o : Option α} {n : Nat} {k : α → OR} (hk : ∀ a, o = some a → G (k a)) : G (obind o (F n) k) := by
 cases o with
 | none => exact hF _
 | some a => exact hk _ rfl
theorem zAp {G : OR → Prop} (hF : ∀ n, G (.fail n)) {b : Bool} {n : Nat} {x : OR} (hx : b = true → G x) : G (bi b x (F n)) := by
 cases b
 ·exact hF _
 ·exact hx rfl
theorem zDs {G : OR → Prop} (hF : ∀ n, G (.fail n)) {b : Bool} {n : Nat} {x : OR} (hx : b = false → G x) : G (bi b (F n) x) := by
 cases b
 ·exact hx rfl
 ·exact hF _
theorem zCz {G : OR → Prop} (hF : ∀ n, G (.fail n)) {n : Int} {k : Nat → OR} (hk : ∀ m : Nat, n = m → G (k m)) : G (onNat n k) := by
 cases n with
 | ofNat n => exact hk n rfl
 | negSucc n => exact hF _
end lifts
theorem zBm {G : OR → Prop} {b : Bool} {x y : OR} (hx : b = true → G x) (hy : b = false → G y) : G (bi b x y) := by
 cases b
 ·exact hy rfl
 ·exact hx rfl
theorem fN_eq {β : Type} (n : Nat) (k : Nat → β) : fN n k = k n := by cases n <;> rfl
theorem fI_eq {β : Type} (n : Int) (k : Int → β) : fI n k = k n := by
 cases n with
 | ofNat n => exact fN_eq n fun n => k (Int.ofNat n)
 | negSucc n => exact fN_eq n fun n => k (Int.negSucc n)
theorem bi_eq {β : Type} (b : Bool) (x y : β) : bi b x y = if b then x else y := by cases b <;> rfl
theorem consec_le : ∀ {ps : List Part} {pos e : Nat}, zKu ps pos = some e → pos ≤ e
 | [], _, _, h => by injection h with h; omega
 | p :: ps, pos, e, h => by
  have h : bi (Nat.beq p.off pos) (zKu ps (pos + p.size)) none = some e := h
  rw [bi_eq] at h
  split at h
  ·have := consec_le h; omega
  ·cases h
theorem fill_vals {loc : T AV} {tmp : List AV} : ∀ {ps : List Part} {pos e : Nat} {l z : List AV}, zKu ps pos = some e → vals loc tmp ps = some l → e ≤ z.length → fill loc tmp ps z = some (z.take pos ++ l ++ z.drop e)
 | [], pos, e, l, z, h1, h2, _ => by
  injection h1 with h1; injection h2 with h2
  subst h1; subst h2
  show some z = _
  rw [List.append_nil, List.take_append_drop]
 | p :: ps, pos, e, l, z, h1, h2, h3 => by
  have h1 : bi (Nat.beq p.off pos) (zKu ps (pos + p.size)) none = some e := h1
  rw [bi_eq] at h1
  split at h1
  ·rename_i hb
   have ho := Nat.eq_of_beq_eq_true hb
   have hle := consec_le h1
   have h2 : obind (cellsOf (ev loc tmp p.x)) none (fun vs => bi (Nat.beq (llen vs) p.size) (obind (vals loc tmp ps) none fun l => some (lapp vs l)) none) = some l := h2
   cases hv : cellsOf (ev loc tmp p.x) with
   | none => rw [hv] at h2; cases h2
   | some vs =>
    rw [hv] at h2
    have h2 : bi (Nat.beq (llen vs) p.size) (obind (vals loc tmp ps) none fun l => some (lapp vs l)) none = some l := h2
    rw [bi_eq] at h2
    split at h2
    ·rename_i hl
     have hlen := Nat.eq_of_beq_eq_true hl
     rw [zBt] at hlen
     cases hr : vals loc tmp ps with
     | none => rw [hr] at h2; cases h2
     | some l' =>
      rw [hr] at h2
      injection h2 with h2
      subst h2
      show obind (cellsOf (ev loc tmp p.x)) none (fun vs => bi (Nat.beq (llen vs) p.size) (bi (Nat.ble (Nat.add p.off p.size) (llen z)) (fill loc tmp ps (lapp (ltake p.off z) (lapp vs (ldrop (Nat.add p.off p.size) z)))) none) none) = _
      rw [hv]
      show bi (Nat.beq (llen vs) p.size) (bi (Nat.ble (Nat.add p.off p.size) (llen z)) (fill loc tmp ps (lapp (ltake p.off z) (lapp vs (ldrop (Nat.add p.off p.size) z)))) none) none = _
      rw [hl, show Nat.ble (Nat.add p.off p.size) (llen z) = true from by rw [Nat.ble_eq, zBt]; show p.off + p.size ≤ _; omega]
      show fill loc tmp ps _ = _
      rw [zDn, zDn, zHo, zIy, ho]
      have hz : (z.take pos ++ (vs ++ z.drop (Nat.add pos p.size))).length = z.length := by
       simp only [List.length_append, List.length_take, List.length_drop, hlen]
       show _ + (_ + (z.length - (pos + p.size))) = _
       omega
      rw [fill_vals (z := z.take pos ++ (vs ++ z.drop (Nat.add pos p.size))) h1 hr (by rw [hz]; exact h3)]
      congr 1
      have hp : (z.take pos).length = pos := by rw [List.length_take]; omega
      have e1 : (z.take pos ++ (vs ++ z.drop (Nat.add pos p.size))).take (pos + p.size) = z.take pos ++ vs := by
       rw [← List.append_assoc, List.take_append_of_le_length (by simp [hp, hlen]), List.take_of_length_le (by simp [hp, hlen])]
      have e2 : (z.take pos ++ (vs ++ z.drop (Nat.add pos p.size))).drop e = z.drop e := by
       rw [← List.append_assoc, List.drop_append, List.drop_eq_nil_of_le (by simp [hp, hlen]; omega), List.nil_append, List.drop_drop]
       congr 1
       simp only [List.length_append, hp, hlen]
       show pos + p.size + (e - (pos + p.size)) = e
       omega
      rw [e1, e2, zDn]
      simp
    ·cases h2
  ·cases h1
theorem zGw (loc : T AV) (tmp : List AV) (ps : List Part) (z : List AV) : fillQ loc tmp ps z = fill loc tmp ps z := by
 unfold fillQ
 cases h1 : zKu ps 0 with
 | none => rfl
 | some e =>
  show bi (Nat.beq e (llen z)) (obind (vals loc tmp ps) (fill loc tmp ps z) fun l => some l) (fill loc tmp ps z) = _
  rw [bi_eq]
  split
  ·rename_i hb
   have he := Nat.eq_of_beq_eq_true hb
   rw [zBt] at he
   cases h2 : vals loc tmp ps with
   | none => rfl
   | some l =>
    rw [fill_vals h1 h2 (by omega)]
    show some l = _
    simp [he]
  ·rfl
theorem zC5 (b : Bool) (h : AH) : Ev.bool b h = OR.val (.bool b) h := by cases b <;> rfl
theorem zCl {k : IntKind} {n : Int} (h : zB3 k n = true) : k.wrap n = n := by
 cases k <;> cases n <;> simp only [zB3, rIn, rUn, Nat.ble_eq, Bool.false_eq_true] at h <;> (simp only [IntKind.wrap, IntKind.bits, IntKind.signed]; simp; try omega)
theorem wrapF_eq (k : IntKind) (n : Int) : wrapF k n = k.wrap n := by
 unfold wrapF
 rw [bi_eq]
 split
 ·rw [zCl ‹_›]
 ·rfl
theorem zDo (k : IntKind) (n : Int) (h : AH) : intV k n h = OR.val (.int k (k.wrap n)) h := by unfold intV; rw [fI_eq, wrapF_eq]
theorem zDm (n : Nat) (h : AH) : natV n h = OR.val (.int .i64 n) h := by unfold natV; rw [fN_eq]; rfl
theorem zF0 (a b : Int) : eqI a b = decide (a = b) := by
 cases a <;> cases b <;> simp only [eqI]
 ·rename_i m n; rw [Bool.eq_iff_iff]; simp [Nat.beq_eq]; exact Int.ofNat_inj.symm
 ·simp
 ·simp
 ·rename_i m n; rw [Bool.eq_iff_iff]; simp [Nat.beq_eq]
theorem zIj (a b : Int) : ltI a b = decide (a < b) := by
 cases a <;> cases b <;> simp only [ltI]
 ·rename_i m n; rw [Bool.eq_iff_iff, Nat.ble_eq]; simp; omega
 ·rw [Bool.eq_iff_iff]; simp; omega
 ·rw [Bool.eq_iff_iff]; simp; omega
 ·rename_i m n; rw [Bool.eq_iff_iff, Nat.ble_eq]; simp; omega
theorem leI_eq (a b : Int) : leI a b = decide (a ≤ b) := by
 cases a <;> cases b <;> simp only [leI]
 ·rename_i m n; rw [Bool.eq_iff_iff, Nat.ble_eq]; simp
 ·rw [Bool.eq_iff_iff]; simp; omega
 ·rw [Bool.eq_iff_iff]; simp; omega
 ·rename_i m n; rw [Bool.eq_iff_iff, Nat.ble_eq]; simp; omega
theorem zIb {a b : IntKind} (h : eqK a b = true) : a = b := by cases a <;> cases b <;> first | rfl | (exact absurd h (by decide))
section
variable {P : Program} {ρ : Rho} {h : AH} {w : World} {s : Sem Next}
theorem Good.hF : ∀ n, Good P ρ h w s (.fail n) := fun _ => trivial
theorem Good.same {v : AV} {v' : Value} (W : WR ρ h w) (hs : s.run P w = .ok (.value v') w) (hv : VR ρ v v') : Good P ρ h w s (.val v h) :=
 ⟨ρ, v', w, .inl hs, hv, W, .refl _ _ _⟩
end
theorem cv_rel {ρ : Rho} {v : Value} {a : AV} (h : cv v = some a) : VR ρ a v ∧ a.isCell = true := by
 unfold cv at h
 split at h <;> first | (injection h with h; subst h; refine ⟨?_, rfl⟩) | cases h
 ·exact .bool _
 ·exact .int _ _
 ·exact .str _ rfl rfl
 ·exact .nilp
 ·exact .nils
 ·exact .nilm
 ·exact .nilf
 ·exact .nili
theorem mapM_cv {ρ : Rho} : ∀ {l : List Value} {a : List AV}, l.mapM cv = some a → VCs ρ a l
 | [], a, h => by simp at h; subst h; exact .nil
 | v :: l, a, h => by
  rw [List.mapM_cons] at h
  cases hv : cv v with
  | none => rw [hv] at h; cases h
  | some x =>
   rw [hv] at h
   cases hl : l.mapM cv with
   | none => rw [hl] at h; cases h
   | some y =>
    rw [hl] at h
    injection h with h; subst h
    exact .cons (cv_rel (ρ := ρ) hv).2 (cv_rel (ρ := ρ) hv).1 (mapM_cv hl)
theorem zBv {ρ : Rho} {v : Value} {a : List AV} (h : zB4 v = some a) : VCs ρ a v.cells.toList := by
 unfold zB4 at h
 split at h
 ·exact mapM_cv h
 ·rename_i hne
  cases hv : cv v with
  | none => rw [hv] at h; cases h
  | some x =>
   rw [hv] at h; injection h with h; subst h
   have : v.cells = #[v] := by unfold Value.cells; split <;> first | (exact absurd rfl (hne _)) | rfl
   rw [this]
   exact .cons (cv_rel (ρ := ρ) hv).2 (cv_rel (ρ := ρ) hv).1 .nil
theorem zCx {ρ : Rho} {v : Value} {a : AV} (h : cvVal v = some a) : VR ρ a v := by
 unfold cvVal at h
 split at h
 ·rename_i cs
  cases hl : cs.toList.mapM cv with
  | none => rw [hl] at h; cases h
  | some y => rw [hl] at h; injection h with h; subst h; exact .agg (mapM_cv hl) (by simp)
 ·exact (cv_rel h).1
section
variable {P : Program}
theorem zAw {t : TypeId} {n : Nat} (h : zA2 P t = some n) (w : World) : (sizeOf t).run P w = .ok n w := by
 unfold zA2 at h
 cases hi : P.info? t with
 | none => rw [hi] at h; cases h
 | some i => rw [hi] at h; injection h with h; subst h; simp [sizeOf, typeInfo, hi]
theorem zBf {t : TypeId} {z : Value} (h : zB5 P t = some z) (w : World) : (zeroValue t).run P w = .ok z w := by
 unfold zB5 at h
 cases hi : P.info? t with
 | none => rw [hi] at h; cases h
 | some i =>
  rw [hi] at h
  have h : i.zero = some z := h
  simp [zeroValue, typeInfo, hi, h]
theorem zDu {t : TypeId} {b : Bool} (h : tyAgg P t = some b) (w : World) : (isAgg t).run P w = .ok b w := by
 unfold tyAgg at h
 split at h
 ·rename_i hu; injection h with h; subst h; simp [isAgg, run_underlying hu]
 ·rename_i hu; injection h with h; subst h; simp [isAgg, run_underlying hu]
 ·rename_i d h1 h2 hu
  injection h with h; subst h
  simp only [isAgg, Sem.run_bind, run_underlying hu, Result.andThen_ok]
  cases d <;> first | rfl | (exact absurd hu (h1 _)) | (exact absurd hu (h2 _ _))
 ·cases h
end
end Go.Ev
namespace Go.Ev
open Go
variable [Glob]
def vv (s : Sem Value) : Sem Next := do pure (.value (← s))
def uu (s : Sem Unit) : Sem Next := do s; pure .skip
section
variable {P : Program} {ρ : Rho} {h : AH} {w : World}
theorem zAn {s : Sem Value} {v : Value} {w' : World} (e : s.run P w = .ok v w') : (vv s).run P w = .ok (.value v) w' := by simp [vv, e]
theorem uu_run {s : Sem Unit} {w' : World} (e : s.run P w = .ok () w') : (uu s).run P w = .ok .skip w' := by simp [uu, e]
variable {loc : T AV} {tmp : List AV}
theorem oMove_eq (x : Opd) : oMove x loc tmp h = F 13 ∨ oMove x loc tmp h = .val (ev loc tmp x) h := by
 unfold oMove
 cases ev loc tmp x <;> first | (left; rfl) | (right; rfl)
theorem s_move {x : Opd} {v : Value} (W : WR ρ h w) (hv : VR ρ (ev loc tmp x) v) : Good P ρ h w (pure (.value v)) (oMove x loc tmp h) := by
 rcases oMove_eq (loc := loc) (tmp := tmp) (h := h) x with e | e <;> rw [e]
 ·trivial
 ·exact .same W rfl hv
theorem s_pick {c a b : Opd} {c' a' b' : Value} (W : WR ρ h w) (hc : VR ρ (ev loc tmp c) c') (ha : VR ρ (ev loc tmp a) a') (hb : VR ρ (ev loc tmp b) b') :
  Good P ρ h w (do pure (.value (if ← asBool c' then a' else b'))) (oPick c a b loc tmp h) := by
 refine lift_bool Good.hF fun q e => ?_
 rw [e] at hc
 cases hc
 refine zBm (fun hq => ?_) (fun hq => ?_)
 ·have : (do pure (.value (if ← asBool (.bool q) then a' else b')) : Sem Next) = pure (.value a') := by subst hq; rfl
  rw [this]; exact s_move W ha
 ·have : (do pure (.value (if ← asBool (.bool q) then a' else b')) : Sem Next) = pure (.value b') := by subst hq; rfl
  rw [this]; exact s_move W hb
theorem ObjR.ofCells {l : List AV} {l' : List Value} {e : TypeId} {opn : Option Nat} {ro : Bool} (hl : VCs ρ l l') (ht : ∀ t, opn = some t → e = t ∧ 0 = 0) : ObjR ρ (.cells (zAc l) l.length opn ro) (.cells l'.toArray e (0, 0)) 0 l.length := by
 refine .cells (by simp [hl.length]) (Nat.le_refl _) (fun i a ha => ?_) (fun _ => rfl) ht
 rw [zAk] at ha
 obtain ⟨v, hv, hr, hc⟩ := hl.get ha
 refine ⟨?_, hc, v, by simpa using hv, hr⟩
 rcases Nat.lt_or_ge i l.length with h | h
 ·exact h
 ·rw [List.getElem?_eq_none h] at ha; cases ha
theorem zBl {e : TypeId} {cs : Array Value} : (newRow e cs).run P w = .ok ⟨w.heap.size, 0, none⟩ { w with heap := w.heap.push (.cells cs e) } := by
 simp [newRow]
theorem g_row {l : List AV} {cs : Array Value} {e : TypeId} (W : WR ρ h w) (hl : VCs ρ l cs.toList) :
  WR (ρ.ext h.next (w.heap.size, 0, l.length)) (h.add (.cells (zAc l) l.length none false)) { w with heap := w.heap.push (.cells cs e) } ∧
  Step ρ h w (ρ.ext h.next (w.heap.size, 0, l.length)) (h.add (.cells (zAc l) l.length none false)) { w with heap := w.heap.push (.cells cs e) } := by
 have := ObjR.ofCells (e := e) (opn := none) (ro := false) hl (fun _ h => by cases h)
 rw [Array.toArray_toList] at this
 exact W.alloc this rfl ⟨rfl, rfl, rfl⟩
theorem s_alloc {z : List AV} {e : TypeId} {zv : Value} (W : WR ρ h w) (h1 : zB5 P e = some zv) (h2 : zB4 zv = some z) :
  Good P ρ h w (vv (Instr.alloc e true (.tuple #[]))) (oAlloc z loc tmp h) := by
 unfold oAlloc
 rw [AH.new_eq, zBt]
 have hz : VCs ρ z zv.cells.toList := zBv h2
 obtain ⟨W', S'⟩ := g_row (e := e) W hz
 refine ⟨_, .pointer (some ⟨w.heap.size, 0, none⟩), _, .inl (zAn ?_), .ptr (Rho.ext_self _ _ _) rfl, W', S'⟩
 simp [Instr.alloc, zBf h1, newVar, zBl]
theorem s_box {x : Opd} {e : TypeId} {v : Value} (W : WR ρ h w) (hv : VR ρ (ev loc tmp x) v) : Good P ρ h w (vv (Instr.box e v)) (oBox x loc tmp h) := by
 have key : ∀ l : List AV, VCs ρ l v.cells.toList → Good P ρ h w (vv (Instr.box e v)) (AH.new h (AObj.cells (zAc l) l.length none false) fun id h => OR.val (AV.ptr id (nat_lit 0)) h) := by
  intro l hl
  rw [AH.new_eq]
  obtain ⟨W', S'⟩ := g_row (e := e) W hl
  refine ⟨_, .pointer (some ⟨w.heap.size, 0, none⟩), _, .inl (zAn ?_), .ptr (Rho.ext_self _ _ _) rfl, W', S'⟩
  simp [Instr.box, newVar, zBl]
 have one : ∀ a : AV, ev loc tmp x = a → a.isCell = true → VCs ρ [a] v.cells.toList := by
  intro a e hc
  rw [e] at hv
  have h1 := hv.oneCell hc
  have : v.cells = #[v] := by cases v <;> first | rfl | (simp [Value.oneCell'] at h1)
  rw [this]
  exact .cons hc hv .nil
 unfold oBox
 cases hx : ev loc tmp x with
 | bad => trivial
 | tup l => trivial
 | agg l =>
  rw [hx] at hv
  cases hv with
  | agg hl e => subst e; have := key l (by simpa [Value.cells] using hl); rw [← zBt] at this; exact this
 | _ => exact key _ (one _ hx rfl)
theorem zHh {b p : Nat} : (Instr.sureAddr (.pointer (some ⟨b, p, none⟩))).run P w = .ok ⟨b, p, none⟩ w := rfl
theorem s_load {x : Opd} {t : TypeId} {v : Value} (W : WR ρ h w) (ht : tyAgg P t = some false) (hv : VR ρ (ev loc tmp x) v) : Good P ρ h w (vv (Instr.loadAt t v)) (oLoad x loc tmp h) := by
 refine zE3 Good.hF fun id off e => zCs Good.hF fun c s o r hg => zAx Good.hF fun a ha => ?_
 rw [e] at hv
 cases hv with
 | ptr hr hp =>
  subst hp
  rw [AH.get_eq] at hg
  obtain ⟨y, hy, hyr⟩ := W.obj hg hr
  cases hyr with
  | cells a1 a2 a3 a4 a5 =>
   obtain ⟨_, _, u, hu, hur⟩ := a3 _ _ ha
   refine .same W (zAn ?_) hur
   simp only [Instr.loadAt, Sem.run_bind, zHh, Result.andThen_ok, loadVar, zDu ht, Bool.false_eq_true, if_false, run_load, zHc hy hu]
theorem s_loadN {x : Opd} {t : TypeId} {v : Value} {n : Nat} (W : WR ρ h w) (ht : tyAgg P t = some true) (hn : zA2 P t = some n) (hv : VR ρ (ev loc tmp x) v) : Good P ρ h w (vv (Instr.loadAt t v)) (oLoadN n x loc tmp h) := by
 refine zE3 Good.hF fun id off e => zCs Good.hF fun c s o r hg => zAx Good.hF fun l hl => ?_
 rw [e] at hv
 cases hv with
 | ptr hr hp =>
  subst hp
  rw [AH.get_eq] at hg
  obtain ⟨y, hy, hyr⟩ := W.obj hg hr
  obtain ⟨l', hrun, hl'⟩ := zFa (P := P) hy hyr hl
  refine .same W (zAn ?_) (.agg hl' rfl)
  simp only [Instr.loadAt, Sem.run_bind, zHh, Result.andThen_ok, loadVar, zDu ht, if_true, zAw hn, hrun]
  rfl
theorem zJ1 {a : AV} {v : Value} {l : List AV} (hv : VR ρ a v) (hc : cellsOf a = some l) : VCs ρ l v.cells.toList := by
 have one : a.isCell = true → l = [a] → VCs ρ l v.cells.toList := by
  intro hi e
  have h1 := hv.oneCell hi
  have : v.cells = #[v] := by cases v <;> first | rfl | (simp [Value.oneCell'] at h1)
  rw [this, e]
  exact .cons hi hv .nil
 cases a with
 | bad => cases hc
 | tup l => cases hc
 | agg l1 =>
  injection hc with hc; subst hc
  cases hv with
  | agg hl e => subst e; simpa [Value.cells] using hl
 | _ => injection hc with hc; exact one rfl hc.symm
theorem s_store {x a : Opd} {t : TypeId} {va vx : Value} {n : Nat} (W : WR ρ h w) (hn : zA2 P t = some n) (ha : VR ρ (ev loc tmp a) va) (hx : VR ρ (ev loc tmp x) vx) :
  Good P ρ h w (uu (Instr.storeAt t va vx)) (oStore n a x loc tmp h) := by
 refine zE3 Good.hF fun id off e => zCs Good.hF fun c s o r hg => zDs Good.hF fun hro => zAx Good.hF fun l hl => zAp Good.hF fun hlen => zAx Good.hF fun c' hc' => ?_
 subst hro
 rw [e] at ha
 cases ha with
 | ptr hr hp =>
  subst hp
  rw [AH.get_eq] at hg
  have hcells := zJ1 hx hl
  obtain ⟨hrun, W', S'⟩ := zCf (P := P) W hg hr hcells hc'
  refine ⟨ρ, undef, _, .inr ⟨uu_run ?_, rfl⟩, .tup .nil rfl, W', S'⟩
  have hsz : vx.cells.size = n := by
   have := hcells.length
   rw [zBt] at hlen
   have h2 : l.length = n := Nat.eq_of_beq_eq_true hlen
   simpa [h2] using this.symm
  simp only [Instr.storeAt, Sem.run_bind, zHh, Result.andThen_ok, storeVar, zAw hn, hsz, ne_eq, not_true_eq_false, if_false, Sem.run_pure, hrun]
theorem s_nil {x : Opd} {v : Value} {ps : String} {ty : TypeId} {d : Option Tmp} {af : Array Edge} {g : Option (Nat × Bool)} {y : Operand} {rc : Operand → Value} (W : WR ρ h w) (hv : VR ρ (ev loc tmp x) (rc y)) :
  Good P ρ h w (execOp rc { dst := d, op := .nilCheck y, type := ty, pos := ps, after := af, guard := g }) (oNil x loc tmp h) := by
 refine zE3 Good.hF fun id off e => ?_
 rw [e] at hv
 simp only [execOp]
 generalize rc y = v at hv
 cases hv with
 | ptr hr hp => exact .same W rfl (.ptr hr hp)
theorem s_fieldAddr {x : Opd} {t : TypeId} {v : Value} {i n : Nat} {fs : Array Field} {f : Field} (W : WR ρ h w) (hu : P.underlying t = some (.struct fs)) (hf : fs[i]? = some f) (hn : zA2 P f.type = some (n + 1)) (hv : VR ρ (ev loc tmp x) v) :
  Good P ρ h w (vv (Instr.fieldAt t v i)) (zGu f.offset x loc tmp h) := by
 refine zE3 Good.hF fun id off e => ?_
 rw [fN_eq]
 rw [e] at hv
 cases hv with
 | ptr hr hp =>
  subst hp
  refine .same W (zAn ?_) (.ptr hr rfl)
  simp only [Instr.fieldAt, Sem.run_bind, run_underlying hu, Result.andThen_ok, hf, zHh, fieldPlace, zAw hn, Nat.add_one_ne_zero, if_false, Sem.run_pure, zDt]
  simp [Nat.add_assoc]
theorem part_run {t : TypeId} {l : List AV} {l' : List Value} {off n : Nat} {g : Bool} (hg : tyAgg P t = some g) (hn : zA2 P t = some n) (hl : VCs ρ l l') :
  (∃ k, oPart off n g l h = F k) ∨ ∃ a v, oPart off n g l h = OR.val a h ∧ (part t l'.toArray off).run P w = .ok v w ∧ VR ρ a v := by
 unfold oPart
 cases g with
 | true =>
  right
  rw [zHo, zIy]
  refine ⟨_, _, rfl, ?_, .agg ((hl.drop off).take n) rfl⟩
  simp only [part, Sem.run_bind, zDu hg, Result.andThen_ok, if_true, zAw hn, Sem.run_pure]
  congr 2
  apply Array.ext'
  simp
 | false =>
  rw [nth_eq]
  cases hx : l[off]? with
  | none =>
   left
   refine ⟨39, ?_⟩
   have : l.getD off AV.bad = AV.bad := by simp [List.getD, hx]
   rw [this]; rfl
  | some a =>
   obtain ⟨v, hv, hr, hc⟩ := hl.get hx
   have hd : l.getD off AV.bad = a := by simp [List.getD, hx]
   rw [hd]
   right
   refine ⟨a, v, ?_, ?_, hr⟩
   ·cases a <;> first | rfl | (simp [AV.isCell] at hc)
   ·simp [part, zDu hg, hv]
theorem s_field {x : Opd} {t : TypeId} {v : Value} {i n : Nat} {g : Bool} {fs : Array Field} {f : Field} (W : WR ρ h w) (hu : P.underlying t = some (.struct fs)) (hf : fs[i]? = some f) (hn : zA2 P f.type = some n) (hg : tyAgg P f.type = some g) (hv : VR ρ (ev loc tmp x) v) :
  Good P ρ h w (vv (Instr.field t v i)) (zB6 f.offset n g x loc tmp h) := by
 refine lift_agg Good.hF fun l e => ?_
 rw [e] at hv
 cases hv with
 | agg hl hx =>
  subst hx
  rcases part_run (P := P) (w := w) (h := h) (off := f.offset) hg hn hl with ⟨k, e⟩ | ⟨a, v, e, hrun, hr⟩
  ·rw [e]; trivial
  ·rw [e]
   refine .same W (zAn ?_) hr
   simp only [Instr.field, Sem.run_bind, run_underlying hu, Result.andThen_ok, hf, asAgg, Sem.run_pure, hrun]
theorem zCp {k : IntKind} {n : Int} : (asIntOf (.int k n)).run P w = .ok (k, n) w := rfl
theorem s_idxAddr {x i : Opd} {t e : TypeId} {vx vi : Value} {n : Nat} (W : WR ρ h w) (hu : P.underlying t = some (.slice e)) (hn : zA2 P e = some n) (hx : VR ρ (ev loc tmp x) vx) (hi : VR ρ (ev loc tmp i) vi) :
  Good P ρ h w (vv (Instr.indexAt t vx vi)) (zIu n x i loc tmp h) := by
 refine zB1 Good.hF fun k q ei => zCz Good.hF fun m hm => zGf Good.hF (fun _ => trivial) fun id off len cap ex => zAp Good.hF fun hlt => ?_
 rw [fN_eq]
 rw [ei] at hi; rw [ex] at hx
 have hlt : m < len := Nat.le_of_ble_eq_true hlt
 cases hi
 cases hx with
 | slz => omega
 | sle => omega
 | sl hr hp hc =>
  subst hp; subst hm
  refine .same W (zAn ?_) (.ptr hr rfl)
  simp only [Instr.indexAt, Sem.run_bind, zCp, Result.andThen_ok, run_underlying hu, Sem.run_pure]
  rw [if_pos (by omega)]
  simp only [Sem.run_bind, zAw hn, Result.andThen_ok, Sem.run_pure, zDt]
  simp [Nat.add_assoc]
theorem s_idxAddrA {x i : Opd} {t e : TypeId} {vx vi : Value} {n len : Nat} (W : WR ρ h w) (hu : P.underlying t = some (.array len e)) (hn : zA2 P e = some n) (hx : VR ρ (ev loc tmp x) vx) (hi : VR ρ (ev loc tmp i) vi) :
  Good P ρ h w (vv (Instr.indexAt t vx vi)) (oIdxAddrA len n x i loc tmp h) := by
 refine zB1 Good.hF fun k q ei => zCz Good.hF fun m hm => zE3 Good.hF fun id off ex => zAp Good.hF fun hlt => ?_
 rw [fN_eq]
 rw [ei] at hi; rw [ex] at hx
 have hlt : m < len := Nat.le_of_ble_eq_true hlt
 cases hi
 cases hx with
 | ptr hr hp =>
  subst hp; subst hm
  refine .same W (zAn ?_) (.ptr hr rfl)
  simp only [Instr.indexAt, Sem.run_bind, zCp, Result.andThen_ok, run_underlying hu, zHh, Sem.run_pure]
  rw [if_pos (by omega)]
  simp only [Sem.run_bind, zAw hn, Result.andThen_ok, Sem.run_pure, zDt]
  simp [Nat.add_assoc]
theorem s_neg {x : Opd} {v : Value} (W : WR ρ h w) (hv : VR ρ (ev loc tmp x) v) : Good P ρ h w (vv (Op.unary .neg v)) (oNeg x loc tmp h) := by
 refine zB1 Good.hF fun k q e => ?_
 rw [e] at hv
 cases hv
 rw [zDo]
 refine .same W (zAn ?_) (.int _ _)
 simp [Op.unary, Op.intArith]
 rfl
theorem s_not {x : Opd} {v : Value} (W : WR ρ h w) (hv : VR ρ (ev loc tmp x) v) : Good P ρ h w (vv (Op.unary .not v)) (oNot x loc tmp h) := by
 refine lift_bool Good.hF fun q e => ?_
 rw [e] at hv
 cases hv
 rw [zC5]
 refine .same W (zAn ?_) (.bool _)
 cases q <;> simp [Op.unary, bi_eq]
theorem s_convI {x : Opd} {v : Value} {a b : TypeId} {k k' : IntKind} (W : WR ρ h w) (h1 : P.underlying a = some (.int k')) (h2 : P.underlying b = some (.int k)) (hv : VR ρ (ev loc tmp x) v) : Good P ρ h w (vv (convert a b v)) (oConvI k x loc tmp h) := by
 refine zB1 Good.hF fun k1 q e => ?_
 rw [e] at hv
 cases hv
 rw [zDo]
 refine .same W (zAn ?_) (.int _ _)
 simp [convert, run_underlying h1, run_underlying h2, Conv.intToInt]
theorem s_convS {x : Opd} {v : Value} {a b : TypeId} (W : WR ρ h w) (h1 : P.underlying a = some .string) (h2 : P.underlying b = some .string) (hv : VR ρ (ev loc tmp x) v) : Good P ρ h w (vv (convert a b v)) (oConvS x loc tmp h) := by
 refine zGv Good.hF fun l q e => ?_
 rw [e] at hv
 cases hv with
 | str s e1 e2 =>
  refine .same W (zAn ?_) (.str s e1 e2)
  simp [convert, run_underlying h1, run_underlying h2]
theorem s_mkIfc {x : Opd} {v : Value} {t : TypeId} {d : TypeDesc} (W : WR ρ h w) (hu : P.underlying t = some d) (hd : ∀ ms, d ≠ .interface ms) (hv : VR ρ (ev loc tmp x) v) : Good P ρ h w (vv (Instr.makeInterface t v)) (zIh t x loc tmp h) := by
 unfold zIh
 rcases oMove_eq (loc := loc) (tmp := tmp) (h := h) x with e | e <;> rw [e]
 ·trivial
 ·refine .same W (zAn ?_) (.ifc hv)
  simp only [Instr.makeInterface, Sem.run_bind, run_underlying hu, Result.andThen_ok]
  cases d <;> first | rfl | (exact absurd rfl (hd _))
theorem s_mkFn {a b : List Opd} {a' b' : Array Value} {f : Nat} (W : WR ρ h w) (ha : VRs ρ (evs loc tmp a) a'.toList) (hb : VRs ρ (evs loc tmp b) b'.toList) : Good P ρ h w (vv (Instr.makeFunc (.func f) a' b')) (oMkFn f a b loc tmp h) :=
 .same W (zAn rfl) (.fn ha hb (by simp) (by simp))
theorem s_extract {x : Opd} {v : Value} {i : Nat} (W : WR ρ h w) (hv : VR ρ (ev loc tmp x) v) : Good P ρ h w (vv (Instr.extract v i)) (zDr i x loc tmp h) := by
 refine lift_tup Good.hF fun l e => ?_
 rw [e] at hv
 cases hv with
 | tup hl hx =>
  subst hx
  rw [nth_eq]
  cases hx : l[i]? with
  | none =>
   have : l.getD i AV.bad = AV.bad := by simp [List.getD, hx]
   rw [this]; trivial
  | some a =>
   have hd : l.getD i AV.bad = a := by simp [List.getD, hx]
   rw [hd]
   obtain ⟨v, hv, hr⟩ := hl.get hx
   refine (?_ : Good P ρ h w _ _)
   cases a <;> first | exact .same W (zAn (by simp [Instr.extract, hv])) hr | trivial
end
end Go.Ev
namespace Go.Ev
open Go
variable [Glob]
theorem size_eq (s : ByteArray) : s.data.toList.length = s.size := by rw [Array.length_toList]; rfl
theorem zLv : encB [] = 0 := rfl
theorem zCm (c : UInt8) (l : List UInt8) : encB (c :: l) = c.toNat + 256 * encB l := rfl
theorem encB_lt (l : List UInt8) : encB l < 256 ^ l.length := by
 induction l with
 | nil => simp [zLv]
 | cons c l ih => rw [zCm, List.length_cons, Nat.pow_succ]; have := c.toNat_lt; omega
theorem zEv (a b : List UInt8) : encB (a ++ b) = encB a + encB b * 256 ^ a.length := by
 induction a with
 | nil => simp [zLv]
 | cons c a ih => rw [List.cons_append, zCm, zCm, ih, List.length_cons, Nat.pow_succ, Nat.mul_add, Nat.add_assoc]; congr 2; rw [← Nat.mul_assoc, Nat.mul_comm 256, Nat.mul_assoc, Nat.mul_comm 256]
theorem zHx (l : List UInt8) (i : Nat) : encB l / 256 ^ i = encB (l.drop i) := by
 induction i generalizing l with
 | zero => simp
 | succ i ih =>
  cases l with
  | nil => simp [zLv]
  | cons c l =>
   rw [zCm, List.drop_succ_cons, ← ih l, Nat.pow_succ, Nat.mul_comm (256 ^ i), ← Nat.div_div_eq_div_mul]
   have := c.toNat_lt
   congr 1; omega
theorem encB_take (l : List UInt8) (n : Nat) (hn : n ≤ l.length) : encB l % 256 ^ n = encB (l.take n) := by
 have h := zEv (l.take n) (l.drop n)
 rw [List.take_append_drop, List.length_take, Nat.min_eq_left hn] at h
 rw [h, Nat.add_mul_mod_self_right]
 have := encB_lt (l.take n)
 rw [List.length_take, Nat.min_eq_left hn] at this
 exact Nat.mod_eq_of_lt this
theorem zLw : ∀ {a b : List UInt8}, a.length = b.length → encB a = encB b → a = b
 | [], [], _, _ => rfl
 | [], _ :: _, h, _ => by simp at h
 | _ :: _, [], h, _ => by simp at h
 | c :: a, d :: b, h, e => by
  rw [zCm, zCm] at e
  have h1 := c.toNat_lt
  have h2 := d.toNat_lt
  have : c.toNat = d.toNat := by omega
  have h3 : encB a = encB b := by omega
  rw [UInt8.toNat_inj.1 this, zLw (by simpa using h) h3]
theorem encB_head (l : List UInt8) : encB l % 256 = ((l[0]?).map UInt8.toNat).getD 0 := by
 cases l with
 | nil => rfl
 | cons c l => rw [zCm]; have := c.toNat_lt; simp only [List.getElem?_cons_zero, Option.map_some, Option.getD_some]; omega
section
variable {P : Program} {ρ : Rho} {h : AH} {w : World} {loc : T AV} {tmp : List AV}
theorem zIx {G : OR → Prop} (hF : ∀ n, G (.fail n)) {o : Option Opd} {d : Nat} {k : Nat → OR} (h0 : o = none → G (k d)) (h1 : ∀ x kk m, o = some x → ev loc tmp x = .int kk (m : Nat) → G (k m)) : G (zD9 loc tmp o d k) := by
 cases o with
 | none => exact h0 rfl
 | some x => exact zB1 hF fun kk q e => zCz hF fun m hm => h1 x kk m rfl (by rw [e, hm])
def OptR (ρ : Rho) (loc : T AV) (tmp : List AV) (o : Option Opd) (v : Option Value) : Prop := match o, v with
 | none, none => True
 | some x, some v => VR ρ (ev loc tmp x) v
 | _, _ => False
theorem zGc {o : Option Opd} {v : Option Value} (h : OptR ρ loc tmp o v) (e : o = none) : v = none := by subst e; cases v with
 | none => rfl
 | some v => exact h.elim
theorem zGb {o : Option Opd} {v : Option Value} {x : Opd} {kk : IntKind} {m : Nat} (h : OptR ρ loc tmp o v) (e : o = some x) (ei : ev loc tmp x = .int kk (m : Nat)) : v = some (.int kk m) := by
 subst e
 cases v with
 | none => exact h.elim
 | some v =>
  have h : VR ρ (ev loc tmp x) v := h
  rw [ei] at h; cases h; rfl
theorem zCa {kk : IntKind} {m y : Nat} {c : BoundsCode} (hm : m ≤ y) : (Instr.sliceBound (.int kk m) y c).run P w = .ok m w := by
 simp only [Instr.sliceBound, Sem.run_bind, zCp, Result.andThen_ok]
 rw [if_pos (by omega)]
 simp
theorem s_sliceS {x : Opd} {lo hi : Option Opd} {t : TypeId} {vx : Value} {vlo vhi : Option Value} (W : WR ρ h w) (hu : P.underlying t = some .string) (hx : VR ρ (ev loc tmp x) vx) (hlo : OptR ρ loc tmp lo vlo) (hhi : OptR ρ loc tmp hi vhi) :
  Good P ρ h w (vv (Instr.sliceAt t vx vlo vhi none)) (zDe x lo hi loc tmp h) := by
 refine zGv Good.hF fun len b ex => ?_
 rw [ex] at hx
 cases hx with
 | str s e1 e2 =>
  have key : ∀ (l h' : Nat), l ≤ h' → h' ≤ len → (∀ (hr : (Instr.sliceBounds false s.size s.size vlo vhi none).run P w = .ok (l, h', s.size) w),
    Good P ρ h w (vv (Instr.sliceAt t (.string s) vlo vhi none)) (fN (Nat.sub h' l) fun n => fN (Nat.mod (Nat.div b (Nat.pow (nat_lit 256) l)) (Nat.pow (nat_lit 256) n)) fun m => OR.val (AV.str n m) h)) := by
   intro l h' h1 h2 hr
   rw [fN_eq, fN_eq]
   refine .same W (zAn (v := .string (s.extract l h')) ?_) (.str _ ?_ ?_)
   ·simp only [Instr.sliceAt, Sem.run_bind, run_underlying hu, Result.andThen_ok, Instr.slice]
    simp [hr]
   ·show h' - l = _
    rw [ByteArray.data_extract]
    simp
    have : s.size = len := by rw [e1, size_eq]
    omega
   ·show Nat.mod (Nat.div b (Nat.pow 256 l)) (Nat.pow 256 (h' - l)) = _
    have e3 : Nat.mod (Nat.div b (Nat.pow 256 l)) (Nat.pow 256 (h' - l)) = (b / 256 ^ l) % 256 ^ (h' - l) := rfl
    rw [e3, e2, zHx, encB_take _ _ (by rw [List.length_drop]; omega), ByteArray.data_extract]
    congr 1
    simp [List.take_drop]
  have hlen : s.size = len := by rw [e1, size_eq]
  refine zIx Good.hF (fun e0 => ?_) (fun y kk m e0 ei => ?_)
  ·have v0 := zGc hhi e0
   refine zIx Good.hF (fun e1 => ?_) (fun z kk' m' e1 ei' => ?_)
   ·have v1 := zGc hlo e1
    subst v0; subst v1
    refine zAp Good.hF fun hb => zAp Good.hF fun hb2 => key 0 len (Nat.zero_le _) (Nat.le_refl _) ?_
    simp [Instr.sliceBounds, hlen]
   ·have v1 := zGb hlo e1 ei'
    subst v0; subst v1
    refine zAp Good.hF fun hb => zAp Good.hF fun hb2 => ?_
    have hb2 : m' ≤ len := Nat.le_of_ble_eq_true hb2
    refine key m' len hb2 (Nat.le_refl _) ?_
    simp [Instr.sliceBounds, hlen, zCa (P := P) (w := w) (kk := kk') (c := .sliceB) hb2]
  ·have v0 := zGb hhi e0 ei
   refine zIx Good.hF (fun e1 => ?_) (fun z kk' m' e1 ei' => ?_)
   ·have v1 := zGc hlo e1
    subst v0; subst v1
    refine zAp Good.hF fun hb => zAp Good.hF fun hb2 => ?_
    have hb : m ≤ len := Nat.le_of_ble_eq_true hb
    refine key 0 m (Nat.zero_le _) hb ?_
    simp [Instr.sliceBounds, hlen, zCa (P := P) (w := w) (kk := kk) (c := .sliceAlen) hb]
   ·have v1 := zGb hlo e1 ei'
    subst v0; subst v1
    refine zAp Good.hF fun hb => zAp Good.hF fun hb2 => ?_
    have hb : m ≤ len := Nat.le_of_ble_eq_true hb
    have hb2 : m' ≤ m := Nat.le_of_ble_eq_true hb2
    refine key m' m hb2 hb ?_
    simp [Instr.sliceBounds, hlen, zCa (P := P) (w := w) (kk := kk) (c := .sliceAlen) hb, zCa (P := P) (w := w) (kk := kk') (c := .sliceB) hb2]
theorem s_idxS {x i : Opd} {t : TypeId} {vx vi : Value} (W : WR ρ h w) (hu : P.underlying t = some .string) (hx : VR ρ (ev loc tmp x) vx) (hi : VR ρ (ev loc tmp i) vi) :
  Good P ρ h w (vv (Instr.index t vx vi)) (oIdxS x i loc tmp h) := by
 refine zB1 Good.hF fun k q ei => zCz Good.hF fun m hm => zGv Good.hF fun len b ex => zAp Good.hF fun hlt => ?_
 rw [fN_eq]
 rw [ei] at hi; rw [ex] at hx
 have hlt : m < len := Nat.le_of_ble_eq_true hlt
 cases hi
 cases hx with
 | str s e1 e2 =>
  subst hm
  have hs : m < s.size := by have : s.size = len := by rw [e1, size_eq]
                             omega
  have hb : Nat.mod (Nat.div b (Nat.pow (nat_lit 256) m)) (nat_lit 256) = s[m].toNat := by
   have e3 : Nat.mod (Nat.div b (Nat.pow (nat_lit 256) m)) (nat_lit 256) = (b / 256 ^ m) % 256 := rfl
   rw [e3, e2, zHx, encB_head, List.getElem?_drop, Nat.add_zero]
   have : s.data.toList[m]? = some s[m] := by
    rw [List.getElem?_eq_getElem (by rw [size_eq]; exact hs)]; rfl
   rw [this]; rfl
  rw [hb]
  refine .same W (zAn (v := .int .u8 (s[m].toNat : Int)) ?_) (.int _ _)
  simp only [Instr.index, Sem.run_bind, zCp, Result.andThen_ok, run_underlying hu]
  rw [if_pos (by omega)]
  have h2 : s[(m : Int).toNat]? = some s[m] := by simp [hs]
  rw [h2]
  rfl
theorem s_idxA {x i : Opd} {t e : TypeId} {vx vi : Value} {len n : Nat} {g : Bool} (W : WR ρ h w) (hu : P.underlying t = some (.array len e)) (hn : zA2 P e = some n) (hg : tyAgg P e = some g) (hx : VR ρ (ev loc tmp x) vx) (hi : VR ρ (ev loc tmp i) vi) :
  Good P ρ h w (vv (Instr.index t vx vi)) (oIdxA len n g x i loc tmp h) := by
 refine zB1 Good.hF fun k q ei => zCz Good.hF fun m hm => zAp Good.hF fun hlt => lift_agg Good.hF fun l ex => ?_
 rw [ei] at hi; rw [ex] at hx
 have hlt : m < len := Nat.le_of_ble_eq_true hlt
 cases hi
 cases hx with
 | agg hl hx =>
  subst hx; subst hm
  rcases part_run (P := P) (w := w) (h := h) (off := m * n) hg hn hl with ⟨k, e⟩ | ⟨a, v, e, hrun, hr⟩
  ·rw [fN_eq, show Nat.mul m n = m * n from rfl, e]; trivial
  ·rw [fN_eq, show Nat.mul m n = m * n from rfl, e]
   refine .same W (zAn ?_) hr
   simp only [Instr.index, Sem.run_bind, zCp, Result.andThen_ok, run_underlying hu]
   rw [if_pos (by omega)]
   simp [zAw hn, hrun]
theorem s_lenS {x : Opd} {ats : Array TypeId} {t ty : TypeId} {v : Value} (W : WR ρ h w) (h0 : ats[0]? = some t) (hu : P.underlying t = some .string) (hv : VR ρ (ev loc tmp x) v) :
  Good P ρ h w (vv (Builtin.len_ ats ty #[v])) (oLen .str x loc tmp h) := by
 refine zGv Good.hF fun l b e => ?_
 rw [e] at hv
 rw [zDm]
 cases hv with
 | str s e1 e2 =>
  subst e1
  refine .same W (zAn ?_) (.int _ _)
  rw [size_eq]
  simp [Builtin.len_, h0, run_underlying hu, goInt]
theorem s_lenV {x : Opd} {ats : Array TypeId} {t e ty : TypeId} {v : Value} (W : WR ρ h w) (h0 : ats[0]? = some t) (hu : P.underlying t = some (.slice e)) (hv : VR ρ (ev loc tmp x) v) :
  Good P ρ h w (vv (Builtin.len_ ats ty #[v])) (oLen .sl x loc tmp h) := by
 refine zGf Good.hF (fun e => ?_) fun id off len cap e => ?_
 ·rw [e] at hv
  rw [zDm]
  cases hv
  exact .same W (zAn (by simp [Builtin.len_, h0, run_underlying hu, goInt])) (.int _ _)
 ·rw [e] at hv
  rw [zDm]
  cases hv with
  | slz => exact .same W (zAn (by simp [Builtin.len_, h0, run_underlying hu, goInt])) (.int _ _)
  | sle => exact .same W (zAn (by simp [Builtin.len_, h0, run_underlying hu, goInt])) (.int _ _)
  | sl hr hp hc => exact .same W (zAn (by simp [Builtin.len_, h0, run_underlying hu, goInt])) (.int _ _)
theorem elen_eq (es : List (AV × AV × Nat)) : elen es = es.length := by
 induction es with
 | nil => rfl
 | cons e es ih => show Nat.succ (elen es) = _; rw [ih]; rfl
theorem ERs.length : ∀ {l : List (AV × AV × Nat)} {l' : List MapEntry}, ERs ρ l l' → l.length = l'.length
 | _, _, .nil => rfl
 | _, _, .cons _ _ _ r => by simp [ERs.length r]
theorem zFf {r : Nat} {o : Obj} (hr : w.heap[r]? = some o) (hc : ∀ a b c, o ≠ .cells a b c) : (getObj r).run P w = .ok o w := by
 cases o <;> first | (simp [getObj, Sem.run, hr]; done) | (exact absurd rfl (hc _ _ _))
theorem s_lenM {x : Opd} {ats : Array TypeId} {t k e ty : TypeId} {v : Value} (W : WR ρ h w) (h0 : ats[0]? = some t) (hu : P.underlying t = some (.map k e)) (hv : VR ρ (ev loc tmp x) v) :
  Good P ρ h w (vv (Builtin.len_ ats ty #[v])) (oLen .map x loc tmp h) := by
 show Good P ρ h w _ (lenM x loc tmp h)
 unfold lenM
 cases hx : ev loc tmp x with
 | mp id =>
  refine zDf Good.hF fun es c hg => ?_
  rw [hx] at hv
  rw [zDm, elen_eq]
  cases hv with
  | mp hr =>
   rw [AH.get_eq] at hg
   obtain ⟨y, hy, hyr⟩ := W.obj hg hr
   cases hyr with
   | map he =>
    refine .same W (zAn ?_) (.int _ _)
    rw [he.length]
    simp [Builtin.len_, h0, run_underlying hu, goInt, zFf hy]
 | nilm =>
  rw [hx] at hv
  show Good P ρ h w _ (natV 0 h)
  rw [zDm]
  cases hv
  exact .same W (zAn (by simp [Builtin.len_, h0, run_underlying hu, goInt])) (.int _ _)
 | _ => trivial
theorem s_cap {x : Opd} {ats : Array TypeId} {t e ty : TypeId} {v : Value} (W : WR ρ h w) (h0 : ats[0]? = some t) (hu : P.underlying t = some (.slice e)) (hv : VR ρ (ev loc tmp x) v) :
  Good P ρ h w (vv (Builtin.cap_ ats ty #[v])) (oCap x loc tmp h) := by
 refine zGf Good.hF (fun e => ?_) fun id off len cap e => ?_
 ·rw [e] at hv
  rw [zDm]
  cases hv
  exact .same W (zAn (by simp [Builtin.cap_, h0, run_underlying hu, goInt])) (.int _ _)
 ·rw [e] at hv
  cases cap with
  | rest es => trivial
  | known c =>
   show Good P ρ h w _ (natV c h)
   rw [zDm]
   cases hv with
   | slz => exact .same W (zAn (by simp [Builtin.cap_, h0, run_underlying hu, goInt])) (.int _ _)
   | sl hr hp hc =>
    cases hc
    exact .same W (zAn (by simp [Builtin.cap_, h0, run_underlying hu, goInt])) (.int _ _)
theorem s_max {x y : Opd} {ats : Array TypeId} {ty : TypeId} {v u : Value} (W : WR ρ h w) (hv : VR ρ (ev loc tmp x) v) (hu : VR ρ (ev loc tmp y) u) :
  Good P ρ h w (vv (Builtin.max_ ats ty #[v, u])) (oMax x y loc tmp h) := by
 refine zB1 Good.hF fun k m e1 => zB1 Good.hF fun k' n e2 => ?_
 rw [e1] at hv; rw [e2] at hu
 cases hv; cases hu
 rw [zIj]
 refine zBm (fun q => ?_) (fun q => ?_)
 ·refine .same W (zAn ?_) (.int _ _)
  have q : m < n := of_decide_eq_true q
  simp [Builtin.max_, Builtin.max2, q]
 ·refine .same W (zAn ?_) (.int _ _)
  have q : ¬ m < n := of_decide_eq_false q
  simp [Builtin.max_, Builtin.max2, q]
theorem s_min {x y : Opd} {ats : Array TypeId} {ty : TypeId} {v u : Value} (W : WR ρ h w) (hv : VR ρ (ev loc tmp x) v) (hu : VR ρ (ev loc tmp y) u) :
  Good P ρ h w (vv (Builtin.min_ ats ty #[v, u])) (oMin x y loc tmp h) := by
 refine zB1 Good.hF fun k m e1 => zB1 Good.hF fun k' n e2 => ?_
 rw [e1] at hv; rw [e2] at hu
 cases hv; cases hu
 rw [zIj]
 refine zBm (fun q => ?_) (fun q => ?_)
 ·refine .same W (zAn ?_) (.int _ _)
  have q : n < m := of_decide_eq_true q
  simp [Builtin.min_, Builtin.min2, q]
 ·refine .same W (zAn ?_) (.int _ _)
  have q : ¬ n < m := of_decide_eq_false q
  simp [Builtin.min_, Builtin.min2, q]
theorem s_mkMap {t : TypeId} (W : WR ρ h w) : Good P ρ h w (vv (Instr.makeMap t none)) (oMkMap loc tmp h) := by
 unfold oMkMap
 rw [AH.new_eq]
 obtain ⟨W', S'⟩ := W.alloc (x := .map #[] 0) (o := .map [] 0) (s := 0) (w' := { w with heap := w.heap.push (.map #[] 0) }) (.map .nil) rfl ⟨rfl, rfl, rfl⟩
 exact ⟨_, .map (some w.heap.size), _, .inl (zAn (by simp [Instr.makeMap])), .mp (Rho.ext_self _ _ _), W', S'⟩
theorem s_assert {x : Opd} {t st : TypeId} {ok : Bool} {z : AV} {zv v : Value} {d : TypeDesc} (W : WR ρ h w) (hu : P.underlying t = some d) (hd : ∀ ms, d ≠ .interface ms) (hz : zB5 P t = some zv) (hzv : cvVal zv = some z) (hv : VR ρ (ev loc tmp x) v) :
  Good P ρ h w (vv (Instr.typeAssert v st t ok)) (zJi t ok z x loc tmp h) := by
 have hnil : (Instr.typeAssert .nilIface st t true).run P w = .ok (.tuple #[zv, .bool false]) w := by
  simp only [Instr.typeAssert, Sem.run_bind, run_underlying hu, Result.andThen_ok]
  cases d <;> first | (exact absurd rfl (hd _)) | simp [zBf hz]
 unfold zJi
 cases hx : ev loc tmp x with
 | nili =>
  rw [hx] at hv
  cases hv
  refine zAp Good.hF fun hok => ?_
  subst hok
  exact .same W (zAn hnil) (.tup (.cons (zCx hzv) (.cons (.bool _) .nil)) rfl)
 | ifc t' a =>
  rw [hx] at hv
  cases hv with
  | ifc hv =>
   rename_i v'
   refine zBm (fun he => ?_) (fun he => ?_)
   ·have he : t = t' := Nat.eq_of_beq_eq_true he
    subst he
    have hr : (Instr.typeAssert (.iface t v') st t ok).run P w = .ok (if ok then .tuple #[v', .bool true] else v') w := by
     simp only [Instr.typeAssert, Sem.run_bind, run_underlying hu, Result.andThen_ok]
     cases d <;> first | (exact absurd rfl (hd _)) | simp
    refine zBm (fun hok => ?_) (fun hok => ?_)
    ·subst hok
     exact .same W (zAn hr) (.tup (.cons hv (.cons (.bool _) .nil)) rfl)
    ·subst hok
     exact .same W (zAn hr) hv
   ·have he : t ≠ t' := fun e => by subst e; rw [show Nat.beq t t = true from Nat.beq_refl t] at he; cases he
    refine zAp Good.hF fun hok => ?_
    subst hok
    have hr : (Instr.typeAssert (.iface t' v') st t true).run P w = .ok (.tuple #[zv, .bool false]) w := by
     simp only [Instr.typeAssert, Sem.run_bind, run_underlying hu, Result.andThen_ok]
     cases d <;> first | (exact absurd rfl (hd _)) | simp [zBf hz, Ne.symm he]
    exact .same W (zAn hr) (.tup (.cons (zCx hzv) (.cons (.bool _) .nil)) rfl)
 | _ => trivial
theorem s_panic {x : Opd} {v : Value} (W : WR ρ h w) (hv : VR ρ (ev loc tmp x) v) : Good P ρ h w (vv (Instr.panic v)) (oPanic x loc tmp h) := by
 unfold oPanic
 cases hx : ev loc tmp x with
 | ifc t a =>
  rw [hx] at hv
  cases hv with
  | ifc hv => exact ⟨_, by simp [vv, Instr.panic], .ifc hv⟩
 | _ => trivial
end
end Go.Ev
namespace Go.Ev
open Go
variable [Glob]
section
variable {P : Program} {ρ : Rho} {h : AH} {w : World} {loc : T AV} {tmp : List AV}
theorem guard_run {op : BinOp} {a : ABin} (hop : cBin op = some a) {t : TypeId} {x y : Operand} {u v : Value} : (eqGuard op t x y u v).run P w = .ok () w := by
 cases op <;> first | (simp [cBin] at hop; done) | simp [eqGuard]
theorem zFi {k : IntKind} {n : Int} (h : zB3 k n = true) (h0 : 0 ≤ n) : (BitVec.ofInt k.bits n).toNat = n.toNat ∧ n.toNat < 2 ^ k.bits := by
 have : n.toNat < 2 ^ k.bits := by
  cases k <;> cases n <;> simp only [zB3, rIn, rUn, Nat.ble_eq, Bool.false_eq_true] at h <;> simp only [IntKind.bits] <;> simp <;> omega
 refine ⟨?_, this⟩
 rw [BitVec.toNat_ofInt]
 have e : n = (n.toNat : Int) := by omega
 rw [e, Int.toNat_natCast]
 have : ((n.toNat : Int) % ((2 ^ k.bits : Nat) : Int)) = (n.toNat : Int) := Int.emod_eq_of_lt (by omega) (by exact_mod_cast this)
 rw [this]; simp; omega
theorem s_bin_int {op : BinOp} {a : ABin} {k : IntKind} {m n : Int} {t : TypeId} {s : Sem Next} (W : WR ρ h w) (hop : cBin op = some a) (hs : op ≠ .shl ∧ op ≠ .shr) (hrun : ∀ v w', (binOp op t (.int k m) (.int k n)).run P w = .ok v w' → s.run P w = .ok (.value v) w') :
  Good P ρ h w s (intBin a k m n h) := by
 have fin : ∀ v : Value, ∀ a : AV, (binOp op t (.int k m) (.int k n)).run P w = .ok v w → VR ρ a v → Good P ρ h w s (OR.val a h) := fun v a hr hv => .same W (hrun _ _ hr) hv
 cases op <;> simp only [cBin, Option.some.injEq, reduceCtorEq] at hop <;> subst hop
 case add => show Good P ρ h w s (intV k (Int.add m n) h); rw [zDo]; exact fin _ _ (by first | (simp [binOp, Op.intArith]; done) | (simp [binOp, Op.intArith]; rfl)) (.int _ _)
 case sub => show Good P ρ h w s (intV k (Int.sub m n) h); rw [zDo]; exact fin _ _ (by first | (simp [binOp, Op.intArith]; done) | (simp [binOp, Op.intArith]; rfl)) (.int _ _)
 case mul => show Good P ρ h w s (intV k (Int.mul m n) h); rw [zDo]; exact fin _ _ (by first | (simp [binOp, Op.intArith]; done) | (simp [binOp, Op.intArith]; rfl)) (.int _ _)
 case quo =>
  refine zDs Good.hF fun hz => ?_
  rw [zF0] at hz
  have hz : ¬ n = 0 := of_decide_eq_false hz
  rw [zDo]; exact fin _ _ (by simp [binOp, Op.intDiv, hz]) (.int _ _)
 case rem =>
  refine zDs Good.hF fun hz => ?_
  rw [zF0] at hz
  have hz : ¬ n = 0 := of_decide_eq_false hz
  rw [fI_eq]; exact fin _ _ (by simp [binOp, Op.intDiv, hz]) (.int _ _)
 case and =>
  refine zAp Good.hF fun h1 => zAp Good.hF fun h2 => ?_
  cases m with
  | negSucc m => trivial
  | ofNat m =>
   cases n with
   | negSucc n => trivial
   | ofNat n =>
    show Good P ρ h w s (fN (Nat.land m n) fun n => bi (zB3 k (Int.ofNat n)) (OR.val (AV.int k (Int.ofNat n)) h) (F 23))
    rw [fN_eq]
    refine zAp Good.hF fun h3 => fin (.int k ((m &&& n : Nat) : Int)) _ ?_ (.int _ _)
    have b1 := (zFi h1 (by simp)).1
    have b2 := (zFi h2 (by simp)).1
    have : k.wrap ((m &&& n : Nat) : Int) = ((m &&& n : Nat) : Int) := zCl h3
    simp only [binOp, ne_eq, not_true_eq_false, if_false, Op.intBits, BitVec.toNat_and, b1, b2]
    simp [this]
 case or =>
  refine zAp Good.hF fun h1 => zAp Good.hF fun h2 => ?_
  cases m with
  | negSucc m => trivial
  | ofNat m =>
   cases n with
   | negSucc n => trivial
   | ofNat n =>
    show Good P ρ h w s (fN (Nat.lor m n) fun n => bi (zB3 k (Int.ofNat n)) (OR.val (AV.int k (Int.ofNat n)) h) (F 23))
    rw [fN_eq]
    refine zAp Good.hF fun h3 => fin (.int k ((m ||| n : Nat) : Int)) _ ?_ (.int _ _)
    have b1 := (zFi h1 (by simp)).1
    have b2 := (zFi h2 (by simp)).1
    have : k.wrap ((m ||| n : Nat) : Int) = ((m ||| n : Nat) : Int) := zCl h3
    simp only [binOp, ne_eq, not_true_eq_false, if_false, Op.intBits, BitVec.toNat_or, b1, b2]
    simp [this]
 case xor =>
  refine zAp Good.hF fun h1 => zAp Good.hF fun h2 => ?_
  cases m with
  | negSucc m => trivial
  | ofNat m =>
   cases n with
   | negSucc n => trivial
   | ofNat n =>
    show Good P ρ h w s (fN (Nat.xor m n) fun n => bi (zB3 k (Int.ofNat n)) (OR.val (AV.int k (Int.ofNat n)) h) (F 23))
    rw [fN_eq]
    refine zAp Good.hF fun h3 => fin (.int k ((m ^^^ n : Nat) : Int)) _ ?_ (.int _ _)
    have b1 := (zFi h1 (by simp)).1
    have b2 := (zFi h2 (by simp)).1
    have : k.wrap ((m ^^^ n : Nat) : Int) = ((m ^^^ n : Nat) : Int) := zCl h3
    simp only [binOp, ne_eq, not_true_eq_false, if_false, Op.intBits, BitVec.toNat_xor, b1, b2]
    simp [this]
 case shl => exact absurd rfl hs.1
 case shr => exact absurd rfl hs.2
 case andNot => trivial
 case lss => show Good P ρ h w s (Ev.bool (ltI m n) h); rw [zC5, zIj]; exact fin _ _ (by simp [binOp, Op.intCmp]) (.bool _)
 case leq => show Good P ρ h w s (Ev.bool (leI m n) h); rw [zC5, leI_eq]; exact fin _ _ (by simp [binOp, Op.intCmp]) (.bool _)
 case gtr => show Good P ρ h w s (Ev.bool (ltI n m) h); rw [zC5, zIj]; exact fin _ _ (by simp [binOp, Op.intCmp]) (.bool _)
 case geq => show Good P ρ h w s (Ev.bool (leI n m) h); rw [zC5, leI_eq]; exact fin _ _ (by simp [binOp, Op.intCmp]) (.bool _)
end
end Go.Ev
namespace Go.Ev
open Go
variable [Glob]
section
variable {P : Program} {ρ : Rho} {h : AH} {w : World} {loc : T AV} {tmp : List AV}
theorem wrap_zero (k : IntKind) (x : Int) : k.wrap (x * 2 ^ k.bits) = 0 := by
 cases k <;> simp [IntKind.wrap, IntKind.bits, IntKind.signed]
theorem s_shift {op : BinOp} {a : ABin} {k k' : IntKind} {m n : Int} {t : TypeId} {s : Sem Next} (W : WR ρ h w) (hop : cBin op = some a) (hs : op = .shl ∨ op = .shr) (hrun : ∀ v w', (binOp op t (.int k m) (.int k' n)).run P w = .ok v w' → s.run P w = .ok (.value v) w') :
  Good P ρ h w s (zIt a k m n h) := by
 have fin : ∀ v : Value, ∀ a : AV, (binOp op t (.int k m) (.int k' n)).run P w = .ok v w → VR ρ a v → Good P ρ h w s (OR.val a h) := fun v a hr hv => .same W (hrun _ _ hr) hv
 refine zCz Good.hF fun q hq => ?_
 subst hq
 rcases hs with rfl | rfl <;> simp only [cBin, Option.some.injEq] at hop <;> subst hop
 ·refine zBm (fun hb => ?_) (fun hb => ?_)
  ·have hb : q ≤ k.bits := Nat.le_of_ble_eq_true hb
   rw [zDo]
   refine fin _ _ ?_ (.int _ _)
   simp only [binOp, Op.shift]
   rw [if_neg (by omega)]
   simp [Nat.min_eq_left hb]
  ·have hb : k.bits < q := by
    rcases Nat.lt_or_ge k.bits q with h | h
    ·exact h
    ·have : Nat.ble q k.bits = true := by rw [Nat.ble_eq]; exact h
     rw [this] at hb; cases hb
   refine fin (.int k 0) _ ?_ (.int _ _)
   simp only [binOp, Op.shift]
   rw [if_neg (by omega)]
   have := wrap_zero k m
   simp [Nat.min_eq_right (Nat.le_of_lt hb), this]
 ·refine zCz Good.hF fun x hx => zAp Good.hF fun hb => ?_
  subst hx
  have hb : q ≤ k.bits := Nat.le_of_ble_eq_true hb
  rw [fN_eq]
  refine fin (.int k ((x / 2 ^ q : Nat) : Int)) _ ?_ (.int _ _)
  simp only [binOp, Op.shift]
  rw [if_neg (by omega)]
  have e : (2 : Int) ^ q = ((2 ^ q : Nat) : Int) := by simp
  simp only [Int.toNat_natCast, Nat.min_eq_left hb, Sem.run_pure, e]
  rw [Int.fdiv_eq_ediv_of_nonneg _ (Int.natCast_nonneg _)]
  rfl
theorem s_strBin {op : BinOp} {a : ABin} {l b l' b' : Nat} {x y : Value} {t : TypeId} {s : Sem Next} (W : WR ρ h w) (hop : cBin op = some a) (hx : VR ρ (.str l b) x) (hy : VR ρ (.str l' b') y) (hrun : ∀ v w', (binOp op t x y).run P w = .ok v w' → s.run P w = .ok (.value v) w') :
  Good P ρ h w s (strBin a l b l' b' h) := by
 cases hx with
 | str sx e1 e2 =>
  cases hy with
  | str sy e3 e4 =>
   cases op <;> simp only [cBin, Option.some.injEq, reduceCtorEq] at hop <;> subst hop
   case add =>
    refine zAp Good.hF fun hb => ?_
    rw [fN_eq, fN_eq]
    have hb : l + l' ≤ 9223372036854775807 := Nat.le_of_ble_eq_true hb
    refine .same W (hrun (.string (sx ++ sy)) w ?_) (.str _ ?_ ?_)
    ·simp only [binOp, Op.stringOp]
     rw [if_neg]
     ·simp
     ·rw [size_eq] at e1 e3
      simp [IntKind.max, IntKind.signed, IntKind.bits]
      omega
    ·show l + l' = _
     rw [ByteArray.data_append]; simp [e1, e3]
    ·show b + b' * 256 ^ l = _
     rw [ByteArray.data_append, Array.toList_append, zEv, e2, e4, e1]
   all_goals trivial
theorem isShift_iff {op : BinOp} {a : ABin} (hop : cBin op = some a) : (zLq a = true → op = .shl ∨ op = .shr) ∧ (zLq a = false → op ≠ .shl ∧ op ≠ .shr) := by
 cases op <;> simp only [cBin, Option.some.injEq, reduceCtorEq] at hop <;> subst hop <;> simp [zLq]
theorem s_bin {op : BinOp} {a : ABin} {x y : Opd} {x' y' : Operand} {u v : Value} {t : TypeId} (W : WR ρ h w) (hop : cBin op = some a) (hx : VR ρ (ev loc tmp x) u) (hy : VR ρ (ev loc tmp y) v) :
  Good P ρ h w (vv (do eqGuard op t x' y' u v; binOp op t u v)) (oBin a x y loc tmp h) := by
 have hrun : ∀ r w', (binOp op t u v).run P w = .ok r w' → (vv (do eqGuard op t x' y' u v; binOp op t u v)).run P w = .ok (.value r) w' := by
  intro r w' hr
  refine zAn ?_
  rw [Sem.run_bind, guard_run hop]
  exact hr
 unfold oBin
 cases ex : ev loc tmp x with
 | int k m =>
  rw [ex] at hx
  cases hx
  refine zB1 Good.hF fun k' n ey => ?_
  rw [ey] at hy
  cases hy
  obtain ⟨i1, i2⟩ := isShift_iff hop
  refine zBm (fun hs => s_shift W hop (i1 hs) hrun) (fun hs => zAp Good.hF fun hk => ?_)
  have := zIb hk
  subst this
  exact s_bin_int W hop (i2 hs) hrun
 | str l b =>
  rw [ex] at hx
  refine zGv Good.hF fun l' b' ey => ?_
  rw [ey] at hy
  exact s_strBin W hop hx hy hrun
 | _ => trivial
theorem foldl_set {off : Nat} : ∀ (vs : List Value) (j : Nat) (cs : Array Value) (i : Nat),
  ((vs.zipIdx j).foldl (fun cs (c, j) => cs.setIfInBounds (off + j) c) cs)[i]? = if off + j ≤ i ∧ i < off + j + vs.length ∧ i < cs.size then vs[i - (off + j)]? else cs[i]?
 | [], j, cs, i => by simp; intro h1 h2; omega
 | v :: vs, j, cs, i => by
  rw [List.zipIdx_cons, List.foldl_cons, foldl_set vs (j + 1)]
  simp only [Array.size_setIfInBounds, List.length_cons]
  by_cases hi : off + j = i
  ·subst hi
   rw [if_neg (by omega)]
   by_cases hs : off + j < cs.size
   ·rw [if_pos (by omega)]; simp [hs]
   ·rw [if_neg (by omega), Array.getElem?_eq_none (by simp; omega), Array.getElem?_eq_none (by omega)]
  ·by_cases hc : off + (j + 1) ≤ i ∧ i < off + (j + 1) + vs.length ∧ i < cs.size
   ·rw [if_pos hc, if_pos (by omega)]
    obtain ⟨q, hq⟩ : ∃ q, i - (off + j) = q + 1 := ⟨i - (off + j) - 1, by omega⟩
    rw [hq, show i - (off + (j + 1)) = q by omega]; simp
   ·rw [if_neg hc, if_neg (by omega), Array.getElem?_setIfInBounds_ne hi]
inductive PRs (ρ : Rho) (loc : T AV) (tmp : List AV) (place : Nat → Option (Nat × Nat)) : List Part → List (Nat × Value) → Prop
 | nil : PRs ρ loc tmp place [] []
 | cons {p : Part} {i : Nat} {v : Value} {l : List Part} {l' : List (Nat × Value)} : place i = some (p.off, p.size) → VR ρ (ev loc tmp p.x) v → PRs ρ loc tmp place l l' → PRs ρ loc tmp place (p :: l) ((i, v) :: l')
theorem zHv {place : Nat → Option (Nat × Nat)} : ∀ {ps : List Part} {vs : List (Nat × Value)} {z l : List AV} {cs : Array Value}, PRs ρ loc tmp place ps vs → VCs ρ z cs.toList → fill loc tmp ps z = some l →
  ∃ cs', Instr.fill place cs vs = some cs' ∧ VCs ρ l cs'.toList ∧ l.length = z.length
 | _, _, z, l, cs, .nil, hz, hf => ⟨cs, rfl, by injection hf with hf; subst hf; exact hz, by injection hf with hf; subst hf; rfl⟩
 | _, _, z, l, cs, .cons (p := p) (v := v) (l := ps) (l' := vs) hp hv hr, hz, hf => by
  have hf' : obind (cellsOf (ev loc tmp p.x)) none (fun us => bi (Nat.beq (llen us) p.size) (bi (Nat.ble (Nat.add p.off p.size) (llen z)) (fill loc tmp ps (lapp (ltake p.off z) (lapp us (ldrop (Nat.add p.off p.size) z)))) none) none) = some l := hf
  cases hc : cellsOf (ev loc tmp p.x) with
  | none => rw [hc] at hf'; cases hf'
  | some us =>
   rw [hc] at hf'
   have hf' : bi (Nat.beq (llen us) p.size) (bi (Nat.ble (Nat.add p.off p.size) (llen z)) (fill loc tmp ps (lapp (ltake p.off z) (lapp us (ldrop (Nat.add p.off p.size) z)))) none) none = some l := hf'
   rw [bi_eq] at hf'
   split at hf'
   ·rename_i h1
    rw [bi_eq] at hf'
    split at hf'
    ·rename_i h2
     rw [zBt] at h1 h2
     have h1 : us.length = p.size := Nat.eq_of_beq_eq_true h1
     have h2 : p.off + p.size ≤ z.length := Nat.le_of_ble_eq_true h2
     have hus := zJ1 hv hc
     rw [zDn, zDn, zHo, zIy] at hf'
     have hvl := hus.length
     have hzl := hz.length
     have hnew : VCs ρ (z.take p.off ++ (us ++ z.drop (Nat.add p.off p.size))) ((v.cells.zipIdx.foldl (fun cs (c, j) => cs.setIfInBounds (p.off + j) c) cs)).toList := by
      have e : ((v.cells.zipIdx.foldl (fun cs (c, j) => cs.setIfInBounds (p.off + j) c) cs)).toList = cs.toList.take p.off ++ (v.cells.toList ++ cs.toList.drop (p.off + p.size)) := by
       have e0 : v.cells.zipIdx.foldl (fun cs (c, j) => cs.setIfInBounds (p.off + j) c) cs = (v.cells.toList.zipIdx 0).foldl (fun cs (c, j) => cs.setIfInBounds (p.off + j) c) cs := by
        rw [← Array.foldl_toList, Array.toList_zipIdx]
       rw [e0]
       apply List.ext_getElem?
       intro i
       rw [Array.getElem?_toList, foldl_set]
       have hs1 : v.cells.toList.length = p.size := by omega
       have hs0 : v.cells.toList.length = v.cells.size := Array.length_toList
       by_cases hi : p.off + 0 ≤ i ∧ i < p.off + 0 + v.cells.toList.length ∧ i < cs.size
       ·rw [if_pos hi, List.getElem?_append_right (by simp; omega), List.getElem?_append_left (by simp at hzl ⊢; omega)]
        congr 1; simp at hzl ⊢; omega
       ·rw [if_neg hi]
        by_cases h3 : i < p.off
        ·rw [List.getElem?_append_left (by simp at hzl ⊢; omega)]; simp [h3]
        ·by_cases h4 : i < p.off + p.size
         ·exfalso; apply hi; simp at hzl ⊢; simp at hs1; omega
         ·rw [List.getElem?_append_right (by simp; omega), List.getElem?_append_right (by simp at hzl hs1 ⊢; omega), List.getElem?_drop]
          rw [← Array.getElem?_toList]; congr 1; simp at hzl hs1 ⊢; omega
      rw [e]
      exact (hz.take _).append (hus.append (hz.drop _))
     obtain ⟨cs', g1, g2, g3⟩ := zHv hr hnew hf'
     refine ⟨cs', ?_, g2, ?_⟩
     ·have hs1 : v.cells.size = p.size := by simp at hvl; omega
      have hs2 : ¬ cs.size < p.off + p.size := by simp at hzl; omega
      simp only [Instr.fill, hp, hs1, ne_eq, not_true_eq_false, gt_iff_lt, hs2, or_self, if_false, decide_false, bne_self_eq_false, Bool.or_self, Bool.false_eq_true]
      exact g1
     ·rw [g3]; simp [h1]; omega
    ·cases hf'
   ·cases hf'
theorem s_build {t : TypeId} {z : List AV} {ps : List Part} {vs : Array (Nat × Value)} {zv : Value} {fs : Array Field} (W : WR ρ h w) (hz : zB5 P t = some zv) (hzc : zB4 zv = some z) (hu : P.underlying t = some (.struct fs))
  {places : Array (Nat × Nat)} (hpl : (fs.mapM fun f => do pure (f.offset, ← sizeOf f.type) : Sem (Array (Nat × Nat))).run P w = .ok places w) (hp : PRs ρ loc tmp (places[·]?) ps vs.toList) :
  Good P ρ h w (vv (Instr.build t vs)) (oBuild z ps loc tmp h) := by
 refine zAx Good.hF fun l hl => ?_
 obtain ⟨cs', g1, g2, _⟩ := zHv hp (zBv hzc) (by rw [← zGw]; exact hl)
 refine .same W (zAn (v := .agg cs') ?_) (.agg g2 (by simp))
 simp only [Instr.build, Sem.run_bind, zBf hz, Result.andThen_ok, run_underlying hu, hpl, g1, Sem.run_pure]
theorem s_buildA {t e : TypeId} {z : List AV} {ps : List Part} {vs : Array (Nat × Value)} {zv : Value} {len n : Nat} (W : WR ρ h w) (hz : zB5 P t = some zv) (hzc : zB4 zv = some z) (hu : P.underlying t = some (.array len e)) (hn : zA2 P e = some n)
  (hp : PRs ρ loc tmp (fun i => some (i * n, n)) ps vs.toList) :
  Good P ρ h w (vv (Instr.build t vs)) (oBuild z ps loc tmp h) := by
 refine zAx Good.hF fun l hl => ?_
 obtain ⟨cs', g1, g2, _⟩ := zHv hp (zBv hzc) (by rw [← zGw]; exact hl)
 refine .same W (zAn (v := .agg cs') ?_) (.agg g2 (by simp))
 simp only [Instr.build, Sem.run_bind, zBf hz, Result.andThen_ok, run_underlying hu, zAw hn, g1, Sem.run_pure]
end
end Go.Ev
namespace Go.Ev
open Go
variable [Glob]
section
variable {P : Program} {ρ : Rho} {h : AH} {w : World} {loc : T AV} {tmp : List AV}
theorem zEe (n : Nat) (z : List AV) : (List.replicate n z).flatten.length = n * z.length := by
 induction n with
 | zero => simp
 | succ n ih => rw [List.replicate_succ, List.flatten_cons, List.length_append, ih, Nat.succ_mul, Nat.add_comm]
theorem flat_get (n : Nat) (z : List AV) (i : Nat) (hi : i < n * z.length) : (List.replicate n z).flatten[i]? = z[i % z.length]? := by
 induction n generalizing i with
 | zero => simp at hi
 | succ n ih =>
  rw [List.replicate_succ, List.flatten_cons]
  by_cases h : i < z.length
  ·rw [List.getElem?_append_left h, Nat.mod_eq_of_lt h]
  ·have h : z.length ≤ i := by omega
   rw [List.getElem?_append_right h, ih _ (by rw [Nat.succ_mul] at hi; omega), Nat.mod_eq_sub_mod h]
theorem zEk {n : Nat} {z : List AV} {zs : Array Value} (hz : VCs ρ z zs.toList) : VCs ρ (List.replicate n z).flatten ((Array.range (n * zs.size)).map (zs[· % zs.size]!)).toList := by
 have hlen := hz.length
 have hl : z.length = zs.size := by simpa using hlen
 refine VCs.of_get (by rw [zEe, hl]; simp) fun i a ha => ?_
 have hi : i < n * z.length := by
  rcases Nat.lt_or_ge i (n * z.length) with h | h
  ·exact h
  ·rw [List.getElem?_eq_none (by rw [zEe]; exact h)] at ha; cases ha
 rw [flat_get _ _ _ hi] at ha
 obtain ⟨v, hv, hr, hc⟩ := hz.get ha
 refine ⟨v, ?_, hr, hc⟩
 rw [hl] at hi hv
 have hlt : i % zs.size < zs.size := Nat.mod_lt _ (by rcases Nat.eq_zero_or_pos zs.size with h | h; · rw [h] at hi; simp at hi
                                                      ·exact h)
 have e2 : zs[i % zs.size] = v := by rw [Array.getElem?_toList, Array.getElem?_eq_getElem hlt] at hv; exact Option.some.inj hv
 simp [hi, hlt, e2]
theorem s_bslice {t e : TypeId} {z : List AV} {ps : List Part} {vs : Array (Nat × Value)} {zv : Value} {len n : Nat} (W : WR ρ h w) (hu : P.underlying t = some (.slice e)) (hn : zA2 P e = some n) (hz : zB5 P e = some zv) (hzc : zB4 zv = some z) (hzn : z.length = n) (hb : len * n ≤ 2 ^ 24)
  (hp : PRs ρ loc tmp (fun i => some (i * n, n)) ps vs.toList) :
  Good P ρ h w (vv (Instr.buildSlice t len vs)) (oBslice (List.replicate len z).flatten len ps loc tmp h) := by
 refine zAx Good.hF fun l hl => ?_
 have hz0 := zBv (ρ := ρ) hzc
 have hsz : zv.cells.size = n := by have := hz0.length; simp at this; omega
 obtain ⟨zc, hzce⟩ : ∃ zc, zc = (if len * n = 0 then #[] else zv.cells) := ⟨_, rfl⟩
 have hrep : VCs ρ (List.replicate len z).flatten ((Array.range (len * n)).map (zc[· % zc.size]!)).toList := by
  by_cases h0 : len * n = 0
  ·have : (List.replicate len z).flatten = [] := List.eq_nil_of_length_eq_zero (by rw [zEe, hzn, h0])
   rw [this, h0]; simp; exact .nil
  ·rw [if_neg h0] at hzce
   subst hzce
   have := zEk (n := len) hz0
   rw [show len * n = len * zv.cells.size by rw [hsz]]
   exact this
 obtain ⟨cs', g1, g2, g3⟩ := zHv hp hrep (by rw [← zGw]; exact hl)
 rw [AH.new_eq, zBt, ← g3]
 obtain ⟨W', S'⟩ := g_row (e := e) W g2
 refine ⟨_, .slice (some ⟨w.heap.size, 0, none⟩) len len, _, .inl (zAn ?_), .sl (Rho.ext_self _ _ _) rfl (.known (Nat.le_refl _)), W', S'⟩
 have hb' : ¬ 16777216 < len * n := by omega
 by_cases h0 : len * n = 0
 ·rw [if_pos h0] at hzce; subst hzce
  simp only [Instr.buildSlice, Sem.run_bind, run_underlying hu, Result.andThen_ok, zAw hn]
  rw [if_neg (by simpa using hb'), if_pos h0]
  simp only [Sem.run_bind, Sem.run_pure, Result.andThen_ok]
  rw [g1]
  simp [zBl]
 ·rw [if_neg h0] at hzce; subst hzce
  simp only [Instr.buildSlice, Sem.run_bind, run_underlying hu, Result.andThen_ok, zAw hn]
  rw [if_neg (by simpa using hb'), if_neg h0]
  simp only [Sem.run_bind, Sem.run_pure, Result.andThen_ok, zBf hz]
  rw [g1]
  simp [zBl]
theorem zDx {n : Nat} (h : n ≤ 1099511627776) : IntKind.i64.wrap (n : Int) = n := zCl (by simp only [zB3, rIn, rUn, Nat.ble_eq]; show Nat.ble n _ = true; rw [Nat.ble_eq]; omega)
theorem s_mkSlice {t e : TypeId} {z : List AV} {l c : Opd} {vl vc zv : Value} {n b : Nat} (W : WR ρ h w) (hu : P.underlying t = some (.slice e)) (hn : zA2 P e = some n) (hb : zD0 P e = some b) (hz : zB5 P e = some zv) (hzc : zB4 zv = some z) (hzn : z.length = n)
  (hl : VR ρ (ev loc tmp l) vl) (hc : VR ρ (ev loc tmp c) vc) : Good P ρ h w (vv (Instr.makeSlice t vl vc)) (zLj z b l c loc tmp h) := by
 refine zB1 Good.hF fun k q e1 => zCz Good.hF fun m hm => zB1 Good.hF fun k' q' e2 => zCz Good.hF fun m' hm' => zAp Good.hF fun h1 => zAp Good.hF fun h2 => zAp Good.hF fun h3 => ?_
 rw [e1] at hl; rw [e2] at hc
 cases hl; cases hc
 subst hm; subst hm'
 have h1 : m ≤ m' := Nat.le_of_ble_eq_true h1
 have h2 : m' * b ≤ 1099511627776 := Nat.le_of_ble_eq_true h2
 have h3 : m' ≤ 1099511627776 := Nat.le_of_ble_eq_true h3
 show Good P ρ h w _ (AH.new h (AObj.cells (zAc (lrep z m')) (Nat.mul m' (llen z)) none false) fun id h => OR.val (AV.sl id 0 m (ACap.known m')) h)
 have hz0 := zBv (ρ := ρ) hzc
 have hsz : zv.cells.size = n := by have := hz0.length; simp at this; omega
 obtain ⟨zc, hzce⟩ : ∃ zc, zc = (if m' * n = 0 then #[] else zv.cells) := ⟨_, rfl⟩
 have hrep : VCs ρ (lrep z m') ((Array.range (m' * n)).map (zc[· % zc.size]!)).toList := by
  rw [zHa]
  by_cases h0 : m' * n = 0
  ·have : (List.replicate m' z).flatten = [] := List.eq_nil_of_length_eq_zero (by rw [zEe, hzn, h0])
   rw [this, h0]; simp; exact .nil
  ·rw [if_neg h0] at hzce
   subst hzce
   have := zEk (n := m') hz0
   rw [show m' * n = m' * zv.cells.size by rw [hsz]]
   exact this
 have hlen : Nat.mul m' (llen z) = (lrep z m').length := by rw [zBt, zHa, zEe]; rfl
 rw [hlen, AH.new_eq]
 obtain ⟨W', S'⟩ := g_row (e := e) W hrep
 refine ⟨_, .slice (some ⟨w.heap.size, 0, none⟩) m m', _, .inl (zAn ?_), .sl (Rho.ext_self _ _ _) rfl (.known h1), W', S'⟩
 have hinfo : ∃ i, P.info? e = some i ∧ i.bytes = b := by
  unfold zD0 at hb
  cases hi : P.info? e with
  | none => rw [hi] at hb; cases hb
  | some i => rw [hi] at hb; injection hb with hb; exact ⟨i, rfl, hb⟩
 obtain ⟨i, hi, hib⟩ := hinfo
 have hti : (typeInfo e).run P w = .ok i w := by simp [typeInfo, hi]
 have w1 : IntKind.i64.wrap (m : Int) = m := zDx (by omega)
 have w2 : IntKind.i64.wrap (m' : Int) = m' := zDx h3
 have hbig : ¬ (2 : Int) ^ 48 < (i.bytes : Int) * (m' : Int) := by
  rw [hib]
  have : (b : Int) * (m' : Int) = ((m' * b : Nat) : Int) := by rw [Int.mul_comm, Int.natCast_mul]
  have e : (2 : Int) ^ 48 = 281474976710656 := by decide
  omega
 have e1 : ¬ (m' : Int) < 0 := by omega
 have e2 : ¬ (m : Int) < 0 := by omega
 have e3 : ¬ (m' : Int) < (m : Int) := by omega
 simp only [Instr.makeSlice, Sem.run_bind, run_underlying hu, Result.andThen_ok, asInt, zCp, Sem.run_pure, hti, w1, w2]
 by_cases h0 : m' * n = 0
 ·rw [if_pos h0] at hzce; subst hzce
  simp [hbig, e1, e2, e3, zAw hn, h0, zBl]
  intro hc; exfalso; apply hbig; have e : (2 : Int) ^ 48 = 281474976710656 := by decide
  omega
 ·rw [if_neg h0] at hzce; subst hzce
  simp [hbig, e1, e2, e3, zAw hn, h0, zBf hz, zBl]
  intro hc; exfalso; apply hbig; have e : (2 : Int) ^ 48 = 281474976710656 := by decide
  omega
theorem CapR.le {cap : ACap} {off s len c : Nat} (h : CapR cap off s len c) : len ≤ c := by cases h <;> assumption
theorem OptR.run {o : Option Opd} {v : Option Value} (hv : OptR ρ loc tmp o v) : True := trivial
theorem zFh {len cap l hh m : Nat} {vlo vhi vmx : Option Value} (hm : vmx = none ∧ m = cap ∨ (∃ k, vmx = some (.int k (m : Nat))) ∧ m ≤ cap) (hh' : vhi = none ∧ vmx = none ∧ hh = len ∨ (∃ k, vhi = some (.int k (hh : Nat))) ∧ hh ≤ m) (hl : vlo = none ∧ l = 0 ∨ (∃ k, vlo = some (.int k (l : Nat))) ∧ l ≤ hh) :
  (Instr.sliceBounds true len cap vlo vhi vmx).run P w = .ok (l, hh, m) w := by
 rcases hm with ⟨rfl, rfl⟩ | ⟨⟨k1, rfl⟩, hm⟩ <;> rcases hh' with ⟨rfl, e, rfl⟩ | ⟨⟨k2, rfl⟩, hh'⟩ <;> rcases hl with ⟨rfl, rfl⟩ | ⟨⟨k3, rfl⟩, hl⟩
 ·simp [Instr.sliceBounds]
 ·simp [Instr.sliceBounds, zCa (P := P) (w := w) (kk := k3) (c := .sliceB) hl]
 ·simp [Instr.sliceBounds, zCa (P := P) (w := w) (kk := k2) (c := .sliceAcap) hh']
 ·simp [Instr.sliceBounds, zCa (P := P) (w := w) (kk := k2) (c := .sliceAcap) hh', zCa (P := P) (w := w) (kk := k3) (c := .sliceB) hl]
 ·cases e
 ·cases e
 ·simp [Instr.sliceBounds, zCa (P := P) (w := w) (kk := k1) (c := .slice3Acap) hm, zCa (P := P) (w := w) (kk := k2) (c := .slice3B) hh']
 ·simp [Instr.sliceBounds, zCa (P := P) (w := w) (kk := k1) (c := .slice3Acap) hm, zCa (P := P) (w := w) (kk := k2) (c := .slice3B) hh', zCa (P := P) (w := w) (kk := k3) (c := .slice3C) hl]
theorem zFl {t e : TypeId} {a : Option Addr} {len cap l hh m n : Nat} {vlo vhi vmx : Option Value} (hu : P.underlying t = some (.slice e)) (hn : zA2 P e = some n) (hr : (Instr.sliceBounds true len cap vlo vhi vmx).run P w = .ok (l, hh, m) w) :
  (Instr.sliceAt t (.slice a len cap) vlo vhi vmx).run P w = .ok (.slice (if m = l then a else a.map (·.add (l * n))) (hh - l) (m - l)) w := by
 simp only [Instr.sliceAt, Sem.run_bind, run_underlying hu, Result.andThen_ok, Instr.slice, hr, zAw hn, Sem.run_pure]
theorem s_sliceV {kill : Bool} {x : Opd} {lo hi mx : Option Opd} {t e : TypeId} {vx : Value} {vlo vhi vmx : Option Value} {n : Nat} (W : WR ρ h w) (hu : P.underlying t = some (.slice e)) (hn : zA2 P e = some n) (hx : VR ρ (ev loc tmp x) vx)
  (hlo : OptR ρ loc tmp lo vlo) (hhi : OptR ρ loc tmp hi vhi) (hmx : OptR ρ loc tmp mx vmx) (h3 : mx.isSome = true → hi.isSome = true) :
  Good P ρ h w (vv (Instr.sliceAt t vx vlo vhi vmx)) (zFn kill n x lo hi mx loc tmp h) := by
 have P1 : ∀ (o : Option Opd) (v : Option Value) (d : Nat) (G : OR → Prop) (hF : ∀ n, G (.fail n)) (k : Nat → OR), OptR ρ loc tmp o v → (∀ q, (v = none ∧ o = none ∧ q = d ∨ (∃ kk, v = some (.int kk (q : Nat))) ∧ o.isSome = true) → G (k q)) → G (zD9 loc tmp o d k) := by
  intro o v d G hF k hv hk
  refine zIx hF (fun e0 => hk d (.inl ⟨zGc hv e0, e0, rfl⟩)) (fun y kk m e0 ei => hk m (.inr ⟨⟨kk, zGb hv e0 ei⟩, by rw [e0]; rfl⟩))
 unfold zFn
 refine zGf Good.hF (fun ex => ?_) fun id off len cap ex => ?_
 ·rw [ex] at hx
  cases hx
  refine P1 mx vmx 0 _ Good.hF _ hmx fun m hm => P1 hi vhi 0 _ Good.hF _ hhi fun hh hhv => P1 lo vlo 0 _ Good.hF _ hlo fun l hl => zAp Good.hF fun b1 => zAp Good.hF fun b2 => zAp Good.hF fun b3 => ?_
  have b1 : m = 0 := Nat.eq_of_beq_eq_true b1
  have b2 : hh = 0 := Nat.eq_of_beq_eq_true b2
  have b3 : l = 0 := Nat.eq_of_beq_eq_true b3
  subst b1; subst b2; subst b3
  have hr := zFh (P := P) (w := w) (len := 0) (cap := 0) (l := 0) (hh := 0) (m := 0) (vlo := vlo) (vhi := vhi) (vmx := vmx)
   (by rcases hm with ⟨a, _, _⟩ | ⟨a, _⟩; exact .inl ⟨a, rfl⟩; exact .inr ⟨a, Nat.le_refl _⟩)
   (by rcases hhv with ⟨a, b, _⟩ | ⟨a, _⟩
       ·refine .inl ⟨a, ?_, rfl⟩
        rcases hm with ⟨c, _, _⟩ | ⟨_, c⟩
        ·exact c
        ·have := h3 c; rw [b] at this; cases this
       ·exact .inr ⟨a, Nat.le_refl _⟩)
   (by rcases hl with ⟨a, _, _⟩ | ⟨a, _⟩; exact .inl ⟨a, rfl⟩; exact .inr ⟨a, Nat.le_refl _⟩)
  refine .same W (zAn (v := .slice none 0 0) ?_) .nils
  rw [zFl hu hn hr]; simp
 ·rw [ex] at hx
  cases hx with
  | slz =>
   rename_i a
   refine P1 mx vmx 0 _ Good.hF _ hmx fun m hm => zAp Good.hF fun b1 => P1 hi vhi 0 _ Good.hF _ hhi fun hh hhv => zAp Good.hF fun b2 => P1 lo vlo 0 _ Good.hF _ hlo fun l hl => zAp Good.hF fun b3 => ?_
   have b1 : m ≤ 0 := Nat.le_of_ble_eq_true b1
   have b2 : hh ≤ m := Nat.le_of_ble_eq_true b2
   have b3 : l ≤ hh := Nat.le_of_ble_eq_true b3
   obtain rfl : m = 0 := by omega
   obtain rfl : hh = 0 := by omega
   obtain rfl : l = 0 := by omega
   have hb : (Instr.sliceBounds true 0 0 vlo vhi vmx).run P w = .ok (0, 0, 0) w := by
    refine zFh ?_ ?_ ?_
    ·rcases hm with ⟨a, _, q⟩ | ⟨a, _⟩
     ·exact .inl ⟨a, q⟩
     ·exact .inr ⟨a, Nat.le_refl _⟩
    ·rcases hhv with ⟨a, b, q⟩ | ⟨a, _⟩
     ·refine .inl ⟨a, ?_, q⟩
      rcases hm with ⟨c, _, _⟩ | ⟨_, c⟩
      ·exact c
      ·have := h3 c; rw [b] at this; cases this
     ·exact .inr ⟨a, Nat.le_refl _⟩
    ·rcases hl with ⟨a, _, q⟩ | ⟨a, _⟩
     ·exact .inl ⟨a, q⟩
     ·exact .inr ⟨a, Nat.le_refl _⟩
   have hs := zFl (a := some a) hu hn hb
   exact .same W (zAn hs) .slz
  | sle => exact zAp Good.hF fun h1 => zAp Good.hF fun h2 => absurd (Nat.le_of_ble_eq_true h2) (by rw [Nat.eq_of_beq_eq_true h1]; decide)
  | sl hr hp hc =>
   rename_i b o s p c
   subst hp
   have hcl := hc.le
   have key : ∀ (l hh m : Nat), l ≤ hh → hh ≤ m → m ≤ c → (Instr.sliceBounds true len c vlo vhi vmx).run P w = .ok (l, hh, m) w → (hk : cap = .known c ∨ vmx.isSome = true) →
     Good P ρ h w (vv (Instr.sliceAt t (.slice (some ⟨b, o + off, none⟩) len c) vlo vhi vmx))
      (fN (Nat.sub hh l) fun n' => fN (Nat.sub m l) fun m' => bi (Nat.beq m' (nat_lit 0)) (OR.val (AV.sl id off n' (ACap.known m')) h) (fN (Nat.add off (Nat.mul l n)) fun off => OR.val (AV.sl id off n' (ACap.known m')) h)) := by
    intro l hh m h1 h2 h3 hb _
    rw [fN_eq, fN_eq, fN_eq]
    have hs := zFl (a := some ⟨b, o + off, none⟩) hu hn hb
    refine zBm (fun hm => ?_) (fun hm => ?_)
    ·have hm : m - l = 0 := Nat.eq_of_beq_eq_true hm
     have hml : m = l := by omega
     rw [if_pos hml] at hs
     exact .same W (zAn hs) (.sl hr rfl (.known (by show hh - l ≤ m - l; omega)))
    ·have hm : ¬ m - l = 0 := fun e => by have : Nat.beq (Nat.sub m l) 0 = true := by rw [show Nat.sub m l = m - l from rfl, e]; rfl
                                          rw [this] at hm; cases hm
     rw [if_neg (by omega), Option.map_some, zDt] at hs
     exact .same W (zAn hs) (.sl hr (by show o + off + l * n = o + (off + l * n); omega) (.known (by show hh - l ≤ m - l; omega)))
   cases cap with
   | known cc =>
    obtain ⟨hcc, hlc⟩ : c = cc ∧ len ≤ cc := by cases hc; exact ⟨rfl, ‹_›⟩
    subst hcc
    refine P1 mx vmx c _ Good.hF _ hmx fun m hm => zAp Good.hF fun b1 => P1 hi vhi len _ Good.hF _ hhi fun hh hhv => zAp Good.hF fun b2 => P1 lo vlo 0 _ Good.hF _ hlo fun l hl => zAp Good.hF fun b3 => ?_
    have b1 : m ≤ c := Nat.le_of_ble_eq_true b1
    have b2 : hh ≤ m := Nat.le_of_ble_eq_true b2
    have b3 : l ≤ hh := Nat.le_of_ble_eq_true b3
    refine key l hh m b3 b2 b1 (zFh ?_ ?_ ?_) (.inl rfl)
    ·rcases hm with ⟨a, _, q⟩ | ⟨a, _⟩
     ·exact .inl ⟨a, q⟩
     ·exact .inr ⟨a, b1⟩
    ·rcases hhv with ⟨a, b, q⟩ | ⟨a, _⟩
     ·refine .inl ⟨a, ?_, q⟩
      rcases hm with ⟨c, _, _⟩ | ⟨_, c⟩
      ·exact c
      ·have := h3 c; rw [b] at this; cases this
     ·exact .inr ⟨a, b2⟩
    ·rcases hl with ⟨a, _, q⟩ | ⟨a, _⟩
     ·exact .inl ⟨a, q⟩
     ·exact .inr ⟨a, b3⟩
   | rest es =>
    refine zAp Good.hF fun hes => zAp Good.hF fun hpos => zCs Good.hF fun cs size opn ro hg => ?_
    have hes : n = es := Nat.eq_of_beq_eq_true hes
    have hpos : 1 ≤ n := Nat.le_of_ble_eq_true hpos
    subst hes
    rw [AH.get_eq] at hg
    obtain ⟨y, hy, hyr⟩ := W.obj hg hr
    have hsize : size ≤ s := by cases hyr; assumption
    obtain ⟨hcs, hlc⟩ : off + c * n = s ∧ len ≤ c := by cases hc; exact ⟨‹_›, ‹_›⟩
    have hfit : ∀ q, off + q * n ≤ size → q ≤ c := by
     intro q hq
     have : q * n ≤ c * n := by omega
     exact Nat.le_of_mul_le_mul_right this (by omega)
    cases mx with
    | none =>
     have hvm := zGc hmx rfl
     subst hvm
     refine P1 hi vhi len _ Good.hF _ hhi fun hh hhv => zAp Good.hF fun b2 => P1 lo vlo 0 _ Good.hF _ hlo fun l hl => zAp Good.hF fun b3 => ?_
     have b2 : off + hh * n ≤ size := Nat.le_of_ble_eq_true b2
     have b3 : l ≤ hh := Nat.le_of_ble_eq_true b3
     have hhc := hfit hh b2
     have hb := zFh (P := P) (w := w) (len := len) (cap := c) (l := l) (hh := hh) (m := c) (vlo := vlo) (vhi := vhi) (vmx := none) (.inl ⟨rfl, rfl⟩)
      (by rcases hhv with ⟨a, _, q⟩ | ⟨a, _⟩; exact .inl ⟨a, rfl, q⟩; exact .inr ⟨a, hhc⟩)
      (by rcases hl with ⟨a, _, q⟩ | ⟨a, _⟩; exact .inl ⟨a, q⟩; exact .inr ⟨a, b3⟩)
     have hs := zFl (a := some ⟨b, o + off, none⟩) hu hn hb
     refine zBm (fun h0 => ?_) (fun h0 => ?_)
     ·have h0 : l = 0 := Nat.eq_of_beq_eq_true h0
      subst h0
      have e : (if c = 0 then some (⟨b, o + off, none⟩ : Addr) else (some ⟨b, o + off, none⟩ : Option Addr).map (·.add (0 * n))) = some ⟨b, o + off, none⟩ := by
       split
       ·rfl
       ·simp [Addr.add]
      rw [e] at hs
      exact .same W (zAn hs) (.sl hr rfl (.rest hcs hhc))
     ·have h0 : l ≠ 0 := fun e => by rw [e] at h0; cases h0
      rw [fN_eq]
      refine zBm (fun h1 => ?_) (fun h1 => ?_)
      ·have h1 : hh - l = 0 := Nat.eq_of_beq_eq_true h1
       have hlh : l = hh := by omega
       refine zBm (fun _ => ?_) (fun _ => ?_)
       rotate_left
       ·rw [h1] at hs
        by_cases hcl2 : c = l
        ·rw [if_pos hcl2] at hs; exact .same W (zAn hs) .sle
        ·rw [if_neg hcl2, Option.map_some] at hs; exact .same W (zAn hs) .sle
       refine zDs Good.hF fun hro => ?_
       subst hro
       rw [AH.new_eq, AH.kill_next]
       cases hyr with
       | cells a1 a2 a3 a4 a5 =>
        by_cases hcl2 : c = l
        ·rw [if_pos hcl2, h1, show c - l = 0 by omega] at hs
         obtain ⟨W', S'⟩ := W.adopt (w' := w) (o' := .cells .leaf 0 none false) hg rfl hr rfl (p' := o + off) (s' := 0) (ObjR.cells (by omega) (Nat.le_refl _) (fun i a ha => by cases ha) (fun _ => a4 rfl) (fun _ h => by cases h)) hy (fun _ _ => rfl) rfl (.refl w)
         exact ⟨_, _, w, .inl (zAn hs), .sl (Rho.ext_self _ _ _) rfl (.rest (by show 0 + 0 * n = 0; omega) (Nat.le_refl _)), W', S'⟩
        ·rw [if_neg hcl2, h1, Option.map_some, zDt] at hs
         have hln : l * n + (c - l) * n = c * n := by rw [← Nat.add_mul]; congr 1; omega
         obtain ⟨W', S'⟩ := W.adopt (w' := w) (o' := .cells .leaf 0 none false) hg rfl hr rfl (p' := o + off + l * n) (s' := (c - l) * n) (ObjR.cells (by omega) (Nat.zero_le _) (fun i a ha => by cases ha) (fun _ => a4 rfl) (fun _ h => by cases h)) hy (fun _ _ => rfl) rfl (.refl w)
         exact ⟨_, _, w, .inl (zAn hs), .sl (Rho.ext_self _ _ _) rfl (.rest (by show 0 + (c - l) * n = (c - l) * n; omega) (Nat.zero_le _)), W', S'⟩
      ·have h1 : hh - l ≠ 0 := fun e => by have : Nat.beq (Nat.sub hh l) 0 = true := by rw [show Nat.sub hh l = hh - l from rfl, e]; rfl
                                           rw [this] at h1; cases h1
       rw [fN_eq]
       rw [if_neg (by omega), Option.map_some, zDt] at hs
       refine .same W (zAn hs) (.sl hr (by show o + off + l * n = o + (off + l * n); omega) (.rest ?_ (by show hh - l ≤ c - l; omega)))
       show off + l * n + (c - l) * n = s
       rw [← hcs, Nat.sub_mul]
       have : l * n ≤ c * n := Nat.mul_le_mul_right n (by omega)
       omega
    | some mx =>
     have hhis := h3 rfl
     refine zB1 Good.hF fun kk q e0 => zCz Good.hF fun m hm => zAp Good.hF fun b1 => P1 hi vhi len _ Good.hF _ hhi fun hh hhv => zAp Good.hF fun b2 => P1 lo vlo 0 _ Good.hF _ hlo fun l hl => zAp Good.hF fun b3 => ?_
     subst hm
     have hvm := zGb hmx rfl e0
     have b1 : off + m * n ≤ size := Nat.le_of_ble_eq_true b1
     have b2 : hh ≤ m := Nat.le_of_ble_eq_true b2
     have b3 : l ≤ hh := Nat.le_of_ble_eq_true b3
     have hmc := hfit m b1
     refine key l hh m b3 b2 hmc (zFh (.inr ⟨⟨kk, hvm⟩, hmc⟩) ?_ ?_) (.inr (by rw [hvm]; rfl))
     ·rcases hhv with ⟨_, a, _⟩ | ⟨a, _⟩
      ·rw [a] at hhis; cases hhis
      ·exact .inr ⟨a, b2⟩
     ·rcases hl with ⟨a, _, q⟩ | ⟨a, _⟩
      ·exact .inl ⟨a, q⟩
      ·exact .inr ⟨a, b3⟩
end
end Go.Ev
