/- EvE EvRw EvE2 PaH EvAb CoPA -/
import Derived.Test.YtlolcfdllehpgaaGreatDoorPaF
import Derived.Test.YtlolcfdllehpgaaGreatDoorPaA
set_option linter.unusedSimpArgs false
set_option linter.unusedVariables false
set_option linter.unusedSectionVars false
set_option linter.defProp false
set_option maxRecDepth 100000
set_option maxHeartbeats 4000000
namespace Go.Ev
open Go
section
variable {tab : Nat → Option AFunc} {loc : T AV} {d tmp : List AV} {h : AH} {a b : ACode} {Q Q1 : Res → Prop}
def onCR (Q E : AV → AH → Prop) : CR → Prop
 | .ret v h => Q v h
 | .pan v h => E v h
 | .fail _ => False
def GE (tab : Nat → Option AFunc) (f : Nat) (args : List AV) (h : AH) (Q E : AV → AH → Prop) : Prop := ∃ r, Gives tab f args h r ∧ onCR Q E r
theorem GE.mono {f : Nat} {args : List AV} {Q E Q1 E1 : AV → AH → Prop} (x : GE tab f args h Q E) (hq : ∀ v h1, Q v h1 → Q1 v h1) (he : ∀ v h1, E v h1 → E1 v h1) : GE tab f args h Q1 E1 := by
 obtain ⟨r, g, q⟩ := x
 refine ⟨r, g, ?_⟩
 cases r with
 | ret v h1 => exact hq _ _ q
 | pan v h1 => exact he _ _ q
 | fail l => exact q
theorem GP.ge {f : Nat} {args : List AV} {Q E : AV → AH → Prop} (x : GP tab f args h Q) : GE tab f args h Q E := let ⟨v, h1, g, q⟩ := x; ⟨.ret v h1, g, q⟩
theorem GE.gp {f : Nat} {args : List AV} {Q E : AV → AH → Prop} (x : GE tab f args h Q E) (he : ∀ v h1, ¬ E v h1) : GP tab f args h Q := by
 obtain ⟨r, g, q⟩ := x
 cases r with
 | ret v h1 => exact ⟨v, h1, g, q⟩
 | pan v h1 => exact absurd q (he v h1)
 | fail l => exact q.elim
theorem Gives.fn {f : Nat} {args : List AV} {r r' : CR} (x : Gives tab f args h r) (y : Gives tab f args h r') : r = r' := x.uniq y
theorem ge_rw {f : Nat} {args : List AV} {v0 : AV} {h0 : AH} (g : GP tab f args h fun v h1 => v = v0 ∧ h1 = h0) {Q E : AV → AH → Prop} : GE tab f args h Q E = Q v0 h0 := by
 obtain ⟨v, h1, gi, rfl, rfl⟩ := g
 refine propext ⟨fun ⟨r, g', q⟩ => ?_, fun q => ⟨_, gi, q⟩⟩
 have := gi.uniq g'
 subst this
 exact q
def PE (tab : Nat → Option AFunc) (whole : List AOper) (loc0 : T AV) : List AOper → T AV → List AV → List AV → AH → (Res → Prop) → Prop
 | [], loc, _, d, h, Q => Q (.norm loc d h)
 | ⟨op, g, out, re⟩ :: l, loc, tmp, d, h, Q =>
  match zBh loc tmp g with
  | none => False
  | some q => (q = false → PE tab whole loc0 l (zAo out (.tup []) loc) (.tup [] :: tmp) d h Q) ∧ (q = true →
   match evOp op loc tmp h with
   | .val v h1 => reads loc tmp h1 re = true ∧ PE tab whole loc0 l (zAo out v loc) (v :: tmp) d h1 Q
   | .enter f args => GE tab f args h (fun v h1 => reads loc tmp h1 re = true ∧ PE tab whole loc0 l (zAo out v loc) (v :: tmp) d h1 Q) (fun v h1 => Q (.pan v (forget whole loc0) d h1))
   | .pan v => Q (.pan v (forget whole loc0) d h)
   | .dfr v => PE tab whole loc0 l (zAo out (.tup []) loc) (.tup [] :: tmp) (v :: d) h Q
   | .fail _ => False)
theorem PE.ok {whole : List AOper} {loc0 : T AV} : ∀ (l : List AOper) (loc : T AV) (tmp d : List AV) (h : AH), PE tab whole loc0 l loc tmp d h Q →
  ∃ r, r.good ∧ Q r ∧ ∃ n, ∀ m, n ≤ m → evOps (zCt tab (evC tab m)) whole loc0 l loc tmp d h = r
 | [], loc, tmp, d, h, x => ⟨.norm loc d h, trivial, x, 0, fun _ _ => rfl⟩
 | ⟨op, g, out, re⟩ :: l, loc, tmp, d, h, x => by
  have e : ∀ k : Nat → List AV → AH → CR, evOps k whole loc0 (⟨op, g, out, re⟩ :: l) loc tmp d h = obind (zBh loc tmp g) (Res.fail [70]) (fun q => bi q
   (OR.rec (motive := fun _ => Res)
    (fun v h => bi (reads loc tmp h re) (evOps k whole loc0 l (zAo out v loc) (v :: tmp) d h) (Res.fail [71]))
    (fun f args => CR.rec (motive := fun _ => Res) (fun v h => bi (reads loc tmp h re) (evOps k whole loc0 l (zAo out v loc) (v :: tmp) d h) (Res.fail [71])) (fun v h => Res.pan v (forget whole loc0) d h) (fun l => Res.fail l) (k f args h))
    (fun v => Res.pan v (forget whole loc0) d h)
    (fun v => evOps k whole loc0 l (zAo out (AV.tup []) loc) (AV.tup [] :: tmp) (v :: d) h)
    (fun n => Res.fail [n]) (evOp op loc tmp h)) (evOps k whole loc0 l (zAo out (AV.tup []) loc) (AV.tup [] :: tmp) d h)) := fun _ => rfl
  simp only [PE] at x
  cases hg : zBh loc tmp g with
  | none => rw [hg] at x; exact x.elim
  | some q =>
   rw [hg] at x
   cases q with
   | false =>
    obtain ⟨r, h1, h2, n, h3⟩ := PE.ok l _ _ _ _ (x.1 rfl)
    refine ⟨r, h1, h2, n, fun m hm => ?_⟩
    rw [e, hg]; exact h3 m hm
   | true =>
    have x := x.2 rfl
    cases ho : evOp op loc tmp h with
    | val v h1 =>
     rw [ho] at x
     obtain ⟨r, g1, g2, n, g3⟩ := PE.ok l _ _ _ _ x.2
     refine ⟨r, g1, g2, n, fun m hm => ?_⟩
     rw [e, hg, ho]
     show bi (reads loc tmp h1 re) _ _ = r
     rw [x.1]; exact g3 m hm
    | enter f args =>
     rw [ho] at x
     obtain ⟨cr, hc, hq⟩ := x
     obtain ⟨n1, hc⟩ := hc.at
     have e2 : ∀ m, n1 ≤ m → evOps (zCt tab (evC tab m)) whole loc0 (⟨op, g, out, re⟩ :: l) loc tmp d h = (CR.rec (motive := fun _ => Res) (fun v h => bi (reads loc tmp h re) (evOps (zCt tab (evC tab m)) whole loc0 l (zAo out v loc) (v :: tmp) d h) (Res.fail [71])) (fun v h => Res.pan v (forget whole loc0) d h) (fun l => Res.fail l) cr : Res) := by
      intro m hm
      rw [e, hg, ho]
      show (CR.rec (motive := fun _ => Res) (fun v h => bi (reads loc tmp h re) (evOps (zCt tab (evC tab m)) whole loc0 l (zAo out v loc) (v :: tmp) d h) (Res.fail [71])) (fun v h => Res.pan v (forget whole loc0) d h) (fun l => Res.fail l) (zCt tab (evC tab m) f args h) : Res) = _
      rw [hc m hm]
     cases cr with
     | fail l => exact hq.elim
     | pan v h1 => exact ⟨Res.pan v (forget whole loc0) d h1, trivial, hq, n1, fun m hm => e2 m hm⟩
     | ret v h1 =>
      obtain ⟨hre, hx⟩ := hq
      obtain ⟨r, g1, g2, n, g3⟩ := PE.ok l _ _ _ _ hx
      refine ⟨r, g1, g2, max n n1, fun m hm => ?_⟩
      rw [e2 m (Nat.le_trans (Nat.le_max_right _ _) hm)]
      show bi (reads loc tmp h1 re) _ _ = r
      rw [hre]; exact g3 m (Nat.le_trans (Nat.le_max_left _ _) hm)
    | pan v =>
     rw [ho] at x
     refine ⟨_, ?_, x, 0, fun m _ => ?_⟩
     ·trivial
     ·rw [e, hg, ho]; rfl
    | dfr v =>
     rw [ho] at x
     obtain ⟨r, g1, g2, n, g3⟩ := PE.ok l _ _ _ _ x
     refine ⟨r, g1, g2, n, fun m hm => ?_⟩
     rw [e, hg, ho]; exact g3 m hm
    | fail k => rw [ho] at x; exact x.elim
theorem zI4 {l : List AOper} (x : PE tab l loc l loc [] d h Q) : WC tab (.ops l) loc d h Q := by
 obtain ⟨r, h1, h2, n, h3⟩ := PE.ok l _ _ _ _ x
 exact ⟨r, ⟨h1, n + 1, h3 n (Nat.le_refl _)⟩, h2⟩
theorem zAb {l : List AOper} (x : ∀ Q', (∀ r, Q r → Q' r) → PE tab l loc l loc [] d h Q') : WC tab (.ops l) loc d h Q := zI4 (x Q fun _ h => h)
def stepE (tab : Nat → Option AFunc) (whole : List AOper) (loc0 : T AV) (l : List AOper) (out : Option Nat) (re : List ARe) (loc : T AV) (tmp d : List AV) (h : AH) (Q : Res → Prop) : OR → Prop
 | .val v h1 => reads loc tmp h1 re = true ∧ PE tab whole loc0 l (zAo out v loc) (v :: tmp) d h1 Q
 | .enter f args => GE tab f args h (fun v h1 => reads loc tmp h1 re = true ∧ PE tab whole loc0 l (zAo out v loc) (v :: tmp) d h1 Q) (fun v h1 => Q (.pan v (forget whole loc0) d h1))
 | .pan v => Q (.pan v (forget whole loc0) d h)
 | .dfr v => PE tab whole loc0 l (zAo out (.tup []) loc) (.tup [] :: tmp) (v :: d) h Q
 | .fail _ => False
def guardE (tab : Nat → Option AFunc) (whole : List AOper) (loc0 : T AV) (l : List AOper) (op : AOp) (out : Option Nat) (re : List ARe) (loc : T AV) (tmp d : List AV) (h : AH) (Q : Res → Prop) : Option Bool → Prop
 | none => False
 | some false => PE tab whole loc0 l (zAo out (.tup []) loc) (.tup [] :: tmp) d h Q
 | some true => stepE tab whole loc0 l out re loc tmp d h Q (evOp op loc tmp h)
variable {whole l : List AOper} {loc0 : T AV} {op : AOp} {g : Option (Opd × Bool)} {out : Option Nat} {re : List ARe}
theorem PE_nil : PE tab whole loc0 [] loc tmp d h Q = Q (.norm loc d h) := rfl
theorem zEx : PE tab whole loc0 (⟨op, g, out, re⟩ :: l) loc tmp d h Q = guardE tab whole loc0 l op out re loc tmp d h Q (zBh loc tmp g) := by
 rw [PE]
 cases zBh loc tmp g with
 | none => rfl
 | some q =>
  cases q with
  | false => simp [guardE]
  | true => simp only [guardE]; cases evOp op loc tmp h <;> simp [stepE]
theorem guardE_false : guardE tab whole loc0 l op out re loc tmp d h Q (some false) = PE tab whole loc0 l (zAo out (.tup []) loc) (.tup [] :: tmp) d h Q := rfl
theorem zBu : guardE tab whole loc0 l op out re loc tmp d h Q (some true) = stepE tab whole loc0 l out re loc tmp d h Q (evOp op loc tmp h) := rfl
theorem zCi {v : AV} {h1 : AH} : stepE tab whole loc0 l out re loc tmp d h Q (.val v h1) = (reads loc tmp h1 re = true ∧ PE tab whole loc0 l (zAo out v loc) (v :: tmp) d h1 Q) := rfl
def contE (tab : Nat → Option AFunc) (whole : List AOper) (loc0 : T AV) (l : List AOper) (out : Option Nat) (re : List ARe) (loc : T AV) (tmp d : List AV) (Q : Res → Prop) (v : AV) (h1 : AH) : Prop :=
 reads loc tmp h1 re = true ∧ PE tab whole loc0 l (zAo out v loc) (v :: tmp) d h1 Q
abbrev panE (whole : List AOper) (loc0 : T AV) (d : List AV) (Q : Res → Prop) (v : AV) (h1 : AH) : Prop := Q (.pan v (forget whole loc0) d h1)
theorem contE_eq {Q : Res → Prop} {v : AV} {h1 : AH} : contE tab whole loc0 l out re loc tmp d Q v h1 = (reads loc tmp h1 re = true ∧ PE tab whole loc0 l (zAo out v loc) (v :: tmp) d h1 Q) := rfl
theorem stepE_enter {f : Nat} {args : List AV} : stepE tab whole loc0 l out re loc tmp d h Q (.enter f args) = GE tab f args h (contE tab whole loc0 l out re loc tmp d Q) (panE whole loc0 d Q) := rfl
theorem stepE_pan {v : AV} : stepE tab whole loc0 l out re loc tmp d h Q (.pan v) = Q (.pan v (forget whole loc0) d h) := rfl
theorem zC7 {K : T AV → List AV → AH → Prop} {v : AV} {l : T AV} : zE2 K Q (.pan v l d h) = Q (.pan v l d h) := rfl
theorem zCo {id : Nat} {v : AV} {l : T AV} : zHd id (.pan v l d h) = .pan v l d h := rfl
def zDv (rs : List ARes) (Q E : AV → AH → Prop) : Res → Prop
 | .norm l [] h => ∃ vs, results rs l h = some vs ∧ Q (one vs) h
 | .ret l [] h => ∃ vs, results rs l h = some vs ∧ Q (one vs) h
 | .pan v _ [] h => E v h
 | _ => False
theorem ge_of {f n : Nat} {body : ACode} {rs : List ARes} {args : List AV} {Q E : AV → AH → Prop} (ht : tab f = some (.mk n body rs)) (hn : args.length = n) (x : WC tab body (zAg args) [] h (zDv rs Q E)) : GE tab f args h Q E := by
 obtain ⟨r, hr, hq⟩ := x
 obtain ⟨m, hm⟩ := hr.at
 have hm := hm m (Nat.le_refl _)
 have e : ∀ r, evC tab m body (zAg args) [] h = r → evF tab m f args h = (Res.rec (motive := fun _ => CR) (fun loc d h => runD tab (evC tab m) (zA3 rs loc) d Mode.ret h) (fun _ _ _ _ => CR.fail [88]) (fun loc d h => runD tab (evC tab m) (zA3 rs loc) d Mode.ret h)
   (fun v loc d h => runD tab (evC tab m) (zA3 rs loc) d (Mode.pan v false) h) (fun l => CR.fail (f :: l)) r) := by
  intro r hr
  subst hr
  show obind (tab f) _ _ = _
  rw [ht]
  show bi (Nat.beq n (llen args)) _ _ = _
  rw [zBt, hn, Nat.beq_refl]
  rfl
 have e := e r hm
 cases r with
 | norm l d1 h1 =>
  cases d1 with
  | cons _ _ => exact hq.elim
  | nil =>
   obtain ⟨vs, h2, h3⟩ := hq
   refine ⟨.ret (one vs) h1, ⟨trivial, m, ?_⟩, h3⟩
   rw [e]
   show obind (results rs l h1) _ _ = _
   rw [h2]; rfl
 | ret l d1 h1 =>
  cases d1 with
  | cons _ _ => exact hq.elim
  | nil =>
   obtain ⟨vs, h2, h3⟩ := hq
   refine ⟨.ret (one vs) h1, ⟨trivial, m, ?_⟩, h3⟩
   rw [e]
   show obind (results rs l h1) _ _ = _
   rw [h2]; rfl
 | exit id l d1 h1 => cases d1 <;> exact hq.elim
 | pan v l d1 h1 =>
  cases d1 with
  | cons _ _ => exact hq.elim
  | nil =>
   refine ⟨.pan v h1, ⟨trivial, m, ?_⟩, hq⟩
   rw [e]; rfl
 | fail l => exact hq.elim
end
end Go.Ev
namespace Go.Ev
open Go
structure Rw where
 a : Int
 b : Int
 c : Int
 d : Int
def rl (r : Rw) : List AV := [.int .i64 r.a, .int .i64 r.b, .int .i64 r.c, .int .i64 r.d]
noncomputable def putR (r : Rw) (c : T AV) (k : Nat) : T AV := T.put (some (.int .i64 r.d)) (T.put (some (.int .i64 r.c)) (T.put (some (.int .i64 r.b)) (T.put (some (.int .i64 r.a)) c k) (k + 1)) (k + 1 + 1)) (k + 1 + 1 + 1)
theorem zHk {r : Rw} {c : T AV} {k j : Nat} : (putR r c k).get j = if k + 1 + 1 + 1 = j then some (.int .i64 r.d) else if k + 1 + 1 = j then some (.int .i64 r.c) else if k + 1 = j then some (.int .i64 r.b) else if k = j then some (.int .i64 r.a) else c.get j := by
 rw [putR, T.get_put, T.get_put, T.get_put, T.get_put]
structure R4 (e : T AV) (k : Nat) (r : Rw) : Prop where
 a : e.get k = some (.int .i64 r.a)
 b : e.get (k + 1) = some (.int .i64 r.b)
 c : e.get (k + 1 + 1) = some (.int .i64 r.c)
 d : e.get (k + 1 + 1 + 1) = some (.int .i64 r.d)
theorem R4.load {c : T AV} {k : Nat} {r : Rw} (x : R4 c k r) : loadL c 4 k = some (rl r) := by
 refine zEm x.a (zEm x.b (zEm x.c (zEm x.d rfl)))
theorem storeR {c : T AV} {k : Nat} {r : Rw} (h0 : c.get k ≠ none) (h1 : c.get (k + 1) ≠ none) (h2 : c.get (k + 1 + 1) ≠ none) (h3 : c.get (k + 1 + 1 + 1) ≠ none) : zCh (rl r) c k = some (putR r c k) := by
 have e : ∀ {x : Option AV} {d : Option (T AV)} {y : Option (T AV)}, x ≠ none → obind x d (fun _ => y) = y := fun {x} _ _ h => by cases x with | none => exact absurd rfl h | some _ => rfl
 rw [rl, zEq, e h0, zEq, e (by rw [T.get_put_ne _ _ _ _ (by omega)]; exact h1), zEq, e (by rw [T.get_put_ne _ _ _ _ (by omega), T.get_put_ne _ _ _ _ (by omega)]; exact h2), zEq, e (by rw [T.get_put_ne _ _ _ _ (by omega), T.get_put_ne _ _ _ _ (by omega), T.get_put_ne _ _ _ _ (by omega)]; exact h3), zKa]
 rfl
theorem R4.store {c : T AV} {k : Nat} {r : Rw} (x : R4 c k r) (r' : Rw) : zCh (rl r') c k = some (putR r' c k) :=
 storeR (by rw [x.a]; exact fun h => by cases h) (by rw [x.b]; exact fun h => by cases h) (by rw [x.c]; exact fun h => by cases h) (by rw [x.d]; exact fun h => by cases h)
theorem zHj {r : Rw} {c : T AV} {k j : Nat} (h : c.get j ≠ none) : (putR r c k).get j ≠ none := by
 rw [zHk]
 split
 ·exact fun h => by cases h
 split
 ·exact fun h => by cases h
 split
 ·exact fun h => by cases h
 split
 ·exact fun h => by cases h
 exact h
theorem R4.store2 {c : T AV} {k : Nat} {r : Rw} (x : R4 c k r) (r' r2 : Rw) (k2 : Nat) : zCh (rl r') (putR r2 c k2) k = some (putR r' (putR r2 c k2) k) :=
 storeR (zHj (by rw [x.a]; exact fun h => by cases h)) (zHj (by rw [x.b]; exact fun h => by cases h)) (zHj (by rw [x.c]; exact fun h => by cases h)) (zHj (by rw [x.d]; exact fun h => by cases h))
theorem R4.put {c : T AV} {k : Nat} {r : Rw} : R4 (putR r c k) k r := ⟨by rw [zHk, if_neg (by omega), if_neg (by omega), if_neg (by omega), if_pos rfl], by rw [zHk, if_neg (by omega), if_neg (by omega), if_pos rfl], by rw [zHk, if_neg (by omega), if_pos rfl], by rw [zHk, if_pos rfl]⟩
def RArr (c : T AV) (o n : Nat) (f : Nat → Rw) : Prop := ∀ i, i < n → loadL c 4 (o + i * 4) = some (rl (f i)) ∧ (∀ r, zCh (rl r) c (o + i * 4) = some (putR r c (o + i * 4))) ∧ (∀ r r2 k2, zCh (rl r) (putR r2 c k2) (o + i * 4) = some (putR r (putR r2 c k2) (o + i * 4)))
def RArr4 (c : T AV) (o n : Nat) (f : Nat → Rw) : Prop := ∀ i, i < n → R4 c (o + i * 4) (f i)
theorem RArr4.arr {c : T AV} {o n : Nat} {f : Nat → Rw} (x : RArr4 c o n f) : RArr c o n f := fun i hi => ⟨(x i hi).load, (x i hi).store, (x i hi).store2⟩
section
variable {h h0 : AH} {id o n s : Nat} {p : Option Nat} {c0 : T AV} {g : Nat → Rw}
structure SegR (h0 : AH) (id o n s : Nat) (p : Option Nat) (c0 : T AV) (h : AH) (g : Nat → Rw) : Prop where
 old : id < h0.next
 more : MoreBut id h0 h
 row4 : ∃ c, h.mem.get id = some (.cells c s p false) ∧ RArr4 c o n g ∧ ∀ k, (k < o ∨ o + n * 4 ≤ k) → c.get k = c0.get k
theorem SegR.row (x : SegR h0 id o n s p c0 h g) : ∃ c, h.mem.get id = some (.cells c s p false) ∧ RArr4 c o n g ∧ (∀ k, (k < o ∨ o + n * 4 ≤ k) → c.get k = c0.get k) ∧ RArr c o n g := by
 obtain ⟨c, h1, h2, h3⟩ := x.row4
 exact ⟨c, h1, h2, h3, h2.arr⟩
theorem SegR.on {h' : AH} {g' : Nat → Rw} {c : T AV} (x : SegR h0 id o n s p c0 h g) (hc : ∀ k, (k < o ∨ o + n * 4 ≤ k) → c.get k = c0.get k) (y : SegR h id o n s p c h' g') : SegR h0 id o n s p c0 h' g' := by
 obtain ⟨a1, a2, c1, a3, a4, a5⟩ := y
 exact ⟨x.old, x.more.trans a2, c1, a3, a4, fun k hk => by rw [a5 k hk, hc k hk]⟩
theorem SegR.but {h' : AH} (x : SegR h0 id o n s p c0 h g) {q : Nat} (hq : h0.next ≤ q) (y : MoreBut q h h') : SegR h0 id o n s p c0 h' g := by
 obtain ⟨a1, a2, c1, a3, a4, a5⟩ := x
 have a2n := a2.next
 exact ⟨a1, ⟨Nat.le_trans a2.next y.next, fun k k1 k2 => by rw [y.keep k (by omega) (by omega)]; exact a2.keep k k1 k2⟩, c1, by rw [y.keep id (by omega) (by omega)]; exact a3, a4, a5⟩
theorem SegR.to {h' : AH} (x : SegR h0 id o n s p c0 h g) (y : More h h') : SegR h0 id o n s p c0 h' g := by
 obtain ⟨a1, a2, c1, a3, a4, a5⟩ := x
 have a2n := a2.next
 exact ⟨a1, ⟨Nat.le_trans a2.next y.next, fun k k1 k2 => by rw [y.keep k (by omega)]; exact a2.keep k k1 k2⟩, c1, by rw [y.keep id (by omega)]; exact a3, a4, a5⟩
theorem SegR.add (x : SegR h0 id o n s p c0 h g) (ob : AObj) : SegR h0 id o n s p c0 (h.add ob) g := x.to (More.add h ob)
end
noncomputable def cvK (v : AV) (l : List AV) : OR := onFn v fun f first caps => OR.enter f (lapp first (lapp l caps))
theorem op_callV {loc : T AV} {tmp : List AV} {h : AH} {f : Opd} {l : List Opd} : evOp (.callV f l) loc tmp h = cvK (ev loc tmp f) (evs loc tmp l) := rfl
theorem cvK_fn {n : Nat} {l : List AV} : cvK (.fn n [] []) l = .enter n l := by
 show OR.enter n (lapp [] (lapp l [])) = _
 rw [zDn, zDn, List.append_nil, List.nil_append]
noncomputable def rd1 (x : AV) (b : Bool) (r : OR) : Bool := OR.rec (motive := fun _ => Bool) (fun v _ => bi (same v x) b false) (fun _ _ => false) (fun _ => false) (fun _ => false) (fun _ => false) r
theorem zA7 {loc : T AV} {tmp : List AV} {h : AH} {op : AOp} {i : Nat} {l : List ARe} : reads loc tmp h (⟨op, i, none⟩ :: l) = rd1 (nth tmp i) (reads loc tmp h l) (evOp op loc tmp h) := rfl
theorem zA8 {x v : AV} {b : Bool} {h' : AH} : rd1 x b (.val v h') = bi (same v x) b false := rfl
theorem ne_1 {n : Nat} : (n + 1 = n) = False := eq_false (by omega)
theorem ne_2 {n : Nat} : (n + 1 + 1 = n) = False := eq_false (by omega)
theorem ne_1' {n : Nat} : (n = n + 1) = False := eq_false (by omega)
theorem ne_2' {n : Nat} : (n = n + 1 + 1) = False := eq_false (by omega)
theorem move_fn {n : Nat} {a b : List AV} {h : AH} : oMove (.c (.fn n a b)) .leaf [] h = .val (.fn n a b) h := rfl
end Go.Ev
namespace Go.Ev
open Go
section
variable {loc : T AV} {tmp : List AV} {h : AH}
theorem op_mkFn {f : Nat} {a b : List Opd} : evOp (.mkFn f a b) loc tmp h = .val (.fn f (evs loc tmp a) (evs loc tmp b)) h := rfl
theorem op_mkIfc {t : Nat} {x : Opd} : evOp (.mkIfc t x) loc tmp h = zIh t (.c (ev loc tmp x)) .leaf [] h := rfl
theorem op_panic {x : Opd} : evOp (.panic x) loc tmp h = oPanic (.c (ev loc tmp x)) .leaf [] h := rfl
theorem mkIfc_agg {t : Nat} {l : List AV} : zIh t (.c (.agg l)) .leaf [] h = .val (.ifc t (.agg l)) h := rfl
theorem mkIfc_bool {t : Nat} {q : Bool} : zIh t (.c (.bool q)) .leaf [] h = .val (.ifc t (.bool q)) h := rfl
theorem panic_ifc {t : Nat} {v : AV} : oPanic (.c (.ifc t v)) .leaf [] h = .pan (.ifc t v) := rfl
def cell1 (v : AV) : T AV := .log 1 0 (some v) .leaf
theorem zA1 {v : AV} : (cell1 v).get 0 = some v := rfl
theorem zLz {i o : Nat} : oBox (.c (.ptr i o)) .leaf [] h = .val (.ptr h.next 0) (h.add (.cells (.log 1 0 (some (.ptr i o)) .leaf) 1 none false)) := by
 show AH.new h (AObj.cells (T.log 1 0 (some (AV.ptr i o)) .leaf) 1 none false) (fun id h => OR.val (AV.ptr id 0) h) = _
 rw [AH.new_eq]
theorem box_int {k : IntKind} {n : Int} : oBox (.c (.int k n)) .leaf [] h = .val (.ptr h.next 0) (h.add (.cells (.log 1 0 (some (.int k n)) .leaf) 1 none false)) := by
 show AH.new h (AObj.cells (T.log 1 0 (some (AV.int k n)) .leaf) 1 none false) (fun id h => OR.val (AV.ptr id 0) h) = _
 rw [AH.new_eq]
theorem box_bool {q : Bool} : oBox (.c (.bool q)) .leaf [] h = .val (.ptr h.next 0) (h.add (.cells (.log 1 0 (some (.bool q)) .leaf) 1 none false)) := by
 show AH.new h (AObj.cells (T.log 1 0 (some (AV.bool q)) .leaf) 1 none false) (fun id h => OR.val (AV.ptr id 0) h) = _
 rw [AH.new_eq]
theorem box_sv {l : List UInt8} : oBox (.c (sv l)) .leaf [] h = .val (.ptr h.next 0) (h.add (.cells (.log 1 0 (some (sv l)) .leaf) 1 none false)) := by
 show AH.new h (AObj.cells (T.log 1 0 (some (sv l)) .leaf) 1 none false) (fun id h => OR.val (AV.ptr id 0) h) = _
 rw [AH.new_eq]
theorem box_fn {f : Nat} {a b : List AV} : oBox (.c (.fn f a b)) .leaf [] h = .val (.ptr h.next 0) (h.add (.cells (.log 1 0 (some (.fn f a b)) .leaf) 1 none false)) := by
 show AH.new h (AObj.cells (T.log 1 0 (some (AV.fn f a b)) .leaf) 1 none false) (fun id h => OR.val (AV.ptr id 0) h) = _
 rw [AH.new_eq]
theorem cells_ptr {i o : Nat} : cellsOf (.ptr i o) = some [.ptr i o] := rfl
theorem cells_nilp : cellsOf .nilp = some [.nilp] := rfl
theorem cells_nils : cellsOf .nils = some [.nils] := rfl
theorem cells_nili : cellsOf .nili = some [.nili] := rfl
theorem cells_nilf : cellsOf .nilf = some [.nilf] := rfl
theorem cells_fn {f : Nat} {a b : List AV} : cellsOf (.fn f a b) = some [.fn f a b] := rfl
theorem move_nilf : oMove (.c .nilf) .leaf [] h = .val .nilf h := rfl
theorem move_nili : oMove (.c .nili) .leaf [] h = .val .nili h := rfl
theorem eqp_np {neg : Bool} {i o : Nat} : oEq neg .ptr (.c .nilp) (.c (.ptr i o)) .leaf [] h = .val (.bool neg) h := by cases neg <;> rfl
theorem eqp_pn {neg : Bool} {i o : Nat} : oEq neg .ptr (.c (.ptr i o)) (.c .nilp) .leaf [] h = .val (.bool neg) h := by cases neg <;> rfl
theorem eqp_nn {neg : Bool} : oEq neg .ptr (.c .nilp) (.c .nilp) .leaf [] h = .val (.bool (!neg)) h := by cases neg <;> rfl
theorem eqp_pp {neg : Bool} {i o o' : Nat} : oEq neg .ptr (.c (.ptr i o)) (.c (.ptr i o')) .leaf [] h = .val (.bool (if neg then !decide (o = o') else decide (o = o'))) h := by
 show obind (bi (Nat.beq i i) (some (Nat.beq o o')) _) (F 29) (fun q => Ev.bool (bi neg (bi q false true) q) h) = _
 rw [Nat.beq_refl, zGn, zJ3]
 by_cases hc : o = o' <;> cases neg <;> simp [hc] <;> rfl
theorem eqfn_fn {neg : Bool} {f : Nat} {a b : List AV} : oEq neg .fn (.c (.fn f a b)) (.c .nilf) .leaf [] h = .val (.bool neg) h := by cases neg <;> rfl
theorem eqfn_nf {neg : Bool} : oEq neg .fn (.c .nilf) (.c .nilf) .leaf [] h = .val (.bool (!neg)) h := by cases neg <;> rfl
theorem zBj {i o : Nat} : same (.ptr i o) (.ptr i o) = true := by
 show bi (Nat.beq i i) (Nat.beq o o) false = true
 rw [Nat.beq_refl, Nat.beq_refl]; rfl
theorem same_nils : same .nils .nils = true := rfl
theorem zCj : same .nilp .nilp = true := rfl
theorem same_bool {q : Bool} : same (.bool q) (.bool q) = true := by cases q <;> rfl
theorem same_sv {l : List UInt8} : same (sv l) (sv l) = true := by
 show bi (Nat.beq l.length l.length) (Nat.beq (encB l) (encB l)) false = true
 rw [Nat.beq_refl, Nat.beq_refl]; rfl
theorem same_sl {i o l : Nat} {c : ACap} : same (.sl i o l c) (.sl i o l c) = true := by
 cases c with
 | known n =>
  show bi (Nat.beq i i) (bi (Nat.beq o o) (bi (Nat.beq l l) (Nat.beq n n) false) false) false = true
  simp only [Nat.beq_refl]; rfl
 | rest n =>
  show bi (Nat.beq i i) (bi (Nat.beq o o) (bi (Nat.beq l l) (Nat.beq n n) false) false) false = true
  simp only [Nat.beq_refl]; rfl
theorem zBc {x : AV} : same (.agg [x]) (.agg [x]) = same x x := by
 show bi (same x x) true false = _
 cases same x x <;> rfl
theorem cvK2 {n : Nat} {a c l : List AV} : cvK (.fn n a c) l = .enter n (lapp a (lapp l c)) := rfl
theorem lapp_nil {l : List AV} : lapp [] l = l := rfl
theorem lapp_cons {v : AV} {l m : List AV} : lapp (v :: l) m = v :: lapp l m := rfl
theorem gv_tup {l : List AV} {want : Bool} : gv (.tup l) want = some false := rfl
theorem onEndE_val {x : Opd} {l : T AV} {Q E : AV → AH → Prop} : zDv [.val x] Q E (.ret l [] h) = Q (ev l [] x) h := by
 refine propext ⟨?_, fun q => ⟨_, zAy zAm, by rw [zLi]; exact q⟩⟩
 rintro ⟨vs, h1, q⟩
 rw [zAy zAm] at h1
 injection h1 with h1; subst h1; rwa [zLi] at q
theorem zKf {l : T AV} {Q E : AV → AH → Prop} : zDv [] Q E (.ret l [] h) = Q (.tup []) h := by
 refine propext ⟨?_, fun q => ⟨_, zAm, q⟩⟩
 rintro ⟨vs, h1, q⟩
 rw [zAm] at h1
 injection h1 with h1; subst h1; exact q
theorem onEndE_niln {l : T AV} {Q E : AV → AH → Prop} : zDv [] Q E (.norm l [] h) = Q (.tup []) h := zKf (E := E)
theorem str0 : AV.str 0 0 = sv [] := rfl
end
section
variable {tab : Nat → Option AFunc} {loc : T AV} {d : List AV} {h : AH} {b : ACode} {Q : Res → Prop}
theorem zBi {z : List AV} {k : Nat} (x : ∀ h', h'.next = h.next + 1 → h'.mem.get h.next = some (.cells (zAc z) (llen z) none false) → More h h' → WC tab b (T.put (some (.ptr h.next 0)) loc k) d h' Q) :
  WC tab (.seq (.ops [⟨.alloc z, none, some k, []⟩]) b) loc d h Q := by
 refine zAd (zI4 ?_)
 rw [zEx, zBq, zBu, zGt, zCi]
 refine ⟨rfl, ?_⟩
 rw [PE_nil]
 exact x _ rfl (by rw [AH.add_mem, T.get_put_self]) (More.add _ _)
theorem zF5 {i k k2 : Nat} {v : AV} {z : List AV} (hv : T.get loc i = some v) (hb : ∀ h' : AH, oBox (.c v) .leaf [] h' = .val (.ptr h'.next 0) (h'.add (.cells (cell1 v) 1 none false)))
  (x : ∀ h', h'.next = h.next + 2 → h'.mem.get h.next = some (.cells (cell1 v) 1 none false) → h'.mem.get (h.next + 1) = some (.cells (zAc z) (llen z) none false) → More h h' → WC tab b (T.put (some (.ptr (h.next + 1) 0)) (T.put (some (.ptr h.next 0)) loc k) k2) d h' Q) :
  WC tab (.seq (.ops [⟨.box (.l i), none, some k, []⟩, ⟨.alloc z, none, some k2, []⟩]) b) loc d h Q := by
 refine zAd (zI4 ?_)
 rw [zEx, zBq, zBu, op_box, evl, hv]
 show stepE tab _ _ _ (some k) [] _ [] d h _ (oBox (.c v) .leaf [] h)
 rw [hb, zCi]
 refine ⟨rfl, ?_⟩
 rw [zEx, zBq, zBu, zGt, zCi]
 refine ⟨rfl, ?_⟩
 rw [PE_nil]
 refine x _ rfl ?_ ?_ ((More.add _ _).trans (More.add _ _))
 ·rw [AH.add_mem, T.get_put_ne _ _ _ _ (by rw [AH.add_next]; omega), AH.add_mem, T.get_put_self]
 ·rw [AH.add_mem]; exact T.get_put_self _ _ _
theorem zC9 {i k k2 : Nat} {l z : List AV} (hv : T.get loc i = some (.agg l))
  (x : ∀ h', h'.next = h.next + 2 → h'.mem.get h.next = some (.cells (zAc l) (llen l) none false) → h'.mem.get (h.next + 1) = some (.cells (zAc z) (llen z) none false) → More h h' → WC tab b (T.put (some (.ptr (h.next + 1) 0)) (T.put (some (.ptr h.next 0)) loc k) k2) d h' Q) :
  WC tab (.seq (.ops [⟨.box (.l i), none, some k, []⟩, ⟨.alloc z, none, some k2, []⟩]) b) loc d h Q := by
 refine zAd (zI4 ?_)
 rw [zEx, zBq, zBu, op_box, evl, hv]
 show stepE tab _ _ _ (some k) [] _ [] d h _ (oBox (.c (.agg l)) .leaf [] h)
 rw [box_agg, zCi]
 refine ⟨rfl, ?_⟩
 rw [zEx, zBq, zBu, zGt, zCi]
 refine ⟨rfl, ?_⟩
 rw [PE_nil]
 refine x _ rfl ?_ ?_ ((More.add _ _).trans (More.add _ _))
 ·rw [AH.add_mem, T.get_put_ne _ _ _ _ (by rw [AH.add_next]; omega), AH.add_mem, T.get_put_self]
 ·rw [AH.add_mem]; exact T.get_put_self _ _ _
theorem zA6 {n k id : Nat} {l : T AV} {c : T AV} {s : Nat} {p : Option Nat} {ro : Bool} {lst : List AV} {Q E : AV → AH → Prop} (hk : l.get k = some (.ptr id 0)) (hg : h.mem.get id = some (.cells c s p ro)) (hl : loadL c n 0 = some lst) (q : Q (.agg lst) h) :
  zDv [.cellN n (.l k)] Q E (.ret l [] h) := by
 refine ⟨[.agg lst], res_cellN (id := id) (o := 0) (by rw [evl, hk]; rfl) ?_, q⟩
 rw [hg]
 show obind (loadL c n 0) (F 18) _ = _
 rw [hl]; rfl
end
theorem GP.to {tab : Nat → Option AFunc} {f : Nat} {args : List AV} {h : AH} {Q Q1 E : AV → AH → Prop} (x : GP tab f args h Q) (hq : ∀ v h1, Q v h1 → Q1 v h1) : GE tab f args h Q1 E := (x.mono hq).ge
noncomputable def kept (h : AH) (z lst : List AV) : AH := (h.add (.cells (zAc z) (llen z) none false)).set h.next (.cells (putL lst (zAc z) 0) (llen z) none false)
theorem kept_next {h : AH} {z lst : List AV} : (kept h z lst).next = h.next + 1 := by unfold kept; rw [AH.set_next]; rfl
theorem kept_get {h : AH} {z lst : List AV} : (kept h z lst).mem.get h.next = some (.cells (putL lst (zAc z) 0) (llen z) none false) := AH.get_set
theorem kept_more {h : AH} {z lst : List AV} : More h (kept h z lst) := (More.add h _).set (Nat.le_refl _) _
section
variable {tab : Nat → Option AFunc} {loc loc0 : T AV} {tmp d : List AV} {h : AH} {b : ACode} {Q : Res → Prop} {whole l : List AOper} {k : Nat}
theorem zFw {x y w a b c : AV} : PE tab whole loc0 (⟨.alloc [x, y, w], none, some k, []⟩ :: ⟨.store 3 (.t 0) (.t 1), none, none, []⟩ :: l) loc (.agg [a, b, c] :: tmp) d h Q =
  PE tab whole loc0 l (T.put (some (.ptr h.next 0)) loc k) (.tup [] :: .ptr h.next 0 :: .agg [a, b, c] :: tmp) d (kept h [x, y, w] [a, b, c]) Q := by
 rw [zEx, zBq, zBu, zGt, zCi, zEx, zBq, zBu, zLh]
 simp only [ev_t, zLl, zLm]
 rw [zG5, AH.add_mem, T.get_put_self]
 simp only [zDw, zDh, zJ0, zEl, zJk, zLo]
 have e : zCh [a, b, c] (zAc [x, y, w]) 0 = some (putL [a, b, c] (zAc [x, y, w]) 0) := rfl
 rw [e]
 simp only [zEl, show Nat.beq (0 + 1 + 1 + 1) 3 = true from rfl, zGn, zCi]
 simp only [zI9, zG7, zCk, true_and]
 rfl
theorem zFx {x a : AV} : PE tab whole loc0 (⟨.alloc [x], none, some k, []⟩ :: ⟨.store 1 (.t 0) (.t 1), none, none, []⟩ :: l) loc (.agg [a] :: tmp) d h Q =
  PE tab whole loc0 l (T.put (some (.ptr h.next 0)) loc k) (.tup [] :: .ptr h.next 0 :: .agg [a] :: tmp) d (kept h [x] [a]) Q := by
 rw [zEx, zBq, zBu, zGt, zCi, zEx, zBq, zBu, zLh]
 simp only [ev_t, zLl, zLm]
 rw [zG5, AH.add_mem, T.get_put_self]
 simp only [zDw, zDh, zJ0, zEl, zJk, zLo]
 have e : zCh [a] (zAc [x]) 0 = some (putL [a] (zAc [x]) 0) := rfl
 rw [e]
 simp only [zEl, show Nat.beq (0 + 1) 1 = true from rfl, zGn, zCi]
 simp only [zI9, zG7, zCk, true_and]
 rfl
theorem zC8 {K : T AV → List AV → AH → Prop} {x y w a b c : AV} (g : ∀ h2, h2.next = h.next + 1 → (∃ cc, h2.mem.get h.next = some (.cells cc 3 none false) ∧ cc.get 0 = some a ∧ cc.get 1 = some b ∧ cc.get 2 = some c) → More h h2 → zE2 K Q (.norm loc d h2)) :
  zE2 K Q (.norm loc d (kept h [x, y, w] [a, b, c])) := by
 refine g _ kept_next ⟨_, kept_get, ?_, ?_, ?_⟩ kept_more <;> rw [zEd] <;> rfl
theorem zBs {K : T AV → List AV → AH → Prop} {x a : AV} (g : ∀ h2, h2.next = h.next + 1 → (∃ cc, h2.mem.get h.next = some (.cells cc 1 none false) ∧ cc.get 0 = some a) → More h h2 → zE2 K Q (.norm loc d h2)) :
  zE2 K Q (.norm loc d (kept h [x] [a])) := by
 refine g _ kept_next ⟨_, kept_get, ?_⟩ kept_more; rw [zEd]; rfl
end
theorem zJl {α : Type} {a b : Nat} {x y : α} (h : a ≠ b) : (if a = b then x else y) = y := if_neg h
theorem zFo {α : Type} {a b : Nat} {x y : α} (h : a = b) : (if a = b then x else y) = x := if_pos h
section
variable {h : AH}
theorem move_tup {l : List AV} : oMove (.c (.tup l)) .leaf [] h = .val (.tup l) h := rfl
theorem move_ifc {t : Nat} {v : AV} : oMove (.c (.ifc t v)) .leaf [] h = .val (.ifc t v) h := rfl
noncomputable def exV (v : AV) (h : AH) : OR := zDr 0 (.c (.tup [v])) .leaf [] h
theorem ext0 {a : AV} {l : List AV} : zDr 0 (.c (.tup (a :: l))) .leaf [] h = exV a h := rfl
theorem ext1 {a b : AV} {l : List AV} : zDr 1 (.c (.tup (a :: b :: l))) .leaf [] h = exV b h := rfl
theorem ext2 {a b c : AV} {l : List AV} : zDr 2 (.c (.tup (a :: b :: c :: l))) .leaf [] h = exV c h := rfl
theorem exV_int {k : IntKind} {n : Int} : exV (.int k n) h = .val (.int k n) h := rfl
theorem exV_bool {q : Bool} : exV (.bool q) h = .val (.bool q) h := rfl
theorem exV_sv {l : List UInt8} : exV (sv l) h = .val (sv l) h := rfl
theorem exV_nili : exV .nili h = .val .nili h := rfl
theorem exV_nils : exV .nils h = .val .nils h := rfl
theorem exV_ifc {t : Nat} {v : AV} : exV (.ifc t v) h = .val (.ifc t v) h := rfl
theorem exV_sl {i o l : Nat} {c : ACap} : exV (.sl i o l c) h = .val (.sl i o l c) h := rfl
theorem exV_agg {l : List AV} : exV (.agg l) h = .val (.agg l) h := rfl
theorem exV_ptr {i o : Nat} : exV (.ptr i o) h = .val (.ptr i o) h := rfl
theorem eqifc_in {neg : Bool} {t : Nat} {v : AV} : oEq neg .ifc (.c (.ifc t v)) (.c .nili) .leaf [] h = .val (.bool neg) h := by cases neg <;> rfl
theorem eqifc_nn {neg : Bool} : oEq neg .ifc (.c .nili) (.c .nili) .leaf [] h = .val (.bool (!neg)) h := by cases neg <;> rfl
end
def EVE := (And.intro @obind_ite (And.intro @PE_nil (And.intro @zEx (And.intro @guardE_false (And.intro @zBu (And.intro @zCi (And.intro @stepE_enter (And.intro @zBq (And.intro @gb_any (And.intro @gb_bool (And.intro @ev_t (And.intro @evl (And.intro @ev_c (And.intro @zLl (And.intro @zLm (And.intro @T.get_put (And.intro @zG7 (And.intro @zCk (And.intro @evs_nil (And.intro @evs_cons (And.intro @zI9 (And.intro @op_move (And.intro @op_pick (And.intro @op_load (And.intro @op_loadN (And.intro @zLh (And.intro @op_nil (And.intro @op_bin (And.intro @op_eq (And.intro @op_not (And.intro @op_neg (And.intro @op_convI (And.intro @op_len (And.intro @op_idxAddr (And.intro @op_fieldAddr (And.intro @op_field (And.intro @op_extract (And.intro @op_callF (And.intro @zGt (And.intro @op_build (And.intro @move_int (And.intro @move_bool (And.intro @move_ptr (And.intro @move_nilp (And.intro @move_sl (And.intro @move_nils (And.intro @move_agg (And.intro @bin_lss (And.intro @bin_leq (And.intro @bin_gtr (And.intro @bin_geq (And.intro @bin_add (And.intro @bin_sub (And.intro @bin_mul (And.intro @eq_int (And.intro @eq_bool (And.intro @eq_agg (And.intro @eqLz (And.intro @eqLs (And.intro @eqS_int (And.intro @eqS_bool (And.intro @not_bool (And.intro @zIk (And.intro @len_nils (And.intro @pick_bool (And.intro @zLt (And.intro @fill_nil (And.intro @zDw (And.intro @zEl (And.intro @obind_none (And.intro @zGn (And.intro @zDh (And.intro @load_cells (And.intro @loadN_cells (And.intro @zG5 (And.intro @zJ0 (And.intro @cells_int (And.intro @loadL_zero (And.intro @zKa (And.intro @zLo (And.intro @zJk (And.intro @zJ3 (And.intro @zAa (And.intro @zAh (And.intro @zBd (And.intro @zAi (And.intro @zAf (And.intro @zBa (And.intro @zAk (And.intro @AH.add_mem (And.intro @AH.add_next (And.intro @AH.set_mem (And.intro @AH.set_next (And.intro @op_max (And.intro @op_min (And.intro @max_int (And.intro @min_int (And.intro @convI_int (And.intro @nil_ptr (And.intro @op_box (And.intro @box_agg (And.intro @op_bslice (And.intro @fill_cons (And.intro @op_append (And.intro @AH.kill_mem (And.intro @AH.kill_next (And.intro @zHo (And.intro @zIy (And.intro @zDn (And.intro @ble_nat (And.intro @add_nat (And.intro @cells_sl (And.intro @cells_bool (And.intro @lt_nat (And.intro @le_nat (And.intro @eq_nat (And.intro @op_callV (And.intro @cvK_fn (And.intro @move_fn (And.intro @zA7 (And.intro @zA8 (And.intro @same_int (And.intro @same_agg_nil (And.intro @zLa (And.intro @ne_1 (And.intro @ne_2 (And.intro @ne_1' (And.intro @ne_2' (And.intro @zEq (And.intro @move_tup (And.intro @move_ifc (And.intro @ext0 (And.intro @ext1 (And.intro @ext2 (And.intro @exV_int (And.intro @exV_bool (And.intro @exV_sv (And.intro @exV_nili (And.intro @exV_nils (And.intro @exV_ifc (And.intro @exV_sl (And.intro @exV_agg (And.intro @exV_ptr (And.intro @eqifc_in (And.intro @eqifc_nn (And.intro @stepE_pan (And.intro @contE_eq (And.intro @gv_tup (And.intro @onEndE_val (And.intro @zKf (And.intro @onEndE_niln (And.intro @zC7 (And.intro @zCo (And.intro @op_mkFn (And.intro @op_idxS (And.intro @op_mkIfc (And.intro @op_panic (And.intro @mkIfc_agg (And.intro @mkIfc_bool (And.intro @panic_ifc (And.intro @zLz (And.intro @box_int (And.intro @box_bool (And.intro @box_sv (And.intro @box_fn (And.intro @cells_ptr (And.intro @cells_nilp (And.intro @cells_nils (And.intro @cells_nili (And.intro @cells_nilf (And.intro @cells_fn (And.intro @cells_sv (And.intro @move_sv (And.intro @len_sv (And.intro @eq_sv (And.intro @eqS_sv (And.intro @eqp_np (And.intro @eqp_nn (And.intro @eqp_pn (And.intro @eqp_pp (And.intro @eqfn_fn (And.intro @eqfn_nf (And.intro @zBj (And.intro @same_sl (And.intro @same_nils (And.intro @zCj (And.intro @same_sv (And.intro @same_bool (And.intro @cvK2 (And.intro @lapp_nil (And.intro @lapp_cons (And.intro @T.get_log (And.intro @T.get_leaf (And.intro @move_nilf (And.intro @op_sliceS2 (And.intro @op_sliceSl (And.intro @op_sliceSh (And.intro @op_loadN (And.intro @zBc (And.intro @move_nili (And.intro @op_neg (@str0))))))))))))))))))))))))))))))))))))))))))))))))))))))))))))))))))))))))))))))))))))))))))))))))))))))))))))))))))))))))))))))))))))))))))))))))))))))))))))))))))))))))))))))))))))))))))))))))))))))))))
def EE := And.intro EVE (And.intro EVN EVC)
end Go.Ev
namespace Go.Ev
open Go Go.Pa
inductive Arr (h : AH) (F : Nat → Prop) : AV → List AV → Prop
 | nils : Arr h F .nils []
 | sl {id s : Nat} {c : T AV} {cap : ACap} {cs : List AV} : cs ≠ [] → F id → id < h.next → h.mem.get id = some (.cells c s none false) → (∀ i, i < cs.length → c.get i = cs[i]?) → (cap = .rest 1 ∧ s = cs.length ∨ cap = .known cs.length) → cs.length ≤ 1000000 →
   Arr h F (.sl id 0 cs.length cap) cs
structure Stay (F : Nat → Prop) (h h' : AH) : Prop where
 next : h.next ≤ h'.next
 keep : ∀ id, F id → id < h.next → h'.mem.get id = h.mem.get id
theorem Stay.refl (F : Nat → Prop) (h : AH) : Stay F h h := ⟨Nat.le_refl _, fun _ _ _ => rfl⟩
theorem Stay.trans {F : Nat → Prop} {a b c : AH} (x : Stay F a b) (y : Stay F b c) : Stay F a c := ⟨Nat.le_trans x.next y.next, fun id hf hi => by rw [y.keep id hf (Nat.lt_of_lt_of_le hi x.next), x.keep id hf hi]⟩
theorem Stay.less {F G : Nat → Prop} {a b : AH} (x : Stay F a b) (hg : ∀ id, G id → F id) : Stay G a b := ⟨x.next, fun id hf hi => x.keep id (hg id hf) hi⟩
theorem Stay.set {F : Nat → Prop} {h h' : AH} (x : Stay F h h') {i : Nat} (hi : i < h.next → ¬ F i) (o : AObj) : Stay F h (h'.set i o) := ⟨by rw [AH.set_next]; exact x.next, fun id hf hl => by
 have hne : i ≠ id := fun e => by subst e; exact hi hl hf
 rw [AH.set_mem, T.get_put_ne _ _ _ _ hne]; exact x.keep id hf hl⟩
theorem Stay.kill {F : Nat → Prop} {h h' : AH} (x : Stay F h h') {i : Nat} (hi : i < h.next → ¬ F i) : Stay F h (h'.kill i) := ⟨by rw [AH.kill_next]; exact x.next, fun id hf hl => by
 have hne : i ≠ id := fun e => by subst e; exact hi hl hf
 rw [AH.kill_mem, T.get_put_ne _ _ _ _ hne]; exact x.keep id hf hl⟩
theorem Stay.add {F : Nat → Prop} {h h' : AH} (x : Stay F h h') (o : AObj) : Stay F h (h'.add o) := ⟨Nat.le_trans x.next (Nat.le_succ _), fun id hf hl => by
 rw [AH.add_mem, T.get_put_ne _ _ _ _ (by have := x.next; omega)]; exact x.keep id hf hl⟩
theorem Arr.keep {h h' : AH} {F G : Nat → Prop} {v : AV} {cs : List AV} (x : Arr h F v cs) (m : Stay F h h') (hg : ∀ id, F id → id < h.next → G id) : Arr h' G v cs := by
 cases x with
 | nils => exact .nils
 | sl a b c d e f g => exact .sl a (hg _ b c) (Nat.lt_of_lt_of_le c m.next) (by rw [m.keep _ b c]; exact d) e f g
theorem Arr.len {h h' : AH} {F : Nat → Prop} {v : AV} {cs : List AV} (x : Arr h F v cs) : oLen .sl (.c v) .leaf [] h' = .val (.int .i64 (cs.length : Int)) h' := by
 cases x with
 | nils => rfl
 | sl => exact zIk
theorem Arr.small {h : AH} {F : Nat → Prop} {v : AV} {cs : List AV} (x : Arr h F v cs) : cs.length ≤ 1000000 := by
 cases x with
 | nils => exact Nat.zero_le _
 | sl a b c d e f g => exact g
theorem Arr.mv {h : AH} {F : Nat → Prop} {v : AV} {cs : List AV} (x : Arr h F v cs) : v.mv = true := by cases x <;> rfl
theorem Arr.cells {h : AH} {F : Nat → Prop} {v : AV} {cs : List AV} (x : Arr h F v cs) : cellsOf v = some [v] := by cases x <;> rfl
theorem Arr.same {h : AH} {F : Nat → Prop} {v : AV} {cs : List AV} (x : Arr h F v cs) : Ev.same v v = true := by
 cases x with
 | nils => rfl
 | sl => exact same_sl
theorem Arr.open {h : AH} {F : Nat → Prop} {v : AV} {cs : List AV} (x : Arr h F v cs) {i : Nat} (hi : i < cs.length) : ∃ id s c cap, v = .sl id 0 cs.length cap ∧ F id ∧ id < h.next ∧ h.mem.get id = some (.cells c s none false) ∧ c.get i = cs[i]? := by
 cases x with
 | nils => cases hi
 | sl a b c d e f g => exact ⟨_, _, _, _, rfl, b, c, d, e i hi⟩
def NodeC (h : AH) (id op : Nat) (name typ : Str) (n : Int) (pos : Nat) (kv : AV) : Prop := ∃ c, h.mem.get id = some (.cells c 6 none false) ∧ c.get 0 = some (.int .i64 (op : Int)) ∧ c.get 1 = some (sv name) ∧ c.get 2 = some (sv typ) ∧
 c.get 3 = some (.int .i64 n) ∧ c.get 4 = some (.int .i64 (pos : Int)) ∧ c.get 5 = some kv
theorem NodeC.keep {h h' : AH} {id op : Nat} {name typ : Str} {n : Int} {pos : Nat} {kv : AV} (x : NodeC h id op name typ n pos kv) (e : h'.mem.get id = h.mem.get id) : NodeC h' id op name typ n pos kv := by
 obtain ⟨c, g, r⟩ := x; exact ⟨c, by rw [e]; exact g, r⟩
mutual
def TreeR (h : AH) (F : Nat → Prop) : AV → Tree → Prop
 | v, .mk op name typ n pos kids => ∃ id kv cs, v = .ptr id 0 ∧ F id ∧ id < h.next ∧ NodeC h id op name typ n pos kv ∧ Arr h F kv cs ∧ TreesR h F cs kids
def TreesR (h : AH) (F : Nat → Prop) : List AV → List Tree → Prop
 | [], [] => True
 | v :: vs, t :: ts => TreeR h F v t ∧ TreesR h F vs ts
 | _, _ => False
end
mutual
theorem TreeR.keep {h h' : AH} {F G : Nat → Prop} (m : Stay F h h') (hg : ∀ id, F id → id < h.next → G id) : ∀ {t : Tree} {v : AV}, TreeR h F v t → TreeR h' G v t
 | .mk op name typ n pos kids, v, x => by
  obtain ⟨id, kv, cs, h1, h2, h3, h4, h5, h6⟩ := x
  exact ⟨id, kv, cs, h1, hg _ h2 h3, Nat.lt_of_lt_of_le h3 m.next, h4.keep (m.keep _ h2 h3), h5.keep m hg, TreesR.keep m hg h6⟩
theorem TreesR.keep {h h' : AH} {F G : Nat → Prop} (m : Stay F h h') (hg : ∀ id, F id → id < h.next → G id) : ∀ {ts : List Tree} {vs : List AV}, TreesR h F vs ts → TreesR h' G vs ts
 | [], [], _ => trivial
 | t :: ts, v :: vs, x => ⟨TreeR.keep m hg x.1, TreesR.keep m hg x.2⟩
 | [], _ :: _, x => x.elim
 | _ :: _, [], x => x.elim
end
theorem TreesR.len {h : AH} {F : Nat → Prop} : ∀ {ts : List Tree} {vs : List AV}, TreesR h F vs ts → vs.length = ts.length
 | [], [], _ => rfl
 | t :: ts, v :: vs, x => by rw [List.length_cons, List.length_cons, TreesR.len x.2]
 | [], _ :: _, x => x.elim
 | _ :: _, [], x => x.elim
theorem TreesR.app {h : AH} {F : Nat → Prop} {t : Tree} {v : AV} (y : TreeR h F v t) : ∀ {ts : List Tree} {vs : List AV}, TreesR h F vs ts → TreesR h F (vs ++ [v]) (ts ++ [t])
 | [], [], _ => ⟨y, trivial⟩
 | t :: ts, v :: vs, x => ⟨x.1, TreesR.app y x.2⟩
 | [], _ :: _, x => x.elim
 | _ :: _, [], x => x.elim
theorem TreesR.get {h : AH} {F : Nat → Prop} : ∀ {ts : List Tree} {vs : List AV}, TreesR h F vs ts → ∀ (i : Nat) (hi : i < ts.length), ∃ v, vs[i]? = some v ∧ TreeR h F v ts[i]
 | t :: ts, v :: vs, x, 0, _ => ⟨v, rfl, x.1⟩
 | t :: ts, v :: vs, x, i + 1, hi => TreesR.get x.2 i (by simpa using hi)
 | [], _, _, _, hi => by cases hi
 | _ :: _, [], x, _, _ => x.elim
theorem TreeR.ptr {h : AH} {F : Nat → Prop} {v : AV} {t : Tree} (x : TreeR h F v t) : ∃ id, v = .ptr id 0 ∧ F id ∧ id < h.next := by
 cases t with
 | mk => obtain ⟨id, kv, cs, h1, h2, h3, _⟩ := x; exact ⟨id, h1, h2, h3⟩
theorem Arr.append {h : AH} {F : Nat → Prop} {v x : AV} {cs : List AV} (a : Arr h F v cs) {src : AV} (hs : ∀ k, zBz 1 src h k = k 1 [x]) (hx : cs.length < 1000000) :
  ∃ v' h', zDl none 1 8 (.c v) (.c src) .leaf [] h = .val v' h' ∧ Arr h' (fun id => id = h.next) v' (cs ++ [x]) ∧ h'.next = h.next + 1 ∧ (∀ k, k < h.next → (∀ l n, v ≠ .sl k 0 l n) → h'.mem.get k = h.mem.get k) := by
 cases a with
 | nils =>
  refine ⟨_, _, zJ5 hs (by omega) (zEj (by omega) (by omega)), ?_, rfl, fun k hk _ => by rw [AH.add_mem, T.get_put_ne _ _ _ _ (by omega)]⟩
  exact Arr.sl (cs := [x]) (c := zAc [x]) (by simp) rfl (Nat.lt_succ_self _) (by rw [AH.add_mem, T.get_put_self]; rfl) (fun i hi => zAk _ _) (.inl ⟨rfl, rfl⟩) (by simp)
 | sl a1 a2 a3 a4 a5 a6 a7 =>
  rename_i id s c cap
  have hl : (cs ++ [x]).length = cs.length + 1 := by simp
  have hput : ∀ i, i < (cs ++ [x]).length → (putL [x] c (cs.length * 1)).get i = (cs ++ [x])[i]? := by
   intro i hi
   rw [hl] at hi
   rw [zEd, Nat.mul_one]
   by_cases h1 : i < cs.length
   ·rw [if_neg (by omega), a5 i h1, List.getElem?_append_left h1]
   ·obtain rfl : i = cs.length := by omega
    rw [if_pos (by simp), List.getElem?_append_right (Nat.le_refl _)]
  rcases a6 with ⟨rfl, rfl⟩ | rfl
  ·refine ⟨_, _, zJ4 hs a4 (Nat.mul_one _).symm (Nat.le_refl _) (by omega) (zEj (by omega) (by omega)), ?_, by rw [AH.add_next, AH.kill_next], fun k hk hne => ?_⟩
   ·rw [← hl]
    exact Arr.sl (by simp) rfl (by rw [AH.add_next, AH.kill_next]; exact Nat.lt_succ_self _) (by rw [AH.add_mem, AH.kill_next, T.get_put_self]) hput (.inl ⟨rfl, by simp⟩) (by omega)
   ·rw [AH.add_mem, AH.kill_next, T.get_put_ne _ _ _ _ (by omega), AH.kill_mem, T.get_put_ne _ _ _ _ (fun e => hne _ _ (by rw [e]))]
  ·have hc : cs.length ≠ 0 := fun e => a1 (List.eq_nil_of_length_eq_zero e)
   have hld : loadL c (cs.length * 1) 0 = some cs := by
    rw [Nat.mul_one]
    clear hs hl hput hx hc a1 a4
    have : ∀ (l : List AV) (o : Nat), (∀ i, i < l.length → c.get (o + i) = l[i]?) → loadL c l.length o = some l := by
     intro l
     induction l with
     | nil => intro o _; rfl
     | cons y l ih =>
      intro o hy
      refine zEm (by have := hy 0 (by simp); rwa [Nat.add_zero] at this) (ih (o + 1) fun i hi => ?_)
      have := hy (i + 1) (by simpa using hi)
      rwa [show o + (i + 1) = o + 1 + i by omega] at this
    exact this cs 0 fun i hi => by rw [Nat.zero_add]; exact a5 i hi
   have hap : zDl none 1 8 (.c (.sl id 0 cs.length (.known cs.length))) (.c src) .leaf [] h = .val (.sl h.next 0 (cs.length + 1) (.rest 1)) (h.add (.cells (putL [x] (zAc cs) (cs.length * 1)) ((cs.length + 1) * 1) none false)) := by
    show zBz 1 src h _ = _
    rw [hs]
    have e1 : Nat.beq cs.length 0 = false := by rw [zJ3]; exact decide_eq_false hc
    have e2 : Nat.ble (cs.length + 1) cs.length = false := by rw [ble_nat]; exact decide_eq_false (by omega)
    show bi (Nat.beq 1 0) (OR.val (AV.sl id 0 cs.length (.known cs.length)) h) (bi (Nat.beq cs.length 0) _ (zBx (AH.get h id) _)) = _
    rw [e1, show Nat.beq 1 0 = false from rfl, zDh, zDh, AH.get_eq, a4]
    simp only [zDw, fN_eq]
    show bi (Nat.ble (cs.length + 1) cs.length) (bi false (Ev.F 49) (obind (zCh [x] c (Nat.add 0 (Nat.mul cs.length 1))) (Ev.F 49) (fun c' => OR.val (AV.sl id 0 (cs.length + 1) (.known cs.length)) (AH.set h id (AObj.cells c' s none false)))))
     (bi (room (cs.length + 1) 8) (obind (loadL c (cs.length * 1) 0) (Ev.F 50) (fun old => AH.new h (AObj.cells (putL [x] (zAc old) (Nat.mul cs.length 1)) (Nat.mul (cs.length + 1) 1) none false) (fun id h => OR.val (AV.sl id 0 (cs.length + 1) (ACap.rest 1)) h))) (Ev.F 50)) = _
    rw [e2, zDh, zEj (by omega) (by omega), zGn, hld]
    show AH.new h (AObj.cells (putL [x] (zAc cs) (Nat.mul cs.length 1)) (Nat.mul (cs.length + 1) 1) none false) (fun id h => OR.val (AV.sl id 0 (cs.length + 1) (ACap.rest 1)) h) = _
    rw [AH.new_eq]; rfl
   refine ⟨_, _, hap, ?_, rfl, fun k hk _ => by rw [AH.add_mem, T.get_put_ne _ _ _ _ (by omega)]⟩
   rw [← hl]
   refine Arr.sl (by simp) rfl (Nat.lt_succ_self _) (by rw [AH.add_mem, T.get_put_self]) (fun i hi => ?_) (.inl ⟨rfl, by simp⟩) (by omega)
   rw [hl] at hi
   rw [zEd, Nat.mul_one]
   by_cases h1 : i < cs.length
   ·rw [if_neg (by omega), zAk, List.getElem?_append_left h1]
   ·obtain rfl : i = cs.length := by omega
    rw [if_pos (by simp), List.getElem?_append_right (Nat.le_refl _)]
def KidF (lo : Nat) (X : List Nat) (kv : AV) (k : Nat) : Prop := lo ≤ k ∧ k ∉ X ∧ ∀ l n, kv ≠ .sl k 0 l n
def Kids (h : AH) (lo : Nat) (X : List Nat) (kv : AV) (ts : List Tree) : Prop := ∃ cs, Arr h (fun k => lo ≤ k ∧ k ∉ X) kv cs ∧ TreesR h (KidF lo X kv) cs ts
theorem Kids.nils {h : AH} {lo : Nat} {X : List Nat} : Kids h lo X .nils [] := ⟨[], .nils, trivial⟩
theorem Kids.keep {h h' : AH} {lo : Nat} {X : List Nat} {kv : AV} {ts : List Tree} (x : Kids h lo X kv ts) (m : Stay (fun k => lo ≤ k ∧ k ∉ X) h h') : Kids h' lo X kv ts := by
 obtain ⟨cs, a, t⟩ := x
 exact ⟨cs, a.keep m fun _ h _ => h, TreesR.keep (m.less fun _ h => ⟨h.1, h.2.1⟩) (fun _ h _ => h) t⟩
theorem Kids.tree {h : AH} {lo : Nat} {X : List Nat} {kv : AV} {ts : List Tree} {id op : Nat} {name typ : Str} {n : Int} {pos : Nat} {F : Nat → Prop} (x : Kids h lo X kv ts) (c : NodeC h id op name typ n pos kv) (hi : F id) (hl : id < h.next) (hF : ∀ k, lo ≤ k → F k) :
  TreeR h F (.ptr id 0) (.mk op name typ n pos ts) := by
 obtain ⟨cs, a, t⟩ := x
 exact ⟨id, kv, cs, rfl, hi, hl, c, a.keep (Stay.refl _ _) fun _ h _ => hF _ h.1, TreesR.keep (Stay.refl _ _) (fun _ h _ => hF _ h.1) t⟩
theorem Arr.isF {h : AH} {F : Nat → Prop} {k o l : Nat} {n : ACap} {cs : List AV} (x : Arr h F (.sl k o l n) cs) : F k := by
 generalize e : AV.sl k o l n = v at x
 cases x with
 | nils => cases e
 | sl b1 b2 => injection e with e; subst e; exact b2
theorem Kids.append {h : AH} {lo : Nat} {X : List Nat} {kv u : AV} {ts : List Tree} {t : Tree} (x : Kids h lo X kv ts) (y : TreeR h (KidF lo X kv) u t) (hlo : lo ≤ h.next) (hX : ∀ k ∈ X, k < h.next) (hlen : ts.length < 1000000) {src : AV} (hs : ∀ k, zBz 1 src h k = k 1 [u]) :
  ∃ kv' h', zDl none 1 8 (.c kv) (.c src) .leaf [] h = .val kv' h' ∧ Kids h' lo X kv' (ts ++ [t]) ∧ h'.next = h.next + 1 ∧ ∀ k, k < h.next → (k < lo ∨ k ∈ X) → h'.mem.get k = h.mem.get k := by
 obtain ⟨cs, a, tr⟩ := x
 obtain ⟨kv', h', e1, e2, e3, e4⟩ := a.append hs (by rw [tr.len]; exact hlen)
 have new : ∀ k l n, kv' = .sl k 0 l n → k = h.next := by
  intro k l n e
  subst e
  exact e2.isF
 have hXn : h.next ∉ X := fun hm => absurd (hX _ hm) (by omega)
 have stay : Stay (KidF lo X kv) h h' := ⟨by omega, fun k hk hl => e4 k hl hk.2.2⟩
 have fk : ∀ k, KidF lo X kv k → k < h.next → KidF lo X kv' k := fun k hk hl => ⟨hk.1, hk.2.1, fun l n e => by have := new k l n e; omega⟩
 refine ⟨kv', h', e1, ⟨cs ++ [u], e2.keep (Stay.refl _ _) fun k hk _ => by subst hk; exact ⟨hlo, hXn⟩, TreesR.app (TreeR.keep stay fk y) (TreesR.keep stay fk tr)⟩, e3, fun k hk hc => e4 k hk fun l n e => ?_⟩
 subst e
 have b2 := a.isF
 rcases hc with hc | hc
 ·have := b2.1; omega
 ·exact b2.2 hc
theorem TreeR.less {h : AH} {F G : Nat → Prop} {v : AV} {t : Tree} (x : TreeR h F v t) (hg : ∀ k, F k → k < h.next → G k) : TreeR h G v t := TreeR.keep (Stay.refl _ _) hg x
theorem Kids.tree2 {h : AH} {lo : Nat} {X : List Nat} {kv : AV} {ts : List Tree} {id op : Nat} {name typ : Str} {n : Int} {pos : Nat} {F : Nat → Prop} (x : Kids h lo X kv ts) (c : NodeC h id op name typ n pos kv) (hi : F id) (hl : id < h.next) (hF : ∀ k, lo ≤ k → k ∉ X → F k) :
  TreeR h F (.ptr id 0) (.mk op name typ n pos ts) := by
 obtain ⟨cs, a, t⟩ := x
 exact ⟨id, kv, cs, rfl, hi, hl, c, a.keep (Stay.refl _ _) fun _ h _ => hF _ h.1 h.2, TreesR.keep (Stay.refl _ _) (fun _ h _ => hF _ h.1 h.2.1) t⟩
end Go.Ev
namespace Go.Ev
abbrev o1 (x : AOp) : AOper := .mk x none none []
abbrev o2 (x : AOp) (k : Nat) : AOper := .mk x none (some k) []
abbrev o3 (x : AOp) (i : Nat) (b : Bool) : AOper := .mk x (some (.t i, b)) none []
abbrev iz (n : Nat) : AV := .int .i64 (.ofNat n)
abbrev ml (k : Nat) : AOper := .mk (.move (.l k)) none none []
abbrev m0 : AOper := .mk (.move (.t 0)) none none []
abbrev mt (i k : Nat) : AOper := .mk (.move (.t i)) none (some k) []
abbrev mc (v : AV) (k : Nat) : AOper := .mk (.move (.c v)) none (some k) []
abbrev ox (i : Nat) : AOper := .mk (.extract i (.t i)) none none []
abbrev sq (l : List AOper) (c : ACode) : ACode := .seq (.ops l) c
abbrev ad (x y : Opd) : AOp := .bin .add x y
abbrev sb (x y : Opd) : AOp := .bin .sub x y
abbrev ls (x y : Opd) : AOp := .bin .lss x y
abbrev gt (x y : Opd) : AOp := .bin .gtr x y
abbrev le (x y : Opd) : AOp := .bin .leq x y
abbrev ge (x y : Opd) : AOp := .bin .geq x y
abbrev en (x y : Opd) : AOp := .eq false .num x y
abbrev nn (x y : Opd) : AOp := .eq true .num x y
abbrev fa (n : Nat) (x : Opd) : AOp := .fieldAddr n x
abbrev ia (n : Nat) (x y : Opd) : AOp := .idxAddr n x y
abbrev lN (n : Nat) (x : Opd) : AOp := .loadN n x
abbrev ld (x : Opd) : AOp := .load x
abbrev nc (x : Opd) : AOp := .nilCheck x
abbrev cf (f : Nat) (l : List Opd) : AOp := .callF f l
abbrev ll (x : Opd) : AOp := .len .sl x
abbrev lt (x : Opd) : AOp := .len .str x
abbrev st (n : Nat) (x y : Opd) : AOp := .store n x y
abbrev pk (x y z : Opd) : AOp := .pick x y z
abbrev ap (a b : Nat) (x y : Opd) : AOp := .append a b x y
abbrev xt (a : Nat) (x : Opd) : AOp := .extract a x
abbrev u0 : Opd := .t 0
abbrev u1 : Opd := .t 1
abbrev u2 : Opd := .t 2
abbrev u3 : Opd := .t 3
abbrev u4 : Opd := .t 4
abbrev u5 : Opd := .t 5
abbrev u6 : Opd := .t 6
abbrev u7 : Opd := .t 7
abbrev u8 : Opd := .t 8
abbrev u9 : Opd := .t 9
abbrev u10 : Opd := .t 10
abbrev u13 : Opd := .t 13
abbrev u64 : Opd := .t 64
abbrev k0 : Opd := .l 0
abbrev k1 : Opd := .l 1
abbrev k2 : Opd := .l 2
abbrev k3 : Opd := .l 3
abbrev k4 : Opd := .l 4
abbrev k5 : Opd := .l 5
abbrev k6 : Opd := .l 6
abbrev k7 : Opd := .l 7
abbrev k8 : Opd := .l 8
abbrev k9 : Opd := .l 9
abbrev k10 : Opd := .l 10
abbrev k11 : Opd := .l 11
abbrev k12 : Opd := .l 12
abbrev k13 : Opd := .l 13
abbrev k14 : Opd := .l 14
abbrev k15 : Opd := .l 15
abbrev k16 : Opd := .l 16
abbrev k17 : Opd := .l 17
abbrev k18 : Opd := .l 18
abbrev k19 : Opd := .l 19
abbrev k20 : Opd := .l 20
abbrev k21 : Opd := .l 21
abbrev k36 : Opd := .l 36
abbrev k118 : Opd := .l 118
abbrev k127 : Opd := .l 127
abbrev k130 : Opd := .l 130
end Go.Ev
namespace Go.Ev
noncomputable def af7 : AFunc := .mk 1 (sq ([mc (.bool false) 21])
 (.seq (sq ([o1 (cf 8 []), o2 (.not u0) 1])
 (.cond k1 (sq ([mc (.bool false) 21])
 .ret) .skip))
 (.seq (sq ([ml 0, o1 (lt u0), o2 (gt u0 (.c (.int .i64 (.ofNat 2048)))) 2])
 (.cond k2 (sq ([mc (.bool true) 21])
 .ret) .skip))
 (sq ([ml 0, o1 (cf 21 [u0]), m0, ox 0, ox 1, ox 2, mt 2 5, o1 (.move u2), mt 2 3])
 (.seq (sq ([ml 3, o2 (nn u0 (.c (.int .i64 (.ofNat 0)))) 4])
 (.cond k4 (sq ([mc (.bool true) 21])
 .ret) .skip))
 (sq ([ml 5, o1 (cf 22 [u0]), mt 0 6])
 (sq ([ml 6, o1 (cf 21 [u0]), m0, ox 0, ox 1, ox 2, mt 2 8, o1 (.move u2), mt 2 7])
 (.seq (sq ([ml 7, o1 (nn u0 (.c (.int .i64 (.ofNat 0)))), m0, o3 (.move k8) 0 false, o3 (ll u0) 1 false, o3 (.move k5) 2 false, o3 (ll u0) 3 false, o3 (nn u2 u0) 4 false, o2 (pk u5 (.c (.bool true)) u0) 9])
 (.cond k9 (sq ([mc (.bool false) 21])
 .ret) .skip))
 (sq ([ml 0, o1 (cf 9 [u0]), m0, ox 0, ox 1, ox 2, o2 (.alloc [.nilp]) 12, o1 (st 1 u0 u3), mt 3 18, mt 3 10])
 (sq ([ml 6, o1 (cf 9 [u0]), m0, ox 0, ox 1, ox 2, o2 (.alloc [.nilp]) 13, o1 (st 1 u0 u3), mt 3 20, mt 3 11])
 (.seq (sq ([ml 10, ml 11, o1 (nn u1 u0), m0, o3 (lN 1 k12) 0 false, o3 (lN 1 k13) 1 false, o3 (cf 19 [u1, u0]) 2 false, o3 (.not u0) 3 false, o2 (pk u4 (.c (.bool true)) u0) 14])
 (.cond k14 (sq ([mc (.bool false) 21])
 .ret) .skip))
 (.seq (sq ([ml 10, o2 (en u0 (.c (.int .i64 (.ofNat 0)))) 15])
 (.cond k15 (sq ([mc (.bool true) 21])
 .ret) .skip))
 (.seq (sq ([mc (.int .i64 (.ofNat 0)) 16])
 (.block 0 (.loop (.seq (sq ([ml 16, ml 5, o1 (ll u0), o2 (ls u2 u0) 17])
 (.cond k17 .skip (.exit 0)))
 (.seq (.block 1 (sq ([ml 5, ml 16, o1 (ia 3 u1 u0), o1 (fa 2 u0), o1 (ld u0), ml 18, o2 (en u1 u0) 19])
 (.cond k19 (sq ([ml 8, ml 16, o1 (ia 3 u1 u0), o1 (fa 2 u0), o1 (ld u0), ml 20, o1 (en u1 u0), mt 0 21])
 .ret) .skip)))
 (.ops [ml 16, o1 (ad u0 (.c (.int .i64 (.ofNat 1)))), mt 0 16]))))))
 (sq ([ml 18, ml 0, o1 (lt u0), o1 (en u2 u0), m0, o3 (.move k20) 0 true, o3 (.move k6) 1 true, o3 (lt u0) 2 true, o3 (en u2 u0) 3 true, o1 (pk u4 u0 (.c (.bool false))), mt 0 21])
 .ret)))))))))))))) [.val k21]
noncomputable def af8 : AFunc := .mk 0 (sq ([mc (.bool false) 7])
 (sq ([o1 (cf 9 [(.c (.str 26 201238614752453330410235576641456868381659233630383318147954022))]), m0, ox 0, ox 1, ox 2, o2 (.alloc [.nilp]) 0, o1 (st 1 u0 u3), o1 (.move u3), mt 3 1])
 (sq ([o1 (cf 9 [(.c (.str 21 182871710923389474175786820334794228673288699016550))]), m0, ox 0, ox 1, ox 2, o1 (.alloc [.nilp]), o1 (st 1 u0 u3), mt 3 4, mt 3 3])
 (sq ([o1 (cf 9 [(.c (.str 5 515940442486))]), m0, ox 0, ox 1, ox 2, o1 (.alloc [.nilp]), o1 (st 1 u0 u3), mt 3 6, mt 3 5])
 (sq ([o1 (lN 1 k0), o1 (cf 20 [u0, (.c (iz 0))]), o1 (cf 20 [u0, (.c (iz 0))]), o2 (.alloc [.nilp]) 2, o1 (st 1 u0 u1)])
 (sq ([ml 1, o1 (en u0 (.c (iz 0))), m0, o3 (lN 1 k0) 0 true, o3 (cf 13 [u0]) 1 true, o3 (en u0 (.c (iz 1))) 2 true, o1 (pk u3 u0 (.c (.bool false))), m0, o3 (lN 1 k0) 0 true, o3 (cf 14 [u0]) 1 true, o3 (en u0 (.c (iz 1))) 2 true, o1 (pk u3 u0 (.c (.bool false))), m0, o3 (lN 1 k2) 0 true, o3 (cf 13 [u0]) 1 true, o3 (en u0 (.c (iz 6))) 2 true, o1 (pk u3 u0 (.c (.bool false))), m0, o3 (lN 1 k2) 0 true, o3 (cf 20 [u0, (.c (iz 0))]) 1 true, o3 (cf 20 [u0, (.c (iz 0))]) 2 true, o3 (cf 13 [u0]) 3 true, o3 (en u0 (.c (iz 24))) 4 true, o1 (pk u5 u0 (.c (.bool false))), m0, o3 (lN 1 k2) 0 true, o3 (cf 20 [u0, (.c (iz 0))]) 1 true, o3 (cf 20 [u0, (.c (iz 0))]) 2 true, o3 (cf 23 [u0]) 3 true, o3 (en u0 (.c (iz 1))) 4 true, o1 (pk u5 u0 (.c (.bool false))), m0, o3 (lN 1 k2) 0 true, o3 (cf 20 [u0, (.c (iz 0))]) 1 true, o3 (cf 20 [u0, (.c (iz 0))]) 2 true, o3 (cf 24 [u0]) 3 true, o3 (en u0 (.c (iz 19))) 4 true, o1 (pk u5 u0 (.c (.bool false))), m0, o3 (lN 1 k0) 0 true, o3 (cf 18 [u0]) 1 true, o3 (en u0 (.c (.str 47 75229058429591039359104473166271573744682509599169374227409512564160682176746127005125807165971543139154490455398))) 2 true, o1 (pk u3 u0 (.c (.bool false))), m0, o3 (.move k3) 0 true, o3 (en u0 (.c (iz 1))) 1 true, o1 (pk u2 u0 (.c (.bool false))), m0, o3 (.move k4) 0 true, o3 (en u0 (.c (iz 18))) 1 true, o1 (pk u2 u0 (.c (.bool false))), m0, o3 (.move k5) 0 true, o3 (en u0 (.c (iz 1))) 1 true, o1 (pk u2 u0 (.c (.bool false))), m0, o3 (.move k6) 0 true, o3 (en u0 (.c (iz 5))) 1 true, o1 (pk u2 u0 (.c (.bool false))), m0, o3 (lN 1 k0) 0 true, o3 (cf 10 [u0]) 1 true, o3 (en u0 (.c (iz 9))) 2 true, o1 (pk u3 u0 (.c (.bool false))), m0, o3 (lN 1 k0) 0 true, o3 (cf 20 [u0, (.c (iz 7))]) 1 true, o3 (cf 13 [u0]) 2 true, o3 (en u0 (.c (iz 0))) 3 true, o1 (pk u4 u0 (.c (.bool false))), mt 0 7])
 .ret)))))) [.val k7]
noncomputable def af9 : AFunc := .mk 1 (sq ([o2 (.alloc [.nilp]) 4, mc (.int .i64 (.ofNat 0)) 9, mc (.int .i64 (.ofNat 0)) 10])
 (sq ([ml 0, o1 (cf 21 [u0]), m0, ox 0, ox 1, ox 2, mt 2 5, mt 2 3, mt 2 1])
 (.seq (sq ([ml 1, o2 (nn u0 (.c (.int .i64 (.ofNat 0)))) 2])
 (.cond k2 (sq ([o1 (.build [.nilp] []), ml 3, ml 1, o1 (st 1 k4 u2), mt 2 9, mt 2 10])
 .ret) .skip))
 (sq ([ml 5, ml 0, o1 (lt u0), o1 (.build [.nils, (.int .i64 (.ofNat 0)), (.int .i64 (.ofNat 0)), (.int .i64 (.ofNat 0))] [(.mk 0 1 u2), (.mk 2 1 u0)]), o1 (.box u0), mt 0 6])
 (sq ([ml 6, o1 (cf 25 [u0]), m0, ox 0, ox 1, o2 (.alloc [.nilp]) 7, o2 (.alloc [(.int .i64 (.ofNat 0)), (.int .i64 (.ofNat 0))]) 8, o1 (st 1 u1 u3), o1 (st 2 u1 u3)])
 (sq ([o1 (lN 1 k7), o1 (fa 0 k8), o1 (ld u0), o1 (fa 1 k8), o1 (ld u0), .mk (st 1 k4 u4) none none [.mk (ld u1) 0 none, .mk (ld u3) 2 none], mt 3 9, mt 2 10])
 .ret)))))) [.cellN 1 k4, .val k9, .val k10]
noncomputable def af10 : AFunc := .mk 1 (sq ([o2 (.box k0) 1, mc (.int .i64 (.ofNat 0)) 9])
 (.seq (sq ([o1 (fa 0 k1), o1 (ld u0), o2 (.eq false .ptr u0 (.c .nilp)) 2])
 (.cond k2 (sq ([mc (.int .i64 (.ofNat 0)) 9])
 .ret) .skip))
 (sq ([mc (.int .i64 (.ofNat 1)) 7])
 (.seq (sq ([o1 (fa 0 k1), o1 (ld u0), o1 (nc u0), o1 (fa 5 u0), o2 (ld u0) 6, o2 (ll u0) 4, mc (.int .i64 (.ofNat 0)) 3])
 (.block 0 (.loop (sq ([o2 (ls k3 k4) 5])
 (.seq (.cond k5 .skip (.exit 0))
 (.seq (.block 1 (sq ([o1 (ia 1 k6 k3), o1 (lN 1 u0), o2 (.alloc [.nilp]) 8, o1 (st 1 u0 u1)])
 (.ops [ml 7, o1 (lN 1 k8), o1 (cf 10 [u0]), o1 (ad u2 u0), mt 0 7])))
 (.ops [o1 (ad k3 (.c (.int .i64 (.ofNat 1)))), mt 0 3])))))))
 (sq ([ml 7, mt 0 9])
 .ret))))) [.val k9]
noncomputable def af13 : AFunc := .mk 1 (sq ([o2 (.box k0) 1, mc (.int .i64 (.ofNat 0)) 2])
 (sq ([o1 (lN 1 k1), o1 (cf 28 [u0]), o1 (.field 0 1 false u0), mt 0 2])
 .ret)) [.val k2]
noncomputable def af14 : AFunc := .mk 1 (sq ([o2 (.box k0) 1, mc (.int .i64 (.ofNat 0)) 2])
 (sq ([o1 (lN 1 k1), o1 (cf 28 [u0]), o1 (.field 5 1 false u0), o1 (ll u0), mt 0 2])
 .ret)) [.val k2]
noncomputable def af18 : AFunc := .mk 1 (sq ([o2 (.box k0) 2, mc (.str 0 0) 3])
 (sq ([o1 (.build [.nils] []), o1 (.box u0), mt 0 1])
 (sq ([ml 1, o1 (lN 1 k2), o1 (cf 35 [u1, u0])])
 (sq ([ml 1, o1 (nc u0), o1 (fa 0 u0), o1 (ld u0), o1 (cf 36 [u0, (.c (.str 1 32))]), mt 0 3])
 .ret)))) [.val k3]
noncomputable def af19 : AFunc := .mk 2 (sq ([o2 (.box k0) 2, o2 (.box k1) 3, mc (.bool false) 8])
 (.seq (sq ([o1 (lN 1 k2), o1 (lN 1 k3), .mk (cf 13 [u1]) none none [.mk (lN 1 k3) 0 none], o1 (cf 13 [u1]), o1 (nn u1 u0), m0, o3 (lN 1 k2) 0 false, o3 (lN 1 k3) 1 false, .mk (cf 33 [u1]) (some (u2, false)) none [.mk (lN 1 k3) 0 (some (u2, false))], o3 (cf 33 [u1]) 3 false, o3 (nn u1 u0) 4 false, o1 (pk u5 (.c (.bool true)) u0), m0, o3 (lN 1 k2) 0 false, o3 (lN 1 k3) 1 false, .mk (cf 34 [u1]) (some (u2, false)) none [.mk (lN 1 k3) 0 (some (u2, false))], o3 (cf 34 [u1]) 3 false, o3 (nn u1 u0) 4 false, o1 (pk u5 (.c (.bool true)) u0), m0, o3 (lN 1 k2) 0 false, o3 (lN 1 k3) 1 false, .mk (cf 23 [u1]) (some (u2, false)) none [.mk (lN 1 k3) 0 (some (u2, false))], o3 (cf 23 [u1]) 3 false, o3 (nn u1 u0) 4 false, o1 (pk u5 (.c (.bool true)) u0), m0, o3 (lN 1 k2) 0 false, o3 (lN 1 k3) 1 false, .mk (cf 14 [u1]) (some (u2, false)) none [.mk (lN 1 k3) 0 (some (u2, false))], o3 (cf 14 [u1]) 3 false, o3 (nn u1 u0) 4 false, o2 (pk u5 (.c (.bool true)) u0) 4])
 (.cond k4 (sq ([mc (.bool false) 8])
 .ret) .skip))
 (.seq (sq ([mc (.int .i64 (.ofNat 0)) 5])
 (.block 0 (.loop (.seq (sq ([ml 5, o1 (lN 1 k2), o1 (cf 14 [u0]), o2 (ls u2 u0) 6])
 (.cond k6 .skip (.exit 0)))
 (.seq (.block 1 (sq ([o1 (lN 1 k2), ml 5, o1 (lN 1 k3), ml 5, .mk (cf 20 [u3, u2]) none none [.mk (lN 1 k3) 1 none], o1 (cf 20 [u2, u1]), o1 (cf 19 [u1, u0]), o2 (.not u0) 7])
 (.cond k7 (sq ([mc (.bool false) 8])
 .ret) .skip)))
 (.ops [ml 5, o1 (ad u0 (.c (.int .i64 (.ofNat 1)))), mt 0 5]))))))
 (sq ([mc (.bool true) 8])
 .ret)))) [.val k8]
noncomputable def af20 : AFunc := .mk 2 (sq ([o2 (.box k0) 2, o2 (.alloc [.nilp]) 4])
 (.seq (sq ([ml 1, o1 (ls u0 (.c (.int .i64 (.ofNat 0)))), m0, o3 (.move k1) 0 false, o3 (lN 1 k2) 1 false, o3 (cf 14 [u0]) 2 false, o3 (ge u2 u0) 3 false, o2 (pk u4 (.c (.bool true)) u0) 3])
 (.cond k3 (sq ([o1 (.build [.nilp] []), o1 (st 1 k4 u0)])
 .ret) .skip))
 (sq ([o1 (fa 0 k2), o1 (ld u0), o1 (nc u0), o1 (fa 5 u0), o1 (ld u0), ml 1, o1 (ia 1 u1 u0), o1 (lN 1 u0), o1 (st 1 k4 u0)])
 .ret))) [.cellN 1 k4]
noncomputable def af21 : AFunc := .mk 1 (sq ([mc .nils 8, mc (.int .i64 (.ofNat 0)) 9, mc (.int .i64 (.ofNat 0)) 10])
 (.seq (sq ([ml 0, o1 (lt u0), o2 (gt u0 (.c (.int .i64 (.ofNat 4096)))) 1])
 (.cond k1 (sq ([mc .nils 8, mc (.int .i64 (.ofNat 4096)) 9, mc (.int .i64 (.ofNat 4)) 10])
 .ret) .skip))
 (sq ([mc .nils 7])
 (.seq (sq ([ml 0, o1 (cf 37 [u0]), mt 0 2])
 (.block 0 (.loop (.seq (sq ([ml 2, ml 0, o1 (lt u0), o2 (ls u2 u0) 3])
 (.cond k3 .skip (.exit 0)))
 (.seq (.block 1 (sq ([ml 0, ml 2, o1 (.sliceS u1 (some u0) none), o1 (cf 38 [u0]), m0, ox 0, ox 1, o2 (.alloc [(.int .i64 (.ofNat 0)), (.str 0 0), (.int .i64 (.ofNat 0))]) 6, o1 (st 3 u0 u2), mt 2 4])
 (.seq (sq ([ml 4, o2 (nn u0 (.c (.int .i64 (.ofNat 0)))) 5])
 (.cond k5 (sq ([ml 2, ml 4, mc .nils 8, mt 2 9, mt 2 10])
 .ret) .skip))
 (sq ([ml 2, o1 (fa 2 k6), o1 (st 1 u0 u1)])
 (sq ([ml 7, o1 (lN 3 k6), o1 (.bslice [(.int .i64 (.ofNat 0)), (.str 0 0), (.int .i64 (.ofNat 0))] 1 [(.mk 0 3 u0)]), o1 (ap 3 32 u2 u0), mt 0 7])
 (.ops [ml 2, o1 (fa 1 k6), o1 (ld u0), o1 (lt u0), o1 (ad u3 u0), mt 0 2]))))))
 (.ops [ml 2, ml 0, ml 2, o1 (.sliceS u1 (some u0) none), o1 (cf 37 [u0]), o1 (ad u4 u0), mt 0 2]))))))
 (sq ([ml 7, mt 0 8, mc (.int .i64 (.ofNat 0)) 9, mc (.int .i64 (.ofNat 0)) 10])
 .ret))))) [.val k8, .val k9, .val k10]
noncomputable def af22 : AFunc := .mk 1 (sq ([mc (.str 0 0) 7])
 (sq ([mc .nils 5])
 (.seq (sq ([o2 (.move k0) 4, o2 (ll u0) 2, mc (.int .i64 (.ofNat 0)) 1])
 (.block 0 (.loop (sq ([o2 (ls k1 k2) 3])
 (.seq (.cond k3 .skip (.exit 0))
 (.seq (.block 1 (sq ([o1 (ia 3 k4 k1), o1 (lN 3 u0), o2 (.alloc [(.int .i64 (.ofNat 0)), (.str 0 0), (.int .i64 (.ofNat 0))]) 6, o1 (st 3 u0 u1)])
 (.ops [ml 5, o1 (fa 1 k6), o1 (ld u0), o1 (.bslice [(.str 0 0)] 1 [(.mk 0 1 u0)]), o1 (ap 1 16 u3 u0), mt 0 5])))
 (.ops [o1 (ad k1 (.c (.int .i64 (.ofNat 1)))), mt 0 1])))))))
 (sq ([ml 5, o1 (cf 36 [u0, (.c (.str 1 32))]), mt 0 7])
 .ret)))) [.val k7]
noncomputable def af23 : AFunc := .mk 1 (sq ([o2 (.box k0) 1, mc (.int .i64 (.ofNat 0)) 2])
 (sq ([o1 (lN 1 k1), o1 (cf 28 [u0]), o1 (.field 3 1 false u0), mt 0 2])
 .ret)) [.val k2]
noncomputable def af24 : AFunc := .mk 1 (sq ([o2 (.box k0) 1, mc (.int .i64 (.ofNat 0)) 2])
 (sq ([o1 (lN 1 k1), o1 (cf 28 [u0]), o1 (.field 4 1 false u0), mt 0 2])
 .ret)) [.val k2]
noncomputable def af25 : AFunc := .mk 1 (sq ([o2 (.alloc [.nilp]) 1, o2 (.alloc [(.int .i64 (.ofNat 0)), (.int .i64 (.ofNat 0))]) 2])
 (sq ([o1 (.mkFn 39 [] [k1, k2]), o1 (.dfr u0)])
 (sq ([o1 (cf 40 [(.c (.int .i64 (.ofNat 1))), (.c (.int .i64 (.ofNat 0))), (.c .nils)]), o1 (st 1 k1 u0)])
 (.seq (.block 0 (.loop (.seq (sq ([ml 0, o1 (nc u0), o1 (fa 1 u0), o1 (ld u0), ml 0, o1 (nc u0), o1 (fa 0 u0), o1 (ld u0), o1 (ll u0), o2 (ls u5 u0) 3])
 (.cond k3 .skip (.exit 0)))
 (.block 1 (.ops [o1 (fa 0 k1), o1 (ld u0), o1 (fa 0 k1), o1 (ld u0), o1 (nc u0), o1 (fa 5 u0), o1 (ld u0), ml 0, .mk (cf 41 [u0]) none none [.mk (ld u2) 1 none, .mk (ld u5) 4 none, .mk (ld u7) 6 none], o1 (.bslice [.nilp] 1 [(.mk 0 1 u0)]), .mk (ap 1 8 u3 u0) none none [.mk (ld u9) 8 none], o1 (nc u9), o1 (fa 5 u0), o1 (st 1 u0 u2)])))))
 (sq ([o1 (lN 1 k1), o1 (lN 2 k2), .mk (st 1 k1 u1) none none [.mk (lN 2 k2) 0 none], o1 (st 2 k2 u1)])
 .ret))))) [.cellN 1 k1, .cellN 2 k2]
noncomputable def af28 : AFunc := .mk 1 (sq ([o2 (.box k0) 1, o2 (.alloc [(.int .i64 (.ofNat 0)), (.str 0 0), (.str 0 0), (.int .i64 (.ofNat 0)), (.int .i64 (.ofNat 0)), .nils]) 3])
 (.seq (sq ([o1 (fa 0 k1), o1 (ld u0), o2 (.eq false .ptr u0 (.c .nilp)) 2])
 (.cond k2 (sq ([o1 (.build [(.int .i64 (.ofNat 0)), (.str 0 0), (.str 0 0), (.int .i64 (.ofNat 0)), (.int .i64 (.ofNat 0)), .nils] []), o1 (st 6 k3 u0)])
 .ret) .skip))
 (sq ([o1 (fa 0 k1), o1 (ld u0), o1 (nc u0), o1 (lN 6 u0), o1 (st 6 k3 u0)])
 .ret))) [.cellN 6 k3]
noncomputable def af33 : AFunc := .mk 1 (sq ([o2 (.box k0) 1, mc (.str 0 0) 2])
 (sq ([o1 (lN 1 k1), o1 (cf 28 [u0]), o1 (.field 1 1 false u0), mt 0 2])
 .ret)) [.val k2]
noncomputable def af34 : AFunc := .mk 1 (sq ([o2 (.box k0) 1, mc (.str 0 0) 2])
 (sq ([o1 (lN 1 k1), o1 (cf 28 [u0]), o1 (.field 2 1 false u0), mt 0 2])
 .ret)) [.val k2]
noncomputable def af35 : AFunc := .mk 2 (sq ([o2 (.box k1) 2])
 (sq ([o1 (lN 1 k2), o1 (cf 28 [u0]), o2 (.alloc [(iz 0), (.str 0 0), (.str 0 0), (iz 0), (iz 0), .nils]) 3, o1 (st 6 u0 u1)])
 (.block 0 (sq ([o1 (fa 0 k3), o1 (ld u0), o1 (ls u0 (.c (iz 1))), mt 0 4])
 (.cond k4 .skip (sq ([o1 (fa 0 k3), o1 (ld u0), o1 (le u0 (.c (iz 5))), mt 0 5])
 (.cond k5 (.ops [ml 0, o1 (lN 1 k2), o1 (lN 6 k3), o1 (cf 55 [u2, u1, u0])]) (sq ([o1 (fa 0 k3), o1 (ld u0), o1 (le u0 (.c (iz 14))), mt 0 6])
 (.cond k6 (.ops [ml 0, o1 (lN 1 k2), o1 (lN 6 k3), o1 (cf 56 [u2, u1, u0])]) (.ops [ml 0, o1 (lN 1 k2), o1 (lN 6 k3), o1 (cf 57 [u2, u1, u0])])))))))))) []
noncomputable def af37 : AFunc := .mk 1 (sq ([mc (.int .i64 (.ofNat 0)) 3])
 (sq ([mc (.int .i64 (.ofNat 0)) 1])
 (.block 0 (.loop (.block 1 (sq ([ml 1, ml 0, ml 1, o1 (.sliceS u1 (some u0) none), o1 (cf 61 [u0, (.c (.fn 62 [] []))]), o1 (ad u4 u0), mt 0 1])
 (.seq (sq ([ml 0, ml 1, o1 (.sliceS u1 (some u0) none), o1 (cf 63 [u0, (.c (.str 2 12079))]), o2 (.not u0) 2])
 (.cond k2 (sq ([ml 1, mt 0 3])
 .ret) .skip))
 (.ops [ml 1, ml 0, ml 1, o1 (.sliceS u1 (some u0) none), o1 (cf 61 [u0, (.c (.fn 64 [] []))]), o1 (ad u4 u0), mt 0 1])))))))) [.val k3]
noncomputable def af38 : AFunc := .mk 1 (sq ([o2 (.alloc [(.int .i64 (.ofNat 0)), (.str 0 0), (.int .i64 (.ofNat 0))]) 2, mc (.int .i64 (.ofNat 0)) 4])
 (.seq (.block 0 (sq ([ml 0, o1 (.idxS u0 (.c (.int .i64 (.ofNat 0)))), o1 (cf 65 [u0]), mt 0 1])
 (.cond k1 (sq ([ml 0, o1 (cf 66 [u0]), ox 0, ox 1, o1 (st 3 k2 u1), mt 1 4])
 .ret) (sq ([ml 0, o1 (.idxS u0 (.c (.int .i64 (.ofNat 0)))), o1 (cf 67 [u0]), mt 0 3])
 (.cond k3 (sq ([ml 0, o1 (cf 68 [u0]), ox 0, ox 1, o1 (st 3 k2 u1), mt 1 4])
 .ret) .skip)))))
 (sq ([ml 0, o1 (cf 69 [u0]), ox 0, ox 1, o1 (st 3 k2 u1), mt 1 4])
 .ret))) [.cellN 3 k2, .val k4]
noncomputable def af39 : AFunc := .mk 2 (.seq (.recov (some 2))
 (sq ([ml 2, o2 (.eq true .ifc u0 (.c .nili)) 3])
 (.cond k3 (.ops [o1 (.build [.nilp] []), ml 2, o1 (.assert 54 false (.agg [(iz 0), (iz 0)]) u0), o1 (st 1 k0 u2), o1 (st 2 k1 u1)]) .skip))) []
noncomputable def af40 : AFunc := .mk 3 (sq ([o2 (.alloc [.nilp]) 3])
 (sq ([ml 0, ml 1, ml 2, o1 (.build [(.int .i64 (.ofNat 0)), (.str 0 0), (.str 0 0), (.int .i64 (.ofNat 0)), (.int .i64 (.ofNat 0)), .nils] [(.mk 0 1 u2), (.mk 4 1 u1), (.mk 5 1 u0)]), o1 (.box u0), o1 (.build [.nilp] [(.mk 0 1 u0)]), o1 (st 1 k3 u0)])
 .ret)) [.cellN 1 k3]
noncomputable def af41 : AFunc := .mk 1 (sq ([o2 (.alloc [.nilp]) 2])
 (.seq (.block 0 (sq ([ml 0, o1 (cf 70 [u0, (.c (.str 4 1701869940))]), mt 0 1])
 (.cond k1 (sq ([ml 0, o1 (cf 71 [u0]), o1 (st 1 k2 u0)])
 .ret) (sq ([ml 0, o1 (cf 70 [u0, (.c (.str 4 1668183398))]), mt 0 3])
 (.cond k3 (sq ([ml 0, o1 (cf 72 [u0]), o1 (st 1 k2 u0)])
 .ret) (sq ([ml 0, o1 (cf 70 [u0, (.c (.str 3 7496054))]), o1 (.not u0), mt 0 4])
 (.cond k4 (.ops [ml 0, o1 (cf 73 [u0])]) .skip)))))))
 (sq ([ml 0, o1 (cf 74 [u0, (.c (.int .i64 (.ofNat 3)))]), o2 (.alloc [.nilp]) 5, o1 (st 1 u0 u1)])
 (sq ([ml 0, o1 (cf 75 [u0, (.c (.str 1 59))])])
 (sq ([o1 (lN 1 k5), o1 (st 1 k2 u0)])
 .ret))))) [.cellN 1 k2]
noncomputable def af55 : AFunc := .mk 3 (sq ([o2 (.box k1) 20, o2 (.box k2) 3])
 (sq ([o1 (fa 0 k3), o2 (ld u0) 4])
 (.block 0 (sq ([o1 (en k4 (.c (iz 1))), mt 0 5])
 (.cond k5 (sq ([o1 (fa 5 k3), o2 (ld u0) 9, o2 (ll u0) 7, mc (iz 0) 6])
 (.block 1 (.loop (sq ([o2 (ls k6 k7) 8])
 (.seq (.cond k8 .skip (.exit 1))
 (.seq (.block 2 (sq ([o1 (ia 1 k9 k6), o1 (lN 1 u0), o2 (.alloc [.nilp]) 10, o1 (st 1 u0 u1)])
 (.ops [ml 0, o1 (lN 1 k10), o1 (cf 35 [u1, u0])])))
 (.ops [o1 (ad k6 (.c (iz 1))), mt 0 6]))))))) (sq ([o1 (en k4 (.c (iz 2))), mt 0 11])
 (.cond k11 (sq ([ml 0, o1 (fa 1 k3), o1 (ld u0), o1 (.bslice [(.str 0 0), (.str 0 0), (.str 0 0), (.str 0 0)] 4 [(.mk 0 1 (.c (.str 4 1701869940))), (.mk 1 1 u0), (.mk 2 1 (.c (.str 6 127970521019507))), (.mk 3 1 (.c (.str 1 123)))]), o1 (cf 81 [u3, u0])])
 (.seq (sq ([o1 (fa 5 k3), o2 (ld u0) 15, o2 (ll u0) 13, mc (iz 0) 12])
 (.block 3 (.loop (sq ([o2 (ls k12 k13) 14])
 (.seq (.cond k14 .skip (.exit 3))
 (.seq (.block 4 (sq ([o1 (ia 1 k15 k12), o1 (lN 1 u0), o2 (.alloc [.nilp]) 16, o1 (st 1 u0 u1)])
 (sq ([ml 0, o1 (lN 1 k16), o1 (cf 35 [u1, u0])])
 (.ops [ml 0, o1 (.bslice [(.str 0 0)] 1 [(.mk 0 1 (.c (.str 1 59)))]), o1 (cf 81 [u1, u0])]))))
 (.ops [o1 (ad k12 (.c (iz 1))), mt 0 12])))))))
 (.ops [ml 0, o1 (.bslice [(.str 0 0)] 1 [(.mk 0 1 (.c (.str 1 125)))]), o1 (cf 81 [u1, u0])]))) (sq ([o1 (en k4 (.c (iz 3))), mt 0 17])
 (.cond k17 (sq ([ml 0, o1 (fa 1 k3), o1 (ld u0), o1 (.bslice [(.str 0 0), (.str 0 0)] 2 [(.mk 0 1 (.c (.str 3 7496054))), (.mk 1 1 u0)]), o1 (cf 81 [u3, u0])])
 (sq ([ml 0, o1 (fa 2 k3), o1 (ld u0), o1 (cf 82 [u2, u0])])
 (.ops [ml 0, o1 (.bslice [(.str 0 0)] 1 [(.mk 0 1 (.c (.str 1 59)))]), o1 (cf 81 [u1, u0])]))) (sq ([o1 (en k4 (.c (iz 4))), mt 0 18])
 (.cond k18 (sq ([o1 (fa 5 k3), o1 (ld u0), o1 (ll u0), o1 (sb u0 (.c (iz 1))), o1 (.max (.c (iz 0)) u0), mt 0 19])
 (sq ([ml 0, o1 (fa 1 k3), o1 (ld u0), o1 (.bslice [(.str 0 0), (.str 0 0), (.str 0 0)] 3 [(.mk 0 1 (.c (.str 4 1668183398))), (.mk 1 1 u0), (.mk 2 1 (.c (.str 1 40)))]), o1 (cf 81 [u3, u0])])
 (sq ([ml 0, o1 (fa 5 k3), o1 (ld u0), ml 19, o1 (.sliceV true 1 u1 none (some u0) none), o1 (cf 83 [u4, u0])])
 (sq ([ml 0, o1 (.bslice [(.str 0 0)] 1 [(.mk 0 1 (.c (.str 1 41)))]), o1 (cf 81 [u1, u0])])
 (sq ([ml 0, o1 (fa 2 k3), o1 (ld u0), o1 (cf 82 [u2, u0])])
 (.ops [ml 0, o1 (lN 1 k20), ml 19, o1 (cf 20 [u1, u0]), o1 (cf 35 [u3, u0])])))))) (sq ([o1 (en k4 (.c (iz 5))), mt 0 21])
 (.cond k21 (sq ([ml 0, o1 (fa 1 k3), o1 (ld u0), o1 (.bslice [(.str 0 0)] 1 [(.mk 0 1 u0)]), o1 (cf 81 [u3, u0])])
 (.ops [ml 0, o1 (fa 2 k3), o1 (ld u0), o1 (cf 82 [u2, u0])])) .skip))))))))))))) []
noncomputable def af56 : AFunc := .mk 3 (sq ([o2 (.box k1) 12, o2 (.box k2) 3])
 (.seq (sq ([o1 (fa 0 k3), o2 (ld u0) 4])
 (.block 0 (sq ([o1 (en k4 (.c (iz 6))), mt 0 5])
 (.cond k5 (sq ([ml 0, o1 (.bslice [(.str 0 0)] 1 [(.mk 0 1 (.c (.str 1 123)))]), o1 (cf 81 [u1, u0])])
 (.seq (sq ([o1 (fa 5 k3), o2 (ld u0) 9, o2 (ll u0) 7, mc (iz 0) 6])
 (.block 1 (.loop (sq ([o2 (ls k6 k7) 8])
 (.seq (.cond k8 .skip (.exit 1))
 (.seq (.block 2 (sq ([o1 (ia 1 k9 k6), o1 (lN 1 u0), o2 (.alloc [.nilp]) 10, o1 (st 1 u0 u1)])
 (.ops [ml 0, o1 (lN 1 k10), o1 (cf 35 [u1, u0])])))
 (.ops [o1 (ad k6 (.c (iz 1))), mt 0 6])))))))
 (sq ([ml 0, o1 (.bslice [(.str 0 0)] 1 [(.mk 0 1 (.c (.str 1 125)))]), o1 (cf 81 [u1, u0])])
 .ret))) (.seq (sq ([o1 (en k4 (.c (iz 10))), mt 0 11])
 (.cond k11 .skip (.ops [o1 (en k4 (.c (iz 11))), mt 0 11])))
 (.cond k11 (sq ([ml 0, o1 (.bslice [(.str 0 0), (.str 0 0)] 2 [(.mk 0 1 (.c (.str 2 26217))), (.mk 1 1 (.c (.str 3 7499622)))]), o1 (fa 0 k3), o1 (ld u0), o1 (sb u0 (.c (iz 10))), o1 (ia 1 u3 u0), o1 (ld u0), o1 (.bslice [(.str 0 0)] 1 [(.mk 0 1 u0)]), o1 (cf 81 [u7, u0])])
 (sq ([ml 0, o1 (lN 1 k12), o1 (cf 20 [u0, (.c (iz 0))]), o1 (cf 35 [u2, u0])])
 (sq ([ml 0, o1 (lN 1 k12), o1 (cf 20 [u0, (.c (iz 1))]), o1 (cf 35 [u2, u0])])
 (.seq (sq ([o1 (lN 1 k12), o1 (cf 14 [u0]), o2 (gt u0 (.c (iz 2))) 13])
 (.cond k13 (sq ([ml 0, o1 (.bslice [(.str 0 0)] 1 [(.mk 0 1 (.c (.str 4 1702063205)))]), o1 (cf 81 [u1, u0])])
 (.ops [ml 0, o1 (lN 1 k12), o1 (cf 20 [u0, (.c (iz 2))]), o1 (cf 35 [u2, u0])])) .skip))
 .ret)))) (.seq (sq ([o1 (en k4 (.c (iz 7))), mt 0 14])
 (.cond k14 .skip (.ops [o1 (en k4 (.c (iz 8))), mt 0 14])))
 (.cond k14 (sq ([ml 0, o1 (fa 1 k3), o1 (ld u0), .mk .mkMap none none [], o1 (.mapUpd (.one .int) u0 (.c (iz 7)) (.c (.str 2 15674))), o1 (.mapUpd (.one .int) u1 (.c (iz 8)) (.c (.str 1 61))), o1 (.move u2), o1 (fa 0 k3), o1 (ld u0), o1 (.lookup (.one .int) (.str 0 0) false u2 u0), o1 (.bslice [(.str 0 0), (.str 0 0)] 2 [(.mk 0 1 u7), (.mk 1 1 u0)]), o1 (cf 81 [u10, u0])])
 (.ops [ml 0, o1 (lN 1 k12), o1 (cf 20 [u0, (.c (iz 0))]), o1 (cf 35 [u2, u0])])) (sq ([o1 (en k4 (.c (iz 9))), mt 0 15])
 (.cond k15 (sq ([ml 0, o1 (lN 1 k12), o1 (cf 20 [u0, (.c (iz 0))]), o1 (cf 35 [u2, u0])])
 (sq ([ml 0, o1 (fa 1 k3), o1 (ld u0), o1 (.bslice [(.str 0 0), (.str 0 0), (.str 0 0)] 3 [(.mk 0 1 (.c (.str 1 46))), (.mk 1 1 u0), (.mk 2 1 (.c (.str 1 61)))]), o1 (cf 81 [u3, u0])])
 (.ops [ml 0, o1 (lN 1 k12), o1 (cf 20 [u0, (.c (iz 1))]), o1 (cf 35 [u2, u0])]))) (sq ([o1 (en k4 (.c (iz 12))), mt 0 16])
 (.cond k16 (sq ([ml 0, o1 (.bslice [(.str 0 0), (.str 0 0)] 2 [(.mk 0 1 (.c (.str 5 500068610672))), (.mk 1 1 (.c (.str 1 40)))]), o1 (cf 81 [u1, u0])])
 (sq ([ml 0, o1 (lN 1 k12), o1 (cf 20 [u0, (.c (iz 0))]), o1 (cf 35 [u2, u0])])
 (.ops [ml 0, o1 (.bslice [(.str 0 0)] 1 [(.mk 0 1 (.c (.str 1 41)))]), o1 (cf 81 [u1, u0])]))) (sq ([o1 (en k4 (.c (iz 13))), mt 0 17])
 (.cond k17 (sq ([ml 0, o1 (.bslice [(.str 0 0)] 1 [(.mk 0 1 (.c (.str 6 121437875889522)))]), o1 (cf 81 [u1, u0])])
 (.ops [ml 0, o1 (fa 5 k3), o1 (ld u0), o1 (cf 83 [u2, u0])])) (sq ([o1 (en k4 (.c (iz 14))), mt 0 18])
 (.cond k18 (.ops [ml 0, o1 (lN 1 k12), o1 (cf 20 [u0, (.c (iz 0))]), o1 (cf 35 [u2, u0])]) .skip))))))))))))))))
 (.ops [ml 0, o1 (.bslice [(.str 0 0)] 1 [(.mk 0 1 (.c (.str 1 59)))]), o1 (cf 81 [u1, u0])]))) []
noncomputable def af57 : AFunc := .mk 3 (sq ([o2 (.box k1) 6, o2 (.box k2) 3])
 (sq ([o1 (fa 0 k3), o2 (ld u0) 4])
 (.block 0 (sq ([o1 (en k4 (.c (iz 20))), mt 0 5])
 (.cond k5 (sq ([ml 0, o1 (lN 1 k6), o1 (cf 20 [u0, (.c (iz 0))]), o1 (cf 35 [u2, u0])])
 (.ops [ml 0, o1 (fa 1 k3), o1 (ld u0), o1 (.bslice [(.str 0 0), (.str 0 0)] 2 [(.mk 0 1 (.c (.str 1 46))), (.mk 1 1 u0)]), o1 (cf 81 [u3, u0])])) (sq ([o1 (en k4 (.c (iz 21))), mt 0 7])
 (.cond k7 (sq ([ml 0, o1 (fa 1 k3), o1 (ld u0), o1 (.bslice [(.str 0 0), (.str 0 0)] 2 [(.mk 0 1 u0), (.mk 1 1 (.c (.str 1 40)))]), o1 (cf 81 [u3, u0])])
 (sq ([ml 0, o1 (fa 5 k3), o1 (ld u0), o1 (cf 83 [u2, u0])])
 (.ops [ml 0, o1 (.bslice [(.str 0 0)] 1 [(.mk 0 1 (.c (.str 1 41)))]), o1 (cf 81 [u1, u0])]))) (sq ([o1 (en k4 (.c (iz 23))), mt 0 8])
 (.cond k8 (sq ([ml 0, o1 (fa 3 k3), o1 (ld u0), o1 (cf 84 [u0]), o1 (.bslice [(.str 0 0), (.str 0 0)] 2 [(.mk 0 1 (.c (.str 1 40))), (.mk 1 1 u0)]), o1 (cf 81 [u4, u0])])
 (sq ([ml 0, o1 (lN 1 k6), o1 (cf 20 [u0, (.c (iz 0))]), o1 (cf 35 [u2, u0])])
 (.ops [ml 0, o1 (.bslice [(.str 0 0)] 1 [(.mk 0 1 (.c (.str 1 41)))]), o1 (cf 81 [u1, u0])]))) (sq ([o1 (en k4 (.c (iz 24))), mt 0 9])
 (.cond k9 (.ops [ml 0, o1 (lN 1 k6), o1 (fa 3 k3), o1 (ld u0), .mk (cf 84 [u0]) none none [.mk (lN 1 k6) 2 none], o1 (cf 85 [u4, u3, u0])]) (sq ([o1 (en k4 (.c (iz 25))), mt 0 10])
 (.cond k10 (.ops [ml 0, o1 (lN 1 k6), o1 (cf 85 [u1, u0, (.c (.str 2 9766))])]) (sq ([o1 (en k4 (.c (iz 26))), mt 0 11])
 (.cond k11 (.ops [ml 0, o1 (lN 1 k6), o1 (cf 85 [u1, u0, (.c (.str 2 31868))])]) (.ops [ml 0, o1 (lN 6 k3), o1 (cf 86 [u1, u0])])))))))))))))))) []
noncomputable def af61 : AFunc := .mk 2 (sq ([mc (.int .i64 (.ofNat 0)) 4])
 (sq ([mc (.int .i64 (.ofNat 0)) 2])
 (.seq (.block 0 (.loop (.seq (sq ([ml 2, ml 0, o1 (lt u0), o1 (ls u2 u0), m0, o3 (.move k1) 0 true, o3 (.move k0) 1 true, o3 (.move k2) 2 true, o3 (.idxS u1 u0) 3 true, o3 (.callV u3 [u0]) 4 true, o2 (pk u5 u0 (.c (.bool false))) 3])
 (.cond k3 .skip (.exit 0)))
 (.block 1 (.ops [ml 2, o1 (ad u0 (.c (.int .i64 (.ofNat 1)))), mt 0 2])))))
 (sq ([ml 2, mt 0 4])
 .ret)))) [.val k4]
noncomputable def af62 : AFunc := .mk 1 (sq ([mc (.bool false) 1])
 (sq ([ml 0, o1 (en u0 (.c (.int .u8 (.ofNat 32)))), m0, o3 (.move k0) 0 false, o3 (en u0 (.c (.int .u8 (.ofNat 9)))) 1 false, o1 (pk u2 (.c (.bool true)) u0), m0, o3 (.move k0) 0 false, o3 (en u0 (.c (.int .u8 (.ofNat 10)))) 1 false, o1 (pk u2 (.c (.bool true)) u0), m0, o3 (.move k0) 0 false, o3 (en u0 (.c (.int .u8 (.ofNat 13)))) 1 false, o1 (pk u2 (.c (.bool true)) u0), mt 0 1])
 .ret)) [.val k1]
noncomputable def af63 : AFunc := .mk 2 (sq ([mc (.bool false) 2])
 (sq ([ml 0, ml 1, o1 (cf 89 [u1, u0]), mt 0 2])
 .ret)) [.val k2]
noncomputable def af64 : AFunc := .mk 1 (sq ([mc (.bool false) 1])
 (sq ([ml 0, o1 (nn u0 (.c (.int .u8 (.ofNat 10)))), mt 0 1])
 .ret)) [.val k1]
noncomputable def af65 : AFunc := .mk 1 (sq ([mc (.bool false) 1])
 (sq ([ml 0, o1 (ge u0 (.c (.int .u8 (.ofNat 97)))), m0, o3 (.move k0) 0 true, o3 (le u0 (.c (.int .u8 (.ofNat 122)))) 1 true, o1 (pk u2 u0 (.c (.bool false))), m0, o3 (.move k0) 0 false, o3 (ge u0 (.c (.int .u8 (.ofNat 65)))) 1 false, o3 (.move u0) 2 false, o3 (.move k0) 0 true, o3 (le u0 (.c (.int .u8 (.ofNat 90)))) 1 true, o3 (pk u2 u0 (.c (.bool false))) 5 false, o1 (pk u6 (.c (.bool true)) u0), m0, o3 (.move k0) 0 false, o3 (en u0 (.c (.int .u8 (.ofNat 95)))) 1 false, o1 (pk u2 (.c (.bool true)) u0), mt 0 1])
 .ret)) [.val k1]
noncomputable def af66 : AFunc := .mk 1 (sq ([o2 (.alloc [(.int .i64 (.ofNat 0)), (.str 0 0), (.int .i64 (.ofNat 0))]) 4, mc (.int .i64 (.ofNat 0)) 5])
 (sq ([ml 0, ml 0, o1 (cf 61 [u0, (.c (.fn 90 [] []))]), o1 (.sliceS u2 none (some u0)), o1 (.build [(.int .i64 (.ofNat 0)), (.str 0 0), (.int .i64 (.ofNat 0))] [(.mk 0 1 (.c (.int .i64 (.ofNat 1)))), (.mk 1 1 u0)]), o2 (.alloc [(.int .i64 (.ofNat 0)), (.str 0 0), (.int .i64 (.ofNat 0))]) 1, o1 (st 3 u0 u1)])
 (.seq (sq ([o1 (fa 1 k1), o1 (ld u0), o2 (cf 91 [u0]) 2])
 (.cond k2 (.ops [o1 (fa 0 k1), o1 (st 1 u0 (.c (.int .i64 (.ofNat 2))))]) .skip))
 (.seq (sq ([o1 (fa 1 k1), o1 (ld u0), o1 (lt u0), o2 (gt u0 (.c (.int .i64 (.ofNat 12)))) 3])
 (.cond k3 (sq ([o1 (lN 3 k1), o1 (st 3 k4 u0), mc (.int .i64 (.ofNat 4)) 5])
 .ret) .skip))
 (sq ([o1 (lN 3 k1), o1 (st 3 k4 u0), mc (.int .i64 (.ofNat 0)) 5])
 .ret))))) [.cellN 3 k4, .val k5]
noncomputable def af67 : AFunc := .mk 1 (sq ([mc (.bool false) 1])
 (sq ([ml 0, o1 (ge u0 (.c (.int .u8 (.ofNat 48)))), m0, o3 (.move k0) 0 true, o3 (le u0 (.c (.int .u8 (.ofNat 57)))) 1 true, o1 (pk u2 u0 (.c (.bool false))), mt 0 1])
 .ret)) [.val k1]
noncomputable def af68 : AFunc := .mk 1 (sq ([o2 (.alloc [(.int .i64 (.ofNat 0)), (.str 0 0), (.int .i64 (.ofNat 0))]) 4, mc (.int .i64 (.ofNat 0)) 6])
 (sq ([ml 0, o1 (cf 61 [u0, (.c (.fn 67 [] []))]), mt 0 1])
 (sq ([ml 0, ml 1, o1 (.sliceS u1 none (some u0)), o1 (.build [(.int .i64 (.ofNat 0)), (.str 0 0), (.int .i64 (.ofNat 0))] [(.mk 0 1 (.c (.int .i64 (.ofNat 3)))), (.mk 1 1 u0)]), o2 (.alloc [(.int .i64 (.ofNat 0)), (.str 0 0), (.int .i64 (.ofNat 0))]) 3, o1 (st 3 u0 u1)])
 (.seq (sq ([ml 1, ml 0, o1 (lt u0), o1 (ls u2 u0), m0, o3 (.move k0) 0 true, o3 (.move k1) 1 true, o3 (.idxS u1 u0) 2 true, o3 (cf 65 [u0]) 3 true, o2 (pk u4 u0 (.c (.bool false))) 2])
 (.cond k2 (sq ([o1 (lN 3 k3), o1 (st 3 k4 u0), mc (.int .i64 (.ofNat 1)) 6])
 .ret) .skip))
 (sq ([o1 (fa 1 k3), o1 (ld u0), o1 (cf 92 [u0]), m0, ox 0, ox 1, o1 (.move u1), mt 1 5])
 (sq ([o1 (lN 3 k3), ml 5, o1 (st 3 k4 u1), mt 1 6])
 .ret)))))) [.cellN 3 k4, .val k6]
noncomputable def af69 : AFunc := .mk 1 (sq ([o2 (.box k0) 1, o2 (.alloc [(.int .i64 (.ofNat 0)), (.str 0 0), (.int .i64 (.ofNat 0))]) 4, mc (.int .i64 (.ofNat 0)) 5])
 (sq ([o1 (cf 94 []), o1 (.mkFn 95 [] [k1]), o1 (cf 93 [u1, u0]), mt 0 2])
 (.seq (sq ([ml 2, o2 (ls u0 (.c (.int .i64 (.ofNat 0)))) 3])
 (.cond k3 (sq ([o1 (.build [(.int .i64 (.ofNat 0)), (.str 0 0), (.int .i64 (.ofNat 0))] []), o1 (st 3 k4 u0), mc (.int .i64 (.ofNat 1)) 5])
 .ret) .skip))
 (sq ([o1 (cf 94 []), ml 2, o1 (ia 1 u1 u0), o1 (ld u0), o1 (.build [(.int .i64 (.ofNat 0)), (.str 0 0), (.int .i64 (.ofNat 0))] [(.mk 0 1 (.c (.int .i64 (.ofNat 4)))), (.mk 1 1 u0)]), o1 (st 3 k4 u0), mc (.int .i64 (.ofNat 0)) 5])
 .ret)))) [.cellN 3 k4, .val k5]
noncomputable def af70 : AFunc := .mk 2 (sq ([mc (.bool false) 3])
 (.seq (sq ([ml 0, ml 1, o1 (cf 96 [u1, u0]), o2 (.not u0) 2])
 (.cond k2 (sq ([mc (.bool false) 3])
 .ret) .skip))
 (sq ([ml 0, o1 (nc u0), o1 (fa 1 u0), o1 (ld u0), o1 (ad u0 (.c (.int .i64 (.ofNat 1)))), o1 (nc u4), o1 (fa 1 u0), o1 (st 1 u0 u2)])
 (sq ([mc (.bool true) 3])
 .ret)))) [.val k3]
noncomputable def af71 : AFunc := .mk 1 (sq ([o2 (.alloc [.nilp]) 3])
 (sq ([ml 0, o1 (cf 98 [u0]), o1 (cf 97 [(.c (.int .i64 (.ofNat 2))), u0, (.c .nils)]), o2 (.alloc [.nilp]) 2, o1 (st 1 u0 u1)])
 (sq ([ml 0, o1 (cf 75 [u0, (.c (.str 6 127970521019507))])])
 (sq ([ml 0, o1 (cf 75 [u0, (.c (.str 1 123))])])
 (.seq (.block 0 (.loop (.seq (sq ([ml 0, o1 (cf 70 [u0, (.c (.str 1 125))]), o2 (.not u0) 1])
 (.cond k1 .skip (.exit 0)))
 (.block 1 (sq ([o1 (fa 0 k2), o1 (ld u0), o1 (fa 0 k2), o1 (ld u0), o1 (nc u0), o1 (fa 5 u0), o1 (ld u0), ml 0, .mk (cf 74 [u0, (.c (.int .i64 (.ofNat 5)))]) none none [.mk (ld u2) 1 none, .mk (ld u5) 4 none, .mk (ld u7) 6 none], o1 (.bslice [.nilp] 1 [(.mk 0 1 u0)]), .mk (ap 1 8 u3 u0) none none [.mk (ld u9) 8 none], o1 (nc u9), o1 (fa 5 u0), o1 (st 1 u0 u2)])
 (.ops [ml 0, o1 (cf 75 [u0, (.c (.str 1 59))])]))))))
 (sq ([o1 (lN 1 k2), o1 (st 1 k3 u0)])
 .ret)))))) [.cellN 1 k3]
noncomputable def af72 : AFunc := .mk 1 (sq ([o2 (.alloc [.nilp]) 6])
 (sq ([ml 0, o1 (cf 98 [u0]), o1 (cf 97 [(.c (.int .i64 (.ofNat 4))), u0, (.c .nils)]), o2 (.alloc [.nilp]) 2, o1 (st 1 u0 u1)])
 (sq ([ml 0, o1 (cf 75 [u0, (.c (.str 1 40))])])
 (.seq (.block 0 (.loop (.seq (sq ([ml 0, o1 (cf 96 [u0, (.c (.str 1 41))]), o2 (.not u0) 1])
 (.cond k1 .skip (.exit 0)))
 (.block 1 (sq ([o1 (fa 0 k2), o1 (ld u0), o1 (fa 0 k2), o1 (ld u0), o1 (nc u0), o1 (fa 5 u0), o1 (ld u0), ml 0, .mk (cf 74 [u0, (.c (.int .i64 (.ofNat 5)))]) none none [.mk (ld u2) 1 none, .mk (ld u5) 4 none, .mk (ld u7) 6 none], o1 (.bslice [.nilp] 1 [(.mk 0 1 u0)]), .mk (ap 1 8 u3 u0) none none [.mk (ld u9) 8 none], o1 (nc u9), o1 (fa 5 u0), o1 (st 1 u0 u2)])
 (sq ([ml 0, o1 (cf 96 [u0, (.c (.str 1 41))]), o2 (.not u0) 3])
 (.cond k3 (sq ([ml 0, o1 (cf 75 [u0, (.c (.str 1 44))])])
 (sq ([ml 0, o2 (cf 96 [u0, (.c (.str 1 41))]) 4])
 (.cond k4 (.ops [ml 0, o1 (cf 73 [u0])]) .skip))) .skip)))))))
 (sq ([ml 0, o1 (cf 75 [u0, (.c (.str 1 41))])])
 (.seq (sq ([ml 0, o1 (cf 96 [u0, (.c (.str 1 123))]), o2 (.not u0) 5])
 (.cond k5 (.ops [o1 (fa 0 k2), o1 (ld u0), ml 0, .mk (cf 99 [u0]) none none [.mk (ld u2) 1 none], o1 (nc u2), o1 (fa 2 u0), o1 (st 1 u0 u2)]) .skip))
 (sq ([o1 (fa 0 k2), o1 (ld u0), o1 (fa 0 k2), o1 (ld u0), o1 (nc u0), o1 (fa 5 u0), o1 (ld u0), ml 0, .mk (cf 100 [u0]) none none [.mk (ld u2) 1 none, .mk (ld u5) 4 none, .mk (ld u7) 6 none], o1 (.bslice [.nilp] 1 [(.mk 0 1 u0)]), .mk (ap 1 8 u3 u0) none none [.mk (ld u9) 8 none], o1 (nc u9), o1 (fa 5 u0), o1 (st 1 u0 u2)])
 (sq ([o1 (lN 1 k2), o1 (st 1 k6 u0)])
 .ret)))))))) [.cellN 1 k6]
noncomputable def af73 : AFunc := .mk 1 (.ops [ml 0, o1 (cf 101 [u0]), o1 (.field 2 1 false u0), o1 (.build [(.int .i64 (.ofNat 0)), (.int .i64 (.ofNat 0))] [(.mk 0 1 u0), (.mk 1 1 (.c (.int .i64 (.ofNat 1))))]), o1 (.mkIfc 54 u0), o1 (.panic u0)]) []
noncomputable def af74 : AFunc := .mk 2 (sq ([o2 (.alloc [.nilp]) 3])
 (sq ([ml 1, ml 0, o1 (cf 98 [u0]), o1 (cf 97 [u2, u0, (.c .nils)]), o2 (.alloc [.nilp]) 2, o1 (st 1 u0 u1)])
 (sq ([o1 (fa 0 k2), o1 (ld u0), ml 0, .mk (cf 99 [u0]) none none [.mk (ld u2) 1 none], o1 (nc u2), o1 (fa 2 u0), o1 (st 1 u0 u2)])
 (sq ([o1 (lN 1 k2), o1 (st 1 k3 u0)])
 .ret)))) [.cellN 1 k3]
noncomputable def af75 : AFunc := .mk 2 (sq ([mc (.int .i64 (.ofNat 0)) 3])
 (.seq (sq ([ml 0, ml 1, o1 (cf 96 [u1, u0]), o2 (.not u0) 2])
 (.cond k2 (.ops [ml 0, o1 (cf 73 [u0])]) .skip))
 (sq ([ml 0, o1 (cf 102 [u0]), o1 (.field 2 1 false u0), mt 0 3])
 .ret))) [.val k3]
noncomputable def af81 : AFunc := .mk 2 (.ops [ml 0, ml 0, o1 (nc u0), o1 (fa 0 u0), o1 (ld u0), ml 1, o1 (ap 1 16 u1 u0), o1 (nc u6), o1 (fa 0 u0), o1 (st 1 u0 u2)]) []
noncomputable def af82 : AFunc := .mk 2 (sq ([ml 1, o1 (cf 107 [u0]), m0, ox 0, ox 1, mt 1 4, mt 1 2])
 (sq ([o2 (.move k2) 3])
 (.cond k3 (.ops [ml 0, ml 4, o1 (.bslice [(.str 0 0), (.str 0 0)] 2 [(.mk 0 1 (.c (.str 1 42))), (.mk 1 1 u0)]), o1 (cf 81 [u2, u0])]) (sq ([ml 1, o2 (nn u0 (.c (.str 0 0))) 5])
 (.cond k5 (.ops [ml 0, ml 1, o1 (.bslice [(.str 0 0)] 1 [(.mk 0 1 u0)]), o1 (cf 81 [u2, u0])]) .skip))))) []
noncomputable def af83 : AFunc := .mk 2 (sq ([o2 (.move k1) 5, o2 (ll u0) 3, mc (iz 0) 2])
 (.block 0 (.loop (sq ([o2 (ls k2 k3) 4])
 (.seq (.cond k4 .skip (.exit 0))
 (.seq (.block 1 (sq ([ml 2, o1 (ia 1 k5 k2), o1 (lN 1 u0), o2 (.alloc [.nilp]) 8, mt 3 6, o1 (st 1 u1 u2)])
 (.seq (sq ([ml 6, o2 (gt u0 (.c (iz 0))) 7])
 (.cond k7 (.ops [ml 0, o1 (.bslice [(.str 0 0)] 1 [(.mk 0 1 (.c (.str 1 44)))]), o1 (cf 81 [u1, u0])]) .skip))
 (.ops [ml 0, o1 (lN 1 k8), o1 (cf 35 [u1, u0])]))))
 (.ops [o1 (ad k2 (.c (iz 1))), mt 0 2]))))))) []
noncomputable def af84 : AFunc := .mk 1 (sq ([mc (.str 0 0) 2])
 (.seq (sq ([ml 0, o1 (cf 108 [u0]), o1 (.not u0), m0, o3 (.move k0) 0 true, o3 (cf 109 [u0]) 1 true, o3 (.not u0) 2 true, o2 (pk u3 u0 (.c (.bool false))) 1])
 (.cond k1 (sq ([mc (.str 0 0) 2])
 .ret) .skip))
 (sq ([o1 (cf 110 []), ml 0, o1 (ia 1 u1 u0), o1 (ld u0), mt 0 2])
 .ret))) [.val k2]
noncomputable def af85 : AFunc := .mk 3 (sq ([o2 (.box k1) 3])
 (sq ([ml 0, o1 (.bslice [(.str 0 0)] 1 [(.mk 0 1 (.c (.str 1 40)))]), o1 (cf 81 [u1, u0])])
 (sq ([ml 0, o1 (lN 1 k3), o1 (cf 20 [u0, (.c (iz 0))]), o1 (cf 35 [u2, u0])])
 (sq ([ml 0, ml 2, o1 (.bslice [(.str 0 0)] 1 [(.mk 0 1 u0)]), o1 (cf 81 [u2, u0])])
 (sq ([ml 0, o1 (lN 1 k3), o1 (cf 20 [u0, (.c (iz 1))]), o1 (cf 35 [u2, u0])])
 (.ops [ml 0, o1 (.bslice [(.str 0 0)] 1 [(.mk 0 1 (.c (.str 1 41)))]), o1 (cf 81 [u1, u0])])))))) []
noncomputable def af86 : AFunc := .mk 2 (sq ([o2 (.box k1) 2])
 (sq ([o1 (fa 0 k2), o2 (ld u0) 3])
 (.block 0 (sq ([o1 (en k3 (.c (iz 15))), mt 0 4])
 (.cond k4 (.ops [ml 0, o1 (fa 3 k2), o1 (ld u0), o1 (cf 111 [u0]), o1 (.bslice [(.str 0 0)] 1 [(.mk 0 1 u0)]), o1 (cf 81 [u4, u0])]) (sq ([o1 (en k3 (.c (iz 16))), mt 0 5])
 (.cond k5 (.ops [ml 0, o1 (.bslice [(.str 0 0), (.str 0 0)] 2 [(.mk 0 1 (.c (.str 5 435728179558))), (.mk 1 1 (.c (.str 4 1702195828)))]), o1 (fa 3 k2), o1 (ld u0), o1 (.bin .and u0 (.c (iz 1))), o1 (ia 1 u3 u0), o1 (ld u0), o1 (.bslice [(.str 0 0)] 1 [(.mk 0 1 u0)]), o1 (cf 81 [u7, u0])]) (sq ([o1 (en k3 (.c (iz 17))), mt 0 6])
 (.cond k6 (.ops [ml 0, o1 (.bslice [(.str 0 0)] 1 [(.mk 0 1 (.c (.str 3 7104878)))]), o1 (cf 81 [u1, u0])]) (sq ([o1 (en k3 (.c (iz 18))), mt 0 7])
 (.cond k7 (.ops [ml 0, o1 (fa 1 k2), o1 (ld u0), o1 (.bslice [(.str 0 0)] 1 [(.mk 0 1 u0)]), o1 (cf 81 [u3, u0])]) (sq ([o1 (en k3 (.c (iz 19))), mt 0 8])
 (.cond k8 (.ops [ml 0, o1 (fa 1 k2), o1 (ld u0), o1 (.bslice [(.str 0 0), (.str 0 0), (.str 0 0), (.str 0 0)] 4 [(.mk 0 1 (.c (.str 3 7824750))), (.mk 1 1 (.c (.str 1 40))), (.mk 2 1 u0), (.mk 3 1 (.c (.str 1 41)))]), o1 (cf 81 [u3, u0])]) (sq ([o1 (en k3 (.c (iz 22))), mt 0 9])
 (.cond k9 (.ops [ml 0, o1 (.bslice [(.str 0 0), (.str 0 0), (.str 0 0)] 3 [(.mk 0 1 (.c (.str 4 1684104562))), (.mk 1 1 (.c (.str 1 40))), (.mk 2 1 (.c (.str 1 41)))]), o1 (cf 81 [u1, u0])]) .skip))))))))))))))) []
noncomputable def af89 : AFunc := .mk 2 (sq ([mc (.bool false) 2])
 (sq ([ml 0, o1 (lt u0), ml 1, o1 (lt u0), o1 (ge u2 u0), m0, o3 (.move k0) 0 true, o3 (.move k1) 1 true, o3 (lt u0) 2 true, o3 (.sliceS u2 none (some u0)) 3 true, o3 (.move k1) 4 true, o3 (en u1 u0) 5 true, o1 (pk u6 u0 (.c (.bool false))), mt 0 2])
 .ret)) [.val k2]
noncomputable def af90 : AFunc := .mk 1 (sq ([mc (.bool false) 1])
 (sq ([ml 0, o1 (cf 65 [u0]), m0, o3 (.move k0) 0 false, o3 (cf 67 [u0]) 1 false, o1 (pk u2 (.c (.bool true)) u0), mt 0 1])
 .ret)) [.val k1]
noncomputable def af91 : AFunc := .mk 1 (sq ([mc (.bool false) 1])
 (sq ([o1 (cf 115 []), ml 0, o1 (cf 114 [u1, u0]), mt 0 1])
 .ret)) [.val k1]
noncomputable def af92 : AFunc := .mk 1 (sq ([mc (.int .i64 (.ofNat 0)) 6, mc (.int .i64 (.ofNat 0)) 7])
 (sq ([ml 0, o1 (cf 116 [u0, (.c (.str 1 45))]), mt 0 1])
 (.seq (sq ([ml 1, o1 (cf 117 [u0]), o1 (.not u0), m0, o3 (.move k0) 0 false, o3 (en u0 (.c (.str 2 12333))) 1 false, o2 (pk u2 (.c (.bool true)) u0) 2])
 (.cond k2 (sq ([mc (.int .i64 (.ofNat 0)) 6, mc (.int .i64 (.ofNat 1)) 7])
 .ret) .skip))
 (sq ([ml 0, o1 (cf 118 [u0]), m0, ox 0, ox 1, mt 1 5, mt 1 3])
 (.seq (sq ([ml 3, o2 (.eq true .ifc u0 (.c .nili)) 4])
 (.cond k4 (sq ([mc (.int .i64 (.ofNat 0)) 6, mc (.int .i64 (.ofNat 2)) 7])
 .ret) .skip))
 (sq ([ml 5, mt 0 6, mc (.int .i64 (.ofNat 0)) 7])
 .ret)))))) [.val k6, .val k7]
noncomputable def af93 : AFunc := .mk 2 (sq ([mc (.int .i64 (.ofNat 0)) 7])
 (.seq (sq ([ml 0, o2 (ll u0) 3, mc (.int .i64 (.ofNat 0)) 2])
 (.block 0 (.loop (sq ([o2 (ls k2 k3) 4])
 (.seq (.cond k4 .skip (.exit 0))
 (.seq (.block 1 (sq ([ml 2, mt 0 5])
 (sq ([ml 1, ml 0, ml 5, o1 (ia 1 u1 u0), o1 (ld u0), o2 (.callV u4 [u0]) 6])
 (.cond k6 (sq ([ml 5, mt 0 7])
 .ret) .skip))))
 (.ops [o1 (ad k2 (.c (.int .i64 (.ofNat 1)))), mt 0 2])))))))
 (sq ([mc (.int .i64 (.negSucc 0)) 7])
 .ret))) [.val k7]
noncomputable def af94 : AFunc := .mk 0 (sq ([mc .nils 0])
 (sq ([o1 (.bslice [(.str 0 0), (.str 0 0), (.str 0 0), (.str 0 0), (.str 0 0), (.str 0 0), (.str 0 0), (.str 0 0), (.str 0 0), (.str 0 0), (.str 0 0), (.str 0 0), (.str 0 0), (.str 0 0), (.str 0 0), (.str 0 0), (.str 0 0), (.str 0 0), (.str 0 0), (.str 0 0), (.str 0 0), (.str 0 0), (.str 0 0), (.str 0 0), (.str 0 0), (.str 0 0), (.str 0 0), (.str 0 0)] 28 [(.mk 0 1 (.c (.str 2 15420))), (.mk 1 1 (.c (.str 2 15934))), (.mk 2 1 (.c (.str 2 15677))), (.mk 3 1 (.c (.str 2 15649))), (.mk 4 1 (.c (.str 2 15676))), (.mk 5 1 (.c (.str 2 15678))), (.mk 6 1 (.c (.str 2 9766))), (.mk 7 1 (.c (.str 2 31868))), (.mk 8 1 (.c (.str 2 15674))), (.mk 9 1 (.c (.str 1 43))), (.mk 10 1 (.c (.str 1 45))), (.mk 11 1 (.c (.str 1 42))), (.mk 12 1 (.c (.str 1 47))), (.mk 13 1 (.c (.str 1 37))), (.mk 14 1 (.c (.str 1 38))), (.mk 15 1 (.c (.str 1 124))), (.mk 16 1 (.c (.str 1 94))), (.mk 17 1 (.c (.str 1 60))), (.mk 18 1 (.c (.str 1 62))), (.mk 19 1 (.c (.str 1 33))), (.mk 20 1 (.c (.str 1 61))), (.mk 21 1 (.c (.str 1 46))), (.mk 22 1 (.c (.str 1 44))), (.mk 23 1 (.c (.str 1 59))), (.mk 24 1 (.c (.str 1 40))), (.mk 25 1 (.c (.str 1 41))), (.mk 26 1 (.c (.str 1 123))), (.mk 27 1 (.c (.str 1 125)))]), mt 0 0])
 .ret)) [.val k0]
noncomputable def af95 : AFunc := .mk 2 (sq ([mc (.bool false) 2])
 (sq ([o1 (ld k1), ml 0, o1 (cf 63 [u1, u0]), mt 0 2])
 .ret)) [.val k2]
noncomputable def af96 : AFunc := .mk 2 (sq ([mc (.bool false) 3])
 (sq ([ml 0, o1 (cf 101 [u0]), o2 (.alloc [(.int .i64 (.ofNat 0)), (.str 0 0), (.int .i64 (.ofNat 0))]) 2, o1 (st 3 u0 u1)])
 (sq ([o1 (fa 1 k2), o1 (ld u0), ml 1, o1 (en u1 u0), m0, o3 (fa 0 k2) 0 true, o3 (ld u0) 1 true, o3 (en u0 (.c (.int .i64 (.ofNat 2)))) 2 true, o3 (.move u0) 3 true, o3 (fa 0 k2) 0 false, o3 (ld u0) 1 false, o3 (en u0 (.c (.int .i64 (.ofNat 4)))) 2 false, o3 (pk u3 (.c (.bool true)) u0) 7 true, o1 (pk u8 u0 (.c (.bool false))), mt 0 3])
 .ret))) [.val k3]
noncomputable def af97 : AFunc := .mk 3 (sq ([o2 (.box k1) 3, o2 (.alloc [.nilp]) 4])
 (sq ([ml 0, o1 (fa 1 k3), o1 (ld u0), o1 (fa 2 k3), o1 (ld u0), ml 2, o1 (.build [(.int .i64 (.ofNat 0)), (.str 0 0), (.str 0 0), (.int .i64 (.ofNat 0)), (.int .i64 (.ofNat 0)), .nils] [(.mk 0 1 u5), (.mk 1 1 u3), (.mk 4 1 u1), (.mk 5 1 u0)]), o1 (.box u0), o1 (.build [.nilp] [(.mk 0 1 u0)]), o1 (st 1 k4 u0)])
 .ret)) [.cellN 1 k4]
noncomputable def af98 : AFunc := .mk 1 (sq ([o2 (.alloc [(.int .i64 (.ofNat 0)), (.str 0 0), (.int .i64 (.ofNat 0))]) 2])
 (.seq (sq ([ml 0, o1 (cf 101 [u0]), o1 (.field 0 1 false u0), o2 (nn u0 (.c (.int .i64 (.ofNat 1)))) 1])
 (.cond k1 (.ops [ml 0, o1 (cf 73 [u0])]) .skip))
 (sq ([ml 0, o1 (cf 102 [u0]), o1 (st 3 k2 u0)])
 .ret))) [.cellN 3 k2]
noncomputable def af99 : AFunc := .mk 1 (sq ([mc (.str 0 0) 3])
 (.seq (.block 0 (sq ([ml 0, o1 (cf 70 [u0, (.c (.str 1 42))]), mt 0 1])
 (.cond k1 (sq ([ml 0, o1 (cf 98 [u0]), o1 (.field 1 1 false u0), o1 (cf 119 [u0]), mt 0 3])
 .ret) (sq ([ml 0, o1 (cf 96 [u0, (.c (.str 3 7630441))]), m0, o3 (.move k0) 0 false, o3 (cf 96 [u0, (.c (.str 4 1819242338))]) 1 false, o1 (pk u2 (.c (.bool true)) u0), mt 0 2])
 (.cond k2 (sq ([ml 0, o1 (cf 102 [u0]), o1 (.field 1 1 false u0), mt 0 3])
 .ret) .skip)))))
 (sq ([ml 0, o1 (cf 73 [u0])])
 (sq ([mc (.str 0 0) 3])
 .ret)))) [.val k3]
noncomputable def af100 : AFunc := .mk 1 (sq ([o2 (.box k0) 1, o2 (.alloc [.nilp]) 3])
 (.seq (sq ([o1 (ld k1), o1 (cf 96 [u0, (.c (.str 1 123))]), o2 (.not u0) 2])
 (.cond k2 (.ops [o1 (ld k1), o1 (cf 73 [u0])]) .skip))
 (sq ([o1 (ld k1), o1 (.mkFn 121 [] [k1]), o1 (cf 120 [u1, u0]), o1 (st 1 k3 u0)])
 .ret))) [.cellN 1 k3]
noncomputable def af101 : AFunc := .mk 1 (sq ([o2 (.alloc [(.int .i64 (.ofNat 0)), (.str 0 0), (.int .i64 (.ofNat 0))]) 2])
 (.seq (sq ([ml 0, o1 (nc u0), o1 (fa 1 u0), o1 (ld u0), ml 0, o1 (nc u0), o1 (fa 0 u0), o1 (ld u0), o1 (ll u0), o2 (ge u5 u0) 1])
 (.cond k1 (sq ([ml 0, o1 (nc u0), o1 (fa 2 u0), o1 (ld u0), o1 (.build [(.int .i64 (.ofNat 0)), (.str 0 0), (.int .i64 (.ofNat 0))] [(.mk 2 1 u0)]), o1 (st 3 k2 u0)])
 .ret) .skip))
 (sq ([ml 0, o1 (nc u0), o1 (fa 0 u0), o1 (ld u0), ml 0, o1 (nc u0), o1 (fa 1 u0), o1 (ld u0), o1 (ia 3 u4 u0), o1 (lN 3 u0), o1 (st 3 k2 u0)])
 .ret))) [.cellN 3 k2]
noncomputable def af102 : AFunc := .mk 1 (sq ([o2 (.alloc [(.int .i64 (.ofNat 0)), (.str 0 0), (.int .i64 (.ofNat 0))]) 2])
 (sq ([ml 0, o1 (cf 101 [u0]), o2 (.alloc [(.int .i64 (.ofNat 0)), (.str 0 0), (.int .i64 (.ofNat 0))]) 1, o1 (st 3 u0 u1)])
 (sq ([ml 0, o1 (nc u0), o1 (fa 1 u0), o1 (ld u0), o1 (ad u0 (.c (.int .i64 (.ofNat 1)))), o1 (nc u4), o1 (fa 1 u0), o1 (st 1 u0 u2)])
 (sq ([o1 (lN 3 k1), o1 (st 3 k2 u0)])
 .ret)))) [.cellN 3 k2]
noncomputable def af107 : AFunc := .mk 1 (sq ([mc (.str 0 0) 4, mc (.bool false) 5])
 (sq ([ml 0, o1 (cf 125 [u0, (.c (.str 1 42))]), m0, ox 0, ox 1, mt 1 2, mt 1 1])
 (.seq (sq ([ml 1, o1 (.not u0), m0, o3 (.move k2) 0 false, o3 (cf 126 [u0]) 1 false, o3 (.not u0) 2 false, o2 (pk u3 (.c (.bool true)) u0) 3])
 (.cond k3 (sq ([mc (.str 0 0) 4, mc (.bool false) 5])
 .ret) .skip))
 (sq ([ml 2, mt 0 4, mc (.bool true) 5])
 .ret)))) [.val k4, .val k5]
noncomputable def af108 : AFunc := .mk 1 (sq ([mc (.bool false) 1])
 (sq ([ml 0, o1 (ge u0 (.c (iz 1))), m0, o3 (.move k0) 0 true, o3 (le u0 (.c (iz 16))) 1 true, o1 (pk u2 u0 (.c (.bool false))), mt 0 1])
 .ret)) [.val k1]
noncomputable def af109 : AFunc := .mk 1 (sq ([mc (.bool false) 1])
 (sq ([ml 0, o1 (en u0 (.c (iz 17))), m0, o3 (.move k0) 0 false, o3 (en u0 (.c (iz 18))) 1 false, o1 (pk u2 (.c (.bool true)) u0), mt 0 1])
 .ret)) [.val k1]
noncomputable def af110 : AFunc := .mk 0 (sq ([mc .nils 0])
 (sq ([o1 (.bslice [(.str 0 0), (.str 0 0), (.str 0 0), (.str 0 0), (.str 0 0), (.str 0 0), (.str 0 0), (.str 0 0), (.str 0 0), (.str 0 0), (.str 0 0), (.str 0 0), (.str 0 0), (.str 0 0), (.str 0 0), (.str 0 0), (.str 0 0), (.str 0 0), (.str 0 0)] 19 [(.mk 0 1 (.c (.str 0 0))), (.mk 1 1 (.c (.str 1 43))), (.mk 2 1 (.c (.str 1 45))), (.mk 3 1 (.c (.str 1 42))), (.mk 4 1 (.c (.str 1 47))), (.mk 5 1 (.c (.str 1 37))), (.mk 6 1 (.c (.str 1 38))), (.mk 7 1 (.c (.str 1 124))), (.mk 8 1 (.c (.str 1 94))), (.mk 9 1 (.c (.str 2 15420))), (.mk 10 1 (.c (.str 2 15934))), (.mk 11 1 (.c (.str 2 15677))), (.mk 12 1 (.c (.str 2 15649))), (.mk 13 1 (.c (.str 1 60))), (.mk 14 1 (.c (.str 2 15676))), (.mk 15 1 (.c (.str 1 62))), (.mk 16 1 (.c (.str 2 15678))), (.mk 17 1 (.c (.str 1 45))), (.mk 18 1 (.c (.str 1 33)))]), mt 0 0])
 .ret)) [.val k0]
noncomputable def af111 : AFunc := .mk 1 (sq ([mc (.str 0 0) 1])
 (sq ([ml 0, o1 (cf 127 [u0]), mt 0 1])
 .ret)) [.val k1]
noncomputable def af114 : AFunc := .mk 2 (sq ([mc (.bool false) 2])
 (sq ([ml 0, ml 1, o1 (cf 128 [u1, u0]), o1 (ge u0 (.c (.int .i64 (.ofNat 0)))), mt 0 2])
 .ret)) [.val k2]
noncomputable def af115 : AFunc := .mk 0 (sq ([mc .nils 0])
 (sq ([o1 (.bslice [(.str 0 0), (.str 0 0), (.str 0 0), (.str 0 0), (.str 0 0), (.str 0 0), (.str 0 0), (.str 0 0), (.str 0 0), (.str 0 0), (.str 0 0), (.str 0 0), (.str 0 0), (.str 0 0), (.str 0 0), (.str 0 0)] 16 [(.mk 0 1 (.c (.str 4 1701869940))), (.mk 1 1 (.c (.str 6 127970521019507))), (.mk 2 1 (.c (.str 4 1668183398))), (.mk 3 1 (.c (.str 3 7496054))), (.mk 4 1 (.c (.str 2 26217))), (.mk 5 1 (.c (.str 4 1702063205))), (.mk 6 1 (.c (.str 3 7499622))), (.mk 7 1 (.c (.str 6 121437875889522))), (.mk 8 1 (.c (.str 5 500068610672))), (.mk 9 1 (.c (.str 3 7824750))), (.mk 10 1 (.c (.str 3 7104878))), (.mk 11 1 (.c (.str 4 1702195828))), (.mk 12 1 (.c (.str 5 435728179558))), (.mk 13 1 (.c (.str 3 7630441))), (.mk 14 1 (.c (.str 4 1819242338))), (.mk 15 1 (.c (.str 4 1684104562)))]), mt 0 0])
 .ret)) [.val k0]
noncomputable def af116 : AFunc := .mk 2 (sq ([mc (.str 0 0) 2])
 (sq ([ml 0, ml 1, o1 (cf 129 [u1, u0]), mt 0 2])
 .ret)) [.val k2]
noncomputable def af117 : AFunc := .mk 1 (sq ([mc (.bool false) 1])
 (sq ([ml 0, o1 (nn u0 (.c (.str 0 0))), m0, o3 (.move k0) 0 true, o3 (cf 130 [u0, (.c (.str 10 270211885617516653982000))]) 1 true, o3 (en u0 (.c (.str 0 0))) 2 true, o1 (pk u3 u0 (.c (.bool false))), m0, o3 (.move k0) 0 true, o3 (.idxS u0 (.c (.int .i64 (.ofNat 0)))) 1 true, o3 (nn u0 (.c (.int .u8 (.ofNat 48)))) 2 true, o3 (.move u0) 3 true, o3 (.move k0) 0 false, o3 (en u0 (.c (.str 1 48))) 1 false, o3 (pk u2 (.c (.bool true)) u0) 6 true, o1 (pk u7 u0 (.c (.bool false))), mt 0 1])
 .ret)) [.val k1]
noncomputable def af119 : AFunc := .mk 1 (sq ([mc (.str 0 0) 1])
 (sq ([ml 0, o1 (ad (.c (.str 1 42)) u0), mt 0 1])
 .ret)) [.val k1]
noncomputable def af120 : AFunc := .mk 2 (sq ([o2 (.alloc [.nilp]) 4])
 (sq ([ml 0, o1 (nc u0), o1 (fa 3 u0), o1 (ld u0), o1 (ad u0 (.c (.int .i64 (.ofNat 1)))), o1 (nc u4), o1 (fa 3 u0), o1 (st 1 u0 u2)])
 (.seq (sq ([ml 0, o1 (nc u0), o1 (fa 3 u0), o1 (ld u0), o2 (gt u0 (.c (.int .i64 (.ofNat 40)))) 2])
 (.cond k2 (.ops [ml 0, o1 (cf 101 [u0]), o1 (.field 2 1 false u0), o1 (.build [(.int .i64 (.ofNat 0)), (.int .i64 (.ofNat 0))] [(.mk 0 1 u0), (.mk 1 1 (.c (.int .i64 (.ofNat 3))))]), o1 (.mkIfc 54 u0), o1 (.panic u0)]) .skip))
 (sq ([ml 1, o1 (.callV u0 []), o2 (.alloc [.nilp]) 3, o1 (st 1 u0 u1)])
 (sq ([ml 0, o1 (nc u0), o1 (fa 3 u0), o1 (ld u0), o1 (sb u0 (.c (.int .i64 (.ofNat 1)))), o1 (nc u4), o1 (fa 3 u0), o1 (st 1 u0 u2)])
 (sq ([o1 (lN 1 k3), o1 (st 1 k4 u0)])
 .ret)))))) [.cellN 1 k4]
noncomputable def af121 : AFunc := .mk 1 (sq ([o2 (.alloc [.nilp]) 3])
 (sq ([o1 (ld k0), o1 (cf 102 [u0]), o1 (.field 2 1 false u0), o1 (cf 40 [(.c (.int .i64 (.ofNat 6))), u0, (.c .nils)]), o2 (.alloc [.nilp]) 2, o1 (st 1 u0 u1)])
 (.seq (.block 0 (.loop (.seq (sq ([o1 (ld k0), o1 (cf 70 [u0, (.c (.str 1 125))]), o2 (.not u0) 1])
 (.cond k1 .skip (.exit 0)))
 (.block 1 (.ops [o1 (fa 0 k2), o1 (ld u0), o1 (fa 0 k2), o1 (ld u0), o1 (nc u0), o1 (fa 5 u0), o1 (ld u0), o1 (ld k0), .mk (cf 122 [u0]) none none [.mk (ld u2) 1 none, .mk (ld u5) 4 none, .mk (ld u7) 6 none], o1 (.bslice [.nilp] 1 [(.mk 0 1 u0)]), .mk (ap 1 8 u3 u0) none none [.mk (ld u9) 8 none], o1 (nc u9), o1 (fa 5 u0), o1 (st 1 u0 u2)])))))
 (sq ([o1 (lN 1 k2), o1 (st 1 k3 u0)])
 .ret)))) [.cellN 1 k3]
noncomputable def af122 : AFunc := .mk 1 (sq ([o2 (.alloc [.nilp]) 2])
 (.seq (.block 0 (sq ([ml 0, o1 (cf 96 [u0, (.c (.str 2 26217))]), mt 0 1])
 (.cond k1 (sq ([ml 0, o1 (cf 133 [u0]), o1 (st 1 k2 u0)])
 .ret) (sq ([ml 0, o1 (cf 96 [u0, (.c (.str 3 7499622))]), mt 0 3])
 (.cond k3 (sq ([ml 0, o1 (cf 102 [u0]), o1 (.field 2 1 false u0), ml 0, o1 (cf 134 [u0, (.c (.int .i64 (.ofNat 1)))]), o1 (.bslice [.nilp] 1 [(.mk 0 1 u0)]), o1 (cf 40 [(.c (.int .i64 (.ofNat 11))), u3, u0]), o2 (.alloc [.nilp]) 4, o1 (st 1 u0 u1)])
 (sq ([o1 (fa 0 k4), o1 (ld u0), o1 (fa 0 k4), o1 (ld u0), o1 (nc u0), o1 (fa 5 u0), o1 (ld u0), ml 0, .mk (cf 100 [u0]) none none [.mk (ld u2) 1 none, .mk (ld u5) 4 none, .mk (ld u7) 6 none], o1 (.bslice [.nilp] 1 [(.mk 0 1 u0)]), .mk (ap 1 8 u3 u0) none none [.mk (ld u9) 8 none], o1 (nc u9), o1 (fa 5 u0), o1 (st 1 u0 u2)])
 (sq ([o1 (lN 1 k4), o1 (st 1 k2 u0)])
 .ret))) .skip)))))
 (sq ([ml 0, o1 (cf 135 [u0]), o2 (.alloc [.nilp]) 5, o1 (st 1 u0 u1)])
 (sq ([ml 0, o1 (cf 75 [u0, (.c (.str 1 59))])])
 (sq ([o1 (lN 1 k5), o1 (st 1 k2 u0)])
 .ret))))) [.cellN 1 k2]
noncomputable def af125 : AFunc := .mk 2 (sq ([mc (.str 0 0) 2, mc (.bool false) 3])
 (sq ([ml 0, ml 1, o1 (cf 137 [u1, u0]), ox 0, ox 1, mt 1 2, mt 1 3])
 .ret)) [.val k2, .val k3]
noncomputable def af126 : AFunc := .mk 1 (sq ([mc (.bool false) 1])
 (sq ([ml 0, o1 (cf 138 [u0]), m0, o3 (.move k0) 0 true, o3 (lt u0) 1 true, o3 (le u0 (.c (iz 12))) 2 true, o1 (pk u3 u0 (.c (.bool false))), m0, o3 (.move k0) 0 true, o3 (cf 91 [u0]) 1 true, o3 (.not u0) 2 true, o1 (pk u3 u0 (.c (.bool false))), mt 0 1])
 .ret)) [.val k1]
noncomputable def af128 : AFunc := .mk 2 (sq ([mc (.int .i64 (.ofNat 0)) 7])
 (.seq (sq ([ml 0, o2 (ll u0) 3, mc (.int .i64 (.ofNat 0)) 2])
 (.block 0 (.loop (sq ([o2 (ls k2 k3) 4])
 (.seq (.cond k4 .skip (.exit 0))
 (.seq (.block 1 (sq ([ml 2, mt 0 5])
 (sq ([ml 1, ml 0, ml 5, o1 (ia 1 u1 u0), o1 (ld u0), o2 (en u4 u0) 6])
 (.cond k6 (sq ([ml 5, mt 0 7])
 .ret) .skip))))
 (.ops [o1 (ad k2 (.c (.int .i64 (.ofNat 1)))), mt 0 2])))))))
 (sq ([mc (.int .i64 (.negSucc 0)) 7])
 .ret))) [.val k7]
noncomputable def af129 : AFunc := .mk 2 (sq ([mc (.str 0 0) 3])
 (.seq (sq ([ml 0, ml 1, o2 (cf 89 [u1, u0]) 2])
 (.cond k2 (sq ([ml 0, ml 1, o1 (lt u0), o1 (.sliceS u2 (some u0) none), mt 0 3])
 .ret) .skip))
 (sq ([ml 0, mt 0 3])
 .ret))) [.val k3]
noncomputable def af133 : AFunc := .mk 1 (sq ([o2 (.alloc [.nilp]) 6])
 (sq ([ml 0, o1 (cf 75 [u0, (.c (.str 2 26217))]), mt 0 1])
 (sq ([ml 1, ml 0, o1 (cf 134 [u0, (.c (.int .i64 (.ofNat 1)))]), o1 (.bslice [.nilp] 1 [(.mk 0 1 u0)]), o1 (cf 40 [(.c (.int .i64 (.ofNat 10))), u3, u0]), o2 (.alloc [.nilp]) 2, o1 (st 1 u0 u1)])
 (sq ([o1 (fa 0 k2), o1 (ld u0), o1 (fa 0 k2), o1 (ld u0), o1 (nc u0), o1 (fa 5 u0), o1 (ld u0), ml 0, .mk (cf 100 [u0]) none none [.mk (ld u2) 1 none, .mk (ld u5) 4 none, .mk (ld u7) 6 none], o1 (.bslice [.nilp] 1 [(.mk 0 1 u0)]), .mk (ap 1 8 u3 u0) none none [.mk (ld u9) 8 none], o1 (nc u9), o1 (fa 5 u0), o1 (st 1 u0 u2)])
 (.seq (sq ([ml 0, o2 (cf 70 [u0, (.c (.str 4 1702063205))]) 3])
 (.cond k3 (sq ([ml 0, o1 (.mkFn 100 [u0] []), mt 0 5])
 (.seq (sq ([ml 0, o2 (cf 96 [u0, (.c (.str 2 26217))]) 4])
 (.cond k4 (.ops [ml 0, o1 (.mkFn 133 [u0] []), mt 0 5]) .skip))
 (.ops [o1 (fa 0 k2), o1 (ld u0), o1 (fa 0 k2), o1 (ld u0), o1 (nc u0), o1 (fa 5 u0), o1 (ld u0), ml 5, .mk (.callV u0 []) none none [.mk (ld u2) 1 none, .mk (ld u5) 4 none, .mk (ld u7) 6 none], o1 (.bslice [.nilp] 1 [(.mk 0 1 u0)]), .mk (ap 1 8 u3 u0) none none [.mk (ld u9) 8 none], o1 (nc u9), o1 (fa 5 u0), o1 (st 1 u0 u2)]))) .skip))
 (sq ([o1 (lN 1 k2), o1 (st 1 k6 u0)])
 .ret)))))) [.cellN 1 k6]
noncomputable def af134 : AFunc := .mk 2 (sq ([o2 (.alloc [.nilp]) 5])
 (sq ([ml 0, o1 (cf 152 [u0]), o2 (.alloc [.nilp]) 4, o1 (st 1 u0 u1)])
 (.block 0 (.loop (.block 1 (sq ([ml 0, o1 (cf 153 [u0]), m0, ox 0, ox 1, mt 1 2, mt 1 8])
 (.seq (sq ([ml 2, o1 (en u0 (.c (.int .i64 (.ofNat 0)))), m0, o3 (.move k2) 0 false, o3 (.move k1) 1 false, o3 (ls u1 u0) 2 false, o2 (pk u3 (.c (.bool true)) u0) 3])
 (.cond k3 (sq ([o1 (lN 1 k4), o1 (st 1 k5 u0)])
 .ret) .skip))
 (sq ([ml 0, o1 (cf 102 [u0]), o1 (.field 2 1 false u0), mt 0 6])
 (sq ([o1 (.bslice [(.int .i64 (.ofNat 0)), (.int .i64 (.ofNat 0)), (.int .i64 (.ofNat 0)), (.int .i64 (.ofNat 0)), (.int .i64 (.ofNat 0)), (.int .i64 (.ofNat 0))] 6 [(.mk 0 1 (.c (.int .i64 (.ofNat 0)))), (.mk 1 1 (.c (.int .i64 (.ofNat 26)))), (.mk 2 1 (.c (.int .i64 (.ofNat 25)))), (.mk 3 1 (.c (.int .i64 (.ofNat 24)))), (.mk 4 1 (.c (.int .i64 (.ofNat 24)))), (.mk 5 1 (.c (.int .i64 (.ofNat 24))))]), ml 2, o1 (ia 1 u1 u0), o1 (ld u0), ml 6, o1 (lN 1 k4), ml 0, ml 2, o1 (ad u0 (.c (.int .i64 (.ofNat 1)))), o2 (.alloc [.nilp]) 7, .mk (cf 134 [u3, u1]) none none [.mk (lN 1 k4) 4 none, .mk (ld u7) 6 none], o1 (.bslice [.nilp, .nilp] 2 [(.mk 0 1 u5), (.mk 1 1 u0)]), o1 (cf 40 [u8, u7, u0]), o1 (st 1 u3 u0)])
 (sq ([o1 (fa 0 k7), o1 (ld u0), ml 8, o1 (nc u1), o1 (fa 3 u0), o1 (st 1 u0 u2)])
 (.ops [o1 (lN 1 k7), o1 (st 1 k4 u0)]))))))))))) [.cellN 1 k5]
noncomputable def af135 : AFunc := .mk 1 (sq ([o2 (.alloc [.nilp]) 3])
 (.seq (.block 0 (sq ([ml 0, o1 (cf 96 [u0, (.c (.str 5 500068610672))]), mt 0 1])
 (.cond k1 (sq ([ml 0, o1 (cf 102 [u0]), o1 (.field 2 1 false u0), mt 0 2])
 (sq ([ml 2, ml 0, o1 (cf 154 [u0]), o1 (.bslice [.nilp] 1 [(.mk 0 1 u0)]), o1 (cf 40 [(.c (.int .i64 (.ofNat 12))), u3, u0]), o1 (st 1 k3 u0)])
 .ret)) (sq ([ml 0, o1 (cf 96 [u0, (.c (.str 6 121437875889522))]), mt 0 4])
 (.cond k4 (sq ([ml 0, o1 (cf 102 [u0]), o1 (.field 2 1 false u0), o1 (cf 40 [(.c (.int .i64 (.ofNat 13))), u0, (.c .nils)]), o2 (.alloc [.nilp]) 6, o1 (st 1 u0 u1)])
 (.seq (sq ([ml 0, o1 (cf 96 [u0, (.c (.str 1 59))]), o2 (.not u0) 5])
 (.cond k5 (.ops [o1 (fa 0 k6), o1 (ld u0), o1 (fa 0 k6), o1 (ld u0), o1 (nc u0), o1 (fa 5 u0), o1 (ld u0), ml 0, .mk (cf 134 [u0, (.c (.int .i64 (.ofNat 1)))]) none none [.mk (ld u2) 1 none, .mk (ld u5) 4 none, .mk (ld u7) 6 none], o1 (.bslice [.nilp] 1 [(.mk 0 1 u0)]), .mk (ap 1 8 u3 u0) none none [.mk (ld u9) 8 none], o1 (nc u9), o1 (fa 5 u0), o1 (st 1 u0 u2)]) .skip))
 (sq ([o1 (lN 1 k6), o1 (st 1 k3 u0)])
 .ret))) (sq ([ml 0, o1 (cf 101 [u0]), o1 (.field 0 1 false u0), o1 (en u0 (.c (.int .i64 (.ofNat 1)))), m0, o3 (.move k0) 0 true, o3 (cf 155 [u0]) 1 true, o3 (.field 0 1 false u0) 2 true, o3 (en u0 (.c (.int .i64 (.ofNat 4)))) 3 true, o1 (pk u4 u0 (.c (.bool false))), m0, o3 (.move k0) 0 true, o3 (cf 155 [u0]) 1 true, o3 (.field 1 1 false u0) 2 true, o3 (en u0 (.c (.str 2 15674))) 3 true, o1 (pk u4 u0 (.c (.bool false))), mt 0 7])
 (.cond k7 (sq ([ml 0, o1 (cf 102 [u0]), o2 (.alloc [(.int .i64 (.ofNat 0)), (.str 0 0), (.int .i64 (.ofNat 0))]) 8, o1 (st 3 u0 u1)])
 (sq ([ml 0, o1 (cf 102 [u0])])
 (sq ([o1 (lN 3 k8), ml 0, .mk (cf 134 [u0, (.c (.int .i64 (.ofNat 1)))]) none none [.mk (lN 3 k8) 1 none], o1 (.bslice [.nilp] 1 [(.mk 0 1 u0)]), o1 (cf 97 [(.c (.int .i64 (.ofNat 7))), u3, u0]), o1 (st 1 k3 u0)])
 .ret))) .skip)))))))
 (sq ([ml 0, o1 (cf 156 [u0]), o1 (st 1 k3 u0)])
 .ret))) [.cellN 1 k3]
noncomputable def af137 : AFunc := .mk 2 (sq ([mc (.str 0 0) 3, mc (.bool false) 4])
 (.seq (sq ([ml 0, ml 1, o1 (cf 89 [u1, u0]), o2 (.not u0) 2])
 (.cond k2 (sq ([ml 0, mt 0 3, mc (.bool false) 4])
 .ret) .skip))
 (sq ([ml 0, ml 1, o1 (lt u0), o1 (.sliceS u2 (some u0) none), mt 0 3, mc (.bool true) 4])
 .ret))) [.val k3, .val k4]
noncomputable def af138 : AFunc := .mk 1 (sq ([mc (.bool false) 1])
 (sq ([ml 0, o1 (nn u0 (.c (.str 0 0))), m0, o3 (.move k0) 0 true, o3 (.idxS u0 (.c (iz 0))) 1 true, o3 (cf 65 [u0]) 2 true, o1 (pk u3 u0 (.c (.bool false))), m0, o3 (.move k0) 0 true, o3 (cf 61 [u0, (.c (.fn 157 [] []))]) 1 true, o3 (.move k0) 2 true, o3 (lt u0) 3 true, o3 (en u2 u0) 4 true, o1 (pk u5 u0 (.c (.bool false))), mt 0 1])
 .ret)) [.val k1]
noncomputable def af152 : AFunc := .mk 1 (sq ([o2 (.box k0) 1, o2 (.alloc [.nilp]) 3])
 (.seq (sq ([o1 (ld k1), o1 (cf 96 [u0, (.c (.str 1 45))]), o1 (.not u0), m0, o3 (ld k1) 0 true, o3 (cf 96 [u0, (.c (.str 1 33))]) 1 true, o3 (.not u0) 2 true, o2 (pk u3 u0 (.c (.bool false))) 2])
 (.cond k2 (sq ([o1 (ld k1), o1 (cf 166 [u0]), o1 (st 1 k3 u0)])
 .ret) .skip))
 (sq ([o1 (ld k1), o1 (.mkFn 167 [] [k1]), o1 (cf 120 [u1, u0]), o1 (st 1 k3 u0)])
 .ret))) [.cellN 1 k3]
noncomputable def af153 : AFunc := .mk 1 (sq ([mc (.int .i64 (.ofNat 0)) 6, mc (.int .i64 (.ofNat 0)) 7])
 (sq ([ml 0, o1 (cf 101 [u0]), o2 (.alloc [(.int .i64 (.ofNat 0)), (.str 0 0), (.int .i64 (.ofNat 0))]) 1, o1 (st 3 u0 u1)])
 (.seq (.block 0 (sq ([o1 (fa 0 k1), o1 (ld u0), o1 (nn u0 (.c (.int .i64 (.ofNat 4)))), mt 0 2])
 (.cond k2 (sq ([mc (.int .i64 (.ofNat 0)) 6, mc (.int .i64 (.ofNat 0)) 7])
 .ret) (sq ([o1 (fa 1 k1), o1 (ld u0), o1 (en u0 (.c (.str 2 31868))), mt 0 3])
 (.cond k3 (sq ([mc (.int .i64 (.ofNat 1)) 6, mc (.int .i64 (.ofNat 0)) 7])
 .ret) (sq ([o1 (fa 1 k1), o1 (ld u0), o1 (en u0 (.c (.str 2 9766))), mt 0 4])
 (.cond k4 (sq ([mc (.int .i64 (.ofNat 2)) 6, mc (.int .i64 (.ofNat 0)) 7])
 .ret) .skip)))))))
 (sq ([o1 (fa 1 k1), o1 (ld u0), o1 (cf 168 [u0, (.c (.int .i64 (.ofNat 2)))]), m0, ox 0, ox 1, mt 1 5, o1 (.move u1)])
 (sq ([ml 5, o1 (cf 169 [u0]), ml 5, mt 1 6, mt 1 7])
 .ret))))) [.val k6, .val k7]
noncomputable def af154 : AFunc := .mk 1 (sq ([o2 (.box k0) 1, o2 (.alloc [.nilp]) 3])
 (.seq (sq ([o1 (ld k1), o1 (cf 96 [u0, (.c (.str 1 40))]), o2 (.not u0) 2])
 (.cond k2 (.ops [o1 (ld k1), o1 (cf 73 [u0])]) .skip))
 (sq ([o1 (ld k1), o1 (.mkFn 170 [] [k1]), o1 (cf 120 [u1, u0]), o1 (st 1 k3 u0)])
 .ret))) [.cellN 1 k3]
noncomputable def af155 : AFunc := .mk 1 (sq ([o2 (.alloc [(.int .i64 (.ofNat 0)), (.str 0 0), (.int .i64 (.ofNat 0))]) 2])
 (.seq (sq ([ml 0, o1 (nc u0), o1 (fa 1 u0), o1 (ld u0), o1 (ad u0 (.c (.int .i64 (.ofNat 1)))), ml 0, o1 (nc u0), o1 (fa 0 u0), o1 (ld u0), o1 (ll u0), o2 (ge u5 u0) 1])
 (.cond k1 (sq ([ml 0, o1 (nc u0), o1 (fa 2 u0), o1 (ld u0), o1 (.build [(.int .i64 (.ofNat 0)), (.str 0 0), (.int .i64 (.ofNat 0))] [(.mk 2 1 u0)]), o1 (st 3 k2 u0)])
 .ret) .skip))
 (sq ([ml 0, o1 (nc u0), o1 (fa 0 u0), o1 (ld u0), ml 0, o1 (nc u0), o1 (fa 1 u0), o1 (ld u0), o1 (ad u0 (.c (.int .i64 (.ofNat 1)))), o1 (ia 3 u5 u0), o1 (lN 3 u0), o1 (st 3 k2 u0)])
 .ret))) [.cellN 3 k2]
noncomputable def af156 : AFunc := .mk 1 (sq ([o2 (.alloc [.nilp]) 5])
 (sq ([ml 0, o1 (cf 96 [u0, (.c (.str 1 40))]), mt 0 1])
 (sq ([ml 0, o1 (cf 166 [u0]), o2 (.alloc [.nilp]) 3, o1 (st 1 u0 u1)])
 (.seq (sq ([ml 1, m0, o3 (.move k0) 0 true, o3 (nc u0) 1 true, o3 (fa 0 u0) 2 true, o3 (ld u0) 3 true, o3 (.move k0) 4 true, o3 (nc u0) 5 true, o3 (fa 1 u0) 6 true, o3 (ld u0) 7 true, o3 (sb u0 (.c (.int .i64 (.ofNat 1)))) 8 true, o3 (ia 3 u5 u0) 9 true, o3 (fa 1 u0) 10 true, o3 (ld u0) 11 true, o3 (en u0 (.c (.str 1 41))) 12 true, o2 (pk u13 u0 (.c (.bool false))) 2])
 (.cond k2 (.ops [ml 0, o1 (cf 73 [u0])]) .skip))
 (.seq (.block 0 (sq ([o1 (lN 1 k3), o1 (cf 13 [u0]), o1 (en u0 (.c (.int .i64 (.ofNat 21)))), m0, o3 (.move k0) 0 true, o3 (cf 96 [u0, (.c (.str 1 61))]) 1 true, o3 (.not u0) 2 true, o1 (pk u3 u0 (.c (.bool false))), mt 0 4])
 (.cond k4 (sq ([o1 (lN 1 k3), o1 (lN 1 k3), o1 (.bslice [.nilp] 1 [(.mk 0 1 u0)]), .mk (cf 24 [u2]) none none [.mk (lN 1 k3) 1 none], o1 (cf 40 [(.c (.int .i64 (.ofNat 14))), u0, u1]), o1 (st 1 k5 u0)])
 .ret) (sq ([o1 (lN 1 k3), o1 (cf 13 [u0]), o1 (en u0 (.c (.int .i64 (.ofNat 18)))), mt 0 6])
 (.cond k6 (sq ([ml 0, o1 (cf 75 [u0, (.c (.str 1 61))])])
 (sq ([o1 (lN 1 k3), o1 (lN 1 k3), ml 0, .mk (cf 33 [u2]) none none [.mk (lN 1 k3) 1 none], o1 (cf 24 [u2]), o1 (cf 134 [u2, (.c (.int .i64 (.ofNat 1)))]), o1 (.bslice [.nilp] 1 [(.mk 0 1 u0)]), o1 (.build [(.int .i64 (.ofNat 0)), (.str 0 0), (.str 0 0), (.int .i64 (.ofNat 0)), (.int .i64 (.ofNat 0)), .nils] [(.mk 0 1 (.c (.int .i64 (.ofNat 8)))), (.mk 1 1 u3), (.mk 4 1 u2), (.mk 5 1 u0)]), o1 (.box u0), o1 (.build [.nilp] [(.mk 0 1 u0)]), o1 (st 1 k5 u0)])
 .ret)) (sq ([o1 (lN 1 k3), o1 (cf 13 [u0]), o1 (en u0 (.c (.int .i64 (.ofNat 20)))), mt 0 7])
 (.cond k7 (sq ([ml 0, o1 (cf 75 [u0, (.c (.str 1 61))])])
 (sq ([o1 (lN 1 k3), o1 (lN 1 k3), o1 (lN 1 k3), ml 0, .mk (cf 33 [u3]) none none [.mk (lN 1 k3) 1 none, .mk (lN 1 k3) 2 none], .mk (cf 24 [u3]) none none [.mk (lN 1 k3) 2 none], o1 (cf 20 [u3, (.c (.int .i64 (.ofNat 0)))]), o1 (cf 134 [u3, (.c (.int .i64 (.ofNat 1)))]), o1 (.bslice [.nilp, .nilp] 2 [(.mk 0 1 u1), (.mk 1 1 u0)]), o1 (.build [(.int .i64 (.ofNat 0)), (.str 0 0), (.str 0 0), (.int .i64 (.ofNat 0)), (.int .i64 (.ofNat 0)), .nils] [(.mk 0 1 (.c (.int .i64 (.ofNat 9)))), (.mk 1 1 u4), (.mk 4 1 u3), (.mk 5 1 u0)]), o1 (.box u0), o1 (.build [.nilp] [(.mk 0 1 u0)]), o1 (st 1 k5 u0)])
 .ret)) .skip)))))))
 (sq ([ml 0, o1 (cf 73 [u0])])
 (sq ([o1 (.build [.nilp] []), o1 (st 1 k5 u0)])
 .ret))))))) [.cellN 1 k5]
noncomputable def af157 : AFunc := .mk 1 (sq ([mc (.bool false) 1])
 (sq ([ml 0, o1 (cf 65 [u0]), m0, o3 (.move k0) 0 false, o3 (cf 67 [u0]) 1 false, o1 (pk u2 (.c (.bool true)) u0), mt 0 1])
 .ret)) [.val k1]
noncomputable def af166 : AFunc := .mk 1 (sq ([o2 (.alloc [.nilp]) 3])
 (sq ([ml 0, o1 (cf 180 [u0]), o2 (.alloc [.nilp]) 2, o1 (st 1 u0 u1)])
 (.seq (.block 0 (.loop (.seq (sq ([ml 0, o2 (cf 70 [u0, (.c (.str 1 46))]) 1])
 (.cond k1 .skip (.exit 0)))
 (.block 1 (.ops [ml 0, o1 (lN 1 k2), o1 (.bslice [.nilp] 1 [(.mk 0 1 u0)]), .mk (cf 98 [u2]) none none [.mk (lN 1 k2) 1 none], o1 (cf 97 [(.c (.int .i64 (.ofNat 20))), u0, u1]), o1 (st 1 k2 u0)])))))
 (sq ([o1 (lN 1 k2), o1 (st 1 k3 u0)])
 .ret)))) [.cellN 1 k3]
noncomputable def af167 : AFunc := .mk 1 (sq ([o2 (.alloc [.nilp]) 3])
 (sq ([o1 (ld k0), o1 (cf 102 [u0]), o2 (.alloc [(.int .i64 (.ofNat 0)), (.str 0 0), (.int .i64 (.ofNat 0))]) 1, o1 (st 3 u0 u1)])
 (sq ([o1 (fa 2 k1), o1 (ld u0), o1 (ld k0), o2 (.alloc [.nilp]) 2, .mk (cf 152 [u1]) none none [.mk (ld u3) 2 none], o1 (.bslice [.nilp] 1 [(.mk 0 1 u0)]), o1 (cf 40 [(.c (.int .i64 (.ofNat 23))), u4, u0]), o1 (st 1 u3 u0)])
 (sq ([o1 (fa 0 k2), o1 (ld u0), o1 (fa 1 k1), o1 (ld u0), .mk (cf 168 [u0, (.c (.int .i64 (.ofNat 1)))]) none none [.mk (ld u3) 2 none], m0, ox 0, ox 1, o1 (nc u6), o1 (fa 3 u0), o1 (st 1 u0 u3)])
 (sq ([o1 (lN 1 k2), o1 (st 1 k3 u0)])
 .ret))))) [.cellN 1 k3]
noncomputable def af168 : AFunc := .mk 2 (sq ([mc (.int .i64 (.ofNat 0)) 8, mc (.bool false) 9])
 (sq ([o1 (cf 110 []), mt 0 4])
 (.seq (.block 0 (sq ([ml 0, o1 (en u0 (.c (.str 0 0))), m0, o3 (.move k1) 0 false, o3 (ls u0 (.c (.int .i64 (.ofNat 1)))) 1 false, o1 (pk u2 (.c (.bool true)) u0), m0, o3 (.move k1) 0 false, o3 (gt u0 (.c (.int .i64 (.ofNat 2)))) 1 false, o1 (pk u2 (.c (.bool true)) u0), mt 0 2])
 (.cond k2 (sq ([mc (.int .i64 (.ofNat 0)) 8, mc (.bool false) 9])
 .ret) (sq ([ml 1, o1 (en u0 (.c (.int .i64 (.ofNat 2)))), mt 0 3])
 (.cond k3 (sq ([ml 4, o1 (.sliceV true 1 u0 none (some (.c (.int .i64 (.ofNat 17)))) none), ml 0, o1 (cf 128 [u1, u0]), mt 0 5])
 (sq ([ml 5, o1 (.max u0 (.c (.int .i64 (.ofNat 0)))), ml 5, o1 (gt u0 (.c (.int .i64 (.ofNat 0)))), mt 2 8, mt 1 9])
 .ret)) .skip)))))
 (sq ([ml 4, o1 (.sliceV true 1 u0 (some (.c (.int .i64 (.ofNat 17)))) none none), ml 0, o1 (cf 128 [u1, u0]), mt 0 6])
 (.seq (sq ([ml 6, o2 (ls u0 (.c (.int .i64 (.ofNat 0)))) 7])
 (.cond k7 (sq ([mc (.int .i64 (.ofNat 0)) 8, mc (.bool false) 9])
 .ret) .skip))
 (sq ([ml 6, o1 (ad u0 (.c (.int .i64 (.ofNat 17)))), mt 0 8, mc (.bool true) 9])
 .ret)))))) [.val k8, .val k9]
noncomputable def af169 : AFunc := .mk 1 (sq ([mc (iz 0) 5])
 (.seq (sq ([o2 (.move k0) 1])
 (.block 0 (.seq (sq ([o1 (en k1 (.c (iz 3))), mt 0 2])
 (.cond k2 .skip (sq ([o1 (en k1 (.c (iz 4))), mt 0 2])
 (.cond k2 .skip (sq ([o1 (en k1 (.c (iz 5))), mt 0 2])
 (.cond k2 .skip (sq ([o1 (en k1 (.c (iz 9))), mt 0 2])
 (.cond k2 .skip (sq ([o1 (en k1 (.c (iz 10))), mt 0 2])
 (.cond k2 .skip (.ops [o1 (en k1 (.c (iz 6))), mt 0 2])))))))))))
 (.cond k2 (sq ([mc (iz 5) 5])
 .ret) (.seq (sq ([o1 (en k1 (.c (iz 1))), mt 0 3])
 (.cond k3 .skip (sq ([o1 (en k1 (.c (iz 2))), mt 0 3])
 (.cond k3 .skip (sq ([o1 (en k1 (.c (iz 7))), mt 0 3])
 (.cond k3 .skip (.ops [o1 (en k1 (.c (iz 8))), mt 0 3])))))))
 (.cond k3 (sq ([mc (iz 4) 5])
 .ret) (.seq (sq ([o1 (en k1 (.c (iz 11))), mt 0 4])
 (.cond k4 .skip (sq ([o1 (en k1 (.c (iz 12))), mt 0 4])
 (.cond k4 .skip (sq ([o1 (en k1 (.c (iz 13))), mt 0 4])
 (.cond k4 .skip (sq ([o1 (en k1 (.c (iz 14))), mt 0 4])
 (.cond k4 .skip (sq ([o1 (en k1 (.c (iz 15))), mt 0 4])
 (.cond k4 .skip (.ops [o1 (en k1 (.c (iz 16))), mt 0 4])))))))))))
 (.cond k4 (sq ([mc (iz 3) 5])
 .ret) .skip))))))))
 (sq ([mc (iz 0) 5])
 .ret))) [.val k5]
noncomputable def af170 : AFunc := .mk 1 (sq ([o2 (.alloc [.nilp]) 2])
 (sq ([o1 (ld k0), o1 (cf 102 [u0])])
 (sq ([o1 (ld k0), o1 (cf 134 [u0, (.c (.int .i64 (.ofNat 1)))]), o2 (.alloc [.nilp]) 1, o1 (st 1 u0 u1)])
 (sq ([o1 (ld k0), o1 (cf 75 [u0, (.c (.str 1 41))])])
 (sq ([o1 (lN 1 k1), o1 (st 1 k2 u0)])
 .ret))))) [.cellN 1 k2]
noncomputable def af180 : AFunc := .mk 1 (sq ([o2 (.alloc [.nilp]) 2])
 (.seq (.block 0 (sq ([ml 0, o1 (cf 101 [u0]), o1 (.field 0 1 false u0), o1 (en u0 (.c (.int .i64 (.ofNat 3)))), mt 0 1])
 (.cond k1 (sq ([ml 0, o1 (cf 102 [u0]), o1 (cf 190 [u0]), o1 (st 1 k2 u0)])
 .ret) (sq ([ml 0, o1 (cf 101 [u0]), o1 (.field 0 1 false u0), o1 (en u0 (.c (.int .i64 (.ofNat 1)))), mt 0 3])
 (.cond k3 (sq ([ml 0, o1 (cf 191 [u0]), o1 (st 1 k2 u0)])
 .ret) (sq ([ml 0, o1 (cf 96 [u0, (.c (.str 1 40))]), mt 0 4])
 (.cond k4 (sq ([ml 0, o1 (cf 154 [u0]), o1 (st 1 k2 u0)])
 .ret) (sq ([ml 0, o1 (cf 96 [u0, (.c (.str 3 7104878))]), m0, o3 (.move k0) 0 false, o3 (cf 96 [u0, (.c (.str 4 1702195828))]) 1 false, o1 (pk u2 (.c (.bool true)) u0), m0, o3 (.move k0) 0 false, o3 (cf 96 [u0, (.c (.str 5 435728179558))]) 1 false, o1 (pk u2 (.c (.bool true)) u0), m0, o3 (.move k0) 0 false, o3 (cf 96 [u0, (.c (.str 3 7824750))]) 1 false, o1 (pk u2 (.c (.bool true)) u0), m0, o3 (.move k0) 0 false, o3 (cf 96 [u0, (.c (.str 4 1684104562))]) 1 false, o1 (pk u2 (.c (.bool true)) u0), mt 0 5])
 (.cond k5 (sq ([ml 0, o1 (cf 192 [u0]), o1 (st 1 k2 u0)])
 .ret) .skip)))))))))
 (sq ([ml 0, o1 (cf 73 [u0])])
 (sq ([o1 (.build [.nilp] []), o1 (st 1 k2 u0)])
 .ret)))) [.cellN 1 k2]
noncomputable def af190 : AFunc := .mk 1 (sq ([o2 (.box k0) 1, o2 (.alloc [.nilp]) 3])
 (sq ([o1 (fa 2 k1), o1 (ld u0), o1 (cf 40 [(.c (.int .i64 (.ofNat 15))), u0, (.c .nils)]), o2 (.alloc [.nilp]) 2, o1 (st 1 u0 u1)])
 (sq ([o1 (fa 0 k2), o1 (ld u0), o1 (fa 1 k1), o1 (ld u0), .mk (cf 92 [u0]) none none [.mk (ld u3) 2 none], m0, ox 0, ox 1, o1 (nc u6), o1 (fa 3 u0), o1 (st 1 u0 u3)])
 (sq ([o1 (lN 1 k2), o1 (st 1 k3 u0)])
 .ret)))) [.cellN 1 k3]
noncomputable def af191 : AFunc := .mk 1 (sq ([o2 (.alloc [.nilp]) 3])
 (sq ([ml 0, o1 (cf 98 [u0]), o2 (.alloc [(.int .i64 (.ofNat 0)), (.str 0 0), (.int .i64 (.ofNat 0))]) 2, o1 (st 3 u0 u1)])
 (.seq (sq ([ml 0, o2 (cf 96 [u0, (.c (.str 1 40))]) 1])
 (.cond k1 (sq ([ml 0, o1 (lN 3 k2), o1 (cf 196 [u1, u0]), o1 (st 1 k3 u0)])
 .ret) .skip))
 (sq ([o1 (lN 3 k2), o1 (cf 97 [(.c (.int .i64 (.ofNat 18))), u0, (.c .nils)]), o1 (st 1 k3 u0)])
 .ret)))) [.cellN 1 k3]
noncomputable def af192 : AFunc := .mk 1 (sq ([o2 (.alloc [.nilp]) 8])
 (sq ([ml 0, o1 (cf 102 [u0]), o2 (.alloc [(.int .i64 (.ofNat 0)), (.str 0 0), (.int .i64 (.ofNat 0))]) 1, o1 (st 3 u0 u1)])
 (sq ([o1 (fa 2 k1), o1 (ld u0), o1 (cf 40 [(.c (.int .i64 (.ofNat 17))), u0, (.c .nils)]), o2 (.alloc [.nilp]) 4, o1 (st 1 u0 u1)])
 (.seq (sq ([o1 (fa 1 k1), o2 (ld u0) 2])
 (.block 0 (.seq (sq ([o1 (en k2 (.c (.str 4 1702195828))), mt 0 3])
 (.cond k3 .skip (.ops [o1 (en k2 (.c (.str 5 435728179558))), mt 0 3])))
 (.cond k3 (sq ([o1 (fa 0 k4), o1 (ld u0), o1 (nc u0), o1 (fa 0 u0), o1 (st 1 u0 (.c (.int .i64 (.ofNat 16))))])
 (sq ([o1 (fa 1 k1), o1 (ld u0), o2 (en u0 (.c (.str 4 1702195828))) 5])
 (.cond k5 (.ops [o1 (fa 0 k4), o1 (ld u0), o1 (nc u0), o1 (fa 3 u0), o1 (st 1 u0 (.c (.int .i64 (.ofNat 1))))]) .skip))) (sq ([o1 (en k2 (.c (.str 3 7824750))), mt 0 6])
 (.cond k6 (sq ([ml 0, o1 (cf 75 [u0, (.c (.str 1 40))])])
 (sq ([ml 0, o1 (cf 98 [u0]), o1 (cf 97 [(.c (.int .i64 (.ofNat 19))), u0, (.c .nils)]), o1 (st 1 k4 u0)])
 (.ops [ml 0, o1 (cf 75 [u0, (.c (.str 1 41))])]))) (sq ([o1 (en k2 (.c (.str 4 1684104562))), mt 0 7])
 (.cond k7 (sq ([ml 0, o1 (cf 75 [u0, (.c (.str 1 40))])])
 (sq ([ml 0, o1 (cf 75 [u0, (.c (.str 1 41))])])
 (.ops [o1 (fa 0 k4), o1 (ld u0), o1 (nc u0), o1 (fa 0 u0), o1 (st 1 u0 (.c (.int .i64 (.ofNat 22))))]))) .skip))))))))
 (sq ([o1 (lN 1 k4), o1 (st 1 k8 u0)])
 .ret))))) [.cellN 1 k8]
noncomputable def af196 : AFunc := .mk 2 (sq ([o2 (.box k0) 2, o2 (.box k1) 3, o2 (.alloc [.nilp]) 4])
 (sq ([o1 (ld k2), o1 (.mkFn 198 [] [k2, k3]), o1 (cf 120 [u1, u0]), o1 (st 1 k4 u0)])
 .ret)) [.cellN 1 k4]
noncomputable def af198 : AFunc := .mk 2 (sq ([o2 (.alloc [.nilp]) 6])
 (sq ([o1 (ld k0), o1 (cf 102 [u0])])
 (sq ([o1 (lN 3 k1), o1 (cf 97 [(.c (.int .i64 (.ofNat 21))), u0, (.c .nils)]), o2 (.alloc [.nilp]) 3, o1 (st 1 u0 u1)])
 (.seq (.block 0 (.loop (.seq (sq ([o1 (ld k0), o1 (cf 96 [u0, (.c (.str 1 41))]), o2 (.not u0) 2])
 (.cond k2 .skip (.exit 0)))
 (.block 1 (sq ([o1 (fa 0 k3), o1 (ld u0), o1 (fa 0 k3), o1 (ld u0), o1 (nc u0), o1 (fa 5 u0), o1 (ld u0), o1 (ld k0), .mk (cf 134 [u0, (.c (.int .i64 (.ofNat 1)))]) none none [.mk (ld u2) 1 none, .mk (ld u5) 4 none, .mk (ld u7) 6 none], o1 (.bslice [.nilp] 1 [(.mk 0 1 u0)]), .mk (ap 1 8 u3 u0) none none [.mk (ld u9) 8 none], o1 (nc u9), o1 (fa 5 u0), o1 (st 1 u0 u2)])
 (sq ([o1 (ld k0), o1 (cf 96 [u0, (.c (.str 1 41))]), o2 (.not u0) 4])
 (.cond k4 (sq ([o1 (ld k0), o1 (cf 75 [u0, (.c (.str 1 44))])])
 (sq ([o1 (ld k0), o2 (cf 96 [u0, (.c (.str 1 41))]) 5])
 (.cond k5 (.ops [o1 (ld k0), o1 (cf 73 [u0])]) .skip))) .skip)))))))
 (sq ([o1 (ld k0), o1 (cf 102 [u0])])
 (sq ([o1 (lN 1 k3), o1 (st 1 k6 u0)])
 .ret)))))) [.cellN 1 k6]
noncomputable def tabT : T AFunc := (.node none (.node none (.node none (.node (some af7) (.node none (.node none (.node (some af63) .leaf (.node (some af191) .leaf .leaf)) (.node (some af95) .leaf .leaf)) (.node none .leaf (.node (some af111) .leaf .leaf))) (.node (some af23) (.node (some af39) (.node (some af71) (.node (some af135) .leaf .leaf) .leaf) (.node none (.node (some af167) .leaf .leaf) .leaf)) (.node (some af55) .leaf (.node (some af119) .leaf .leaf)))) (.node none (.node (some af19) (.node (some af35) (.node (some af67) .leaf .leaf) (.node (some af99) .leaf .leaf)) (.node none (.node (some af83) .leaf .leaf) (.node (some af115) .leaf .leaf))) (.node none (.node none (.node (some af75) .leaf .leaf) (.node (some af107) .leaf .leaf)) (.node none (.node (some af91) (.node (some af155) .leaf .leaf) .leaf) .leaf)))) (.node none (.node (some af9) (.node none (.node (some af33) (.node (some af65) (.node (some af129) .leaf .leaf) .leaf) (.node (some af97) .leaf .leaf)) (.node none (.node (some af81) .leaf .leaf) .leaf)) (.node (some af25) (.node (some af41) (.node (some af73) (.node (some af137) .leaf .leaf) .leaf) (.node none (.node (some af169) .leaf .leaf) .leaf)) (.node (some af57) (.node (some af89) (.node (some af153) .leaf .leaf) .leaf) (.node (some af121) .leaf .leaf)))) (.node (some af13) (.node (some af21) (.node (some af37) (.node (some af69) (.node (some af133) .leaf .leaf) .leaf) (.node (some af101) .leaf .leaf)) (.node none (.node (some af85) .leaf .leaf) (.node (some af117) .leaf .leaf))) (.node none (.node none .leaf (.node (some af109) .leaf .leaf)) (.node (some af61) (.node (some af93) (.node (some af157) .leaf .leaf) .leaf) (.node (some af125) .leaf .leaf)))))) (.node none (.node none (.node (some af8) (.node none (.node none (.node (some af64) (.node (some af128) .leaf .leaf) (.node (some af192) .leaf .leaf)) (.node (some af96) .leaf .leaf)) .leaf) (.node (some af24) (.node (some af40) (.node (some af72) .leaf .leaf) (.node none (.node (some af168) .leaf .leaf) .leaf)) (.node (some af56) (.node none (.node (some af152) .leaf .leaf) .leaf) (.node (some af120) .leaf .leaf)))) (.node none (.node (some af20) (.node none (.node (some af68) .leaf (.node (some af196) .leaf .leaf)) (.node (some af100) .leaf .leaf)) (.node none (.node (some af84) .leaf .leaf) (.node (some af116) (.node (some af180) .leaf .leaf) .leaf))) (.node (some af28) (.node none .leaf (.node (some af108) .leaf .leaf)) (.node none (.node (some af92) (.node (some af156) .leaf .leaf) .leaf) .leaf)))) (.node none (.node (some af10) (.node (some af18) (.node (some af34) (.node (some af66) .leaf .leaf) (.node (some af98) .leaf .leaf)) (.node none (.node (some af82) .leaf .leaf) (.node (some af114) .leaf .leaf))) (.node none (.node none (.node (some af74) (.node (some af138) .leaf .leaf) .leaf) (.node none (.node (some af170) .leaf .leaf) .leaf)) (.node none (.node (some af90) (.node (some af154) .leaf .leaf) .leaf) (.node (some af122) .leaf .leaf)))) (.node (some af14) (.node (some af22) (.node (some af38) (.node (some af70) (.node (some af134) .leaf .leaf) (.node (some af198) .leaf .leaf)) (.node (some af102) (.node (some af166) .leaf .leaf) .leaf)) (.node none (.node (some af86) .leaf .leaf) .leaf)) (.node none (.node none .leaf (.node (some af110) .leaf .leaf)) (.node (some af62) (.node (some af94) .leaf .leaf) (.node (some af126) (.node (some af190) .leaf .leaf) .leaf)))))))
noncomputable def tab (f : Nat) : Option AFunc := T.get tabT f
end Go.Ev
