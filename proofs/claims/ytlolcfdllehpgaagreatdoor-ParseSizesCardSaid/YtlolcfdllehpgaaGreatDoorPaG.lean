/- EvPg EvE EvRw EvE2 PaH EvAb -/
import Derived.Test.YtlolcfdllehpgaaGreatDoorPaF
import Derived.Test.YtlolcfdllehpgaaGreatDoorPaA
set_option linter.unusedSimpArgs false
set_option linter.unusedVariables false
set_option linter.unusedSectionVars false
namespace Go.Ev
open Go Go.ChangeShapes Go.RowKit
inductive Sh where
 | bool
 | int (k : IntKind)
 | str
 | struct (l : List Sh)
 | arr (n : Nat) (s : Sh)
 | slice (s : Sh)
mutual
def Sh.size : Sh → Nat
 | .bool => 1
 | .int _ => 1
 | .str => 1
 | .struct l => Sh.sizes l
 | .arr n s => n * s.size
 | .slice _ => 1
def Sh.sizes : List Sh → Nat
 | [] => 0
 | s :: l => s.size + Sh.sizes l
end
inductive SlD {α : Type} (h : AH) (es : Nat) (R : List AV → α → Prop) : AV → List α → Prop
 | nils : SlD h es R .nils []
 | emp {id off : Nat} : SlD h es R (.sl id off 0 (.known 0)) []
 | sl {id off cap sz : Nat} {c : T AV} {xs : List α} (E : Nat → List AV) : xs.length ≤ cap → cap ≤ maxLen → h.mem.get id = some (.cells c sz none true) → id < h.next →
   (∀ (i : Nat) (hi : i < xs.length), (E i).length = es ∧ (∀ j, j < es → c.get (off + i * es + j) = (E i)[j]?) ∧ R (E i) xs[i]) → SlD h es R (.sl id off xs.length (.known cap)) xs
theorem SlD.more {α : Type} {h h' : AH} {es : Nat} {R R' : List AV → α → Prop} {v : AV} {xs : List α} (x : SlD h es R v xs) (m : More h h') (hR : ∀ cs y, R cs y → R' cs y) : SlD h' es R' v xs := by
 cases x with
 | nils => exact .nils
 | emp => exact .emp
 | sl E a b c d e => exact .sl E a b (by rw [m.keep _ d]; exact c) (Nat.lt_of_lt_of_le d m.next) fun i hi => ⟨(e i hi).1, (e i hi).2.1, hR _ _ (e i hi).2.2⟩
theorem SlD.len {α : Type} {h : AH} {es : Nat} {R : List AV → α → Prop} {v : AV} {xs : List α} (x : SlD h es R v xs) : ∀ h', oLen .sl (.c v) .leaf [] h' = .val (.int .i64 (xs.length : Int)) h' := by
 cases x with
 | nils => intro h'; rfl
 | emp => intro h'; exact zHb
 | sl E => intro h'; exact zHb
theorem SlD.mv {α : Type} {h : AH} {es : Nat} {R : List AV → α → Prop} {v : AV} {xs : List α} (x : SlD h es R v xs) : v.mv = true := by
 cases x <;> rfl
theorem SlD.cells {α : Type} {h : AH} {es : Nat} {R : List AV → α → Prop} {v : AV} {xs : List α} (x : SlD h es R v xs) : cellsOf v = some [v] := by
 cases x <;> rfl
theorem SlD.open {α : Type} {h : AH} {es : Nat} {R : List AV → α → Prop} {v : AV} {xs : List α} (x : SlD h es R v xs) (hn : 0 < xs.length) : ∃ (id off cap sz : Nat) (c : T AV) (E : Nat → List AV), v = .sl id off xs.length (.known cap) ∧ h.mem.get id = some (.cells c sz none true) ∧ id < h.next ∧
  ∀ (i : Nat) (hi : i < xs.length), (E i).length = es ∧ (∀ j, j < es → c.get (off + i * es + j) = (E i)[j]?) ∧ R (E i) xs[i] := by
 cases x with
 | nils => simp at hn
 | emp => simp at hn
 | sl E a b c d e => exact ⟨_, _, _, _, _, E, rfl, c, d, e⟩
structure Keep (b : Nat) (h h' : AH) : Prop where
 next : h.next ≤ h'.next
 keep : ∀ k, k < b → h'.mem.get k = h.mem.get k
theorem Keep.refl (b : Nat) (h : AH) : Keep b h h := ⟨Nat.le_refl _, fun _ _ => rfl⟩
theorem Keep.trans {b : Nat} {x y z : AH} (p : Keep b x y) (q : Keep b y z) : Keep b x z := ⟨Nat.le_trans p.next q.next, fun k hk => by rw [q.keep k hk, p.keep k hk]⟩
theorem Keep.less {b b' : Nat} {x y : AH} (p : Keep b x y) (h : b' ≤ b) : Keep b' x y := ⟨p.next, fun k hk => p.keep k (by omega)⟩
theorem Keep.more {h h' : AH} (p : Keep h.next h h') : More h h' := ⟨p.next, p.keep⟩
theorem Keep.set {b id : Nat} {h h' : AH} (p : Keep b h h') (hi : b ≤ id) (o : AObj) : Keep b h (h'.set id o) := ⟨by rw [AH.set_next]; exact p.next, fun k hk => by rw [AH.set_mem, T.get_put_ne _ _ _ _ (by omega)]; exact p.keep k hk⟩
theorem Keep.add {b : Nat} {h h' : AH} (p : Keep b h h') (hb : b ≤ h.next) (o : AObj) : Keep b h (h'.add o) := ⟨Nat.le_trans p.next (Nat.le_succ _), fun k hk => by have := p.next; rw [AH.add_mem, T.get_put_ne _ _ _ _ (by omega)]; exact p.keep k hk⟩
theorem Keep.kill {b id : Nat} {h h' : AH} (p : Keep b h h') (hi : b ≤ id) : Keep b h (h'.kill id) := ⟨by rw [AH.kill_next]; exact p.next, fun k hk => by rw [AH.kill_mem, T.get_put_ne _ _ _ _ (by omega)]; exact p.keep k hk⟩
inductive OwnL (h : AH) (b es : Nat) : AV → List (List AV) → Prop
 | nils : OwnL h b es .nils []
 | emp {id off : Nat} : OwnL h b es (.sl id off 0 (.known 0)) []
 | sl {id : Nat} {c : T AV} {xs : List (List AV)} : xs ≠ [] → b ≤ id → id < h.next → h.mem.get id = some (.cells c (xs.length * es) none false) →
   (∀ (i : Nat) (hi : i < xs.length), xs[i].length = es ∧ ∀ j, j < es → c.get (i * es + j) = xs[i][j]?) → OwnL h b es (.sl id 0 xs.length (.rest es)) xs
theorem OwnL.len {h : AH} {b es : Nat} {v : AV} {xs : List (List AV)} (x : OwnL h b es v xs) : ∀ h', oLen .sl (.c v) .leaf [] h' = .val (.int .i64 (xs.length : Int)) h' := by
 cases x with
 | nils => intro h'; rfl
 | emp => intro h'; rfl
 | sl => intro h'; exact zHb
theorem OwnL.mv {h : AH} {b es : Nat} {v : AV} {xs : List (List AV)} (x : OwnL h b es v xs) : v.mv = true := by cases x <;> rfl
theorem OwnL.more {h h' : AH} {b es : Nat} {v : AV} {xs : List (List AV)} (x : OwnL h b es v xs) (m : More h h') : OwnL h' b es v xs := by
 cases x with
 | nils => exact .nils
 | emp => exact .emp
 | sl a1 a2 a3 a4 a5 => exact .sl a1 a2 (Nat.lt_of_lt_of_le a3 m.next) (by rw [m.keep _ a3]; exact a4) a5
theorem OwnL.open {h : AH} {b es : Nat} {v : AV} {xs : List (List AV)} (x : OwnL h b es v xs) (hn : 0 < xs.length) : ∃ (id : Nat) (c : T AV), v = .sl id 0 xs.length (.rest es) ∧ b ≤ id ∧ id < h.next ∧ h.mem.get id = some (.cells c (xs.length * es) none false) ∧
  ∀ (i : Nat) (hi : i < xs.length), xs[i].length = es ∧ ∀ j, j < es → c.get (i * es + j) = xs[i][j]? := by
 cases x with
 | nils => simp at hn
 | emp => simp at hn
 | sl a1 a2 a3 a4 a5 => exact ⟨_, _, rfl, a2, a3, a4, a5⟩
theorem append_emp {h : AH} {es b n id off : Nat} {x : AV} {new : List AV} (hs : ∀ k, zBp es x h k = k n new) (hn : n ≠ 0) (hr : room n b = true) :
  zC8 none es b (.c (.sl id off 0 (.known 0))) (.c x) .leaf [] h = .val (.sl h.next 0 n (.rest es)) (h.add (.cells (zAd new) (n * es) none false)) := by
 show zBp es x h _ = _
 rw [hs]
 show bi (Nat.beq n 0) _ (bi (room n b) (AH.new h (AObj.cells (zAd new) (Nat.mul n es) none false) fun id h => OR.val (AV.sl id 0 n (ACap.rest es)) h) (F 48)) = _
 have e : Nat.beq n 0 = false := by cases n with | zero => exact absurd rfl hn | succ n => rfl
 rw [e, hr]
 simp only [zFh, zCo, AH.new_eq]
 rfl
theorem OwnL.append {h : AH} {b es by' : Nat} {v : AV} {xs : List (List AV)} (x : OwnL h b es v xs) {src : AV} {new : List AV} (hs : ∀ k, zBp es src h k = k 1 new) (hl : new.length = es) (he : 1 ≤ es) (hb : b ≤ h.next) (hx : xs.length < 1000000) (hby : by' ≤ 1000) :
  ∃ v' h', zC8 none es by' (.c v) (.c src) .leaf [] h = .val v' h' ∧ OwnL h' b es v' (xs ++ [new]) ∧ Keep b h h' ∧ h'.next = h.next + 1 ∧ (∀ k, k < h.next → (∀ o n e, v ≠ .sl k o n (.rest e)) → h'.mem.get k = h.mem.get k) ∧ ∀ k o n c, v' = .sl k o n c → h.next ≤ k := by
 have fresh : ∀ k o n c, AV.sl h.next 0 1 (.rest es) = .sl k o n c → h.next ≤ k := fun k o n c e => by injection e with e; omega
 have one : OwnL (h.add (.cells (zAd new) (1 * es) none false)) b es (.sl h.next 0 1 (.rest es)) [new] := by
  refine OwnL.sl (xs := [new]) (c := zAd new) (by simp) hb (Nat.lt_succ_self _) (by rw [AH.add_mem, T.get_put_self]; simp) fun i hi => ?_
  obtain rfl : i = 0 := by simp at hi; omega
  refine ⟨hl, fun j hj => ?_⟩
  rw [Nat.zero_mul, Nat.zero_add, zAj]; rfl
 cases x with
 | nils =>
  exact ⟨_, _, zJy hs (by omega) (zD4 (by omega) hby), one, (Keep.refl b h).add hb _, rfl, fun k hk _ => by rw [AH.add_mem, T.get_put_ne _ _ _ _ (by omega)], fresh⟩
 | emp =>
  exact ⟨_, _, append_emp hs (by omega) (zD4 (by omega) hby), one, (Keep.refl b h).add hb _, rfl, fun k hk _ => by rw [AH.add_mem, T.get_put_ne _ _ _ _ (by omega)], fresh⟩
 | sl a1 a2 a3 a4 a5 =>
  rename_i id c
  refine ⟨_, _, zJx hs a4 rfl he (by omega) (zD4 (by omega) hby), ?_, ((Keep.refl b h).kill a2).add hb _, by rw [AH.add_next, AH.kill_next], fun k hk hne => ?_, fun k o n c e => by injection e with e; omega⟩
  rotate_left
  ·rw [AH.add_mem, AH.kill_next, T.get_put_ne _ _ _ _ (by omega), AH.kill_mem, T.get_put_ne _ _ _ _ (fun e => hne 0 xs.length es (by rw [e]))]
  have e : xs.length + 1 = (xs ++ [new]).length := by simp
  rw [e]
  refine OwnL.sl (c := putL new c (xs.length * es)) (by simp) hb (by rw [AH.add_next, AH.kill_next]; exact Nat.lt_succ_self _) (by rw [AH.add_mem, AH.kill_next, T.get_put_self]) fun i hi => ?_
  by_cases h1 : i < xs.length
  ·rw [List.getElem_append_left h1]
   refine ⟨(a5 i h1).1, fun j hj => ?_⟩
   have h2 : (i + 1) * es ≤ xs.length * es := Nat.mul_le_mul_right _ h1
   rw [Nat.succ_mul] at h2
   rw [zDg, if_neg (by omega)]
   exact (a5 i h1).2 j hj
  ·obtain rfl : i = xs.length := by simp at hi; omega
   rw [List.getElem_append_right (Nat.le_refl _)]
   simp only [Nat.sub_self, List.getElem_cons_zero]
   refine ⟨hl, fun j hj => ?_⟩
   rw [zDg, if_pos (by omega)]
   congr 1; omega
end Go.Ev
namespace Go.Ev
open Go
section
variable {tab : Nat → Option AFunc} {loc : T AV} {d tmp : List AV} {h : AH} {a b : ACode} {Q Q1 : Res → Prop}
def onCR (Q E : AV → AH → Prop) : CR → Prop
 | .ret v h => Q v h
 | .pan v h => E v h
 | .fail _ => False
def GE (tab : Nat → Option AFunc) (f : Nat) (args : List AV) (h : AH) (Q E : AV → AH → Prop) : Prop := ∃ r, Gives tab f args h r ∧ onCR Q E r
theorem GE.mono {f : Nat} {args : List AV} {Q E Q1 E1 : AV → AH → Prop} (x : GE tab f args h Q E) (hq : ∀ v h1, Q v h1 → Q1 v h1) (he : ∀ v h1, E v h1 → E1 v h1) : GE tab f args h Q1 E1 := by
 obtain ⟨r, g, q⟩ := x
 refine ⟨r, g, ?_⟩
 cases r with
 | ret v h1 => exact hq _ _ q
 | pan v h1 => exact he _ _ q
 | fail l => exact q
theorem GP.ge {f : Nat} {args : List AV} {Q E : AV → AH → Prop} (x : GP tab f args h Q) : GE tab f args h Q E := let ⟨v, h1, g, q⟩ := x; ⟨.ret v h1, g, q⟩
theorem GE.gp {f : Nat} {args : List AV} {Q E : AV → AH → Prop} (x : GE tab f args h Q E) (he : ∀ v h1, ¬ E v h1) : GP tab f args h Q := by
 obtain ⟨r, g, q⟩ := x
 cases r with
 | ret v h1 => exact ⟨v, h1, g, q⟩
 | pan v h1 => exact absurd q (he v h1)
 | fail l => exact q.elim
theorem Gives.fn {f : Nat} {args : List AV} {r r' : CR} (x : Gives tab f args h r) (y : Gives tab f args h r') : r = r' := x.uniq y
theorem ge_rw {f : Nat} {args : List AV} {v0 : AV} {h0 : AH} (g : GP tab f args h fun v h1 => v = v0 ∧ h1 = h0) {Q E : AV → AH → Prop} : GE tab f args h Q E = Q v0 h0 := by
 obtain ⟨v, h1, gi, rfl, rfl⟩ := g
 refine propext ⟨fun ⟨r, g', q⟩ => ?_, fun q => ⟨_, gi, q⟩⟩
 have := gi.uniq g'
 subst this
 exact q
def PE (tab : Nat → Option AFunc) (whole : List AOper) (loc0 : T AV) : List AOper → T AV → List AV → List AV → AH → (Res → Prop) → Prop
 | [], loc, _, d, h, Q => Q (.norm loc d h)
 | ⟨op, g, out, re⟩ :: l, loc, tmp, d, h, Q =>
  match zBa loc tmp g with
  | none => False
  | some q => (q = false → PE tab whole loc0 l (zAn out (.tup []) loc) (.tup [] :: tmp) d h Q) ∧ (q = true →
   match evOp op loc tmp h with
   | .val v h1 => reads loc tmp h1 re = true ∧ PE tab whole loc0 l (zAn out v loc) (v :: tmp) d h1 Q
   | .enter f args => GE tab f args h (fun v h1 => reads loc tmp h1 re = true ∧ PE tab whole loc0 l (zAn out v loc) (v :: tmp) d h1 Q) (fun v h1 => Q (.pan v (forget whole loc0) d h1))
   | .pan v => Q (.pan v (forget whole loc0) d h)
   | .dfr v => PE tab whole loc0 l (zAn out (.tup []) loc) (.tup [] :: tmp) (v :: d) h Q
   | .fail _ => False)
theorem PE.ok {whole : List AOper} {loc0 : T AV} : ∀ (l : List AOper) (loc : T AV) (tmp d : List AV) (h : AH), PE tab whole loc0 l loc tmp d h Q →
  ∃ r, r.good ∧ Q r ∧ ∃ n, ∀ m, n ≤ m → evOps (zCf tab (evC tab m)) whole loc0 l loc tmp d h = r
 | [], loc, tmp, d, h, x => ⟨.norm loc d h, trivial, x, 0, fun _ _ => rfl⟩
 | ⟨op, g, out, re⟩ :: l, loc, tmp, d, h, x => by
  have e : ∀ k : Nat → List AV → AH → CR, evOps k whole loc0 (⟨op, g, out, re⟩ :: l) loc tmp d h = obind (zBa loc tmp g) (Res.fail [70]) (fun q => bi q
   (OR.rec (motive := fun _ => Res)
    (fun v h => bi (reads loc tmp h re) (evOps k whole loc0 l (zAn out v loc) (v :: tmp) d h) (Res.fail [71]))
    (fun f args => CR.rec (motive := fun _ => Res) (fun v h => bi (reads loc tmp h re) (evOps k whole loc0 l (zAn out v loc) (v :: tmp) d h) (Res.fail [71])) (fun v h => Res.pan v (forget whole loc0) d h) (fun l => Res.fail l) (k f args h))
    (fun v => Res.pan v (forget whole loc0) d h)
    (fun v => evOps k whole loc0 l (zAn out (AV.tup []) loc) (AV.tup [] :: tmp) (v :: d) h)
    (fun n => Res.fail [n]) (evOp op loc tmp h)) (evOps k whole loc0 l (zAn out (AV.tup []) loc) (AV.tup [] :: tmp) d h)) := fun _ => rfl
  simp only [PE] at x
  cases hg : zBa loc tmp g with
  | none => rw [hg] at x; exact x.elim
  | some q =>
   rw [hg] at x
   cases q with
   | false =>
    obtain ⟨r, h1, h2, n, h3⟩ := PE.ok l _ _ _ _ (x.1 rfl)
    refine ⟨r, h1, h2, n, fun m hm => ?_⟩
    rw [e, hg]; exact h3 m hm
   | true =>
    have x := x.2 rfl
    cases ho : evOp op loc tmp h with
    | val v h1 =>
     rw [ho] at x
     obtain ⟨r, g1, g2, n, g3⟩ := PE.ok l _ _ _ _ x.2
     refine ⟨r, g1, g2, n, fun m hm => ?_⟩
     rw [e, hg, ho]
     show bi (reads loc tmp h1 re) _ _ = r
     rw [x.1]; exact g3 m hm
    | enter f args =>
     rw [ho] at x
     obtain ⟨cr, hc, hq⟩ := x
     obtain ⟨n1, hc⟩ := hc.at
     have e2 : ∀ m, n1 ≤ m → evOps (zCf tab (evC tab m)) whole loc0 (⟨op, g, out, re⟩ :: l) loc tmp d h = (CR.rec (motive := fun _ => Res) (fun v h => bi (reads loc tmp h re) (evOps (zCf tab (evC tab m)) whole loc0 l (zAn out v loc) (v :: tmp) d h) (Res.fail [71])) (fun v h => Res.pan v (forget whole loc0) d h) (fun l => Res.fail l) cr : Res) := by
      intro m hm
      rw [e, hg, ho]
      show (CR.rec (motive := fun _ => Res) (fun v h => bi (reads loc tmp h re) (evOps (zCf tab (evC tab m)) whole loc0 l (zAn out v loc) (v :: tmp) d h) (Res.fail [71])) (fun v h => Res.pan v (forget whole loc0) d h) (fun l => Res.fail l) (zCf tab (evC tab m) f args h) : Res) = _
      rw [hc m hm]
     cases cr with
     | fail l => exact hq.elim
     | pan v h1 => exact ⟨Res.pan v (forget whole loc0) d h1, trivial, hq, n1, fun m hm => e2 m hm⟩
     | ret v h1 =>
      obtain ⟨hre, hx⟩ := hq
      obtain ⟨r, g1, g2, n, g3⟩ := PE.ok l _ _ _ _ hx
      refine ⟨r, g1, g2, max n n1, fun m hm => ?_⟩
      rw [e2 m (Nat.le_trans (Nat.le_max_right _ _) hm)]
      show bi (reads loc tmp h1 re) _ _ = r
      rw [hre]; exact g3 m (Nat.le_trans (Nat.le_max_left _ _) hm)
    | pan v =>
     rw [ho] at x
     refine ⟨_, ?_, x, 0, fun m _ => ?_⟩
     ·trivial
     ·rw [e, hg, ho]; rfl
    | dfr v =>
     rw [ho] at x
     obtain ⟨r, g1, g2, n, g3⟩ := PE.ok l _ _ _ _ x
     refine ⟨r, g1, g2, n, fun m hm => ?_⟩
     rw [e, hg, ho]; exact g3 m hm
    | fail k => rw [ho] at x; exact x.elim
theorem zI0 {l : List AOper} (x : PE tab l loc l loc [] d h Q) : WC tab (.ops l) loc d h Q := by
 obtain ⟨r, h1, h2, n, h3⟩ := PE.ok l _ _ _ _ x
 exact ⟨r, ⟨h1, n + 1, h3 n (Nat.le_refl _)⟩, h2⟩
theorem zAb {l : List AOper} (x : ∀ Q', (∀ r, Q r → Q' r) → PE tab l loc l loc [] d h Q') : WC tab (.ops l) loc d h Q := zI0 (x Q fun _ h => h)
def stepE (tab : Nat → Option AFunc) (whole : List AOper) (loc0 : T AV) (l : List AOper) (out : Option Nat) (re : List ARe) (loc : T AV) (tmp d : List AV) (h : AH) (Q : Res → Prop) : OR → Prop
 | .val v h1 => reads loc tmp h1 re = true ∧ PE tab whole loc0 l (zAn out v loc) (v :: tmp) d h1 Q
 | .enter f args => GE tab f args h (fun v h1 => reads loc tmp h1 re = true ∧ PE tab whole loc0 l (zAn out v loc) (v :: tmp) d h1 Q) (fun v h1 => Q (.pan v (forget whole loc0) d h1))
 | .pan v => Q (.pan v (forget whole loc0) d h)
 | .dfr v => PE tab whole loc0 l (zAn out (.tup []) loc) (.tup [] :: tmp) (v :: d) h Q
 | .fail _ => False
def guardE (tab : Nat → Option AFunc) (whole : List AOper) (loc0 : T AV) (l : List AOper) (op : AOp) (out : Option Nat) (re : List ARe) (loc : T AV) (tmp d : List AV) (h : AH) (Q : Res → Prop) : Option Bool → Prop
 | none => False
 | some false => PE tab whole loc0 l (zAn out (.tup []) loc) (.tup [] :: tmp) d h Q
 | some true => stepE tab whole loc0 l out re loc tmp d h Q (evOp op loc tmp h)
variable {whole l : List AOper} {loc0 : T AV} {op : AOp} {g : Option (Opd × Bool)} {out : Option Nat} {re : List ARe}
theorem zK0 : PE tab whole loc0 [] loc tmp d h Q = Q (.norm loc d h) := rfl
theorem zDu : PE tab whole loc0 (⟨op, g, out, re⟩ :: l) loc tmp d h Q = guardE tab whole loc0 l op out re loc tmp d h Q (zBa loc tmp g) := by
 rw [PE]
 cases zBa loc tmp g with
 | none => rfl
 | some q =>
  cases q with
  | false => simp [guardE]
  | true => simp only [guardE]; cases evOp op loc tmp h <;> simp [stepE]
theorem zIf : guardE tab whole loc0 l op out re loc tmp d h Q (some false) = PE tab whole loc0 l (zAn out (.tup []) loc) (.tup [] :: tmp) d h Q := rfl
theorem zBl : guardE tab whole loc0 l op out re loc tmp d h Q (some true) = stepE tab whole loc0 l out re loc tmp d h Q (evOp op loc tmp h) := rfl
theorem zB0 {v : AV} {h1 : AH} : stepE tab whole loc0 l out re loc tmp d h Q (.val v h1) = (reads loc tmp h1 re = true ∧ PE tab whole loc0 l (zAn out v loc) (v :: tmp) d h1 Q) := rfl
def contE (tab : Nat → Option AFunc) (whole : List AOper) (loc0 : T AV) (l : List AOper) (out : Option Nat) (re : List ARe) (loc : T AV) (tmp d : List AV) (Q : Res → Prop) (v : AV) (h1 : AH) : Prop :=
 reads loc tmp h1 re = true ∧ PE tab whole loc0 l (zAn out v loc) (v :: tmp) d h1 Q
abbrev panE (whole : List AOper) (loc0 : T AV) (d : List AV) (Q : Res → Prop) (v : AV) (h1 : AH) : Prop := Q (.pan v (forget whole loc0) d h1)
theorem contE_eq {Q : Res → Prop} {v : AV} {h1 : AH} : contE tab whole loc0 l out re loc tmp d Q v h1 = (reads loc tmp h1 re = true ∧ PE tab whole loc0 l (zAn out v loc) (v :: tmp) d h1 Q) := rfl
theorem zI1 {f : Nat} {args : List AV} : stepE tab whole loc0 l out re loc tmp d h Q (.enter f args) = GE tab f args h (contE tab whole loc0 l out re loc tmp d Q) (panE whole loc0 d Q) := rfl
theorem stepE_pan {v : AV} : stepE tab whole loc0 l out re loc tmp d h Q (.pan v) = Q (.pan v (forget whole loc0) d h) := rfl
theorem zCd {K : T AV → List AV → AH → Prop} {v : AV} {l : T AV} : zEk K Q (.pan v l d h) = Q (.pan v l d h) := rfl
theorem zBz {id : Nat} {v : AV} {l : T AV} : zGw id (.pan v l d h) = .pan v l d h := rfl
def zDw (rs : List ARes) (Q E : AV → AH → Prop) : Res → Prop
 | .norm l [] h => ∃ vs, results rs l h = some vs ∧ Q (one vs) h
 | .ret l [] h => ∃ vs, results rs l h = some vs ∧ Q (one vs) h
 | .pan v _ [] h => E v h
 | _ => False
theorem ge_of {f n : Nat} {body : ACode} {rs : List ARes} {args : List AV} {Q E : AV → AH → Prop} (ht : tab f = some (.mk n body rs)) (hn : args.length = n) (x : WC tab body (zAh args) [] h (zDw rs Q E)) : GE tab f args h Q E := by
 obtain ⟨r, hr, hq⟩ := x
 obtain ⟨m, hm⟩ := hr.at
 have hm := hm m (Nat.le_refl _)
 have e : ∀ r, evC tab m body (zAh args) [] h = r → evF tab m f args h = (Res.rec (motive := fun _ => CR) (fun loc d h => runD tab (evC tab m) (zA1 rs loc) d Mode.ret h) (fun _ _ _ _ => CR.fail [88]) (fun loc d h => runD tab (evC tab m) (zA1 rs loc) d Mode.ret h)
   (fun v loc d h => runD tab (evC tab m) (zA1 rs loc) d (Mode.pan v false) h) (fun l => CR.fail (f :: l)) r) := by
  intro r hr
  subst hr
  show obind (tab f) _ _ = _
  rw [ht]
  show bi (Nat.beq n (llen args)) _ _ = _
  rw [zBm, hn, Nat.beq_refl]
  rfl
 have e := e r hm
 cases r with
 | norm l d1 h1 =>
  cases d1 with
  | cons _ _ => exact hq.elim
  | nil =>
   obtain ⟨vs, h2, h3⟩ := hq
   refine ⟨.ret (one vs) h1, ⟨trivial, m, ?_⟩, h3⟩
   rw [e]
   show obind (results rs l h1) _ _ = _
   rw [h2]; rfl
 | ret l d1 h1 =>
  cases d1 with
  | cons _ _ => exact hq.elim
  | nil =>
   obtain ⟨vs, h2, h3⟩ := hq
   refine ⟨.ret (one vs) h1, ⟨trivial, m, ?_⟩, h3⟩
   rw [e]
   show obind (results rs l h1) _ _ = _
   rw [h2]; rfl
 | exit id l d1 h1 => cases d1 <;> exact hq.elim
 | pan v l d1 h1 =>
  cases d1 with
  | cons _ _ => exact hq.elim
  | nil =>
   refine ⟨.pan v h1, ⟨trivial, m, ?_⟩, hq⟩
   rw [e]; rfl
 | fail l => exact hq.elim
end
end Go.Ev
namespace Go.Ev
open Go
structure Rw where
 a : Int
 b : Int
 c : Int
 d : Int
def rl (r : Rw) : List AV := [.int .i64 r.a, .int .i64 r.b, .int .i64 r.c, .int .i64 r.d]
noncomputable def putR (r : Rw) (c : T AV) (k : Nat) : T AV := T.put (some (.int .i64 r.d)) (T.put (some (.int .i64 r.c)) (T.put (some (.int .i64 r.b)) (T.put (some (.int .i64 r.a)) c k) (k + 1)) (k + 1 + 1)) (k + 1 + 1 + 1)
theorem zG5 {r : Rw} {c : T AV} {k j : Nat} : (putR r c k).get j = if k + 1 + 1 + 1 = j then some (.int .i64 r.d) else if k + 1 + 1 = j then some (.int .i64 r.c) else if k + 1 = j then some (.int .i64 r.b) else if k = j then some (.int .i64 r.a) else c.get j := by
 rw [putR, T.get_put, T.get_put, T.get_put, T.get_put]
structure R4 (e : T AV) (k : Nat) (r : Rw) : Prop where
 a : e.get k = some (.int .i64 r.a)
 b : e.get (k + 1) = some (.int .i64 r.b)
 c : e.get (k + 1 + 1) = some (.int .i64 r.c)
 d : e.get (k + 1 + 1 + 1) = some (.int .i64 r.d)
theorem R4.load {c : T AV} {k : Nat} {r : Rw} (x : R4 c k r) : loadL c 4 k = some (rl r) := by
 refine zEw x.a (zEw x.b (zEw x.c (zEw x.d rfl)))
theorem storeR {c : T AV} {k : Nat} {r : Rw} (h0 : c.get k ≠ none) (h1 : c.get (k + 1) ≠ none) (h2 : c.get (k + 1 + 1) ≠ none) (h3 : c.get (k + 1 + 1 + 1) ≠ none) : zB6 (rl r) c k = some (putR r c k) := by
 have e : ∀ {x : Option AV} {d : Option (T AV)} {y : Option (T AV)}, x ≠ none → obind x d (fun _ => y) = y := fun {x} _ _ h => by cases x with | none => exact absurd rfl h | some _ => rfl
 rw [rl, zC6, e h0, zC6, e (by rw [T.get_put_ne _ _ _ _ (by omega)]; exact h1), zC6, e (by rw [T.get_put_ne _ _ _ _ (by omega), T.get_put_ne _ _ _ _ (by omega)]; exact h2), zC6, e (by rw [T.get_put_ne _ _ _ _ (by omega), T.get_put_ne _ _ _ _ (by omega), T.get_put_ne _ _ _ _ (by omega)]; exact h3), zHr]
 rfl
theorem R4.store {c : T AV} {k : Nat} {r : Rw} (x : R4 c k r) (r' : Rw) : zB6 (rl r') c k = some (putR r' c k) :=
 storeR (by rw [x.a]; exact fun h => by cases h) (by rw [x.b]; exact fun h => by cases h) (by rw [x.c]; exact fun h => by cases h) (by rw [x.d]; exact fun h => by cases h)
theorem zG4 {r : Rw} {c : T AV} {k j : Nat} (h : c.get j ≠ none) : (putR r c k).get j ≠ none := by
 rw [zG5]
 split
 ·exact fun h => by cases h
 split
 ·exact fun h => by cases h
 split
 ·exact fun h => by cases h
 split
 ·exact fun h => by cases h
 exact h
theorem R4.store2 {c : T AV} {k : Nat} {r : Rw} (x : R4 c k r) (r' r2 : Rw) (k2 : Nat) : zB6 (rl r') (putR r2 c k2) k = some (putR r' (putR r2 c k2) k) :=
 storeR (zG4 (by rw [x.a]; exact fun h => by cases h)) (zG4 (by rw [x.b]; exact fun h => by cases h)) (zG4 (by rw [x.c]; exact fun h => by cases h)) (zG4 (by rw [x.d]; exact fun h => by cases h))
theorem R4.put {c : T AV} {k : Nat} {r : Rw} : R4 (putR r c k) k r := ⟨by rw [zG5, if_neg (by omega), if_neg (by omega), if_neg (by omega), if_pos rfl], by rw [zG5, if_neg (by omega), if_neg (by omega), if_pos rfl], by rw [zG5, if_neg (by omega), if_pos rfl], by rw [zG5, if_pos rfl]⟩
def RArr (c : T AV) (o n : Nat) (f : Nat → Rw) : Prop := ∀ i, i < n → loadL c 4 (o + i * 4) = some (rl (f i)) ∧ (∀ r, zB6 (rl r) c (o + i * 4) = some (putR r c (o + i * 4))) ∧ (∀ r r2 k2, zB6 (rl r) (putR r2 c k2) (o + i * 4) = some (putR r (putR r2 c k2) (o + i * 4)))
def RArr4 (c : T AV) (o n : Nat) (f : Nat → Rw) : Prop := ∀ i, i < n → R4 c (o + i * 4) (f i)
theorem RArr4.arr {c : T AV} {o n : Nat} {f : Nat → Rw} (x : RArr4 c o n f) : RArr c o n f := fun i hi => ⟨(x i hi).load, (x i hi).store, (x i hi).store2⟩
section
variable {h h0 : AH} {id o n s : Nat} {p : Option Nat} {c0 : T AV} {g : Nat → Rw}
structure SegR (h0 : AH) (id o n s : Nat) (p : Option Nat) (c0 : T AV) (h : AH) (g : Nat → Rw) : Prop where
 old : id < h0.next
 more : MoreBut id h0 h
 row4 : ∃ c, h.mem.get id = some (.cells c s p false) ∧ RArr4 c o n g ∧ ∀ k, (k < o ∨ o + n * 4 ≤ k) → c.get k = c0.get k
theorem SegR.row (x : SegR h0 id o n s p c0 h g) : ∃ c, h.mem.get id = some (.cells c s p false) ∧ RArr4 c o n g ∧ (∀ k, (k < o ∨ o + n * 4 ≤ k) → c.get k = c0.get k) ∧ RArr c o n g := by
 obtain ⟨c, h1, h2, h3⟩ := x.row4
 exact ⟨c, h1, h2, h3, h2.arr⟩
theorem SegR.start {c : T AV} {f : Nat → Rw} (hi : id < h.next) (hg : h.mem.get id = some (.cells c s p false)) (hc : RArr4 c o n f) : SegR h id o n s p c h f := ⟨hi, MoreBut.refl _ _, c, hg, hc, fun _ _ => rfl⟩
theorem SegR.on {h' : AH} {g' : Nat → Rw} {c : T AV} (x : SegR h0 id o n s p c0 h g) (hc : ∀ k, (k < o ∨ o + n * 4 ≤ k) → c.get k = c0.get k) (y : SegR h id o n s p c h' g') : SegR h0 id o n s p c0 h' g' := by
 obtain ⟨a1, a2, c1, a3, a4, a5⟩ := y
 exact ⟨x.old, x.more.trans a2, c1, a3, a4, fun k hk => by rw [a5 k hk, hc k hk]⟩
theorem SegR.but {h' : AH} (x : SegR h0 id o n s p c0 h g) {q : Nat} (hq : h0.next ≤ q) (y : MoreBut q h h') : SegR h0 id o n s p c0 h' g := by
 obtain ⟨a1, a2, c1, a3, a4, a5⟩ := x
 have a2n := a2.next
 exact ⟨a1, ⟨Nat.le_trans a2.next y.next, fun k k1 k2 => by rw [y.keep k (by omega) (by omega)]; exact a2.keep k k1 k2⟩, c1, by rw [y.keep id (by omega) (by omega)]; exact a3, a4, a5⟩
theorem SegR.to {h' : AH} (x : SegR h0 id o n s p c0 h g) (y : More h h') : SegR h0 id o n s p c0 h' g := by
 obtain ⟨a1, a2, c1, a3, a4, a5⟩ := x
 have a2n := a2.next
 exact ⟨a1, ⟨Nat.le_trans a2.next y.next, fun k k1 k2 => by rw [y.keep k (by omega)]; exact a2.keep k k1 k2⟩, c1, by rw [y.keep id (by omega)]; exact a3, a4, a5⟩
theorem SegR.add (x : SegR h0 id o n s p c0 h g) (ob : AObj) : SegR h0 id o n s p c0 (h.add ob) g := x.to (More.add h ob)
end
noncomputable def cvK (v : AV) (l : List AV) : OR := onFn v fun f first caps => OR.enter f (lapp first (lapp l caps))
theorem op_callV {loc : T AV} {tmp : List AV} {h : AH} {f : Opd} {l : List Opd} : evOp (.callV f l) loc tmp h = cvK (ev loc tmp f) (evs loc tmp l) := rfl
theorem cvK_fn {n : Nat} {l : List AV} : cvK (.fn n [] []) l = .enter n l := by
 show OR.enter n (lapp [] (lapp l [])) = _
 rw [zC1, zC1, List.append_nil, List.nil_append]
noncomputable def rd1 (x : AV) (b : Bool) (r : OR) : Bool := OR.rec (motive := fun _ => Bool) (fun v _ => bi (same v x) b false) (fun _ _ => false) (fun _ => false) (fun _ => false) (fun _ => false) r
theorem zB1 {loc : T AV} {tmp : List AV} {h : AH} {op : AOp} {i : Nat} {l : List ARe} : reads loc tmp h (⟨op, i, none⟩ :: l) = rd1 (nth tmp i) (reads loc tmp h l) (evOp op loc tmp h) := rfl
theorem zBx {x v : AV} {b : Bool} {h' : AH} : rd1 x b (.val v h') = bi (same v x) b false := rfl
theorem ne_1 {n : Nat} : (n + 1 = n) = False := eq_false (by omega)
theorem ne_2 {n : Nat} : (n + 1 + 1 = n) = False := eq_false (by omega)
theorem ne_1' {n : Nat} : (n = n + 1) = False := eq_false (by omega)
theorem ne_2' {n : Nat} : (n = n + 1 + 1) = False := eq_false (by omega)
theorem move_fn {n : Nat} {a b : List AV} {h : AH} : oMove (.c (.fn n a b)) .leaf [] h = .val (.fn n a b) h := rfl
end Go.Ev
namespace Go.Ev
open Go
section
variable {loc : T AV} {tmp : List AV} {h : AH}
theorem op_mkFn {f : Nat} {a b : List Opd} : evOp (.mkFn f a b) loc tmp h = .val (.fn f (evs loc tmp a) (evs loc tmp b)) h := rfl
theorem op_mkIfc {t : Nat} {x : Opd} : evOp (.mkIfc t x) loc tmp h = zIa t (.c (ev loc tmp x)) .leaf [] h := rfl
theorem op_panic {x : Opd} : evOp (.panic x) loc tmp h = oPanic (.c (ev loc tmp x)) .leaf [] h := rfl
theorem mkIfc_agg {t : Nat} {l : List AV} : zIa t (.c (.agg l)) .leaf [] h = .val (.ifc t (.agg l)) h := rfl
theorem zKe {t : Nat} {q : Bool} : zIa t (.c (.bool q)) .leaf [] h = .val (.ifc t (.bool q)) h := rfl
theorem panic_ifc {t : Nat} {v : AV} : oPanic (.c (.ifc t v)) .leaf [] h = .pan (.ifc t v) := rfl
def cell1 (v : AV) : T AV := .log 1 0 (some v) .leaf
theorem zAz {v : AV} : (cell1 v).get 0 = some v := rfl
theorem zJv {i o : Nat} : oBox (.c (.ptr i o)) .leaf [] h = .val (.ptr h.next 0) (h.add (.cells (.log 1 0 (some (.ptr i o)) .leaf) 1 none false)) := by
 show AH.new h (AObj.cells (T.log 1 0 (some (AV.ptr i o)) .leaf) 1 none false) (fun id h => OR.val (AV.ptr id 0) h) = _
 rw [AH.new_eq]
theorem box_int {k : IntKind} {n : Int} : oBox (.c (.int k n)) .leaf [] h = .val (.ptr h.next 0) (h.add (.cells (.log 1 0 (some (.int k n)) .leaf) 1 none false)) := by
 show AH.new h (AObj.cells (T.log 1 0 (some (AV.int k n)) .leaf) 1 none false) (fun id h => OR.val (AV.ptr id 0) h) = _
 rw [AH.new_eq]
theorem box_bool {q : Bool} : oBox (.c (.bool q)) .leaf [] h = .val (.ptr h.next 0) (h.add (.cells (.log 1 0 (some (.bool q)) .leaf) 1 none false)) := by
 show AH.new h (AObj.cells (T.log 1 0 (some (AV.bool q)) .leaf) 1 none false) (fun id h => OR.val (AV.ptr id 0) h) = _
 rw [AH.new_eq]
theorem box_sv {l : List UInt8} : oBox (.c (sv l)) .leaf [] h = .val (.ptr h.next 0) (h.add (.cells (.log 1 0 (some (sv l)) .leaf) 1 none false)) := by
 show AH.new h (AObj.cells (T.log 1 0 (some (sv l)) .leaf) 1 none false) (fun id h => OR.val (AV.ptr id 0) h) = _
 rw [AH.new_eq]
theorem box_fn {f : Nat} {a b : List AV} : oBox (.c (.fn f a b)) .leaf [] h = .val (.ptr h.next 0) (h.add (.cells (.log 1 0 (some (.fn f a b)) .leaf) 1 none false)) := by
 show AH.new h (AObj.cells (T.log 1 0 (some (AV.fn f a b)) .leaf) 1 none false) (fun id h => OR.val (AV.ptr id 0) h) = _
 rw [AH.new_eq]
theorem cells_ptr {i o : Nat} : cellsOf (.ptr i o) = some [.ptr i o] := rfl
theorem zKs : cellsOf .nilp = some [.nilp] := rfl
theorem zKr : cellsOf .nils = some [.nils] := rfl
theorem zKt : cellsOf .nili = some [.nili] := rfl
theorem zKu : cellsOf .nilf = some [.nilf] := rfl
theorem cells_fn {f : Nat} {a b : List AV} : cellsOf (.fn f a b) = some [.fn f a b] := rfl
theorem move_nilf : oMove (.c .nilf) .leaf [] h = .val .nilf h := rfl
theorem move_nili : oMove (.c .nili) .leaf [] h = .val .nili h := rfl
theorem eqp_np {neg : Bool} {i o : Nat} : oEq neg .ptr (.c .nilp) (.c (.ptr i o)) .leaf [] h = .val (.bool neg) h := by cases neg <;> rfl
theorem eqp_pn {neg : Bool} {i o : Nat} : oEq neg .ptr (.c (.ptr i o)) (.c .nilp) .leaf [] h = .val (.bool neg) h := by cases neg <;> rfl
theorem eqp_nn {neg : Bool} : oEq neg .ptr (.c .nilp) (.c .nilp) .leaf [] h = .val (.bool (!neg)) h := by cases neg <;> rfl
theorem eqp_pp {neg : Bool} {i o o' : Nat} : oEq neg .ptr (.c (.ptr i o)) (.c (.ptr i o')) .leaf [] h = .val (.bool (if neg then !decide (o = o') else decide (o = o'))) h := by
 show obind (bi (Nat.beq i i) (some (Nat.beq o o')) _) (F 29) (fun q => Ev.bool (bi neg (bi q false true) q) h) = _
 rw [Nat.beq_refl, zFh, zH4]
 by_cases hc : o = o' <;> cases neg <;> simp [hc] <;> rfl
theorem eqfn_fn {neg : Bool} {f : Nat} {a b : List AV} : oEq neg .fn (.c (.fn f a b)) (.c .nilf) .leaf [] h = .val (.bool neg) h := by cases neg <;> rfl
theorem eqfn_nf {neg : Bool} : oEq neg .fn (.c .nilf) (.c .nilf) .leaf [] h = .val (.bool (!neg)) h := by cases neg <;> rfl
theorem zB3 {i o : Nat} : same (.ptr i o) (.ptr i o) = true := by
 show bi (Nat.beq i i) (Nat.beq o o) false = true
 rw [Nat.beq_refl, Nat.beq_refl]; rfl
theorem same_nils : same .nils .nils = true := rfl
theorem same_nilp : same .nilp .nilp = true := rfl
theorem same_bool {q : Bool} : same (.bool q) (.bool q) = true := by cases q <;> rfl
theorem same_sv {l : List UInt8} : same (sv l) (sv l) = true := by
 show bi (Nat.beq l.length l.length) (Nat.beq (encB l) (encB l)) false = true
 rw [Nat.beq_refl, Nat.beq_refl]; rfl
theorem same_sl {i o l : Nat} {c : ACap} : same (.sl i o l c) (.sl i o l c) = true := by
 cases c with
 | known n =>
  show bi (Nat.beq i i) (bi (Nat.beq o o) (bi (Nat.beq l l) (Nat.beq n n) false) false) false = true
  simp only [Nat.beq_refl]; rfl
 | rest n =>
  show bi (Nat.beq i i) (bi (Nat.beq o o) (bi (Nat.beq l l) (Nat.beq n n) false) false) false = true
  simp only [Nat.beq_refl]; rfl
theorem zI4 {x : AV} : same (.agg [x]) (.agg [x]) = same x x := by
 show bi (same x x) true false = _
 cases same x x <;> rfl
theorem cvK2 {n : Nat} {a c l : List AV} : cvK (.fn n a c) l = .enter n (lapp a (lapp l c)) := rfl
theorem lapp_nil {l : List AV} : lapp [] l = l := rfl
theorem lapp_cons {v : AV} {l m : List AV} : lapp (v :: l) m = v :: lapp l m := rfl
theorem gv_tup {l : List AV} {want : Bool} : gv (.tup l) want = some false := rfl
theorem zKa {x : Opd} {l : T AV} {Q E : AV → AH → Prop} : zDw [.val x] Q E (.ret l [] h) = Q (ev l [] x) h := by
 refine propext ⟨?_, fun q => ⟨_, zAv zAl, by rw [zLd]; exact q⟩⟩
 rintro ⟨vs, h1, q⟩
 rw [zAv zAl] at h1
 injection h1 with h1; subst h1; rwa [zLd] at q
theorem zHv {l : T AV} {Q E : AV → AH → Prop} : zDw [] Q E (.ret l [] h) = Q (.tup []) h := by
 refine propext ⟨?_, fun q => ⟨_, zAl, q⟩⟩
 rintro ⟨vs, h1, q⟩
 rw [zAl] at h1
 injection h1 with h1; subst h1; exact q
theorem zJb {l : T AV} {Q E : AV → AH → Prop} : zDw [] Q E (.norm l [] h) = Q (.tup []) h := zHv (E := E)
theorem str0 : AV.str 0 0 = sv [] := rfl
end
section
variable {tab : Nat → Option AFunc} {loc : T AV} {d : List AV} {h : AH} {b : ACode} {Q : Res → Prop}
theorem zBc {z : List AV} {k : Nat} (x : ∀ h', h'.next = h.next + 1 → h'.mem.get h.next = some (.cells (zAd z) (llen z) none false) → More h h' → WC tab b (T.put (some (.ptr h.next 0)) loc k) d h' Q) :
  WC tab (.seq (.ops [⟨.alloc z, none, some k, []⟩]) b) loc d h Q := by
 refine zAc (zI0 ?_)
 rw [zDu, zBf, zBl, zE8, zB0]
 refine ⟨rfl, ?_⟩
 rw [zK0]
 exact x _ rfl (by rw [AH.add_mem, T.get_put_self]) (More.add _ _)
theorem zFp {i k k2 : Nat} {v : AV} {z : List AV} (hv : T.get loc i = some v) (hb : ∀ h' : AH, oBox (.c v) .leaf [] h' = .val (.ptr h'.next 0) (h'.add (.cells (cell1 v) 1 none false)))
  (x : ∀ h', h'.next = h.next + 2 → h'.mem.get h.next = some (.cells (cell1 v) 1 none false) → h'.mem.get (h.next + 1) = some (.cells (zAd z) (llen z) none false) → More h h' → WC tab b (T.put (some (.ptr (h.next + 1) 0)) (T.put (some (.ptr h.next 0)) loc k) k2) d h' Q) :
  WC tab (.seq (.ops [⟨.box (.l i), none, some k, []⟩, ⟨.alloc z, none, some k2, []⟩]) b) loc d h Q := by
 refine zAc (zI0 ?_)
 rw [zDu, zBf, zBl, op_box, evl, hv]
 show stepE tab _ _ _ (some k) [] _ [] d h _ (oBox (.c v) .leaf [] h)
 rw [hb, zB0]
 refine ⟨rfl, ?_⟩
 rw [zDu, zBf, zBl, zE8, zB0]
 refine ⟨rfl, ?_⟩
 rw [zK0]
 refine x _ rfl ?_ ?_ ((More.add _ _).trans (More.add _ _))
 ·rw [AH.add_mem, T.get_put_ne _ _ _ _ (by rw [AH.add_next]; omega), AH.add_mem, T.get_put_self]
 ·rw [AH.add_mem]; exact T.get_put_self _ _ _
theorem zDz {i k k2 : Nat} {l z : List AV} (hv : T.get loc i = some (.agg l))
  (x : ∀ h', h'.next = h.next + 2 → h'.mem.get h.next = some (.cells (zAd l) (llen l) none false) → h'.mem.get (h.next + 1) = some (.cells (zAd z) (llen z) none false) → More h h' → WC tab b (T.put (some (.ptr (h.next + 1) 0)) (T.put (some (.ptr h.next 0)) loc k) k2) d h' Q) :
  WC tab (.seq (.ops [⟨.box (.l i), none, some k, []⟩, ⟨.alloc z, none, some k2, []⟩]) b) loc d h Q := by
 refine zAc (zI0 ?_)
 rw [zDu, zBf, zBl, op_box, evl, hv]
 show stepE tab _ _ _ (some k) [] _ [] d h _ (oBox (.c (.agg l)) .leaf [] h)
 rw [box_agg, zB0]
 refine ⟨rfl, ?_⟩
 rw [zDu, zBf, zBl, zE8, zB0]
 refine ⟨rfl, ?_⟩
 rw [zK0]
 refine x _ rfl ?_ ?_ ((More.add _ _).trans (More.add _ _))
 ·rw [AH.add_mem, T.get_put_ne _ _ _ _ (by rw [AH.add_next]; omega), AH.add_mem, T.get_put_self]
 ·rw [AH.add_mem]; exact T.get_put_self _ _ _
theorem zA3 {n k id : Nat} {l : T AV} {c : T AV} {s : Nat} {p : Option Nat} {ro : Bool} {lst : List AV} {Q E : AV → AH → Prop} (hk : l.get k = some (.ptr id 0)) (hg : h.mem.get id = some (.cells c s p ro)) (hl : loadL c n 0 = some lst) (q : Q (.agg lst) h) :
  zDw [.cellN n (.l k)] Q E (.ret l [] h) := by
 refine ⟨[.agg lst], res_cellN (id := id) (o := 0) (by rw [evl, hk]; rfl) ?_, q⟩
 rw [hg]
 show obind (loadL c n 0) (F 18) _ = _
 rw [hl]; rfl
end
theorem GP.to {tab : Nat → Option AFunc} {f : Nat} {args : List AV} {h : AH} {Q Q1 E : AV → AH → Prop} (x : GP tab f args h Q) (hq : ∀ v h1, Q v h1 → Q1 v h1) : GE tab f args h Q1 E := (x.mono hq).ge
noncomputable def kept (h : AH) (z lst : List AV) : AH := (h.add (.cells (zAd z) (llen z) none false)).set h.next (.cells (putL lst (zAd z) 0) (llen z) none false)
theorem kept_next {h : AH} {z lst : List AV} : (kept h z lst).next = h.next + 1 := by unfold kept; rw [AH.set_next]; rfl
theorem kept_get {h : AH} {z lst : List AV} : (kept h z lst).mem.get h.next = some (.cells (putL lst (zAd z) 0) (llen z) none false) := AH.get_set
theorem kept_more {h : AH} {z lst : List AV} : More h (kept h z lst) := (More.add h _).set (Nat.le_refl _) _
section
variable {tab : Nat → Option AFunc} {loc loc0 : T AV} {tmp d : List AV} {h : AH} {b : ACode} {Q : Res → Prop} {whole l : List AOper} {k : Nat}
theorem zEo {x y w a b c : AV} : PE tab whole loc0 (⟨.alloc [x, y, w], none, some k, []⟩ :: ⟨.store 3 (.t 0) (.t 1), none, none, []⟩ :: l) loc (.agg [a, b, c] :: tmp) d h Q =
  PE tab whole loc0 l (T.put (some (.ptr h.next 0)) loc k) (.tup [] :: .ptr h.next 0 :: .agg [a, b, c] :: tmp) d (kept h [x, y, w] [a, b, c]) Q := by
 rw [zDu, zBf, zBl, zE8, zB0, zDu, zBf, zBl, zIo]
 simp only [ev_t, zIr, zIs]
 rw [zE4, AH.add_mem, T.get_put_self]
 simp only [zCs, zCo, zHn, zC7, zG9, zIt]
 have e : zB6 [a, b, c] (zAd [x, y, w]) 0 = some (putL [a, b, c] (zAd [x, y, w]) 0) := rfl
 rw [e]
 simp only [zC7, show Nat.beq (0 + 1 + 1 + 1) 3 = true from rfl, zFh, zB0]
 simp only [zG3, zE7, zBy, true_and]
 rfl
theorem zEp {x a : AV} : PE tab whole loc0 (⟨.alloc [x], none, some k, []⟩ :: ⟨.store 1 (.t 0) (.t 1), none, none, []⟩ :: l) loc (.agg [a] :: tmp) d h Q =
  PE tab whole loc0 l (T.put (some (.ptr h.next 0)) loc k) (.tup [] :: .ptr h.next 0 :: .agg [a] :: tmp) d (kept h [x] [a]) Q := by
 rw [zDu, zBf, zBl, zE8, zB0, zDu, zBf, zBl, zIo]
 simp only [ev_t, zIr, zIs]
 rw [zE4, AH.add_mem, T.get_put_self]
 simp only [zCs, zCo, zHn, zC7, zG9, zIt]
 have e : zB6 [a] (zAd [x]) 0 = some (putL [a] (zAd [x]) 0) := rfl
 rw [e]
 simp only [zC7, show Nat.beq (0 + 1) 1 = true from rfl, zFh, zB0]
 simp only [zG3, zE7, zBy, true_and]
 rfl
theorem zDc {K : T AV → List AV → AH → Prop} {x y w a b c : AV} (g : ∀ h2, h2.next = h.next + 1 → (∃ cc, h2.mem.get h.next = some (.cells cc 3 none false) ∧ cc.get 0 = some a ∧ cc.get 1 = some b ∧ cc.get 2 = some c) → More h h2 → zEk K Q (.norm loc d h2)) :
  zEk K Q (.norm loc d (kept h [x, y, w] [a, b, c])) := by
 refine g _ kept_next ⟨_, kept_get, ?_, ?_, ?_⟩ kept_more <;> rw [zDg] <;> rfl
theorem zBk {K : T AV → List AV → AH → Prop} {x a : AV} (g : ∀ h2, h2.next = h.next + 1 → (∃ cc, h2.mem.get h.next = some (.cells cc 1 none false) ∧ cc.get 0 = some a) → More h h2 → zEk K Q (.norm loc d h2)) :
  zEk K Q (.norm loc d (kept h [x] [a])) := by
 refine g _ kept_next ⟨_, kept_get, ?_⟩ kept_more; rw [zDg]; rfl
end
theorem zId {α : Type} {a b : Nat} {x y : α} (h : a ≠ b) : (if a = b then x else y) = y := if_neg h
theorem zEn {α : Type} {a b : Nat} {x y : α} (h : a = b) : (if a = b then x else y) = x := if_pos h
section
variable {h : AH}
theorem move_tup {l : List AV} : oMove (.c (.tup l)) .leaf [] h = .val (.tup l) h := rfl
theorem move_ifc {t : Nat} {v : AV} : oMove (.c (.ifc t v)) .leaf [] h = .val (.ifc t v) h := rfl
noncomputable def exV (v : AV) (h : AH) : OR := zDe 0 (.c (.tup [v])) .leaf [] h
theorem ext0 {a : AV} {l : List AV} : zDe 0 (.c (.tup (a :: l))) .leaf [] h = exV a h := rfl
theorem ext1 {a b : AV} {l : List AV} : zDe 1 (.c (.tup (a :: b :: l))) .leaf [] h = exV b h := rfl
theorem ext2 {a b c : AV} {l : List AV} : zDe 2 (.c (.tup (a :: b :: c :: l))) .leaf [] h = exV c h := rfl
theorem exV_int {k : IntKind} {n : Int} : exV (.int k n) h = .val (.int k n) h := rfl
theorem exV_bool {q : Bool} : exV (.bool q) h = .val (.bool q) h := rfl
theorem exV_sv {l : List UInt8} : exV (sv l) h = .val (sv l) h := rfl
theorem exV_nili : exV .nili h = .val .nili h := rfl
theorem exV_nils : exV .nils h = .val .nils h := rfl
theorem exV_ifc {t : Nat} {v : AV} : exV (.ifc t v) h = .val (.ifc t v) h := rfl
theorem exV_sl {i o l : Nat} {c : ACap} : exV (.sl i o l c) h = .val (.sl i o l c) h := rfl
theorem exV_agg {l : List AV} : exV (.agg l) h = .val (.agg l) h := rfl
theorem exV_ptr {i o : Nat} : exV (.ptr i o) h = .val (.ptr i o) h := rfl
theorem eqifc_in {neg : Bool} {t : Nat} {v : AV} : oEq neg .ifc (.c (.ifc t v)) (.c .nili) .leaf [] h = .val (.bool neg) h := by cases neg <;> rfl
theorem eqifc_nn {neg : Bool} : oEq neg .ifc (.c .nili) (.c .nili) .leaf [] h = .val (.bool (!neg)) h := by cases neg <;> rfl
end
theorem EVE : type_of% (And.intro @obind_ite (And.intro @zK0 (And.intro @zDu (And.intro @zIf (And.intro @zBl (And.intro @zB0 (And.intro @zI1 (And.intro @zBf (And.intro @gb_any (And.intro @gb_bool (And.intro @ev_t (And.intro @evl (And.intro @ev_c (And.intro @zIr (And.intro @zIs (And.intro @T.get_put (And.intro @zE7 (And.intro @zBy (And.intro @evs_nil (And.intro @evs_cons (And.intro @zG3 (And.intro @op_move (And.intro @op_pick (And.intro @op_load (And.intro @zIp (And.intro @zIo (And.intro @op_nil (And.intro @op_bin (And.intro @op_eq (And.intro @op_not (And.intro @op_neg (And.intro @op_convI (And.intro @op_len (And.intro @zJ8 (And.intro @zH9 (And.intro @op_field (And.intro @zJ9 (And.intro @op_callF (And.intro @zE8 (And.intro @op_build (And.intro @move_int (And.intro @move_bool (And.intro @move_ptr (And.intro @move_nilp (And.intro @move_sl (And.intro @move_nils (And.intro @move_agg (And.intro @bin_lss (And.intro @bin_leq (And.intro @bin_gtr (And.intro @bin_geq (And.intro @bin_add (And.intro @bin_sub (And.intro @bin_mul (And.intro @eq_int (And.intro @eq_bool (And.intro @eq_agg (And.intro @eqLz (And.intro @eqLs (And.intro @eqS_int (And.intro @eqS_bool (And.intro @not_bool (And.intro @zHb (And.intro @len_nils (And.intro @pick_bool (And.intro @zHj (And.intro @fill_nil (And.intro @zCs (And.intro @zC7 (And.intro @zKb (And.intro @zFh (And.intro @zCo (And.intro @zKf (And.intro @zJh (And.intro @zE4 (And.intro @zHn (And.intro @cells_int (And.intro @zKg (And.intro @zHr (And.intro @zIt (And.intro @zG9 (And.intro @zH4 (And.intro @zAa (And.intro @zAg (And.intro @zA8 (And.intro @zAi (And.intro @zAf (And.intro @zA5 (And.intro @zAj (And.intro @AH.add_mem (And.intro @AH.add_next (And.intro @AH.set_mem (And.intro @AH.set_next (And.intro @op_max (And.intro @op_min (And.intro @max_int (And.intro @min_int (And.intro @convI_int (And.intro @nil_ptr (And.intro @op_box (And.intro @box_agg (And.intro @op_bslice (And.intro @fill_cons (And.intro @op_append (And.intro @AH.kill_mem (And.intro @AH.kill_next (And.intro @zGh (And.intro @zHc (And.intro @zC1 (And.intro @ble_nat (And.intro @add_nat (And.intro @cells_sl (And.intro @zKv (And.intro @lt_nat (And.intro @le_nat (And.intro @eq_nat (And.intro @op_callV (And.intro @cvK_fn (And.intro @move_fn (And.intro @zB1 (And.intro @zBx (And.intro @zK6 (And.intro @zH6 (And.intro @zG2 (And.intro @ne_1 (And.intro @ne_2 (And.intro @ne_1' (And.intro @ne_2' (And.intro @zC6 (And.intro @move_tup (And.intro @move_ifc (And.intro @ext0 (And.intro @ext1 (And.intro @ext2 (And.intro @exV_int (And.intro @exV_bool (And.intro @exV_sv (And.intro @exV_nili (And.intro @exV_nils (And.intro @exV_ifc (And.intro @exV_sl (And.intro @exV_agg (And.intro @exV_ptr (And.intro @eqifc_in (And.intro @eqifc_nn (And.intro @stepE_pan (And.intro @contE_eq (And.intro @gv_tup (And.intro @zKa (And.intro @zHv (And.intro @zJb (And.intro @zCd (And.intro @zBz (And.intro @op_mkFn (And.intro @op_idxS (And.intro @op_mkIfc (And.intro @op_panic (And.intro @mkIfc_agg (And.intro @zKe (And.intro @panic_ifc (And.intro @zJv (And.intro @box_int (And.intro @box_bool (And.intro @box_sv (And.intro @box_fn (And.intro @cells_ptr (And.intro @zKs (And.intro @zKr (And.intro @zKt (And.intro @zKu (And.intro @cells_fn (And.intro @cells_sv (And.intro @move_sv (And.intro @len_sv (And.intro @eq_sv (And.intro @eqS_sv (And.intro @eqp_np (And.intro @eqp_nn (And.intro @eqp_pn (And.intro @eqp_pp (And.intro @eqfn_fn (And.intro @eqfn_nf (And.intro @zB3 (And.intro @same_sl (And.intro @same_nils (And.intro @same_nilp (And.intro @same_sv (And.intro @same_bool (And.intro @cvK2 (And.intro @lapp_nil (And.intro @lapp_cons (And.intro @T.get_log (And.intro @T.get_leaf (And.intro @move_nilf (And.intro @zJ7 (And.intro @zJ5 (And.intro @zJ6 (And.intro @zIp (And.intro @zI4 (And.intro @move_nili (And.intro @op_neg (@str0)))))))))))))))))))))))))))))))))))))))))))))))))))))))))))))))))))))))))))))))))))))))))))))))))))))))))))))))))))))))))))))))))))))))))))))))))))))))))))))))))))))))))))))))))))))))))))))))))))))))))) := (And.intro @obind_ite (And.intro @zK0 (And.intro @zDu (And.intro @zIf (And.intro @zBl (And.intro @zB0 (And.intro @zI1 (And.intro @zBf (And.intro @gb_any (And.intro @gb_bool (And.intro @ev_t (And.intro @evl (And.intro @ev_c (And.intro @zIr (And.intro @zIs (And.intro @T.get_put (And.intro @zE7 (And.intro @zBy (And.intro @evs_nil (And.intro @evs_cons (And.intro @zG3 (And.intro @op_move (And.intro @op_pick (And.intro @op_load (And.intro @zIp (And.intro @zIo (And.intro @op_nil (And.intro @op_bin (And.intro @op_eq (And.intro @op_not (And.intro @op_neg (And.intro @op_convI (And.intro @op_len (And.intro @zJ8 (And.intro @zH9 (And.intro @op_field (And.intro @zJ9 (And.intro @op_callF (And.intro @zE8 (And.intro @op_build (And.intro @move_int (And.intro @move_bool (And.intro @move_ptr (And.intro @move_nilp (And.intro @move_sl (And.intro @move_nils (And.intro @move_agg (And.intro @bin_lss (And.intro @bin_leq (And.intro @bin_gtr (And.intro @bin_geq (And.intro @bin_add (And.intro @bin_sub (And.intro @bin_mul (And.intro @eq_int (And.intro @eq_bool (And.intro @eq_agg (And.intro @eqLz (And.intro @eqLs (And.intro @eqS_int (And.intro @eqS_bool (And.intro @not_bool (And.intro @zHb (And.intro @len_nils (And.intro @pick_bool (And.intro @zHj (And.intro @fill_nil (And.intro @zCs (And.intro @zC7 (And.intro @zKb (And.intro @zFh (And.intro @zCo (And.intro @zKf (And.intro @zJh (And.intro @zE4 (And.intro @zHn (And.intro @cells_int (And.intro @zKg (And.intro @zHr (And.intro @zIt (And.intro @zG9 (And.intro @zH4 (And.intro @zAa (And.intro @zAg (And.intro @zA8 (And.intro @zAi (And.intro @zAf (And.intro @zA5 (And.intro @zAj (And.intro @AH.add_mem (And.intro @AH.add_next (And.intro @AH.set_mem (And.intro @AH.set_next (And.intro @op_max (And.intro @op_min (And.intro @max_int (And.intro @min_int (And.intro @convI_int (And.intro @nil_ptr (And.intro @op_box (And.intro @box_agg (And.intro @op_bslice (And.intro @fill_cons (And.intro @op_append (And.intro @AH.kill_mem (And.intro @AH.kill_next (And.intro @zGh (And.intro @zHc (And.intro @zC1 (And.intro @ble_nat (And.intro @add_nat (And.intro @cells_sl (And.intro @zKv (And.intro @lt_nat (And.intro @le_nat (And.intro @eq_nat (And.intro @op_callV (And.intro @cvK_fn (And.intro @move_fn (And.intro @zB1 (And.intro @zBx (And.intro @zK6 (And.intro @zH6 (And.intro @zG2 (And.intro @ne_1 (And.intro @ne_2 (And.intro @ne_1' (And.intro @ne_2' (And.intro @zC6 (And.intro @move_tup (And.intro @move_ifc (And.intro @ext0 (And.intro @ext1 (And.intro @ext2 (And.intro @exV_int (And.intro @exV_bool (And.intro @exV_sv (And.intro @exV_nili (And.intro @exV_nils (And.intro @exV_ifc (And.intro @exV_sl (And.intro @exV_agg (And.intro @exV_ptr (And.intro @eqifc_in (And.intro @eqifc_nn (And.intro @stepE_pan (And.intro @contE_eq (And.intro @gv_tup (And.intro @zKa (And.intro @zHv (And.intro @zJb (And.intro @zCd (And.intro @zBz (And.intro @op_mkFn (And.intro @op_idxS (And.intro @op_mkIfc (And.intro @op_panic (And.intro @mkIfc_agg (And.intro @zKe (And.intro @panic_ifc (And.intro @zJv (And.intro @box_int (And.intro @box_bool (And.intro @box_sv (And.intro @box_fn (And.intro @cells_ptr (And.intro @zKs (And.intro @zKr (And.intro @zKt (And.intro @zKu (And.intro @cells_fn (And.intro @cells_sv (And.intro @move_sv (And.intro @len_sv (And.intro @eq_sv (And.intro @eqS_sv (And.intro @eqp_np (And.intro @eqp_nn (And.intro @eqp_pn (And.intro @eqp_pp (And.intro @eqfn_fn (And.intro @eqfn_nf (And.intro @zB3 (And.intro @same_sl (And.intro @same_nils (And.intro @same_nilp (And.intro @same_sv (And.intro @same_bool (And.intro @cvK2 (And.intro @lapp_nil (And.intro @lapp_cons (And.intro @T.get_log (And.intro @T.get_leaf (And.intro @move_nilf (And.intro @zJ7 (And.intro @zJ5 (And.intro @zJ6 (And.intro @zIp (And.intro @zI4 (And.intro @move_nili (And.intro @op_neg (@str0))))))))))))))))))))))))))))))))))))))))))))))))))))))))))))))))))))))))))))))))))))))))))))))))))))))))))))))))))))))))))))))))))))))))))))))))))))))))))))))))))))))))))))))))))))))))))))))))))))))))))
theorem EE : type_of% (And.intro EVE (And.intro EVN EVC)) := And.intro EVE (And.intro EVN EVC)
end Go.Ev
namespace Go.Ev
open Go Go.Pa
inductive Arr (h : AH) (F : Nat → Prop) : AV → List AV → Prop
 | nils : Arr h F .nils []
 | sl {id s : Nat} {c : T AV} {cap : ACap} {cs : List AV} : cs ≠ [] → F id → id < h.next → h.mem.get id = some (.cells c s none false) → (∀ i, i < cs.length → c.get i = cs[i]?) → (cap = .rest 1 ∧ s = cs.length ∨ cap = .known cs.length) → cs.length ≤ 1000000 →
   Arr h F (.sl id 0 cs.length cap) cs
structure Stay (F : Nat → Prop) (h h' : AH) : Prop where
 next : h.next ≤ h'.next
 keep : ∀ id, F id → id < h.next → h'.mem.get id = h.mem.get id
theorem Stay.refl (F : Nat → Prop) (h : AH) : Stay F h h := ⟨Nat.le_refl _, fun _ _ _ => rfl⟩
theorem Stay.trans {F : Nat → Prop} {a b c : AH} (x : Stay F a b) (y : Stay F b c) : Stay F a c := ⟨Nat.le_trans x.next y.next, fun id hf hi => by rw [y.keep id hf (Nat.lt_of_lt_of_le hi x.next), x.keep id hf hi]⟩
theorem Stay.less {F G : Nat → Prop} {a b : AH} (x : Stay F a b) (hg : ∀ id, G id → F id) : Stay G a b := ⟨x.next, fun id hf hi => x.keep id (hg id hf) hi⟩
theorem Stay.set {F : Nat → Prop} {h h' : AH} (x : Stay F h h') {i : Nat} (hi : i < h.next → ¬ F i) (o : AObj) : Stay F h (h'.set i o) := ⟨by rw [AH.set_next]; exact x.next, fun id hf hl => by
 have hne : i ≠ id := fun e => by subst e; exact hi hl hf
 rw [AH.set_mem, T.get_put_ne _ _ _ _ hne]; exact x.keep id hf hl⟩
theorem Stay.kill {F : Nat → Prop} {h h' : AH} (x : Stay F h h') {i : Nat} (hi : i < h.next → ¬ F i) : Stay F h (h'.kill i) := ⟨by rw [AH.kill_next]; exact x.next, fun id hf hl => by
 have hne : i ≠ id := fun e => by subst e; exact hi hl hf
 rw [AH.kill_mem, T.get_put_ne _ _ _ _ hne]; exact x.keep id hf hl⟩
theorem Stay.add {F : Nat → Prop} {h h' : AH} (x : Stay F h h') (o : AObj) : Stay F h (h'.add o) := ⟨Nat.le_trans x.next (Nat.le_succ _), fun id hf hl => by
 rw [AH.add_mem, T.get_put_ne _ _ _ _ (by have := x.next; omega)]; exact x.keep id hf hl⟩
theorem Arr.keep {h h' : AH} {F G : Nat → Prop} {v : AV} {cs : List AV} (x : Arr h F v cs) (m : Stay F h h') (hg : ∀ id, F id → id < h.next → G id) : Arr h' G v cs := by
 cases x with
 | nils => exact .nils
 | sl a b c d e f g => exact .sl a (hg _ b c) (Nat.lt_of_lt_of_le c m.next) (by rw [m.keep _ b c]; exact d) e f g
theorem Arr.len {h h' : AH} {F : Nat → Prop} {v : AV} {cs : List AV} (x : Arr h F v cs) : oLen .sl (.c v) .leaf [] h' = .val (.int .i64 (cs.length : Int)) h' := by
 cases x with
 | nils => rfl
 | sl => exact zHb
theorem Arr.small {h : AH} {F : Nat → Prop} {v : AV} {cs : List AV} (x : Arr h F v cs) : cs.length ≤ 1000000 := by
 cases x with
 | nils => exact Nat.zero_le _
 | sl a b c d e f g => exact g
theorem Arr.mv {h : AH} {F : Nat → Prop} {v : AV} {cs : List AV} (x : Arr h F v cs) : v.mv = true := by cases x <;> rfl
theorem Arr.cells {h : AH} {F : Nat → Prop} {v : AV} {cs : List AV} (x : Arr h F v cs) : cellsOf v = some [v] := by cases x <;> rfl
theorem Arr.same {h : AH} {F : Nat → Prop} {v : AV} {cs : List AV} (x : Arr h F v cs) : Ev.same v v = true := by
 cases x with
 | nils => rfl
 | sl => exact same_sl
theorem Arr.open {h : AH} {F : Nat → Prop} {v : AV} {cs : List AV} (x : Arr h F v cs) {i : Nat} (hi : i < cs.length) : ∃ id s c cap, v = .sl id 0 cs.length cap ∧ F id ∧ id < h.next ∧ h.mem.get id = some (.cells c s none false) ∧ c.get i = cs[i]? := by
 cases x with
 | nils => cases hi
 | sl a b c d e f g => exact ⟨_, _, _, _, rfl, b, c, d, e i hi⟩
def NodeC (h : AH) (id op : Nat) (name typ : Str) (n : Int) (pos : Nat) (kv : AV) : Prop := ∃ c, h.mem.get id = some (.cells c 6 none false) ∧ c.get 0 = some (.int .i64 (op : Int)) ∧ c.get 1 = some (sv name) ∧ c.get 2 = some (sv typ) ∧
 c.get 3 = some (.int .i64 n) ∧ c.get 4 = some (.int .i64 (pos : Int)) ∧ c.get 5 = some kv
theorem NodeC.keep {h h' : AH} {id op : Nat} {name typ : Str} {n : Int} {pos : Nat} {kv : AV} (x : NodeC h id op name typ n pos kv) (e : h'.mem.get id = h.mem.get id) : NodeC h' id op name typ n pos kv := by
 obtain ⟨c, g, r⟩ := x; exact ⟨c, by rw [e]; exact g, r⟩
mutual
def TreeR (h : AH) (F : Nat → Prop) : AV → Tree → Prop
 | v, .mk op name typ n pos kids => ∃ id kv cs, v = .ptr id 0 ∧ F id ∧ id < h.next ∧ NodeC h id op name typ n pos kv ∧ Arr h F kv cs ∧ TreesR h F cs kids
def TreesR (h : AH) (F : Nat → Prop) : List AV → List Tree → Prop
 | [], [] => True
 | v :: vs, t :: ts => TreeR h F v t ∧ TreesR h F vs ts
 | _, _ => False
end
mutual
theorem TreeR.keep {h h' : AH} {F G : Nat → Prop} (m : Stay F h h') (hg : ∀ id, F id → id < h.next → G id) : ∀ {t : Tree} {v : AV}, TreeR h F v t → TreeR h' G v t
 | .mk op name typ n pos kids, v, x => by
  obtain ⟨id, kv, cs, h1, h2, h3, h4, h5, h6⟩ := x
  exact ⟨id, kv, cs, h1, hg _ h2 h3, Nat.lt_of_lt_of_le h3 m.next, h4.keep (m.keep _ h2 h3), h5.keep m hg, TreesR.keep m hg h6⟩
theorem TreesR.keep {h h' : AH} {F G : Nat → Prop} (m : Stay F h h') (hg : ∀ id, F id → id < h.next → G id) : ∀ {ts : List Tree} {vs : List AV}, TreesR h F vs ts → TreesR h' G vs ts
 | [], [], _ => trivial
 | t :: ts, v :: vs, x => ⟨TreeR.keep m hg x.1, TreesR.keep m hg x.2⟩
 | [], _ :: _, x => x.elim
 | _ :: _, [], x => x.elim
end
theorem TreesR.len {h : AH} {F : Nat → Prop} : ∀ {ts : List Tree} {vs : List AV}, TreesR h F vs ts → vs.length = ts.length
 | [], [], _ => rfl
 | t :: ts, v :: vs, x => by rw [List.length_cons, List.length_cons, TreesR.len x.2]
 | [], _ :: _, x => x.elim
 | _ :: _, [], x => x.elim
theorem TreesR.app {h : AH} {F : Nat → Prop} {t : Tree} {v : AV} (y : TreeR h F v t) : ∀ {ts : List Tree} {vs : List AV}, TreesR h F vs ts → TreesR h F (vs ++ [v]) (ts ++ [t])
 | [], [], _ => ⟨y, trivial⟩
 | t :: ts, v :: vs, x => ⟨x.1, TreesR.app y x.2⟩
 | [], _ :: _, x => x.elim
 | _ :: _, [], x => x.elim
theorem TreesR.get {h : AH} {F : Nat → Prop} : ∀ {ts : List Tree} {vs : List AV}, TreesR h F vs ts → ∀ (i : Nat) (hi : i < ts.length), ∃ v, vs[i]? = some v ∧ TreeR h F v ts[i]
 | t :: ts, v :: vs, x, 0, _ => ⟨v, rfl, x.1⟩
 | t :: ts, v :: vs, x, i + 1, hi => TreesR.get x.2 i (by simpa using hi)
 | [], _, _, _, hi => by cases hi
 | _ :: _, [], x, _, _ => x.elim
theorem TreeR.ptr {h : AH} {F : Nat → Prop} {v : AV} {t : Tree} (x : TreeR h F v t) : ∃ id, v = .ptr id 0 ∧ F id ∧ id < h.next := by
 cases t with
 | mk => obtain ⟨id, kv, cs, h1, h2, h3, _⟩ := x; exact ⟨id, h1, h2, h3⟩
theorem Arr.append {h : AH} {F : Nat → Prop} {v x : AV} {cs : List AV} (a : Arr h F v cs) {src : AV} (hs : ∀ k, zBp 1 src h k = k 1 [x]) (hx : cs.length < 1000000) :
  ∃ v' h', zC8 none 1 8 (.c v) (.c src) .leaf [] h = .val v' h' ∧ Arr h' (fun id => id = h.next) v' (cs ++ [x]) ∧ h'.next = h.next + 1 ∧ (∀ k, k < h.next → (∀ l n, v ≠ .sl k 0 l n) → h'.mem.get k = h.mem.get k) := by
 cases a with
 | nils =>
  refine ⟨_, _, zJy hs (by omega) (zD4 (by omega) (by omega)), ?_, rfl, fun k hk _ => by rw [AH.add_mem, T.get_put_ne _ _ _ _ (by omega)]⟩
  exact Arr.sl (cs := [x]) (c := zAd [x]) (by simp) rfl (Nat.lt_succ_self _) (by rw [AH.add_mem, T.get_put_self]; rfl) (fun i hi => zAj _ _) (.inl ⟨rfl, rfl⟩) (by simp)
 | sl a1 a2 a3 a4 a5 a6 a7 =>
  rename_i id s c cap
  have hl : (cs ++ [x]).length = cs.length + 1 := by simp
  have hput : ∀ i, i < (cs ++ [x]).length → (putL [x] c (cs.length * 1)).get i = (cs ++ [x])[i]? := by
   intro i hi
   rw [hl] at hi
   rw [zDg, Nat.mul_one]
   by_cases h1 : i < cs.length
   ·rw [if_neg (by omega), a5 i h1, List.getElem?_append_left h1]
   ·obtain rfl : i = cs.length := by omega
    rw [if_pos (by simp), List.getElem?_append_right (Nat.le_refl _)]
  rcases a6 with ⟨rfl, rfl⟩ | rfl
  ·refine ⟨_, _, zJx hs a4 (Nat.mul_one _).symm (Nat.le_refl _) (by omega) (zD4 (by omega) (by omega)), ?_, by rw [AH.add_next, AH.kill_next], fun k hk hne => ?_⟩
   ·rw [← hl]
    exact Arr.sl (by simp) rfl (by rw [AH.add_next, AH.kill_next]; exact Nat.lt_succ_self _) (by rw [AH.add_mem, AH.kill_next, T.get_put_self]) hput (.inl ⟨rfl, by simp⟩) (by omega)
   ·rw [AH.add_mem, AH.kill_next, T.get_put_ne _ _ _ _ (by omega), AH.kill_mem, T.get_put_ne _ _ _ _ (fun e => hne _ _ (by rw [e]))]
  ·have hc : cs.length ≠ 0 := fun e => a1 (List.eq_nil_of_length_eq_zero e)
   have hld : loadL c (cs.length * 1) 0 = some cs := by
    rw [Nat.mul_one]
    clear hs hl hput hx hc a1 a4
    have : ∀ (l : List AV) (o : Nat), (∀ i, i < l.length → c.get (o + i) = l[i]?) → loadL c l.length o = some l := by
     intro l
     induction l with
     | nil => intro o _; rfl
     | cons y l ih =>
      intro o hy
      refine zEw (by have := hy 0 (by simp); rwa [Nat.add_zero] at this) (ih (o + 1) fun i hi => ?_)
      have := hy (i + 1) (by simpa using hi)
      rwa [show o + (i + 1) = o + 1 + i by omega] at this
    exact this cs 0 fun i hi => by rw [Nat.zero_add]; exact a5 i hi
   have hap : zC8 none 1 8 (.c (.sl id 0 cs.length (.known cs.length))) (.c src) .leaf [] h = .val (.sl h.next 0 (cs.length + 1) (.rest 1)) (h.add (.cells (putL [x] (zAd cs) (cs.length * 1)) ((cs.length + 1) * 1) none false)) := by
    show zBp 1 src h _ = _
    rw [hs]
    have e1 : Nat.beq cs.length 0 = false := by rw [zH4]; exact decide_eq_false hc
    have e2 : Nat.ble (cs.length + 1) cs.length = false := by rw [ble_nat]; exact decide_eq_false (by omega)
    show bi (Nat.beq 1 0) (OR.val (AV.sl id 0 cs.length (.known cs.length)) h) (bi (Nat.beq cs.length 0) _ (zBo (AH.get h id) _)) = _
    rw [e1, show Nat.beq 1 0 = false from rfl, zCo, zCo, AH.get_eq, a4]
    simp only [zCs, fN_eq]
    show bi (Nat.ble (cs.length + 1) cs.length) (bi false (Ev.F 49) (obind (zB6 [x] c (Nat.add 0 (Nat.mul cs.length 1))) (Ev.F 49) (fun c' => OR.val (AV.sl id 0 (cs.length + 1) (.known cs.length)) (AH.set h id (AObj.cells c' s none false)))))
     (bi (room (cs.length + 1) 8) (obind (loadL c (cs.length * 1) 0) (Ev.F 50) (fun old => AH.new h (AObj.cells (putL [x] (zAd old) (Nat.mul cs.length 1)) (Nat.mul (cs.length + 1) 1) none false) (fun id h => OR.val (AV.sl id 0 (cs.length + 1) (ACap.rest 1)) h))) (Ev.F 50)) = _
    rw [e2, zCo, zD4 (by omega) (by omega), zFh, hld]
    show AH.new h (AObj.cells (putL [x] (zAd cs) (Nat.mul cs.length 1)) (Nat.mul (cs.length + 1) 1) none false) (fun id h => OR.val (AV.sl id 0 (cs.length + 1) (ACap.rest 1)) h) = _
    rw [AH.new_eq]; rfl
   refine ⟨_, _, hap, ?_, rfl, fun k hk _ => by rw [AH.add_mem, T.get_put_ne _ _ _ _ (by omega)]⟩
   rw [← hl]
   refine Arr.sl (by simp) rfl (Nat.lt_succ_self _) (by rw [AH.add_mem, T.get_put_self]) (fun i hi => ?_) (.inl ⟨rfl, by simp⟩) (by omega)
   rw [hl] at hi
   rw [zDg, Nat.mul_one]
   by_cases h1 : i < cs.length
   ·rw [if_neg (by omega), zAj, List.getElem?_append_left h1]
   ·obtain rfl : i = cs.length := by omega
    rw [if_pos (by simp), List.getElem?_append_right (Nat.le_refl _)]
def KidF (lo : Nat) (X : List Nat) (kv : AV) (k : Nat) : Prop := lo ≤ k ∧ k ∉ X ∧ ∀ l n, kv ≠ .sl k 0 l n
def Kids (h : AH) (lo : Nat) (X : List Nat) (kv : AV) (ts : List Tree) : Prop := ∃ cs, Arr h (fun k => lo ≤ k ∧ k ∉ X) kv cs ∧ TreesR h (KidF lo X kv) cs ts
theorem Kids.nils {h : AH} {lo : Nat} {X : List Nat} : Kids h lo X .nils [] := ⟨[], .nils, trivial⟩
theorem Kids.keep {h h' : AH} {lo : Nat} {X : List Nat} {kv : AV} {ts : List Tree} (x : Kids h lo X kv ts) (m : Stay (fun k => lo ≤ k ∧ k ∉ X) h h') : Kids h' lo X kv ts := by
 obtain ⟨cs, a, t⟩ := x
 exact ⟨cs, a.keep m fun _ h _ => h, TreesR.keep (m.less fun _ h => ⟨h.1, h.2.1⟩) (fun _ h _ => h) t⟩
theorem Kids.tree {h : AH} {lo : Nat} {X : List Nat} {kv : AV} {ts : List Tree} {id op : Nat} {name typ : Str} {n : Int} {pos : Nat} {F : Nat → Prop} (x : Kids h lo X kv ts) (c : NodeC h id op name typ n pos kv) (hi : F id) (hl : id < h.next) (hF : ∀ k, lo ≤ k → F k) :
  TreeR h F (.ptr id 0) (.mk op name typ n pos ts) := by
 obtain ⟨cs, a, t⟩ := x
 exact ⟨id, kv, cs, rfl, hi, hl, c, a.keep (Stay.refl _ _) fun _ h _ => hF _ h.1, TreesR.keep (Stay.refl _ _) (fun _ h _ => hF _ h.1) t⟩
theorem Arr.isF {h : AH} {F : Nat → Prop} {k o l : Nat} {n : ACap} {cs : List AV} (x : Arr h F (.sl k o l n) cs) : F k := by
 generalize e : AV.sl k o l n = v at x
 cases x with
 | nils => cases e
 | sl b1 b2 => injection e with e; subst e; exact b2
theorem Kids.append {h : AH} {lo : Nat} {X : List Nat} {kv u : AV} {ts : List Tree} {t : Tree} (x : Kids h lo X kv ts) (y : TreeR h (KidF lo X kv) u t) (hlo : lo ≤ h.next) (hX : ∀ k ∈ X, k < h.next) (hlen : ts.length < 1000000) {src : AV} (hs : ∀ k, zBp 1 src h k = k 1 [u]) :
  ∃ kv' h', zC8 none 1 8 (.c kv) (.c src) .leaf [] h = .val kv' h' ∧ Kids h' lo X kv' (ts ++ [t]) ∧ h'.next = h.next + 1 ∧ ∀ k, k < h.next → (k < lo ∨ k ∈ X) → h'.mem.get k = h.mem.get k := by
 obtain ⟨cs, a, tr⟩ := x
 obtain ⟨kv', h', e1, e2, e3, e4⟩ := a.append hs (by rw [tr.len]; exact hlen)
 have new : ∀ k l n, kv' = .sl k 0 l n → k = h.next := by
  intro k l n e
  subst e
  exact e2.isF
 have hXn : h.next ∉ X := fun hm => absurd (hX _ hm) (by omega)
 have stay : Stay (KidF lo X kv) h h' := ⟨by omega, fun k hk hl => e4 k hl hk.2.2⟩
 have fk : ∀ k, KidF lo X kv k → k < h.next → KidF lo X kv' k := fun k hk hl => ⟨hk.1, hk.2.1, fun l n e => by have := new k l n e; omega⟩
 refine ⟨kv', h', e1, ⟨cs ++ [u], e2.keep (Stay.refl _ _) fun k hk _ => by subst hk; exact ⟨hlo, hXn⟩, TreesR.app (TreeR.keep stay fk y) (TreesR.keep stay fk tr)⟩, e3, fun k hk hc => e4 k hk fun l n e => ?_⟩
 subst e
 have b2 := a.isF
 rcases hc with hc | hc
 ·have := b2.1; omega
 ·exact b2.2 hc
theorem TreeR.less {h : AH} {F G : Nat → Prop} {v : AV} {t : Tree} (x : TreeR h F v t) (hg : ∀ k, F k → k < h.next → G k) : TreeR h G v t := TreeR.keep (Stay.refl _ _) hg x
theorem Kids.tree2 {h : AH} {lo : Nat} {X : List Nat} {kv : AV} {ts : List Tree} {id op : Nat} {name typ : Str} {n : Int} {pos : Nat} {F : Nat → Prop} (x : Kids h lo X kv ts) (c : NodeC h id op name typ n pos kv) (hi : F id) (hl : id < h.next) (hF : ∀ k, lo ≤ k → k ∉ X → F k) :
  TreeR h F (.ptr id 0) (.mk op name typ n pos ts) := by
 obtain ⟨cs, a, t⟩ := x
 exact ⟨id, kv, cs, rfl, hi, hl, c, a.keep (Stay.refl _ _) fun _ h _ => hF _ h.1 h.2, TreesR.keep (Stay.refl _ _) (fun _ h _ => hF _ h.1 h.2.1) t⟩
end Go.Ev
namespace Go.Ev
abbrev o1 (x : AOp) : AOper := .mk x none none []
abbrev o2 (x : AOp) (k : Nat) : AOper := .mk x none (some k) []
abbrev o3 (x : AOp) (i : Nat) (b : Bool) : AOper := .mk x (some (.t i, b)) none []
abbrev iz (n : Nat) : AV := .int .i64 (.ofNat n)
abbrev ml (k : Nat) : AOper := .mk (.move (.l k)) none none []
abbrev m0 : AOper := .mk (.move (.t 0)) none none []
abbrev mt (i k : Nat) : AOper := .mk (.move (.t i)) none (some k) []
abbrev mc (v : AV) (k : Nat) : AOper := .mk (.move (.c v)) none (some k) []
abbrev ox (i : Nat) : AOper := .mk (.extract i (.t i)) none none []
abbrev sq (l : List AOper) (c : ACode) : ACode := .seq (.ops l) c
abbrev ad (x y : Opd) : AOp := .bin .add x y
abbrev sb (x y : Opd) : AOp := .bin .sub x y
abbrev ls (x y : Opd) : AOp := .bin .lss x y
abbrev gt (x y : Opd) : AOp := .bin .gtr x y
abbrev le (x y : Opd) : AOp := .bin .leq x y
abbrev ge (x y : Opd) : AOp := .bin .geq x y
abbrev en (x y : Opd) : AOp := .eq false .num x y
abbrev nn (x y : Opd) : AOp := .eq true .num x y
abbrev fa (n : Nat) (x : Opd) : AOp := .fieldAddr n x
abbrev ia (n : Nat) (x y : Opd) : AOp := .idxAddr n x y
abbrev lN (n : Nat) (x : Opd) : AOp := .loadN n x
abbrev ld (x : Opd) : AOp := .load x
abbrev nc (x : Opd) : AOp := .nilCheck x
abbrev cf (f : Nat) (l : List Opd) : AOp := .callF f l
abbrev ll (x : Opd) : AOp := .len .sl x
abbrev lt (x : Opd) : AOp := .len .str x
abbrev st (n : Nat) (x y : Opd) : AOp := .store n x y
abbrev pk (x y z : Opd) : AOp := .pick x y z
abbrev ap (a b : Nat) (x y : Opd) : AOp := .append a b x y
abbrev u0 : Opd := .t 0
abbrev u1 : Opd := .t 1
abbrev u2 : Opd := .t 2
abbrev u3 : Opd := .t 3
abbrev u4 : Opd := .t 4
abbrev u5 : Opd := .t 5
abbrev u6 : Opd := .t 6
abbrev u7 : Opd := .t 7
abbrev u8 : Opd := .t 8
abbrev u9 : Opd := .t 9
abbrev u10 : Opd := .t 10
abbrev u13 : Opd := .t 13
abbrev u64 : Opd := .t 64
abbrev k0 : Opd := .l 0
abbrev k1 : Opd := .l 1
abbrev k2 : Opd := .l 2
abbrev k3 : Opd := .l 3
abbrev k4 : Opd := .l 4
abbrev k5 : Opd := .l 5
abbrev k6 : Opd := .l 6
abbrev k7 : Opd := .l 7
abbrev k8 : Opd := .l 8
abbrev k9 : Opd := .l 9
abbrev k10 : Opd := .l 10
abbrev k11 : Opd := .l 11
abbrev k12 : Opd := .l 12
abbrev k13 : Opd := .l 13
abbrev k14 : Opd := .l 14
abbrev k15 : Opd := .l 15
abbrev k16 : Opd := .l 16
abbrev k17 : Opd := .l 17
abbrev k18 : Opd := .l 18
abbrev k20 : Opd := .l 20
abbrev k21 : Opd := .l 21
abbrev k36 : Opd := .l 36
abbrev k118 : Opd := .l 118
abbrev k127 : Opd := .l 127
abbrev k130 : Opd := .l 130
end Go.Ev
