/- EvY EvZ EvZ2 EvSt EvN EvN2 EvNt ShP KnP PaS EvPm EvK EvL EvSo EvG EvB2 EvBd EvPg -/
import Derived.Test.YtlolcfdllehpgaaGreatDoorPaE
import Derived.Lib.Join
import Derived.Lib.AtoiAll
import Derived.Lib.ItoaNum
import Derived.Lib.SlTrimSet
import Derived.Shelf.Strings.Builder1
import Derived.Shelf.Strings.Builder2
import Derived.Shelf.Strings.OnBuilder
import Derived.Shelf.Strings.Trim
import Derived.Shelf.Small.Utf8
import Derived.Shelf.Small.Strs
import Derived.Shelf.Small.Wraps
import Derived.Shelf.Strconv.Atoi
import Derived.Shelf.Strconv.Itoa0
import Derived.Shelf.Strconv.Itoa1
import Derived.Shelf.LaysM
import Derived.Shelf.Strconv.Itoa2
import Derived.Shelf.Strconv.Itoa3
import Derived.Shelf.Strconv.AtoiErrFast
import Derived.Shelf.Strconv.ParseIntEmpty
import Derived.Shelf.Strconv.AtoiFail
import Derived.Shelf.Strconv.Clone
import Derived.Shelf.Strconv.SyntaxError
import Derived.Shelf.LaysC
import Derived.Shelf.Strconv.ToError
import Derived.Shelf.Strconv.Lower
import Derived.Shelf.Strconv.ParseUint10
import Derived.Shelf.Strconv.ParseUint10Empty
import Derived.Shelf.Strconv.ParseUint10Any
import Derived.Shelf.Strconv.ParseInt10
import Derived.Shelf.Strconv.AtoiLong
import Derived.Shelf.Strconv.AtoiInnerAll
import Derived.Shelf.Strconv.RangeError
import Derived.Shelf.Strconv.ToErrorRange
import Derived.Shelf.Strconv.AtoiAll
import Derived.Shelf.Strings.Search1
import Derived.Shelf.Strings.Prefix
import Derived.Shelf.Strings.Runes
import Derived.Shelf.Strings.AsciiSet
import Derived.Shelf.Unicode.DecodeSlow
import Derived.Shelf.Slices.Turned
import Derived.Test.YtlolcfdllehpgaaGreatDoorProg
import Derived.Lib.AppendIntMem
import Derived.Lib.SmallJoins
import Derived.Shelf.Strings.SlTrimAscii
import Derived.KernelRfl
import Derived.Carry
import Derived.OpenShut
import Derived.ChangeArms
import Derived.Deep.Slices
set_option linter.unusedSimpArgs false
set_option linter.unusedVariables false
set_option linter.unusedSectionVars false
set_option linter.defProp false
set_option maxRecDepth 100000
set_option maxHeartbeats 4000000
namespace Go.Ev
open Go
section
variable {tab : Nat → Option AFunc}
def zE2 (K : T AV → List AV → AH → Prop) (Q : Res → Prop) : Res → Prop
 | .norm l d h => K l d h
 | r => Q r
def WC (tab : Nat → Option AFunc) (c : ACode) (loc : T AV) (d : List AV) (h : AH) (Q : Res → Prop) : Prop := ∃ r, Does tab c loc d h r ∧ Q r
def GP (tab : Nat → Option AFunc) (f : Nat) (args : List AV) (h : AH) (Q : AV → AH → Prop) : Prop := ∃ v h1, Gives tab f args h (.ret v h1) ∧ Q v h1
variable {loc : T AV} {d tmp : List AV} {h : AH} {a b : ACode} {Q Q1 : Res → Prop}
theorem WC.mono {c : ACode} (x : WC tab c loc d h Q) (hq : ∀ r, Q r → Q1 r) : WC tab c loc d h Q1 := let ⟨r, h1, h2⟩ := x; ⟨r, h1, hq r h2⟩
theorem GP.mono {f : Nat} {args : List AV} {Q Q1 : AV → AH → Prop} (x : GP tab f args h Q) (hq : ∀ v h1, Q v h1 → Q1 v h1) : GP tab f args h Q1 := let ⟨v, h1, g, q⟩ := x; ⟨v, h1, g, hq v h1 q⟩
theorem zAl (x : Q (.norm loc d h)) : WC tab .skip loc d h Q := ⟨_, does_skip, x⟩
theorem zAj (x : Q (.ret loc d h)) : WC tab .ret loc d h Q := ⟨_, does_ret, x⟩
theorem zC1 {id : Nat} (x : Q (.exit id loc d h)) : WC tab (.exit id) loc d h Q := ⟨_, does_exit, x⟩
theorem zAd (x : WC tab a loc d h (zE2 (fun l d h => WC tab b l d h Q) Q)) : WC tab (.seq a b) loc d h Q := by
 obtain ⟨r, hr, hq⟩ := x
 cases r with
 | norm l d1 h1 => obtain ⟨r2, hr2, hq2⟩ := hq; exact ⟨r2, does_seq hr hr2, hq2⟩
 | fail l => exact hr.1.elim
 | exit id l d1 h1 => exact ⟨_, zGm hr trivial, hq⟩
 | ret l d1 h1 => exact ⟨_, zGm hr trivial, hq⟩
 | pan v l d1 h1 => exact ⟨_, zGm hr trivial, hq⟩
theorem wc_cond {c : Opd} {q : Bool} (hc : ev loc [] c = .bool q) (h1 : q = true → WC tab a loc d h Q) (h2 : q = false → WC tab b loc d h Q) : WC tab (.cond c a b) loc d h Q := by
 cases q with
 | true => obtain ⟨r, hr, hq⟩ := h1 rfl; exact ⟨r, does_cond hc (by simpa using hr), hq⟩
 | false => obtain ⟨r, hr, hq⟩ := h2 rfl; exact ⟨r, does_cond hc (by simpa using hr), hq⟩
theorem zAu {id : Nat} (x : WC tab a loc d h (fun r => Q (zHd id r))) : WC tab (.block id a) loc d h Q := by
 obtain ⟨r, hr, hq⟩ := x
 exact ⟨_, does_block hr, hq⟩
theorem wc_loop (x : WC tab a loc d h (zE2 (fun l d h => WC tab (.loop a) l d h Q) Q)) : WC tab (.loop a) loc d h Q := by
 obtain ⟨r, hr, hq⟩ := x
 cases r with
 | norm l d1 h1 => obtain ⟨r2, hr2, hq2⟩ := hq; exact ⟨r2, does_loop hr hr2, hq2⟩
 | fail l => exact hr.1.elim
 | exit id l d1 h1 => exact ⟨_, zFv hr trivial, hq⟩
 | ret l d1 h1 => exact ⟨_, zFv hr trivial, hq⟩
 | pan v l d1 h1 => exact ⟨_, zFv hr trivial, hq⟩
def PO (tab : Nat → Option AFunc) (whole : List AOper) (loc0 : T AV) : List AOper → T AV → List AV → List AV → AH → (Res → Prop) → Prop
 | [], loc, _, d, h, Q => Q (.norm loc d h)
 | ⟨op, g, out, re⟩ :: l, loc, tmp, d, h, Q =>
  match zBh loc tmp g with
  | none => False
  | some q => (q = false → PO tab whole loc0 l (zAo out (.tup []) loc) (.tup [] :: tmp) d h Q) ∧ (q = true →
   match evOp op loc tmp h with
   | .val v h1 => reads loc tmp h1 re = true ∧ PO tab whole loc0 l (zAo out v loc) (v :: tmp) d h1 Q
   | .enter f args => GP tab f args h fun v h1 => reads loc tmp h1 re = true ∧ PO tab whole loc0 l (zAo out v loc) (v :: tmp) d h1 Q
   | .pan v => Q (.pan v (forget whole loc0) d h)
   | .dfr v => PO tab whole loc0 l (zAo out (.tup []) loc) (.tup [] :: tmp) (v :: d) h Q
   | .fail _ => False)
theorem Gives.at {f : Nat} {args : List AV} {r : CR} (x : Gives tab f args h r) : ∃ n, ∀ m, n ≤ m → zCt tab (evC tab m) f args h = r := by
 obtain ⟨hg, n, hn⟩ := x
 refine ⟨n, fun m hm => ?_⟩
 exact evF_mono hm hn hg
theorem PO.ok {whole : List AOper} {loc0 : T AV} : ∀ (l : List AOper) (loc : T AV) (tmp d : List AV) (h : AH), PO tab whole loc0 l loc tmp d h Q →
  ∃ r, r.good ∧ Q r ∧ ∃ n, ∀ m, n ≤ m → evOps (zCt tab (evC tab m)) whole loc0 l loc tmp d h = r
 | [], loc, tmp, d, h, x => ⟨.norm loc d h, trivial, x, 0, fun _ _ => rfl⟩
 | ⟨op, g, out, re⟩ :: l, loc, tmp, d, h, x => by
  have e : ∀ k : Nat → List AV → AH → CR, evOps k whole loc0 (⟨op, g, out, re⟩ :: l) loc tmp d h = obind (zBh loc tmp g) (Res.fail [70]) (fun q => bi q
   (OR.rec (motive := fun _ => Res)
    (fun v h => bi (reads loc tmp h re) (evOps k whole loc0 l (zAo out v loc) (v :: tmp) d h) (Res.fail [71]))
    (fun f args => CR.rec (motive := fun _ => Res) (fun v h => bi (reads loc tmp h re) (evOps k whole loc0 l (zAo out v loc) (v :: tmp) d h) (Res.fail [71])) (fun v h => Res.pan v (forget whole loc0) d h) (fun l => Res.fail l) (k f args h))
    (fun v => Res.pan v (forget whole loc0) d h)
    (fun v => evOps k whole loc0 l (zAo out (AV.tup []) loc) (AV.tup [] :: tmp) (v :: d) h)
    (fun n => Res.fail [n]) (evOp op loc tmp h)) (evOps k whole loc0 l (zAo out (AV.tup []) loc) (AV.tup [] :: tmp) d h)) := fun _ => rfl
  simp only [PO] at x
  cases hg : zBh loc tmp g with
  | none => rw [hg] at x; exact x.elim
  | some q =>
   rw [hg] at x
   cases q with
   | false =>
    obtain ⟨r, h1, h2, n, h3⟩ := PO.ok l _ _ _ _ (x.1 rfl)
    refine ⟨r, h1, h2, n, fun m hm => ?_⟩
    rw [e, hg]; exact h3 m hm
   | true =>
    have x := x.2 rfl
    cases ho : evOp op loc tmp h with
    | val v h1 =>
     rw [ho] at x
     obtain ⟨r, g1, g2, n, g3⟩ := PO.ok l _ _ _ _ x.2
     refine ⟨r, g1, g2, n, fun m hm => ?_⟩
     rw [e, hg, ho]
     show bi (reads loc tmp h1 re) _ _ = r
     rw [x.1]; exact g3 m hm
    | enter f args =>
     rw [ho] at x
     obtain ⟨v, h1, hc, hre, hx⟩ := x
     obtain ⟨n1, hc⟩ := hc.at
     obtain ⟨r, g1, g2, n, g3⟩ := PO.ok l _ _ _ _ hx
     refine ⟨r, g1, g2, max n n1, fun m hm => ?_⟩
     rw [e, hg, ho]
     show (CR.rec (motive := fun _ => Res) (fun v h => bi (reads loc tmp h re) (evOps (zCt tab (evC tab m)) whole loc0 l (zAo out v loc) (v :: tmp) d h) (Res.fail [71])) (fun v h => Res.pan v (forget whole loc0) d h) (fun l => Res.fail l) (zCt tab (evC tab m) f args h) : Res) = r
     rw [hc m (Nat.le_trans (Nat.le_max_right _ _) hm)]
     show bi (reads loc tmp h1 re) _ _ = r
     rw [hre]; exact g3 m (Nat.le_trans (Nat.le_max_left _ _) hm)
    | pan v =>
     rw [ho] at x
     refine ⟨_, ?_, x, 0, fun m _ => ?_⟩
     ·trivial
     ·rw [e, hg, ho]; rfl
    | dfr v =>
     rw [ho] at x
     obtain ⟨r, g1, g2, n, g3⟩ := PO.ok l _ _ _ _ x
     refine ⟨r, g1, g2, n, fun m hm => ?_⟩
     rw [e, hg, ho]; exact g3 m hm
    | fail k => rw [ho] at x; exact x.elim
theorem wc_ops {l : List AOper} (x : PO tab l loc l loc [] d h Q) : WC tab (.ops l) loc d h Q := by
 obtain ⟨r, h1, h2, n, h3⟩ := PO.ok l _ _ _ _ x
 exact ⟨r, ⟨h1, n + 1, h3 n (Nat.le_refl _)⟩, h2⟩
def onEnd (rs : List ARes) (Q : AV → AH → Prop) : Res → Prop
 | .norm l [] h => ∃ vs, results rs l h = some vs ∧ Q (one vs) h
 | .ret l [] h => ∃ vs, results rs l h = some vs ∧ Q (one vs) h
 | _ => False
theorem gp_of {f n : Nat} {body : ACode} {rs : List ARes} {args : List AV} {Q : AV → AH → Prop} (ht : tab f = some (.mk n body rs)) (hn : args.length = n) (x : WC tab body (zAg args) [] h (onEnd rs Q)) : GP tab f args h Q := by
 obtain ⟨r, hr, hq⟩ := x
 obtain ⟨m, hm⟩ := hr.at
 have hm := hm m (Nat.le_refl _)
 have e : ∀ r, evC tab m body (zAg args) [] h = r → evF tab m f args h = (Res.rec (motive := fun _ => CR) (fun loc d h => runD tab (evC tab m) (zA3 rs loc) d Mode.ret h) (fun _ _ _ _ => CR.fail [88]) (fun loc d h => runD tab (evC tab m) (zA3 rs loc) d Mode.ret h)
   (fun v loc d h => runD tab (evC tab m) (zA3 rs loc) d (Mode.pan v false) h) (fun l => CR.fail (f :: l)) r) := by
  intro r hr
  subst hr
  show obind (tab f) _ _ = _
  rw [ht]
  show bi (Nat.beq n (llen args)) _ _ = _
  rw [zBt, hn, Nat.beq_refl]
  rfl
 have e := e r hm
 cases r with
 | norm l d1 h1 =>
  cases d1 with
  | cons _ _ => exact hq.elim
  | nil =>
   obtain ⟨vs, h2, h3⟩ := hq
   refine ⟨one vs, h1, ⟨trivial, m, ?_⟩, h3⟩
   rw [e]
   show obind (results rs l h1) _ _ = _
   rw [h2]; rfl
 | ret l d1 h1 =>
  cases d1 with
  | cons _ _ => exact hq.elim
  | nil =>
   obtain ⟨vs, h2, h3⟩ := hq
   refine ⟨one vs, h1, ⟨trivial, m, ?_⟩, h3⟩
   rw [e]
   show obind (results rs l h1) _ _ = _
   rw [h2]; rfl
 | exit id l d1 h1 => exact hq.elim
 | pan v l d1 h1 => exact hq.elim
 | fail l => exact hq.elim
end
theorem evl {loc : T AV} {tmp : List AV} {k : Nat} : ev loc tmp (.l k) = (T.get loc k).getD .bad := by
 show obind (T.get loc k) AV.bad (fun v => v) = _
 cases T.get loc k <;> rfl
theorem zLl {v : AV} {l : List AV} : nth (v :: l) 0 = v := rfl
theorem zLm {v : AV} {l : List AV} {i : Nat} : nth (v :: l) (i + 1) = nth l i := rfl
theorem evs_nil {loc : T AV} {tmp : List AV} : evs loc tmp [] = [] := rfl
theorem evs_cons {loc : T AV} {tmp : List AV} {x : Opd} {l : List Opd} : evs loc tmp (x :: l) = ev loc tmp x :: evs loc tmp l := rfl
theorem zG7 {v : AV} {loc : T AV} : zAo none v loc = loc := rfl
theorem zCk {k : Nat} {v : AV} {loc : T AV} : zAo (some k) v loc = T.put (some v) loc k := rfl
theorem zBq {loc : T AV} {tmp : List AV} : zBh loc tmp none = some true := rfl
theorem guardB_some {loc : T AV} {tmp : List AV} {x : Opd} {want : Bool} {b : Bool} (hb : ev loc tmp x = .bool b) : zBh loc tmp (some (x, want)) = some (if want then b else !b) := by
 show AV.on Option.none (fun b => some (bi want b (bi b false true))) _ _ _ _ _ _ _ _ _ _ _ _ _ _ (ev loc tmp x) = _
 rw [hb]
 show some (bi want b (bi b false true)) = _
 cases want <;> cases b <;> rfl
theorem zI9 {loc : T AV} {tmp : List AV} {h : AH} : reads loc tmp h [] = true := rfl
theorem zAm {loc : T AV} {h : AH} : results [] loc h = some [] := rfl
theorem zAy {loc : T AV} {h : AH} {x : Opd} {rs : List ARes} {l : List AV} (hl : results rs loc h = some l) : results (.val x :: rs) loc h = some (ev loc [] x :: l) := by
 show obind (results rs loc h) Option.none _ = _
 rw [hl]; rfl
theorem zLi {v : AV} : one [v] = v := rfl
theorem zDq {v w : AV} {l : List AV} : one (v :: w :: l) = .tup (v :: w :: l) := rfl
section
variable {loc : T AV} {tmp : List AV} {h : AH}
theorem op_move {x : Opd} : evOp (.move x) loc tmp h = oMove (.c (ev loc tmp x)) .leaf [] h := rfl
theorem op_pick {c a b : Opd} : evOp (.pick c a b) loc tmp h = oPick (.c (ev loc tmp c)) (.c (ev loc tmp a)) (.c (ev loc tmp b)) .leaf [] h := rfl
theorem op_load {x : Opd} : evOp (.load x) loc tmp h = oLoad (.c (ev loc tmp x)) .leaf [] h := rfl
theorem op_loadN {n : Nat} {x : Opd} : evOp (.loadN n x) loc tmp h = oLoadN n (.c (ev loc tmp x)) .leaf [] h := rfl
theorem zLh {n : Nat} {a x : Opd} : evOp (.store n a x) loc tmp h = oStore n (.c (ev loc tmp a)) (.c (ev loc tmp x)) .leaf [] h := rfl
theorem op_nil {x : Opd} : evOp (.nilCheck x) loc tmp h = oNil (.c (ev loc tmp x)) .leaf [] h := rfl
theorem op_bin {o : ABin} {x y : Opd} : evOp (.bin o x y) loc tmp h = oBin o (.c (ev loc tmp x)) (.c (ev loc tmp y)) .leaf [] h := rfl
theorem op_eq {neg : Bool} {t : EqT} {x y : Opd} : evOp (.eq neg t x y) loc tmp h = oEq neg t (.c (ev loc tmp x)) (.c (ev loc tmp y)) .leaf [] h := rfl
theorem op_not {x : Opd} : evOp (.not x) loc tmp h = oNot (.c (ev loc tmp x)) .leaf [] h := rfl
theorem op_neg {x : Opd} : evOp (.neg x) loc tmp h = oNeg (.c (ev loc tmp x)) .leaf [] h := rfl
theorem op_convI {k : IntKind} {x : Opd} : evOp (.convI k x) loc tmp h = oConvI k (.c (ev loc tmp x)) .leaf [] h := rfl
theorem op_len {t : LenT} {x : Opd} : evOp (.len t x) loc tmp h = oLen t (.c (ev loc tmp x)) .leaf [] h := by cases t <;> rfl
theorem op_idxAddr {es : Nat} {x i : Opd} : evOp (.idxAddr es x i) loc tmp h = zIu es (.c (ev loc tmp x)) (.c (ev loc tmp i)) .leaf [] h := rfl
theorem op_fieldAddr {o : Nat} {x : Opd} : evOp (.fieldAddr o x) loc tmp h = zGu o (.c (ev loc tmp x)) .leaf [] h := rfl
theorem op_field {o n : Nat} {ag : Bool} {x : Opd} : evOp (.field o n ag x) loc tmp h = zB6 o n ag (.c (ev loc tmp x)) .leaf [] h := rfl
theorem op_extract {i : Nat} {x : Opd} : evOp (.extract i x) loc tmp h = zDr i (.c (ev loc tmp x)) .leaf [] h := rfl
theorem op_callF {f : Nat} {l : List Opd} : evOp (.callF f l) loc tmp h = .enter f (evs loc tmp l) := rfl
theorem zGt {z : List AV} : evOp (.alloc z) loc tmp h = .val (.ptr h.next 0) (h.add (.cells (zAc z) (llen z) none false)) := by
 show AH.new h (AObj.cells (zAc z) (llen z) none false) (fun id h => OR.val (AV.ptr id 0) h) = _
 rw [AH.new_eq]
def AV.mv : AV → Bool
 | .bad | .tup _ => false
 | _ => true
theorem zE8 {v : AV} (hv : v.mv = true) : oMove (.c v) .leaf [] h = .val v h := by
 cases v <;> first | rfl | cases hv
theorem move_int {k : IntKind} {n : Int} : oMove (.c (.int k n)) .leaf [] h = .val (.int k n) h := rfl
theorem move_bool {q : Bool} : oMove (.c (.bool q)) .leaf [] h = .val (.bool q) h := rfl
theorem move_ptr {n m : Nat} : oMove (.c (.ptr n m)) .leaf [] h = .val (.ptr n m) h := rfl
theorem move_nilp : oMove (.c .nilp) .leaf [] h = .val .nilp h := rfl
theorem move_sl {i o l : Nat} {c : ACap} : oMove (.c (.sl i o l c)) .leaf [] h = .val (.sl i o l c) h := rfl
theorem move_nils : oMove (.c .nils) .leaf [] h = .val .nils h := rfl
theorem move_agg {l : List AV} : oMove (.c (.agg l)) .leaf [] h = .val (.agg l) h := rfl
theorem bin_lss {k : IntKind} {m n : Int} : oBin .lss (.c (.int k m)) (.c (.int k n)) .leaf [] h = .val (.bool (decide (m < n))) h := by
 show bi (eqK k k) (Ev.bool (ltI m n) h) _ = _
 cases k <;> (show Ev.bool (ltI m n) h = _; rw [zC5, zIj])
theorem bin_leq {k : IntKind} {m n : Int} : oBin .leq (.c (.int k m)) (.c (.int k n)) .leaf [] h = .val (.bool (decide (m ≤ n))) h := by
 show bi (eqK k k) (Ev.bool (leI m n) h) _ = _
 cases k <;> (show Ev.bool (leI m n) h = _; rw [zC5, leI_eq])
theorem bin_gtr {k : IntKind} {m n : Int} : oBin .gtr (.c (.int k m)) (.c (.int k n)) .leaf [] h = .val (.bool (decide (n < m))) h := by
 show bi (eqK k k) (Ev.bool (ltI n m) h) _ = _
 cases k <;> (show Ev.bool (ltI n m) h = _; rw [zC5, zIj])
theorem bin_geq {k : IntKind} {m n : Int} : oBin .geq (.c (.int k m)) (.c (.int k n)) .leaf [] h = .val (.bool (decide (n ≤ m))) h := by
 show bi (eqK k k) (Ev.bool (leI n m) h) _ = _
 cases k <;> (show Ev.bool (leI n m) h = _; rw [zC5, leI_eq])
theorem bin_add {k : IntKind} {m n : Int} : oBin .add (.c (.int k m)) (.c (.int k n)) .leaf [] h = .val (.int k (k.wrap (m + n))) h := by
 show bi (eqK k k) (intV k (m + n) h) _ = _
 cases k <;> (show intV _ (m + n) h = _; rw [zDo])
theorem bin_sub {k : IntKind} {m n : Int} : oBin .sub (.c (.int k m)) (.c (.int k n)) .leaf [] h = .val (.int k (k.wrap (m - n))) h := by
 show bi (eqK k k) (intV k (m - n) h) _ = _
 cases k <;> (show intV _ (m - n) h = _; rw [zDo])
theorem bin_mul {k : IntKind} {m n : Int} : oBin .mul (.c (.int k m)) (.c (.int k n)) .leaf [] h = .val (.int k (k.wrap (m * n))) h := by
 show bi (eqK k k) (intV k (m * n) h) _ = _
 cases k <;> (show intV _ (m * n) h = _; rw [zDo])
theorem eq_int {neg : Bool} {k : IntKind} {m n : Int} : oEq neg .num (.c (.int k m)) (.c (.int k n)) .leaf [] h = .val (.bool (if neg then !decide (m = n) else decide (m = n))) h := by
 show obind (bi (eqK k k) (some (eqI m n)) none) _ _ = _
 cases k <;> (show Ev.bool (bi neg (bi (eqI m n) false true) (eqI m n)) h = _; rw [zC5, zF0]; cases neg <;> cases decide (m = n) <;> rfl)
theorem eq_str {neg : Bool} {l s l' s' : Nat} : oEq neg .num (.c (.str l s)) (.c (.str l' s')) .leaf [] h = .val (.bool (if neg then !decide (l = l' ∧ s = s') else decide (l = l' ∧ s = s'))) h := by
 show Ev.bool (bi neg (bi (bi (Nat.beq l l') (Nat.beq s s') false) false true) (bi (Nat.beq l l') (Nat.beq s s') false)) h = _
 have : bi (Nat.beq l l') (Nat.beq s s') false = decide (l = l' ∧ s = s') := by
  rw [bi_eq]
  by_cases h1 : l = l'
  ·subst h1; rw [if_pos (Nat.beq_refl _)]
   by_cases h2 : s = s'
   ·subst h2; simp
   ·have : Nat.beq s s' = false := by cases hb : Nat.beq s s' with
     | false => rfl
     | true => exact absurd (Nat.eq_of_beq_eq_true hb) h2
    rw [this]; simp [h2]
  ·have : Nat.beq l l' = false := by cases hb : Nat.beq l l' with
    | false => rfl
    | true => exact absurd (Nat.eq_of_beq_eq_true hb) h1
   rw [this]; simp [h1]
 rw [this, zC5]
 cases neg <;> cases decide (l = l' ∧ s = s') <;> rfl
theorem eq_bool {neg p q : Bool} : oEq neg .bool (.c (.bool p)) (.c (.bool q)) .leaf [] h = .val (.bool (if neg then !decide (p = q) else decide (p = q))) h := by
 cases neg <;> cases p <;> cases q <;> rfl
theorem not_bool {q : Bool} : oNot (.c (.bool q)) .leaf [] h = .val (.bool (!q)) h := by cases q <;> rfl
theorem zIk {i o l : Nat} {c : ACap} : oLen .sl (.c (.sl i o l c)) .leaf [] h = .val (.int .i64 l) h := by
 show natV l h = _
 rw [zDm]
theorem len_nils : oLen .sl (.c .nils) .leaf [] h = .val (.int .i64 ((0 : Nat) : Int)) h := rfl
theorem len_str {l b : Nat} : oLen .str (.c (.str l b)) .leaf [] h = .val (.int .i64 l) h := by
 show natV l h = _
 rw [zDm]
theorem idx_sl {es id o l i : Nat} {c : ACap} {k : IntKind} (hi : i < l) : zIu es (.c (.sl id o l c)) (.c (.int k (i : Int))) .leaf [] h = .val (.ptr id (o + i * es)) h := by
 show bi (Nat.ble (Nat.succ i) l) (fN (Nat.add o (Nat.mul i es)) fun o => OR.val (AV.ptr id o) h) _ = _
 rw [bi_eq, if_pos (Nat.ble_eq.mpr hi), fN_eq]
 rfl
theorem zLt {o id p : Nat} : zGu o (.c (.ptr id p)) .leaf [] h = .val (.ptr id (p + o)) h := by
 show fN (Nat.add p o) (fun o => OR.val (AV.ptr id o) h) = _
 rw [fN_eq]; rfl
theorem loadL_zero {c : T AV} {o : Nat} : loadL c 0 o = some [] := rfl
theorem zEm {c : T AV} {n o : Nat} {v : AV} {l : List AV} (h1 : c.get o = some v) (h2 : loadL c n (o + 1) = some l) : loadL c (n + 1) o = some (v :: l) := by
 show obind (T.get c o) none (fun v => obind (loadL c n (o + 1)) none fun l => some (v :: l)) = _
 rw [h1]; show obind (loadL c n (o + 1)) none _ = _; rw [h2]; rfl
end
end Go.Ev
namespace Go.Ev
open Go
section
variable {loc : T AV} {tmp : List AV} {h : AH}
noncomputable def gv (v : AV) (want : Bool) : Option Bool := zBh .leaf [] (some (.c v, want))
theorem gb_any {x : Opd} {want : Bool} : zBh loc tmp (some (x, want)) = gv (ev loc tmp x) want := rfl
theorem gb_bool {b want : Bool} : gv (.bool b) want = some (if want then b else !b) := guardB_some rfl
theorem pick_bool {q : Bool} {a b : AV} : oPick (.c (.bool q)) (.c a) (.c b) .leaf [] h = if q then oMove (.c a) .leaf [] h else oMove (.c b) .leaf [] h := by cases q <;> rfl
theorem op_build {z : List AV} {ps : List Part} : evOp (.build z ps) loc tmp h = obind (fill loc tmp ps z) (F 15) fun l => OR.val (AV.agg l) h := by
 rw [← zGw]; rfl
theorem fill_nil {z : List AV} : fill loc tmp [] z = some z := rfl
theorem zDw {c : T AV} {s : Nat} {p : Option Nat} {r : Bool} {k : T AV → Nat → Option Nat → Bool → OR} : zBx (some (.cells c s p r)) k = k c s p r := rfl
theorem zEl {α β : Type} {a : α} {d : β} {k : α → β} : obind (some a) d k = k a := rfl
theorem obind_none {α β : Type} {d : β} {k : α → β} : obind (none : Option α) d k = d := rfl
theorem zGn {β : Type} {x y : β} : bi true x y = x := rfl
theorem zDh {β : Type} {x y : β} : bi false x y = y := rfl
theorem AH.add_mem {o : AObj} : (h.add o).mem = T.put (some o) h.mem h.next := rfl
theorem AH.set_mem {id : Nat} {o : AObj} : (h.set id o).mem = T.put (some o) h.mem id := by rw [AH.set_eq]
theorem AH.get_set {id : Nat} {o : AObj} : (h.set id o).mem.get id = some o := by rw [AH.set_eq]; exact T.get_put_self _ _ _
theorem AH.set_next {id : Nat} {o : AObj} : (h.set id o).next = h.next := by rw [AH.set_eq]
theorem load_cells {id o : Nat} : oLoad (.c (.ptr id o)) .leaf [] h = zBx (h.mem.get id) fun c _ _ _ => obind (T.get c o) (F 17) fun v => OR.val v h := by
 rw [← AH.get_eq]; rfl
theorem loadN_cells {n id o : Nat} : oLoadN n (.c (.ptr id o)) .leaf [] h = zBx (h.mem.get id) fun c _ _ _ => obind (loadL c n o) (F 18) fun l => OR.val (AV.agg l) h := by
 rw [← AH.get_eq]; rfl
theorem zG5 {n id o : Nat} {x : AV} : oStore n (.c (.ptr id o)) (.c x) .leaf [] h = zBx (h.mem.get id) fun c s p r => bi r (F 19) (obind (cellsOf x) (F 21) fun vs => bi (Nat.beq (llen vs) n) (obind (zCh vs c o) (F 20) fun c' => OR.val (AV.tup []) (h.set id (AObj.cells c' s p r))) (F 21)) := by
 rw [← AH.get_eq]; rfl
theorem zJ0 {l : List AV} : cellsOf (.agg l) = some l := rfl
theorem cells_int {k : IntKind} {n : Int} : cellsOf (.int k n) = some [.int k n] := rfl
theorem zAe {c : T AV} {n o : Nat} : loadL c (n + 1) o = obind (c.get o) none fun v => obind (loadL c n (o + 1)) none fun l => some (v :: l) := rfl
theorem zKa {c : T AV} {o : Nat} : zCh [] c o = some c := rfl
theorem zEq {v : AV} {l : List AV} {c : T AV} {o : Nat} : zCh (v :: l) c o = obind (c.get o) none fun _ => zCh l (T.put (some v) c o) (o + 1) := rfl
theorem zLo : llen [] = 0 := rfl
theorem zJk {v : AV} {l : List AV} : llen (v :: l) = llen l + 1 := rfl
theorem zJ3 {m n : Nat} : Nat.beq m n = decide (m = n) := by
 by_cases h : m = n
 ·subst h; rw [Nat.beq_refl]; simp
 ·cases hb : Nat.beq m n with
  | false => simp [h]
  | true => exact absurd (Nat.eq_of_beq_eq_true hb) h
theorem zAa {K : T AV → List AV → AH → Prop} {Q : Res → Prop} {l : T AV} {d : List AV} : zE2 K Q (.norm l d h) = K l d h := rfl
theorem zAh {K : T AV → List AV → AH → Prop} {Q : Res → Prop} {l : T AV} {d : List AV} : zE2 K Q (.ret l d h) = Q (.ret l d h) := rfl
theorem zBd {K : T AV → List AV → AH → Prop} {Q : Res → Prop} {l : T AV} {d : List AV} {id : Nat} : zE2 K Q (.exit id l d h) = Q (.exit id l d h) := rfl
theorem zAi {id : Nat} {l : T AV} {d : List AV} : zHd id (.norm l d h) = .norm l d h := rfl
theorem zAf {id : Nat} {l : T AV} {d : List AV} : zHd id (.ret l d h) = .ret l d h := rfl
theorem zBa {id id' : Nat} {l : T AV} {d : List AV} : zHd id (.exit id' l d h) = if id = id' then .norm l d h else .exit id' l d h := rfl
theorem res_cellN {n : Nat} {x : Opd} {id o : Nat} {l : List AV} (hx : ev loc [] x = .ptr id o) (hl : zBx (h.mem.get id) (fun c _ _ _ => obind (loadL c n o) (F 18) fun l => OR.val (AV.agg l) h) = .val (.agg l) h) : results [.cellN n x] loc h = some [.agg l] := by
 show AV.on Option.none (fun _ => Option.none) (fun _ _ => Option.none) (fun _ _ => Option.none) (fun id off => obind (AH.get h id) Option.none fun o => AObj.rec (motive := fun _ => Option (List AV)) (fun c _ _ _ => obind (loadL c n off) Option.none fun v => some [AV.agg v]) (fun _ _ => Option.none) (fun _ _ _ _ => Option.none) o) Option.none (fun _ _ _ _ => Option.none) Option.none (fun _ => Option.none) Option.none (fun _ _ _ => Option.none) Option.none (fun _ _ => Option.none) Option.none (fun _ => Option.none) (fun _ => Option.none) (ev loc [] x) = _
 rw [hx]
 show obind (AH.get h id) Option.none _ = _
 rw [AH.get_eq]
 cases hg : h.mem.get id with
 | none => rw [hg] at hl; cases hl
 | some ob =>
  rw [hg] at hl
  cases ob with
  | cells c s p r =>
   show obind (loadL c n o) Option.none _ = _
   have hl : obind (loadL c n o) (F 18) (fun l => OR.val (AV.agg l) h) = .val (.agg l) h := hl
   cases hll : loadL c n o with
   | none => rw [hll] at hl; cases hl
   | some l' => rw [hll] at hl; injection hl with hl _; injection hl with hl; subst hl; rfl
  | _ => cases hl
section
variable {tab : Nat → Option AFunc}
def stepO (tab : Nat → Option AFunc) (whole : List AOper) (loc0 : T AV) (l : List AOper) (out : Option Nat) (re : List ARe) (loc : T AV) (tmp d : List AV) (h : AH) (Q : Res → Prop) : OR → Prop
 | .val v h1 => reads loc tmp h1 re = true ∧ PO tab whole loc0 l (zAo out v loc) (v :: tmp) d h1 Q
 | .enter f args => GP tab f args h fun v h1 => reads loc tmp h1 re = true ∧ PO tab whole loc0 l (zAo out v loc) (v :: tmp) d h1 Q
 | .pan v => Q (.pan v (forget whole loc0) d h)
 | .dfr v => PO tab whole loc0 l (zAo out (.tup []) loc) (.tup [] :: tmp) (v :: d) h Q
 | .fail _ => False
def guardO (tab : Nat → Option AFunc) (whole : List AOper) (loc0 : T AV) (l : List AOper) (op : AOp) (out : Option Nat) (re : List ARe) (loc : T AV) (tmp d : List AV) (h : AH) (Q : Res → Prop) : Option Bool → Prop
 | none => False
 | some false => PO tab whole loc0 l (zAo out (.tup []) loc) (.tup [] :: tmp) d h Q
 | some true => stepO tab whole loc0 l out re loc tmp d h Q (evOp op loc tmp h)
variable {whole l : List AOper} {loc0 : T AV} {op : AOp} {g : Option (Opd × Bool)} {out : Option Nat} {re : List ARe} {d : List AV} {Q : Res → Prop}
theorem PO_nil : PO tab whole loc0 [] loc tmp d h Q = Q (.norm loc d h) := rfl
theorem PO_cons : PO tab whole loc0 (⟨op, g, out, re⟩ :: l) loc tmp d h Q = guardO tab whole loc0 l op out re loc tmp d h Q (zBh loc tmp g) := by
 rw [PO]
 cases zBh loc tmp g with
 | none => rfl
 | some q =>
  cases q with
  | false => simp [guardO]
  | true => simp only [guardO]; cases evOp op loc tmp h <;> simp [stepO]
theorem guardO_true : guardO tab whole loc0 l op out re loc tmp d h Q (some true) = stepO tab whole loc0 l out re loc tmp d h Q (evOp op loc tmp h) := rfl
end
theorem zG0 {tab : Nat → Option AFunc} {a b : ACode} {d : List AV} {Q : Res → Prop} (M : T AV → List AV → AH → Prop) (x : WC tab a loc d h (zE2 M Q)) (y : ∀ l d h, M l d h → WC tab b l d h Q) : WC tab (.seq a b) loc d h Q := by
 refine zAd (x.mono fun r hr => ?_)
 cases r <;> first | exact y _ _ _ hr | exact hr
theorem same_int {k : IntKind} {n : Int} : same (.int k n) (.int k n) = true := by
 show bi (eqK k k) (eqI n n) false = true
 rw [zF0]
 cases k <;> exact decide_eq_true rfl
theorem same_agg_nil : same (.agg []) (.agg []) = true := rfl
theorem zLa {x y : AV} {xs ys : List AV} : same (.agg (x :: xs)) (.agg (y :: ys)) = bi (same x y) (same (.agg xs) (.agg ys)) false := rfl
theorem eq_agg {neg : Bool} {ks : List SK} {a b : List AV} : oEq neg (.agg ks) (.c (.agg a)) (.c (.agg b)) .leaf [] h = obind (eqL ks a b) (F 29) fun q => OR.val (.bool (if neg then !q else q)) h := by
 show obind (eqL ks a b) (F 29) (fun q => Ev.bool (bi neg (bi q false true) q) h) = _
 cases eqL ks a b with
 | none => rfl
 | some q => cases neg <;> cases q <;> rfl
theorem eqLz : eqL [] [] [] = some true := rfl
theorem eqLs {k : SK} {ks : List SK} {x y : AV} {xs ys : List AV} : eqL (k :: ks) (x :: xs) (y :: ys) = obind (eqS k x y) none fun q => bi q (eqL ks xs ys) (obind (eqL ks xs ys) none fun _ => some false) := rfl
theorem eqS_int {k : IntKind} {m n : Int} : eqS .int (.int k m) (.int k n) = some (decide (m = n)) := by
 show bi (eqK k k) (some (eqI m n)) none = _
 rw [zF0]
 cases k <;> rfl
theorem eqS_bool {p q : Bool} : eqS .bool (.bool p) (.bool q) = some (decide (p = q)) := by cases p <;> cases q <;> rfl
noncomputable def yesF : AFunc := knownF 0 [([], .bool true)]
theorem gp_yes {tab : Nat → Option AFunc} {f : Nat} {Q : AV → AH → Prop} (ht : tab f = some yesF) (q : Q (.bool true) h) : GP tab f [] h Q := by
 refine gp_of ht rfl (wc_ops ?_)
 rw [PO_cons, zBq, guardO_true]
 show stepO tab _ _ [] (some 0) [] _ [] [] h _ (OR.val (.bool true) h)
 refine ⟨rfl, ?_⟩
 rw [PO_nil]
 refine ⟨_, zAy zAm, ?_⟩
 rw [zLi, evl, zCk, T.get_put_self]
 exact q
structure More (h h' : AH) : Prop where
 next : h.next ≤ h'.next
 keep : ∀ id, id < h.next → h'.mem.get id = h.mem.get id
theorem More.refl (h : AH) : More h h := ⟨Nat.le_refl _, fun _ _ => rfl⟩
theorem More.trans {a b c : AH} (x : More a b) (y : More b c) : More a c := ⟨Nat.le_trans x.next y.next, fun id hi => by rw [y.keep id (Nat.lt_of_lt_of_le hi x.next), x.keep id hi]⟩
theorem More.add (h : AH) (o : AObj) : More h (h.add o) := ⟨Nat.le_succ _, fun id hi => by rw [AH.add_mem, T.get_put_ne _ _ _ _ (by omega)]⟩
theorem More.set {h h' : AH} (x : More h h') {id : Nat} (hi : h.next ≤ id) (o : AObj) : More h (h'.set id o) := ⟨by rw [AH.set_next]; exact x.next, fun i hj => by rw [AH.set_mem, T.get_put_ne _ _ _ _ (by omega), x.keep i hj]⟩
theorem zCc {tab : Nat → Option AFunc} {a : ACode} {Q : Res → Prop} (I : Nat → T AV → List AV → AH → Prop) (step : ∀ k loc d h, I k loc d h → WC tab a loc d h (zE2 (fun l d h => ∃ k', k' < k ∧ I k' l d h) Q)) :
  ∀ (k : Nat) {loc : T AV} {d : List AV} {h : AH}, I k loc d h → WC tab (.loop a) loc d h Q := by
 intro k
 induction k using Nat.strongRecOn with
 | ind k ih =>
  intro loc d h hI
  refine wc_loop ((step k loc d h hI).mono fun r hr => ?_)
  cases r with
  | norm l d1 h1 => obtain ⟨k', hk, hI'⟩ := hr; exact ih k' hk hI'
  | _ => exact hr
theorem zHf {n : Nat} (hn : n < 9223372036854775808) : IntKind.i64.wrap (n : Int) = n := zCl (by show Nat.ble n (nat_lit 9223372036854775807) = true; exact Nat.ble_eq.mpr (Nat.le_of_lt_succ hn))
end
end Go.Ev
namespace Go.Ev
open Go
section
variable {loc : T AV} {tmp : List AV} {h : AH}
theorem op_max {x y : Opd} : evOp (.max x y) loc tmp h = oMax (.c (ev loc tmp x)) (.c (ev loc tmp y)) .leaf [] h := rfl
theorem op_min {x y : Opd} : evOp (.min x y) loc tmp h = oMin (.c (ev loc tmp x)) (.c (ev loc tmp y)) .leaf [] h := rfl
theorem max_int {k k' : IntKind} {m n : Int} : oMax (.c (.int k m)) (.c (.int k' n)) .leaf [] h = .val (.int k (if m < n then n else m)) h := by
 show bi (ltI m n) (OR.val (AV.int k n) h) (OR.val (AV.int k m) h) = _
 rw [zIj, bi_eq]
 by_cases hc : m < n <;> simp [hc]
theorem min_int {k k' : IntKind} {m n : Int} : oMin (.c (.int k m)) (.c (.int k' n)) .leaf [] h = .val (.int k (if n < m then n else m)) h := by
 show bi (ltI n m) (OR.val (AV.int k n) h) (OR.val (AV.int k m) h) = _
 rw [zIj, bi_eq]
 by_cases hc : n < m <;> simp [hc]
theorem convI_int {k k' : IntKind} {n : Int} : oConvI k (.c (.int k' n)) .leaf [] h = .val (.int k (k.wrap n)) h := by
 show intV k n h = _
 rw [zDo]
theorem bin_rem {k : IntKind} {m n : Int} (hn : n ≠ 0) : oBin .rem (.c (.int k m)) (.c (.int k n)) .leaf [] h = .val (.int k (Int.tmod m n)) h := by
 have e : eqI n (Int.ofNat 0) = false := by rw [zF0]; exact decide_eq_false hn
 show bi (eqK k k) (bi (eqI n (Int.ofNat 0)) (F 22) (fI (Int.tmod m n) fun n => OR.val (AV.int k n) h)) _ = _
 rw [e]
 cases k <;> (show fI (Int.tmod m n) (fun n => OR.val (AV.int _ n) h) = _; rw [fI_eq])
theorem bin_quo {k : IntKind} {m n : Int} (hn : n ≠ 0) : oBin .quo (.c (.int k m)) (.c (.int k n)) .leaf [] h = .val (.int k (k.wrap (Int.tdiv m n))) h := by
 have e : eqI n (Int.ofNat 0) = false := by rw [zF0]; exact decide_eq_false hn
 show bi (eqK k k) (bi (eqI n (Int.ofNat 0)) (F 22) (intV k (Int.tdiv m n) h)) _ = _
 rw [e]
 cases k <;> (show intV _ (Int.tdiv m n) h = _; rw [zDo])
theorem nil_ptr {i o : Nat} : oNil (.c (.ptr i o)) .leaf [] h = .val (.ptr i o) h := rfl
theorem extract_tup {i : Nat} {l : List AV} (hv : (nth l i).mv = true) : zDr i (.c (.tup l)) .leaf [] h = .val (nth l i) h := by
 show AV.on (F 44) (fun _ => OR.val (nth l i) h) (fun _ _ => OR.val (nth l i) h) (fun _ _ => OR.val (nth l i) h) (fun _ _ => OR.val (nth l i) h) (OR.val (nth l i) h) (fun _ _ _ _ => OR.val (nth l i) h) (OR.val (nth l i) h) (fun _ => OR.val (nth l i) h) (OR.val (nth l i) h) (fun _ _ _ => OR.val (nth l i) h) (OR.val (nth l i) h) (fun _ _ => OR.val (nth l i) h) (OR.val (nth l i) h) (fun _ => OR.val (nth l i) h) _ (nth l i) = _
 cases e : nth l i <;> rw [e] at hv <;> first | rfl | cases hv
theorem op_box {x : Opd} : evOp (.box x) loc tmp h = oBox (.c (ev loc tmp x)) .leaf [] h := rfl
theorem box_agg {l : List AV} : oBox (.c (.agg l)) .leaf [] h = .val (.ptr h.next 0) (h.add (.cells (zAc l) (llen l) none false)) := by
 show AH.new h (AObj.cells (zAc l) (llen l) none false) (fun id h => OR.val (AV.ptr id 0) h) = _
 rw [AH.new_eq]
theorem op_bslice {z : List AV} {len : Nat} {ps : List Part} : evOp (.bslice z len ps) loc tmp h = obind (fill loc tmp ps z) (F 16) fun l => OR.val (.sl h.next 0 len (.known len)) (h.add (.cells (zAc l) (llen z) none false)) := by
 rw [← zGw]
 show obind (fillQ loc tmp ps z) (F 16) (fun l => AH.new h (AObj.cells (zAc l) (llen z) none false) fun id h => OR.val (AV.sl id 0 len (ACap.known len)) h) = _
 cases fillQ loc tmp ps z with
 | none => rfl
 | some l => simp only [zEl, AH.new_eq]
theorem fill_cons {off size : Nat} {x : Opd} {ps : List Part} {z : List AV} : fill loc tmp (⟨off, size, x⟩ :: ps) z = obind (cellsOf (ev loc tmp x)) none fun vs => bi (Nat.beq (llen vs) size) (bi (Nat.ble (Nat.add off size) (llen z)) (fill loc tmp ps (lapp (ltake off z) (lapp vs (ldrop (Nat.add off size) z)))) none) none := rfl
theorem ble_nat {m n : Nat} : Nat.ble m n = decide (m ≤ n) := by
 by_cases h : m ≤ n
 ·simp [h]
 ·cases hb : Nat.ble m n with
  | false => simp [h]
  | true => exact absurd (Nat.le_of_ble_eq_true hb) h
theorem add_nat {m n : Nat} : Nat.add m n = m + n := rfl
theorem cells_bool {b : Bool} : cellsOf (.bool b) = some [.bool b] := rfl
theorem cells_sl {i o l : Nat} {c : ACap} : cellsOf (.sl i o l c) = some [.sl i o l c] := rfl
theorem op_append {es b : Nat} {s x : Opd} : evOp (.append es b s x) loc tmp h = zDl none es b (.c (ev loc tmp s)) (.c (ev loc tmp x)) .leaf [] h := rfl
theorem src_sl {es id o len : Nat} {cap : ACap} {c : T AV} {s : Nat} {p : Option Nat} {r : Bool} {l : List AV} (hlen : len ≠ 0) (hg : h.mem.get id = some (.cells c s p r)) (hl : loadL c (len * es) o = some l) (k : Nat → List AV → OR) : zBz es (.sl id o len cap) h k = k len l := by
 show bi (Nat.beq len 0) _ (zBx (AH.get h id) (fun c _ _ _ => obind (loadL c (Nat.mul len es) o) (F 47) fun l => k len l)) = _
 have e : Nat.beq len 0 = false := by cases len with | zero => exact absurd rfl hlen | succ n => rfl
 rw [e, zDh, AH.get_eq, hg]
 show obind (loadL c (len * es) o) (F 47) (fun l => k len l) = _
 rw [hl]; rfl
theorem zJ5 {tg : Option Nat} {es b n : Nat} {x : AV} {new : List AV} (hs : ∀ k, zBz es x h k = k n new) (hn : n ≠ 0) (hr : room n b = true) :
  zDl tg es b (.c .nils) (.c x) .leaf [] h = .val (.sl h.next 0 n (.rest es)) (h.add (.cells (zAc new) (n * es) tg false)) := by
 show zBz es x h _ = _
 rw [hs]
 show bi (Nat.beq n 0) (OR.val AV.nils h) (bi (room n b) (AH.new h (AObj.cells (zAc new) (Nat.mul n es) tg false) fun id h => OR.val (AV.sl id 0 n (ACap.rest es)) h) (F 48)) = _
 have e : Nat.beq n 0 = false := by cases n with | zero => exact absurd rfl hn | succ n => rfl
 rw [e, hr]
 simp only [zGn, zDh, AH.new_eq]
 rfl
theorem append_own {tg : Option Nat} {es b n d len size : Nat} {x : AV} {new : List AV} {cd : T AV} {p : Option Nat} (hs : ∀ k, zBz es x h k = k n new) (hg : h.mem.get d = some (.cells cd size p false)) (hz : size = len * es) (he : 1 ≤ es) (hn : n ≠ 0) (hr : room (len + n) b = true) :
  zDl tg es b (.c (.sl d 0 len (.rest es))) (.c x) .leaf [] h = .val (.sl h.next 0 (len + n) (.rest es)) ((h.kill d).add (.cells (putL new cd (len * es)) ((len + n) * es) (tgm p tg) false)) := by
 show zBz es x h _ = _
 rw [hs]
 have e : Nat.beq n 0 = false := by cases n with | zero => exact absurd rfl hn | succ n => rfl
 show bi (Nat.beq n 0) _ (zBx (AH.get h d) _) = _
 rw [e, zDh, AH.get_eq, hg]
 simp only [zDw, fN_eq]
 have h1 : Nat.beq es es = true := Nat.beq_refl es
 have h2 : Nat.ble 1 es = true := Nat.ble_eq.mpr he
 have h3 : Nat.ble (Nat.add 0 (Nat.mul (Nat.add len n) es)) size = false := by
  cases hb : Nat.ble (Nat.add 0 (Nat.mul (Nat.add len n) es)) size with
  | false => rfl
  | true =>
   have := Nat.le_of_ble_eq_true hb
   have this : 0 + (len + n) * es ≤ size := this
   rw [Nat.add_mul] at this
   have : 1 * 1 ≤ n * es := Nat.mul_le_mul (by omega) he
   omega
 show bi (Nat.beq es es) (bi false (F 51) (bi (Nat.ble 1 es) (bi (Nat.ble (Nat.add 0 (Nat.mul (Nat.add len n) es)) size) _ (bi (room (Nat.add len n) b) (bi (Nat.beq 0 0) (AH.new (AH.kill h d) (AObj.cells (putL new cd (Nat.mul len es)) (Nat.mul (Nat.add len n) es) (tgm p tg) false) fun id h => OR.val (AV.sl id 0 (Nat.add len n) (ACap.rest es)) h) _) (F 52))) (F 52))) (F 52) = _
 rw [h1, h2, h3, show room (Nat.add len n) b = true from hr]
 simp only [zGn, zDh, AH.new_eq, AH.kill_next]
 rfl
theorem AH.kill_mem {d : Nat} : (h.kill d).mem = T.put none h.mem d := by rw [AH.kill_eq]
theorem More.kill {h h' : AH} (x : More h h') {id : Nat} (hi : h.next ≤ id) : More h (h'.kill id) := ⟨by rw [AH.kill_next]; exact x.next, fun i hj => by rw [AH.kill_mem, T.get_put_ne _ _ _ _ (by omega), x.keep i hj]⟩
theorem zJ4 {es b n d len size : Nat} {x : AV} {new : List AV} {cd : T AV} (hs : ∀ k, zBz es x h k = k n new) (hg : h.mem.get d = some (.cells cd size none false)) (hz : size = len * es) (he : 1 ≤ es) (hn : n ≠ 0) (hr : room (len + n) b = true) :
  zDl none es b (.c (.sl d 0 len (.rest es))) (.c x) .leaf [] h = .val (.sl h.next 0 (len + n) (.rest es)) ((h.kill d).add (.cells (putL new cd (len * es)) ((len + n) * es) none false)) := append_own (p := none) (tg := none) hs hg hz he hn hr
theorem zEj {n b : Nat} (hn : n ≤ 1000000) (hb : b ≤ 1000) : room n b = true := by
 unfold room
 rw [bi_eq, if_pos (Nat.ble_eq.mpr (Nat.le_trans hn (by decide)))]
 refine Nat.ble_eq.mpr ?_
 have : (2 * n + 512) * b ≤ 2000512 * 1000 := Nat.mul_le_mul (by omega) hb
 exact Nat.le_trans this (by decide)
theorem zIr {n : Int} (h1 : -9223372036854775808 ≤ n) (h2 : n < 9223372036854775808) : IntKind.i64.wrap n = n := by
 refine zCl ?_
 cases n with
 | ofNat n =>
  have h2 : n < 9223372036854775808 := by have h2 : (n : Int) < 9223372036854775808 := h2; omega
  show Nat.ble n (nat_lit 9223372036854775807) = true
  exact Nat.ble_eq.mpr (Nat.le_of_lt_succ h2)
 | negSucc n =>
  have h1 : n < 9223372036854775808 := by omega
  show Nat.ble n (nat_lit 9223372036854775807) = true
  exact Nat.ble_eq.mpr (Nat.le_of_lt_succ h1)
end
end Go.Ev
namespace Go.Ev
open Go
def sv (l : List UInt8) : AV := .str l.length (encB l)
section
variable {h : AH}
theorem move_sv {a : List UInt8} : oMove (.c (sv a)) .leaf [] h = .val (sv a) h := rfl
theorem cells_sv {a : List UInt8} : cellsOf (sv a) = some [sv a] := rfl
theorem len_sv {a : List UInt8} : oLen .str (.c (sv a)) .leaf [] h = .val (.int .i64 (a.length : Int)) h := len_str
theorem add_sv {a b : List UInt8} (hl : a.length + b.length ≤ 9223372036854775807) : oBin .add (.c (sv a)) (.c (sv b)) .leaf [] h = .val (sv (a ++ b)) h := by
 show bi (Nat.ble (a.length + b.length) 9223372036854775807) (fN (a.length + b.length) fun n => fN (Nat.add (encB a) (Nat.mul (encB b) (Nat.pow 256 a.length))) fun m => OR.val (AV.str n m) h) (F 27) = _
 rw [bi_eq, if_pos (Nat.ble_eq.mpr hl), fN_eq, fN_eq]
 unfold sv
 rw [zEv, List.length_append]
 rfl
theorem sv_iff {a b : List UInt8} : (a.length = b.length ∧ encB a = encB b) ↔ a = b := ⟨fun h => zLw h.1 h.2, fun h => by subst h; exact ⟨rfl, rfl⟩⟩
theorem eq_sv {neg : Bool} {a b : List UInt8} : oEq neg .num (.c (sv a)) (.c (sv b)) .leaf [] h = .val (.bool (if neg then !decide (a = b) else decide (a = b))) h := by
 have e : decide (a.length = b.length ∧ encB a = encB b) = decide (a = b) := by rw [decide_eq_decide]; exact sv_iff
 unfold sv
 rw [eq_str, e]
theorem eqS_sv {a b : List UInt8} : eqS .str (sv a) (sv b) = some (decide (a = b)) := by
 have e : decide (a.length = b.length ∧ encB a = encB b) = decide (a = b) := by rw [decide_eq_decide]; exact sv_iff
 show some (bi (Nat.beq a.length b.length) (Nat.beq (encB a) (encB b)) false) = _
 rw [← e, bi_eq, zJ3, zJ3]
 by_cases h1 : a.length = b.length <;> by_cases h2 : encB a = encB b <;> simp [h1, h2]
theorem idx_sv {a : List UInt8} {i : Nat} {k : IntKind} {b : UInt8} (hb : a[i]? = some b) : oIdxS (.c (sv a)) (.c (.int k (i : Int))) .leaf [] h = .val (.int .u8 (b.toNat : Int)) h := by
 have hi : i < a.length := by
  rcases Nat.lt_or_ge i a.length with h | h
  ·exact h
  ·rw [List.getElem?_eq_none h] at hb; cases hb
 have e : encB a / 256 ^ i % 256 = b.toNat := by
  rw [zHx, encB_head, List.getElem?_drop, Nat.add_zero, hb]; rfl
 show bi (Nat.ble (Nat.succ i) a.length) _ _ = _
 rw [bi_eq, if_pos (Nat.ble_eq.mpr hi)]
 simp only [fN_eq]
 rw [← e]
 rfl
theorem op_sliceS2 {loc : T AV} {tmp : List AV} {x lo hi : Opd} : evOp (.sliceS x (some lo) (some hi)) loc tmp h = zDe (.c (ev loc tmp x)) (some (.c (ev loc tmp lo))) (some (.c (ev loc tmp hi))) .leaf [] h := rfl
theorem op_sliceSl {loc : T AV} {tmp : List AV} {x lo : Opd} : evOp (.sliceS x (some lo) none) loc tmp h = zDe (.c (ev loc tmp x)) (some (.c (ev loc tmp lo))) none .leaf [] h := rfl
theorem op_sliceSh {loc : T AV} {tmp : List AV} {x hi : Opd} : evOp (.sliceS x none (some hi)) loc tmp h = zDe (.c (ev loc tmp x)) none (some (.c (ev loc tmp hi))) .leaf [] h := rfl
theorem zKb {a : List UInt8} {lo hi : Nat} (h1 : lo ≤ hi) (h2 : hi ≤ a.length) : AV.str (hi - lo) (encB a / 256 ^ lo % 256 ^ (hi - lo)) = sv ((a.drop lo).take (hi - lo)) := by
 unfold sv
 rw [zHx, encB_take _ _ (by rw [List.length_drop]; omega), List.length_take, List.length_drop, Nat.min_eq_left (by omega)]
theorem zHi {a : List UInt8} {lo : Nat} {k : IntKind} (h1 : lo ≤ a.length) : zDe (.c (sv a)) (some (.c (.int k (lo : Int)))) none .leaf [] h = .val (sv (a.drop lo)) h := by
 show bi (Nat.ble a.length a.length) (bi (Nat.ble lo a.length) (fN (Nat.sub a.length lo) fun n => fN (Nat.mod (Nat.div (encB a) (Nat.pow 256 lo)) (Nat.pow 256 n)) fun m => OR.val (AV.str n m) h) (F 33)) (F 33) = _
 rw [bi_eq, if_pos (Nat.ble_eq.mpr (Nat.le_refl _)), bi_eq, if_pos (Nat.ble_eq.mpr h1), fN_eq, fN_eq]
 have := zKb (a := a) h1 (Nat.le_refl _)
 rw [List.take_of_length_le (by rw [List.length_drop]; omega)] at this
 rw [← this]
 rfl
theorem zI6 {a : List UInt8} {hi : Nat} {k : IntKind} (h2 : hi ≤ a.length) : zDe (.c (sv a)) none (some (.c (.int k (hi : Int)))) .leaf [] h = .val (sv (a.take hi)) h := by
 show bi (Nat.ble hi a.length) (bi (Nat.ble 0 hi) (fN (Nat.sub hi 0) fun n => fN (Nat.mod (Nat.div (encB a) (Nat.pow 256 0)) (Nat.pow 256 n)) fun m => OR.val (AV.str n m) h) (F 33)) (F 33) = _
 rw [bi_eq, if_pos (Nat.ble_eq.mpr h2), bi_eq, if_pos (Nat.ble_eq.mpr (Nat.zero_le _)), fN_eq, fN_eq]
 have := zKb (a := a) (Nat.zero_le hi) h2
 rw [List.drop_zero, Nat.sub_zero] at this
 rw [← this]
 rfl
theorem op_idxS {loc : T AV} {tmp : List AV} {x i : Opd} : evOp (.idxS x i) loc tmp h = oIdxS (.c (ev loc tmp x)) (.c (ev loc tmp i)) .leaf [] h := rfl
end
end Go.Ev
namespace Go.Ev
open Go Go.RowKit
def tailG (sl sb : Nat) : List AV → Option (Nat × Nat)
 | [] => some (0, 0)
 | .str l b :: r => (tailG sl sb r).bind fun x => some (sl + l + x.1, sb + 256 ^ sl * (b + 256 ^ l * x.2))
 | _ => none
def joinL (sl sb : Nat) : List AV → Option (Nat × Nat)
 | .str l b :: r => (tailG sl sb r).bind fun x => some (l + x.1, b + 256 ^ l * x.2)
 | _ => none
noncomputable def joinG : List AV → AH → Option (AV × AH)
 | [.nils, .str _ _], h => some (.str 0 0, h)
 | [.sl id off len _, .str sl sb], h => bi (Nat.beq len 0) (some (.str 0 0, h)) (match h.mem.get id with
  | some (.cells c _ _ _) => (loadL c len off).bind fun l => (joinL sl sb l).bind fun x => bi (Nat.ble x.1 140737488355328) (bi (Nat.ble len 140737488355328) (some (.str x.1 x.2, h)) none) none
  | _ => none)
 | _, _ => none
theorem tailG_eq (sep : List UInt8) : ∀ (xs : List (List UInt8)), tailG sep.length (encB sep) (xs.map sv) = some ((Lib.joinTail sep xs).length, encB (Lib.joinTail sep xs))
 | [] => rfl
 | x :: xs => by
  show (tailG sep.length (encB sep) (xs.map sv)).bind _ = _
  rw [tailG_eq sep xs]
  have e : Lib.joinTail sep (x :: xs) = sep ++ (x ++ Lib.joinTail sep xs) := by simp [Lib.joinTail, List.append_assoc]
  rw [e]
  show some (_, _) = _
  simp only [List.length_append, zEv, Nat.add_assoc, Nat.mul_comm]
theorem joinL_eq (sep x : List UInt8) (xs : List (List UInt8)) : joinL sep.length (encB sep) ((x :: xs).map sv) = some ((Lib.join (x :: xs) sep).length, encB (Lib.join (x :: xs) sep)) := by
 show (tailG sep.length (encB sep) (xs.map sv)).bind _ = _
 rw [tailG_eq sep xs, Lib.join_cons]
 show some (_, _) = _
 simp only [List.length_append, zEv, Nat.mul_comm]
theorem join_sl {sep x : List UInt8} {xs : List (List UInt8)} {id off s : Nat} {cap : ACap} {h : AH} {c : T AV} {p : Option Nat} {r : Bool} (hg : h.mem.get id = some (.cells c s p r)) (hl : loadL c (x :: xs).length off = some ((x :: xs).map sv))
  (h1 : (Lib.join (x :: xs) sep).length ≤ 140737488355328) (h2 : (x :: xs).length ≤ 140737488355328) : joinG [.sl id off (x :: xs).length cap, sv sep] h = some (sv (Lib.join (x :: xs) sep), h) := by
 show bi (Nat.beq (x :: xs).length 0) (some (AV.str 0 0, h)) (match h.mem.get id with
  | some (.cells c _ _ _) => (loadL c (x :: xs).length off).bind fun l => (joinL sep.length (encB sep) l).bind fun x' => bi (Nat.ble x'.1 140737488355328) (bi (Nat.ble (x :: xs).length 140737488355328) (some (AV.str x'.1 x'.2, h)) none) none
  | _ => none) = _
 rw [hg]
 show (loadL c (x :: xs).length off).bind (fun l => (joinL sep.length (encB sep) l).bind fun x' => bi (Nat.ble x'.1 140737488355328) (bi (Nat.ble (x :: xs).length 140737488355328) (some (AV.str x'.1 x'.2, h)) none) none) = _
 rw [hl]
 show (joinL sep.length (encB sep) ((x :: xs).map sv)).bind (fun x' => bi (Nat.ble x'.1 140737488355328) (bi (Nat.ble (x :: xs).length 140737488355328) (some (AV.str x'.1 x'.2, h)) none) none) = _
 rw [joinL_eq]
 show bi (Nat.ble (Lib.join (x :: xs) sep).length 140737488355328) (bi (Nat.ble (x :: xs).length 140737488355328) (some (AV.str (Lib.join (x :: xs) sep).length (encB (Lib.join (x :: xs) sep)), h)) none) none = _
 rw [bi_eq, if_pos (Nat.ble_eq.mpr h1), bi_eq, if_pos (Nat.ble_eq.mpr h2)]
 rfl
theorem tail_strs {sl sb : Nat} : ∀ {l : List AV} {x : Nat × Nat}, tailG sl sb l = some x → ∀ a ∈ l, ∃ m b, a = .str m b
 | [], _, _ => fun a h => by cases h
 | .str m b :: r, x, h => by
  intro a ha
  cases ha with
  | head => exact ⟨m, b, rfl⟩
  | tail _ ha =>
   have h : (tailG sl sb r).bind _ = some x := h
   cases e : tailG sl sb r with
   | none => rw [e] at h; cases h
   | some y => exact tail_strs e a ha
 | .bad :: _, _, h => by cases h
 | .bool _ :: _, _, h => by cases h
 | .int _ _ :: _, _, h => by cases h
 | .ptr _ _ :: _, _, h => by cases h
 | .nilp :: _, _, h => by cases h
 | .sl _ _ _ _ :: _, _, h => by cases h
 | .nils :: _, _, h => by cases h
 | .mp _ :: _, _, h => by cases h
 | .nilm :: _, _, h => by cases h
 | .fn _ _ _ :: _, _, h => by cases h
 | .nilf :: _, _, h => by cases h
 | .ifc _ _ :: _, _, h => by cases h
 | .nili :: _, _, h => by cases h
 | .agg _ :: _, _, h => by cases h
 | .tup _ :: _, _, h => by cases h
theorem join_strs {sl sb : Nat} {l : List AV} {x : Nat × Nat} (h : joinL sl sb l = some x) : l ≠ [] ∧ ∀ a ∈ l, ∃ m b, a = .str m b := by
 cases l with
 | nil => cases h
 | cons v r =>
  cases v <;> first | (cases h; done) | skip
  rename_i m b
  have h : (tailG sl sb r).bind _ = some x := h
  cases e : tailG sl sb r with
  | none => rw [e] at h; cases h
  | some y =>
   refine ⟨by simp, fun a ha => ?_⟩
   cases ha with
   | head => exact ⟨m, b, rfl⟩
   | tail _ ha => exact tail_strs e a ha
variable [Glob] {P : Program} {f : Nat}
theorem nat_join (hc : zBn P f = true)
  (H0 : ∀ (a : Option Addr) (c : Nat) (sep : ByteArray) (w : World), Calls P f #[.slice a 0 c, .string sep] w fun e w' => e = .returned (.string ⟨#[]⟩) ∧ w' = w)
  (H : ∀ (bk o c : Nat) (xs : List ByteArray) (sep : ByteArray) (w : World), (∀ (j : Nat) x, xs[j]? = some x → w.cell? ⟨bk, o + j, none⟩ = some (.string x)) → bk < w.heap.size → xs.length ≤ 140737488355328 → xs.length ≤ c →
   (Lib.join (xs.map (·.data.toList)) sep.data.toList).length ≤ 140737488355328 →
   Calls P f #[.slice (some ⟨bk, o, none⟩) xs.length c, .string sep] w fun e w' => e = .returned (.string ⟨(Lib.join (xs.map (·.data.toList)) sep.data.toList).toArray⟩) ∧ Below w.heap.size w w') : NatOK P f joinG := by
 refine ⟨hc, fun args h v h' hg ρ w args' ha W => ?_⟩
 have none0 : ∀ (a : Option Addr) (c : Nat) (sep : ByteArray), Calls P f #[.slice a 0 c, .string sep] w (RC ρ h w (.ret (.str 0 0) h)) := fun a c sep =>
  Calls.mono (H0 a c sep w) fun e w' ⟨h1, h2⟩ => by
   subst h1; subst h2
   exact RC.below W (.str _ rfl rfl) (Below.refl _ _)
 match args, hg, ha with
 | [.nils, .str sl sb], hg, ha =>
  injection hg with hg; injection hg with g1 g2; subst g1; subst g2
  cases ha with
  | cons a1 a2 =>
   cases a2 with
   | cons a2 a3 =>
    cases a3; cases a1
    cases a2 with
    | str s e1 e2 => exact none0 _ _ _
 | [.sl id off len cap, .str sl sb], hg, ha =>
  have hg : bi (Nat.beq len 0) (some (AV.str 0 0, h)) (match h.mem.get id with
   | some (.cells c _ _ _) => (loadL c len off).bind fun l => (joinL sl sb l).bind fun x => bi (Nat.ble x.1 140737488355328) (bi (Nat.ble len 140737488355328) (some (.str x.1 x.2, h)) none) none
   | _ => none) = some (v, h') := hg
  cases ha with
  | cons a1 a2 =>
   cases a2 with
   | cons a2 a3 =>
    cases a3
    cases a2 with
    | str sep e1 e2 =>
     subst e1; subst e2
     by_cases hz : len = 0
     ·subst hz
      have hg : some (AV.str 0 0, h) = some (v, h') := hg
      injection hg with hg; injection hg with g1 g2; subst g1; subst g2
      cases a1 with
      | sl => exact none0 _ _ _
      | slz => exact none0 _ _ _
      | sle => exact none0 _ _ _
     ·have hb : Nat.beq len 0 = false := by cases len with | zero => exact absurd rfl hz | succ n => rfl
      rw [hb] at hg
      cases a1 with
      | slz => exact absurd rfl hz
      | sle => exact absurd rfl hz
      | sl r1 r2 r3 =>
       rename_i b o s p c
       subst r2
       cases ho : h.mem.get id with
       | none => rw [ho] at hg; cases hg
       | some ob =>
        rw [ho] at hg
        cases ob with
        | map => cases hg
        | iter => cases hg
        | cells cc size opn ro =>
         have hg : (loadL cc len off).bind (fun l => (joinL sep.data.toList.length (encB sep.data.toList) l).bind fun x => bi (Nat.ble x.1 140737488355328) (bi (Nat.ble len 140737488355328) (some (AV.str x.1 x.2, h)) none) none) = some (v, h') := hg
         cases hl : loadL cc len off with
         | none => rw [hl] at hg; cases hg
         | some l =>
          rw [hl] at hg
          have hg : (joinL sep.data.toList.length (encB sep.data.toList) l).bind (fun x => bi (Nat.ble x.1 140737488355328) (bi (Nat.ble len 140737488355328) (some (AV.str x.1 x.2, h)) none) none) = some (v, h') := hg
          cases hj : joinL sep.data.toList.length (encB sep.data.toList) l with
          | none => rw [hj] at hg; cases hg
          | some x =>
           rw [hj] at hg
           have hg : bi (Nat.ble x.1 140737488355328) (bi (Nat.ble len 140737488355328) (some (AV.str x.1 x.2, h)) none) none = some (v, h') := hg
           rw [bi_eq] at hg
           split at hg
           ·rename_i b1
            rw [bi_eq] at hg
            split at hg
            ·rename_i b2
             injection hg with hg; injection hg with g1 g2; subst g1; subst g2
             have b1 := Nat.le_of_ble_eq_true b1
             have b2 := Nat.le_of_ble_eq_true b2
             obtain ⟨hne, hstr⟩ := join_strs hj
             obtain ⟨hll, hat⟩ := zEn hl
             obtain ⟨y, hy, hyr⟩ := W.obj ho r1
             cases hyr with
             | cells c1 c2 c3 c4 c5 =>
              rename_i cs e fr
              have key : ∀ i, i < len → ∃ sx : ByteArray, cs[o + (off + i)]? = some (.string sx) ∧ l[i]? = some (sv sx.data.toList) := by
               intro i hi
               have hli : i < l.length := by omega
               obtain ⟨m, q, hm⟩ := hstr l[i] (List.getElem_mem hli)
               have hc := hat i hi
               rw [List.getElem?_eq_getElem hli, hm] at hc
               obtain ⟨_, _, vv, hv1, hv2⟩ := c3 (off + i) _ hc
               cases hv2 with
               | str sx e1 e2 => exact ⟨sx, hv1, by rw [List.getElem?_eq_getElem hli, hm, e1, e2]; rfl⟩
              obtain ⟨xs, hxl, hx⟩ : ∃ xs : List ByteArray, xs.length = len ∧ ∀ i (hi : i < xs.length), cs[o + (off + i)]? = some (.string xs[i]) ∧ l[i]? = some (sv xs[i].data.toList) := by
               clear hg b2 hl hj hat r3 hz hb
               have : ∀ n, n ≤ len → ∃ xs : List ByteArray, xs.length = n ∧ ∀ i (hi : i < xs.length), cs[o + (off + i)]? = some (.string xs[i]) ∧ l[i]? = some (sv xs[i].data.toList) := by
                intro n
                induction n with
                | zero => intro _; exact ⟨[], rfl, fun i hi => by cases hi⟩
                | succ n ih =>
                 intro hn
                 obtain ⟨xs, e, hx⟩ := ih (by omega)
                 obtain ⟨sx, k1, k2⟩ := key n (by omega)
                 refine ⟨xs ++ [sx], by simp [e], fun i hi => ?_⟩
                 by_cases hlt : i < xs.length
                 ·rw [List.getElem_append_left hlt]; exact hx i hlt
                 ·obtain rfl : i = n := by simp at hi; omega
                  rw [List.getElem_append_right (by omega)]
                  simpa [e] using ⟨k1, k2⟩
               exact this len (Nat.le_refl _)
              subst hxl
              have hle : l = (xs.map (·.data.toList)).map sv := by
               apply List.ext_getElem?
               intro i
               by_cases hi : i < xs.length
               ·rw [(hx i hi).2]; simp [List.getElem?_eq_getElem hi]
               ·rw [List.getElem?_eq_none (by omega), List.getElem?_eq_none (by simp; omega)]
              cases hxs : xs.map (·.data.toList) with
              | nil => rw [hxs] at hle; exact absurd hle hne
              | cons x0 xr =>
               rw [hle, hxs, joinL_eq] at hj
               injection hj with hj
               subst hj
               have b1 : (Lib.join (x0 :: xr) sep.data.toList).length ≤ 140737488355328 := b1
               have hcap : xs.length ≤ c := by cases r3 <;> assumption
               refine Calls.mono (H b (o + off) c xs sep w (fun j x hjx => ?_) (W.dom r1).2 b2 hcap (by rw [hxs]; exact b1)) fun e w' ⟨h1, h2⟩ => ?_
               ·have hj' : j < xs.length := by
                 rcases Nat.lt_or_ge j xs.length with h | h
                 ·exact h
                 ·rw [List.getElem?_eq_none h] at hjx; cases hjx
                rw [zHc hy (show cs[o + off + j]? = some (.string xs[j]) by rw [Nat.add_assoc]; exact (hx j hj').1)]
                rw [List.getElem?_eq_getElem hj'] at hjx
                injection hjx with hjx; rw [hjx]
               ·subst h1
                refine RC.below W (.str _ ?_ ?_) h2
                ·rw [hxs]
                ·rw [hxs]
            ·cases hg
           ·cases hg
end Go.Ev
namespace Go.Ev
open Go Go.RowKit
def strL : Nat → Nat → List UInt8
 | 0, _ => []
 | n + 1, b => UInt8.ofNat (b % 256) :: strL n (b / 256)
theorem zEy : ∀ (l : List UInt8), strL l.length (encB l) = l
 | [] => rfl
 | c :: l => by
  have h1 : (c.toNat + 256 * encB l) % 256 = c.toNat := by have := c.toNat_lt; omega
  have h2 : (c.toNat + 256 * encB l) / 256 = encB l := by have := c.toNat_lt; omega
  show UInt8.ofNat ((c.toNat + 256 * encB l) % 256) :: strL l.length ((c.toNat + 256 * encB l) / 256) = c :: l
  rw [h1, h2, zEy l, UInt8.ofNat_toNat]
def zFj (l cs : List UInt8) : Bool := l.all (fun x => cs.contains x) && cs.all (fun x => x.toNat < 128) && decide (l.length ≤ 1000000) && decide (cs.length ≤ 1000000)
noncomputable def trimG : List AV → AH → Option (AV × AH)
 | [.str n b, .str cn cb], h => bi (zFj (strL n b) (strL cn cb)) (some (.str 0 0, h)) none
 | _, _ => none
theorem trim_sv {l cs : List UInt8} {h : AH} (ht : zFj l cs = true) : trimG [sv l, sv cs] h = some (sv [], h) := by
 show bi (zFj (strL l.length (encB l)) (strL cs.length (encB cs))) (some (AV.str 0 0, h)) none = _
 rw [zEy, zEy, ht]; rfl
theorem zHy {α : Type} {p : α → Bool} : ∀ {l : List α}, (∀ x ∈ l, p x = true) → l.dropWhile p = []
 | [], _ => rfl
 | x :: l, h => by rw [List.dropWhile_cons_of_pos (h x (by simp))]; exact zHy fun y hy => h y (by simp [hy])
theorem trimAll_nil {l cs : List UInt8} (h : zFj l cs = true) : Lib.trimS l cs = [] := by
 simp only [zFj, Bool.and_eq_true, List.all_eq_true, decide_eq_true_eq] at h
 obtain ⟨⟨⟨h1, _⟩, _⟩, _⟩ := h
 unfold Lib.trimS Lib.trimRightS Lib.trimLeftS
 rw [zHy (l := l.reverse) (fun x hx => h1 x (by simpa using hx))]
 rfl
variable [Glob] {P : Program} {f : Nat}
theorem VR.of_str {ρ : Rho} {n b : Nat} {v : Value} (h : VR ρ (.str n b) v) : ∃ s : ByteArray, v = .string s ∧ n = s.data.toList.length ∧ b = encB s.data.toList := by
 cases h with | str s e1 e2 => exact ⟨s, rfl, e1, e2⟩
theorem VRs.one {ρ : Rho} {a : AV} {l : List Value} (h : VRs ρ [a] l) : ∃ v, l = [v] ∧ VR ρ a v := by
 cases h with | cons h1 h2 => cases h2; exact ⟨_, rfl, h1⟩
theorem VRs.two {ρ : Rho} {a b : AV} {l : List Value} (h : VRs ρ [a, b] l) : ∃ v u, l = [v, u] ∧ VR ρ a v ∧ VR ρ b u := by
 cases h with | cons h1 h2 => obtain ⟨u, rfl, h3⟩ := VRs.one h2; exact ⟨_, _, rfl, h1, h3⟩
theorem nat_trim (hc : zBn P f = true) (H : ∀ (s cs : ByteArray) (w : World), s.size ≤ 9223372036854775807 → cs.size < 4294967281 → (∀ (j : Nat) b, cs.data.toList[j]? = some b → b.toNat < 128) →
  Calls P f #[.string s, .string cs] w fun e w' => e = .returned (.string ⟨(Lib.trimS s.data.toList cs.data.toList).toArray⟩) ∧ Below w.heap.size w w') : NatOK P f trimG := by
 refine ⟨hc, fun args h v h' hg ρ w args' ha W => ?_⟩
 match args, hg, ha with
 | [.str n b, .str cn cb], hg, ha =>
  have hg : bi (zFj (strL n b) (strL cn cb)) (some (AV.str 0 0, h)) none = some (v, h') := hg
  obtain ⟨v1, v2, rfl, h1, h2⟩ := ha.two
  obtain ⟨s, rfl, rfl, rfl⟩ := h1.of_str
  obtain ⟨cs, rfl, rfl, rfl⟩ := h2.of_str
  rw [zEy, zEy, bi_eq] at hg
  split at hg
  ·rename_i ht
   injection hg with hg; injection hg with g1 g2; subst g1; subst g2
   have ht' := ht
   simp only [zFj, Bool.and_eq_true, List.all_eq_true, decide_eq_true_eq] at ht'
   obtain ⟨⟨⟨_, t2⟩, t3⟩, t4⟩ := ht'
   refine Calls.mono (H s cs w (by rw [Lib.size_eq]; omega) (by rw [Lib.size_eq]; omega) (fun j b hb => t2 b (List.mem_of_getElem? hb))) fun e w' ⟨h1, h2⟩ => ?_
   subst h1
   rw [trimAll_nil ht]
   exact RC.below W (.str _ rfl rfl) h2
  ·cases hg
noncomputable def atoiG (t : Nat) : List AV → AH → Option (AV × AH)
 | [.str n b], h => bi (Nat.ble n 281474976710656) (match Lib.atoiAll (strL n b) with
  | .ok v => some (.tup [.int .i64 v, .nili], h)
  | .range => some (.tup [.int .i64 (Lib.atoiSat (strL n b)), .ifc t .bad], h)
  | _ => none) none
 | _, _ => none
theorem atoi_ok {t : Nat} {l : List UInt8} {h : AH} {v : Int} (hl : l.length ≤ 281474976710656) (ha : Lib.atoiAll l = .ok v) : atoiG t [sv l] h = some (.tup [.int .i64 v, .nili], h) := by
 show bi (Nat.ble l.length 281474976710656) (match Lib.atoiAll (strL l.length (encB l)) with
  | .ok v => some (AV.tup [.int .i64 v, .nili], h)
  | .range => some (AV.tup [.int .i64 (Lib.atoiSat (strL l.length (encB l))), .ifc t .bad], h)
  | _ => none) none = _
 rw [bi_eq, if_pos (Nat.ble_eq.mpr hl), zEy, ha]
theorem atoi_range {t : Nat} {l : List UInt8} {h : AH} (hl : l.length ≤ 281474976710656) (ha : Lib.atoiAll l = .range) : atoiG t [sv l] h = some (.tup [.int .i64 (Lib.atoiSat l), .ifc t .bad], h) := by
 show bi (Nat.ble l.length 281474976710656) (match Lib.atoiAll (strL l.length (encB l)) with
  | .ok v => some (AV.tup [.int .i64 v, .nili], h)
  | .range => some (AV.tup [.int .i64 (Lib.atoiSat (strL l.length (encB l))), .ifc t .bad], h)
  | _ => none) none = _
 rw [bi_eq, if_pos (Nat.ble_eq.mpr hl), zEy, ha]
def zK1 (w : World) : Prop := ∀ k, k < Glob.n → k < w.heap.size ∧ w.heap[k]? = Glob.g k
theorem WR.agrees {ρ : Rho} {h : AH} {w : World} (W : WR ρ h w) : zK1 w := fun k hk => ⟨(W.gl k hk).1, (W.gl k hk).2.1⟩
theorem nat_atoi {t : Nat} (hc : zBn P f = true)
  (H : ∀ (s : ByteArray) (w : World) (v : Int), s.size ≤ 281474976710656 → Lib.atoiAll s.data.toList = .ok v → Calls P f #[.string s] w fun e w' => e = .returned (.tuple #[.int .i64 v, .nilIface]) ∧ Below w.heap.size w w')
  (H2 : ∀ (s : ByteArray) (w : World), zK1 w → s.size ≤ 281474976710656 → Lib.atoiAll s.data.toList = .range → Calls P f #[.string s] w fun e w' => ∃ p, e = .returned (.tuple #[.int .i64 (Lib.atoiSat s.data.toList), .iface t p]) ∧ Below w.heap.size w w') : NatOK P f (atoiG t) := by
 refine ⟨hc, fun args h v h' hg ρ w args' ha W => ?_⟩
 match args, hg, ha with
 | [.str n b], hg, ha =>
  have hg : bi (Nat.ble n 281474976710656) (match Lib.atoiAll (strL n b) with
   | .ok v => some (AV.tup [.int .i64 v, .nili], h)
   | .range => some (AV.tup [.int .i64 (Lib.atoiSat (strL n b)), .ifc t .bad], h)
   | _ => none) none = some (v, h') := hg
  obtain ⟨v1, rfl, h1⟩ := ha.one
  obtain ⟨s, rfl, rfl, rfl⟩ := h1.of_str
  rw [zEy, bi_eq] at hg
  split at hg
  ·rename_i hl
   have hl := Nat.le_of_ble_eq_true hl
   cases ha : Lib.atoiAll s.data.toList with
   | ok z =>
    rw [ha] at hg
    have hg : some (AV.tup [.int .i64 z, .nili], h) = some (v, h') := hg
    injection hg with hg; injection hg with g1 g2; subst g1; subst g2
    refine Calls.mono (H s w z (by rw [Lib.size_eq]; exact hl) ha) fun e w' ⟨h1, h2⟩ => ?_
    subst h1
    exact RC.below W (.tup (.cons (.int _ _) (.cons .nili .nil)) rfl) h2
   | range =>
    rw [ha] at hg
    have hg : some (AV.tup [.int .i64 (Lib.atoiSat s.data.toList), .ifc t .bad], h) = some (v, h') := hg
    injection hg with hg; injection hg with g1 g2; subst g1; subst g2
    refine Calls.mono (H2 s w W.agrees (by rw [Lib.size_eq]; exact hl) ha) fun e w' ⟨p, h1, h2⟩ => ?_
    subst h1
    exact RC.below W (.tup (.cons (.int _ _) (.cons (.ifc (.bad _)) .nil)) rfl) h2
   | _ => rw [ha] at hg; cases hg
  ·cases hg
def digsF : Nat → Nat → List UInt8
 | 0, _ => []
 | k + 1, u => if u < 10 then [UInt8.ofNat (48 + u)] else digsF k (u / 10) ++ [UInt8.ofNat (48 + u % 10)]
theorem zLx : ∀ (k u : Nat), u < 10 ^ (k + 1) → digsF (k + 1) u = Lib.decDigits u
 | 0, u, h => by
  rw [Lib.decDigits, dif_pos (by simpa using h)]
  simp [digsF, show u < 10 by simpa using h]
 | k + 1, u, h => by
  rw [Lib.decDigits]
  show (if u < 10 then _ else digsF (k + 1) (u / 10) ++ _) = _
  split
  ·rfl
  ·rw [zLx k (u / 10) (by rw [Nat.div_lt_iff_lt_mul (by decide), ← Nat.pow_succ]; exact h)]
def itoaL : Int → List UInt8
 | .ofNat n => digsF 20 n
 | .negSucc n => 45 :: digsF 20 (n + 1)
theorem itoaL_eq {z : Int} (h1 : -9223372036854775808 ≤ z) (h2 : z ≤ 9223372036854775807) : itoaL z = Lib.itoa z := by
 cases z with
 | ofNat n =>
  have h2 : n ≤ 9223372036854775807 := by have h2 : (n : Int) ≤ 9223372036854775807 := h2; omega
  show digsF 20 n = Lib.itoa (n : Int)
  rw [zLx 19 n (by omega)]
  unfold Lib.itoa
  rw [if_neg (by omega)]; rfl
 | negSucc n =>
  show 45 :: digsF 20 (n + 1) = _
  rw [zLx 19 (n + 1) (by omega)]
  unfold Lib.itoa
  rw [if_pos (by omega)]; rfl
noncomputable def itoaG : List AV → AH → Option (AV × AH)
 | [.int .i64 n], h => bi (zB3 .i64 n) (some (sv (itoaL n), h)) none
 | _, _ => none
theorem in_i64 {z : Int} (h : zB3 .i64 z = true) : -9223372036854775808 ≤ z ∧ z ≤ 9223372036854775807 := by
 cases z with
 | ofNat n =>
  have h : Nat.ble n 9223372036854775807 = true := h
  have h := Nat.le_of_ble_eq_true h
  have : (n : Int) ≤ 9223372036854775807 := by omega
  exact ⟨by show (-9223372036854775808 : Int) ≤ (n : Int); omega, this⟩
 | negSucc n =>
  have h : Nat.ble n 9223372036854775807 = true := h
  have h := Nat.le_of_ble_eq_true h
  omega
theorem nat_itoa (hc : zBn P f = true) (H : ∀ (n : Int) (w : World), zK1 w → -9223372036854775808 ≤ n → n ≤ 9223372036854775807 →
  Calls P f #[.int .i64 n] w fun e w' => e = .returned (.string ⟨(Lib.itoa n).toArray⟩) ∧ Below w.heap.size w w') : NatOK P f itoaG := by
 refine ⟨hc, fun args h v h' hg ρ w args' ha W => ?_⟩
 match args, hg, ha with
 | [.int .i64 n], hg, ha =>
  have hg : bi (zB3 .i64 n) (some (sv (itoaL n), h)) none = some (v, h') := hg
  obtain ⟨v1, rfl, h1⟩ := ha.one
  cases h1
  rw [bi_eq] at hg
  split at hg
  ·rename_i hr
   obtain ⟨r1, r2⟩ := in_i64 hr
   injection hg with hg; injection hg with g1 g2; subst g1; subst g2
   refine Calls.mono (H n w W.agrees r1 r2) fun e w' ⟨h1, h2⟩ => ?_
   subst h1
   refine RC.below W ?_ h2
   rw [itoaL_eq r1 r2]
   exact .str _ rfl rfl
  ·cases hg
end Go.Ev
namespace Go.Ev
open Go
theorem WR.start0 [Glob] {w : World} (hG : ∀ k, k < Glob.n → k < w.heap.size ∧ w.heap[k]? = Glob.g k) : WR (fun _ => none) (AH.mk T.leaf 0) w := by
 refine ⟨⟨fun h _ => ?_, fun h _ _ _ _ => ?_, fun h => ?_, fun _ => T.get_leaf _⟩, fun k hk => ⟨(hG k hk).1, (hG k hk).2, ?_⟩⟩
 ·rw [T.get_leaf] at h; cases h
 ·rw [T.get_leaf] at h; cases h
 ·cases h
 ·rintro ⟨id, o, p, s, h1, _⟩
  rw [T.get_leaf] at h1; cases h1
theorem strs_in {ρ : Rho} : ∀ (ss : List ByteArray), VRs ρ (ss.map fun s => sv s.data.toList) (ss.map Value.string)
 | [] => .nil
 | s :: ss => .cons (.str s rfl rfl) (strs_in ss)
theorem lawS_calls [Glob] {P : Program} {tab : Nat → Option AFunc} {w : World} (hG : ∀ k, k < Glob.n → k < w.heap.size ∧ w.heap[k]? = Glob.g k) (hm : P.follows .mixedOrders = true) (htab : TabOK P tab) {f : Nat} (ss : List ByteArray) (law : ∀ ah, GP tab f (ss.map fun s => sv s.data.toList) ah fun v _ => v = .bool true) :
  Calls P f (ss.map Value.string).toArray w fun e w' => e = .returned (.bool true) ∧ Go.RowKit.Below w.heap.size w w' := by
 obtain ⟨v, h1, ⟨_, n, hn⟩, rfl⟩ := law (AH.mk T.leaf 0)
 refine Calls.mono (evF_ok hm htab hn trivial (strs_in ss) (WR.start0 hG)) fun e w' he => ?_
 obtain ⟨ρ', v', rfl, hv, W', S'⟩ := he
 cases hv
 refine ⟨rfl, S'.os, S'.tape, S'.output, S'.size, fun k hk => S'.frame hk ?_⟩
 rintro ⟨id, o, p, s, g1, g2, _⟩
 rw [T.get_leaf] at g1; cases g1
theorem nat_true [Glob] {P : Program} {tab : Nat → Option AFunc} (hm : P.follows .mixedOrders = true) (htab : TabOK P tab) {n f : Nat} (hc : zBn P f = true) (h : isTrue (evF tab n f [] (AH.mk T.leaf 0)) = true) : NatOK P f (rowsG [([], .bool true)]) := by
 refine ⟨hc, fun args h0 v h0' hg ρ w args' ha W => ?_⟩
 have hg : obind (zHb args [([], .bool true)]) Option.none (fun v => some (v, h0)) = some (v, h0') := hg
 cases hf : zHb args [([], .bool true)] with
 | none => rw [hf] at hg; cases hg
 | some u =>
  rw [hf] at hg
  have hg : some (u, h0) = some (v, h0') := hg
  injection hg with hg; injection hg with g1 g2; subst g1; subst g2
  obtain ⟨rw', hm', h1, h2⟩ := zGl hf
  simp only [List.mem_singleton] at hm'
  subst hm'
  subst h1; subst h2
  cases ha
  obtain ⟨h', hr⟩ := isTrue_eq h
  refine Calls.mono (evF_ok hm htab hr trivial .nil (WR.start0 W.agrees)) fun e w' he => ?_
  obtain ⟨ρ', v', rfl, hv, W', S'⟩ := he
  cases hv
  refine RC.below W (.bool _) ⟨S'.os, S'.tape, S'.output, S'.size, fun k hk => S'.frame hk ?_⟩
  rintro ⟨id, o, p, s, g1, g2, _⟩
  rw [T.get_leaf] at g1; cases g1
end Go.Ev
namespace Go.Proofs
open Go.Shelf
def Tryz.lays156_ren : Go.Shelf.Ren := ⟨fun | 156 => 36 | 165 => 58 | 166 => 59 | 169 => 60 | 240 => 87 | 241 => 88 | 276 => 112 | 277 => 113 | n => n, fun | 31 => 73 | 9 => 9 | 3 => 3 | 4 => 4 | 0 => 0 | 20 => 20 | 72 => 97 | 76 => 101 | 70 => 95 | 37 => 92 | 75 => 100 | 127 => 112 | 164 => 123 | 5 => 5 | 80 => 71 | n => n, fun | n => n⟩
theorem Tryz.lays156 : Go.Proofs.Lays.n156 Tryz.prog Tryz.lays156_ren := {
 mixed := by kernel_rfl
 f156 := Tryz.func36.trans (congrArg some (by kernel_rfl))
 f165 := Tryz.func58.trans (congrArg some (by kernel_rfl))
 f166 := Tryz.func59.trans (congrArg some (by kernel_rfl))
 f169 := Tryz.func60.trans (congrArg some (by kernel_rfl))
 f240 := Tryz.func87.trans (congrArg some (by kernel_rfl))
 f241 := Tryz.func88.trans (congrArg some (by kernel_rfl))
 f276 := Tryz.func112.trans (congrArg some (by kernel_rfl))
 f277 := Tryz.func113.trans (congrArg some (by kernel_rfl))
 t0 := Tryz.underlying0
 a0 := Tryz.isAgg0
 z0 := Tryz.sizeOf0
 v0 := Tryz.zeroValue0
 t3 := Tryz.underlying3
 a3 := Tryz.isAgg3
 z3 := Tryz.sizeOf3
 v3 := Tryz.zeroValue3
 t4 := Tryz.underlying4
 a4 := Tryz.isAgg4
 z4 := Tryz.sizeOf4
 v4 := Tryz.zeroValue4
 t9 := Tryz.underlying9
 a9 := Tryz.isAgg9
 z9 := Tryz.sizeOf9
 v9 := Tryz.zeroValue9
 t20 := Tryz.underlying20
 a20 := Tryz.isAgg20
 z20 := Tryz.sizeOf20
 v20 := Tryz.zeroValue20
 t31 := Tryz.underlying73
 a31 := Tryz.isAgg73
 z31 := Tryz.sizeOf73
 v31 := Tryz.zeroValue73
 t37 := Tryz.underlying92
 a37 := Tryz.isAgg92
 z37 := Tryz.sizeOf92
 v37 := Tryz.zeroValue92
 t70 := Tryz.underlying95
 a70 := Tryz.isAgg95
 z70 := Tryz.sizeOf95
 v70 := Tryz.zeroValue95
 t72 := Tryz.underlying97
 a72 := Tryz.isAgg97
 z72 := Tryz.sizeOf97
 v72 := Tryz.zeroValue97
 t75 := Tryz.underlying100
 a75 := Tryz.isAgg100
 z75 := Tryz.sizeOf100
 v75 := Tryz.zeroValue100
 t76 := Tryz.underlying101
 a76 := Tryz.isAgg101
 z76 := Tryz.sizeOf101
 v76 := Tryz.zeroValue101
 t127 := Tryz.underlying112
 a127 := Tryz.isAgg112
 z127 := Tryz.sizeOf112
 v127 := Tryz.zeroValue112
 t164 := Tryz.underlying123
 a164 := Tryz.isAgg123
 z164 := Tryz.sizeOf123
 v164 := Tryz.zeroValue123 }
theorem Tryz.Builder_Extra_156 : Builder.Extra Tryz.prog Tryz.lays156_ren := {
 sizeBuilder := by kernel_rfl
 liesBuilder := by kernel_rfl
 t5 := Tryz.underlying5
 a5 := Tryz.isAgg5
 z5 := Tryz.sizeOf5
 v5 := Tryz.zeroValue5
 infoByte := by kernel_rfl
 cellsByte := by kernel_rfl
 sizeByte := by kernel_rfl
 neB5 := by decide }
open Go.RowKit in
theorem Tryz.strings_Join_none (a : Option Addr) (c : Nat) (sep : ByteArray) (w : World) :
  Calls Tryz.prog 36 #[.slice a 0 c, .string sep] w fun e w' => e = .returned (.string ⟨#[]⟩) ∧ w' = w := Any.strings_Join_none Tryz.lays156 Tryz.Builder_Extra_156 a c sep w
open Go.RowKit in
theorem Tryz.strings_Join (bk o c : Nat) (xs : List ByteArray) (sep : ByteArray) (w : World) (hcells : ∀ (j : Nat) x, xs[j]? = some x → w.cell? ⟨bk, o + j, none⟩ = some (.string x)) (hbk : bk < w.heap.size) (hN : xs.length ≤ 140737488355328) (hcap : xs.length ≤ c) (hlen : (Lib.join (xs.map (·.data.toList)) sep.data.toList).length ≤ 140737488355328) :
  Calls Tryz.prog 36 #[.slice (some ⟨bk, o, none⟩) xs.length c, .string sep] w fun e w' => e = .returned (.string ⟨(Lib.join (xs.map (·.data.toList)) sep.data.toList).toArray⟩) ∧ Below w.heap.size w w' := Any.strings_Join Tryz.lays156 Tryz.Builder_Extra_156 bk o c xs sep w hcells hbk hN hcap hlen
def Tryz.lays160_ren : Go.Shelf.Ren := ⟨fun | 160 => 130 | 232 => 141 | 231 => 140 | 227 => 142 | 234 => 144 | 233 => 143 | 236 => 146 | 235 => 145 | 228 => 159 | 271 => 162 | 151 => 161 | 197 => 160 | 120 => 177 | 152 => 176 | 260 => 175 | 137 => 186 | 119 => 187 | 224 => 188 | 225 => 189 | 217 => 195 | 266 => 197 | n => n, fun | 9 => 9 | 4 => 4 | 3 => 3 | 5 => 5 | 117 => 137 | 116 => 136 | 0 => 0 | 124 => 140 | 21 => 21 | 105 => 150 | 46 => 155 | 119 => 176 | 139 => 179 | 138 => 178 | n => n, fun | 3 => 4 | 4 => 5 | n => n⟩
theorem Tryz.lays160 : Go.Proofs.Lays.n160 Tryz.prog Tryz.lays160_ren := {
 mixed := by kernel_rfl
 f119 := Tryz.func187.trans (congrArg some (by kernel_rfl))
 f120 := Tryz.func177.trans (congrArg some (by kernel_rfl))
 f137 := Tryz.func186.trans (congrArg some (by kernel_rfl))
 f151 := Tryz.func161.trans (congrArg some (by kernel_rfl))
 f152 := Tryz.func176.trans (congrArg some (by kernel_rfl))
 f160 := Tryz.func130.trans (congrArg some (by kernel_rfl))
 f197 := Tryz.func160.trans (congrArg some (by kernel_rfl))
 f217 := Tryz.func195.trans (congrArg some (by kernel_rfl))
 f224 := Tryz.func188.trans (congrArg some (by kernel_rfl))
 f225 := Tryz.func189.trans (congrArg some (by kernel_rfl))
 f227 := Tryz.func142.trans (congrArg some (by kernel_rfl))
 f228 := Tryz.func159.trans (congrArg some (by kernel_rfl))
 f231 := Tryz.func140.trans (congrArg some (by kernel_rfl))
 f232 := Tryz.func141.trans (congrArg some (by kernel_rfl))
 f233 := Tryz.func143.trans (congrArg some (by kernel_rfl))
 f234 := Tryz.func144.trans (congrArg some (by kernel_rfl))
 f235 := Tryz.func145.trans (congrArg some (by kernel_rfl))
 f236 := Tryz.func146.trans (congrArg some (by kernel_rfl))
 f260 := Tryz.func175.trans (congrArg some (by kernel_rfl))
 f266 := Tryz.func197.trans (congrArg some (by kernel_rfl))
 f271 := Tryz.func162.trans (congrArg some (by kernel_rfl))
 t0 := Tryz.underlying0
 a0 := Tryz.isAgg0
 z0 := Tryz.sizeOf0
 v0 := Tryz.zeroValue0
 t3 := Tryz.underlying3
 a3 := Tryz.isAgg3
 z3 := Tryz.sizeOf3
 v3 := Tryz.zeroValue3
 t4 := Tryz.underlying4
 a4 := Tryz.isAgg4
 z4 := Tryz.sizeOf4
 v4 := Tryz.zeroValue4
 t5 := Tryz.underlying5
 a5 := Tryz.isAgg5
 z5 := Tryz.sizeOf5
 v5 := Tryz.zeroValue5
 t9 := Tryz.underlying9
 a9 := Tryz.isAgg9
 z9 := Tryz.sizeOf9
 v9 := Tryz.zeroValue9
 t21 := Tryz.underlying21
 a21 := Tryz.isAgg21
 z21 := Tryz.sizeOf21
 v21 := Tryz.zeroValue21
 t46 := Tryz.underlying155
 a46 := Tryz.isAgg155
 z46 := Tryz.sizeOf155
 v46 := Tryz.zeroValue155
 t105 := Tryz.underlying150
 a105 := Tryz.isAgg150
 z105 := Tryz.sizeOf150
 v105 := Tryz.zeroValue150
 t116 := Tryz.underlying136
 a116 := Tryz.isAgg136
 z116 := Tryz.sizeOf136
 t117 := Tryz.underlying137
 a117 := Tryz.isAgg137
 z117 := Tryz.sizeOf137
 v117 := Tryz.zeroValue137
 t119 := Tryz.underlying176
 a119 := Tryz.isAgg176
 z119 := Tryz.sizeOf176
 t124 := Tryz.underlying140
 a124 := Tryz.isAgg140
 z124 := Tryz.sizeOf140
 v124 := Tryz.zeroValue140
 t138 := Tryz.underlying178
 a138 := Tryz.isAgg178
 z138 := Tryz.sizeOf178
 v138 := Tryz.zeroValue178
 t139 := Tryz.underlying179
 a139 := Tryz.isAgg179
 z139 := Tryz.sizeOf179
 v139 := Tryz.zeroValue179
 g3 := by kernel_rfl
 g4 := by kernel_rfl }
def Tryz.laysM171_ren : Go.Shelf.Ren := ⟨fun | 171 => 127 | 243 => 139 | 246 => 158 | 283 => 171 | 284 => 172 | 285 => 173 | 286 => 174 | 129 => 182 | 317 => 181 | 318 => 183 | 319 => 184 | 320 => 185 | 337 => 193 | 338 => 194 | n => n, fun | 3 => 3 | 9 => 9 | 2 => 2 | 4 => 4 | 171 => 161 | 0 => 0 | 53 => 105 | 37 => 92 | 5 => 5 | 173 => 164 | 212 => 172 | 51 => 173 | 20 => 20 | 213 => 174 | 46 => 155 | 232 => 185 | 233 => 186 | n => n, fun | 17 => 3 | 18 => 6 | 19 => 7 | n => n⟩
theorem Tryz.laysM171 : Go.Proofs.LaysM.n171 Tryz.prog Tryz.laysM171_ren := {
 mixed := by kernel_rfl
 f129 := Tryz.func182.trans (congrArg some (by kernel_rfl))
 f171 := Tryz.func127.trans (congrArg some (by kernel_rfl))
 f243 := Tryz.func139.trans (congrArg some (by kernel_rfl))
 f246 := Tryz.func158.trans (congrArg some (by kernel_rfl))
 f283 := Tryz.func171.trans (congrArg some (by kernel_rfl))
 f284 := Tryz.func172.trans (congrArg some (by kernel_rfl))
 f285 := Tryz.func173.trans (congrArg some (by kernel_rfl))
 f286 := Tryz.func174.trans (congrArg some (by kernel_rfl))
 f317 := Tryz.func181.trans (congrArg some (by kernel_rfl))
 f318 := Tryz.func183.trans (congrArg some (by kernel_rfl))
 f319 := Tryz.func184.trans (congrArg some (by kernel_rfl))
 f320 := Tryz.func185.trans (congrArg some (by kernel_rfl))
 f337 := Tryz.func193.trans (congrArg some (by kernel_rfl))
 f338 := Tryz.func194.trans (congrArg some (by kernel_rfl))
 t0 := Tryz.underlying0
 a0 := Tryz.isAgg0
 z0 := Tryz.sizeOf0
 v0 := Tryz.zeroValue0
 t2 := Tryz.underlying2
 a2 := Tryz.isAgg2
 z2 := Tryz.sizeOf2
 v2 := Tryz.zeroValue2
 t3 := Tryz.underlying3
 a3 := Tryz.isAgg3
 z3 := Tryz.sizeOf3
 v3 := Tryz.zeroValue3
 t4 := Tryz.underlying4
 a4 := Tryz.isAgg4
 z4 := Tryz.sizeOf4
 v4 := Tryz.zeroValue4
 t5 := Tryz.underlying5
 a5 := Tryz.isAgg5
 z5 := Tryz.sizeOf5
 v5 := Tryz.zeroValue5
 t9 := Tryz.underlying9
 a9 := Tryz.isAgg9
 z9 := Tryz.sizeOf9
 v9 := Tryz.zeroValue9
 t20 := Tryz.underlying20
 a20 := Tryz.isAgg20
 z20 := Tryz.sizeOf20
 v20 := Tryz.zeroValue20
 t37 := Tryz.underlying92
 a37 := Tryz.isAgg92
 z37 := Tryz.sizeOf92
 v37 := Tryz.zeroValue92
 t46 := Tryz.underlying155
 a46 := Tryz.isAgg155
 z46 := Tryz.sizeOf155
 v46 := Tryz.zeroValue155
 t51 := Tryz.underlying173
 a51 := Tryz.isAgg173
 z51 := Tryz.sizeOf173
 v51 := Tryz.zeroValue173
 t53 := Tryz.underlying105
 a53 := Tryz.isAgg105
 z53 := Tryz.sizeOf105
 v53 := Tryz.zeroValue105
 t171 := Tryz.underlying161
 a171 := Tryz.isAgg161
 z171 := Tryz.sizeOf161
 v171 := Tryz.zeroValue161
 t173 := Tryz.underlying164
 a173 := Tryz.isAgg164
 z173 := Tryz.sizeOf164
 v173 := Tryz.zeroValue164
 t212 := Tryz.underlying172
 a212 := Tryz.isAgg172
 z212 := Tryz.sizeOf172
 v212 := Tryz.zeroValue172
 t213 := Tryz.underlying174
 a213 := Tryz.isAgg174
 z213 := Tryz.sizeOf174
 t232 := Tryz.underlying185
 a232 := Tryz.isAgg185
 z232 := Tryz.sizeOf185
 v232 := Tryz.zeroValue185
 t233 := Tryz.underlying186
 a233 := Tryz.isAgg186
 z233 := Tryz.sizeOf186
 v233 := Tryz.zeroValue186
 g17 := by kernel_rfl
 g18 := by kernel_rfl
 g19 := by kernel_rfl
 i0 := by kernel_rfl
 i2 := by kernel_rfl
 i3 := by kernel_rfl
 i4 := by kernel_rfl
 i5 := by kernel_rfl
 i9 := by kernel_rfl
 i20 := by kernel_rfl
 i37 := by kernel_rfl
 i46 := by kernel_rfl
 i51 := by kernel_rfl
 i53 := by kernel_rfl
 i171 := by kernel_rfl
 i173 := by kernel_rfl
 i212 := by kernel_rfl
 i232 := by kernel_rfl
 i233 := by kernel_rfl
 m17 := by kernel_rfl
 m18 := by kernel_rfl
 m19 := by kernel_rfl }
open Go.RowKit Go.Sort Go.Lib in
theorem Tryz.strconv_Itoa (n : Int) (h0 : -9223372036854775808 ≤ n) (h1 : n ≤ 9223372036854775807) (w : World) (htab : Lib.TabIs Tryz.prog w "internal/strconv.uint64pow10" .u64 Lib.pow10Tab) :
  Calls Tryz.prog 127 #[.int .i64 n] w fun e w' => e = .returned (.string ⟨(Lib.itoa n).toArray⟩) ∧ ∃ k os, w' = grow (w.drewN k) os := Any.strconv_Itoa Tryz.laysM171 n h0 h1 w htab
def Tryz.laysC172_ren : Go.Shelf.Ren := ⟨fun | 172 => 118 | 244 => 131 | 245 => 132 | 247 => 147 | 279 => 148 | 280 => 149 | 281 => 150 | 282 => 151 | 287 => 163 | 316 => 164 | 171 => 127 | 205 => 165 | 321 => 178 | 322 => 179 | 243 => 139 | 246 => 158 | 283 => 171 | 284 => 172 | 285 => 173 | 286 => 174 | 129 => 182 | 317 => 181 | 318 => 183 | 319 => 184 | 320 => 185 | 337 => 193 | 338 => 194 | n => n, fun | 9 => 9 | 3 => 3 | 75 => 100 | 76 => 101 | 4 => 4 | 5 => 5 | 167 => 141 | 37 => 92 | 0 => 0 | 85 => 142 | 2 => 2 | 168 => 144 | 53 => 105 | 175 => 153 | 46 => 155 | 210 => 157 | 127 => 112 | 145 => 170 | 143 => 168 | 21 => 21 | 171 => 161 | 173 => 164 | 212 => 172 | 51 => 173 | 20 => 20 | 213 => 174 | 232 => 185 | 233 => 186 | 80 => 71 | n => n, fun | 15 => 1 | 16 => 2 | 17 => 3 | 18 => 6 | 19 => 7 | n => n⟩
theorem Tryz.laysC172 : Go.Proofs.LaysC.n172 Tryz.prog Tryz.laysC172_ren := {
 mixed := by kernel_rfl
 f129 := Tryz.func182.trans (congrArg some (by kernel_rfl))
 f171 := Tryz.func127.trans (congrArg some (by kernel_rfl))
 f172 := Tryz.func118.trans (congrArg some (by kernel_rfl))
 f205 := Tryz.func165.trans (congrArg some (by kernel_rfl))
 f243 := Tryz.func139.trans (congrArg some (by kernel_rfl))
 f244 := Tryz.func131.trans (congrArg some (by kernel_rfl))
 f245 := Tryz.func132.trans (congrArg some (by kernel_rfl))
 f246 := Tryz.func158.trans (congrArg some (by kernel_rfl))
 f247 := Tryz.func147.trans (congrArg some (by kernel_rfl))
 f279 := Tryz.func148.trans (congrArg some (by kernel_rfl))
 f280 := Tryz.func149.trans (congrArg some (by kernel_rfl))
 f281 := Tryz.func150.trans (congrArg some (by kernel_rfl))
 f282 := Tryz.func151.trans (congrArg some (by kernel_rfl))
 f283 := Tryz.func171.trans (congrArg some (by kernel_rfl))
 f284 := Tryz.func172.trans (congrArg some (by kernel_rfl))
 f285 := Tryz.func173.trans (congrArg some (by kernel_rfl))
 f286 := Tryz.func174.trans (congrArg some (by kernel_rfl))
 f287 := Tryz.func163.trans (congrArg some (by kernel_rfl))
 f316 := Tryz.func164.trans (congrArg some (by kernel_rfl))
 f317 := Tryz.func181.trans (congrArg some (by kernel_rfl))
 f318 := Tryz.func183.trans (congrArg some (by kernel_rfl))
 f319 := Tryz.func184.trans (congrArg some (by kernel_rfl))
 f320 := Tryz.func185.trans (congrArg some (by kernel_rfl))
 f321 := Tryz.func178.trans (congrArg some (by kernel_rfl))
 f322 := Tryz.func179.trans (congrArg some (by kernel_rfl))
 f337 := Tryz.func193.trans (congrArg some (by kernel_rfl))
 f338 := Tryz.func194.trans (congrArg some (by kernel_rfl))
 t0 := Tryz.underlying0
 a0 := Tryz.isAgg0
 z0 := Tryz.sizeOf0
 v0 := Tryz.zeroValue0
 t2 := Tryz.underlying2
 a2 := Tryz.isAgg2
 z2 := Tryz.sizeOf2
 v2 := Tryz.zeroValue2
 t3 := Tryz.underlying3
 a3 := Tryz.isAgg3
 z3 := Tryz.sizeOf3
 v3 := Tryz.zeroValue3
 t4 := Tryz.underlying4
 a4 := Tryz.isAgg4
 z4 := Tryz.sizeOf4
 v4 := Tryz.zeroValue4
 t5 := Tryz.underlying5
 a5 := Tryz.isAgg5
 z5 := Tryz.sizeOf5
 v5 := Tryz.zeroValue5
 t9 := Tryz.underlying9
 a9 := Tryz.isAgg9
 z9 := Tryz.sizeOf9
 v9 := Tryz.zeroValue9
 t20 := Tryz.underlying20
 a20 := Tryz.isAgg20
 z20 := Tryz.sizeOf20
 v20 := Tryz.zeroValue20
 t21 := Tryz.underlying21
 a21 := Tryz.isAgg21
 z21 := Tryz.sizeOf21
 v21 := Tryz.zeroValue21
 t37 := Tryz.underlying92
 a37 := Tryz.isAgg92
 z37 := Tryz.sizeOf92
 v37 := Tryz.zeroValue92
 t46 := Tryz.underlying155
 a46 := Tryz.isAgg155
 z46 := Tryz.sizeOf155
 v46 := Tryz.zeroValue155
 t51 := Tryz.underlying173
 a51 := Tryz.isAgg173
 z51 := Tryz.sizeOf173
 v51 := Tryz.zeroValue173
 t53 := Tryz.underlying105
 a53 := Tryz.isAgg105
 z53 := Tryz.sizeOf105
 v53 := Tryz.zeroValue105
 t75 := Tryz.underlying100
 a75 := Tryz.isAgg100
 z75 := Tryz.sizeOf100
 v75 := Tryz.zeroValue100
 t76 := Tryz.underlying101
 a76 := Tryz.isAgg101
 z76 := Tryz.sizeOf101
 v76 := Tryz.zeroValue101
 t85 := Tryz.underlying142
 a85 := Tryz.isAgg142
 z85 := Tryz.sizeOf142
 v85 := Tryz.zeroValue142
 t127 := Tryz.underlying112
 a127 := Tryz.isAgg112
 z127 := Tryz.sizeOf112
 v127 := Tryz.zeroValue112
 t143 := Tryz.underlying168
 a143 := Tryz.isAgg168
 z143 := Tryz.sizeOf168
 v143 := Tryz.zeroValue168
 t145 := Tryz.underlying170
 a145 := Tryz.isAgg170
 z145 := Tryz.sizeOf170
 v145 := Tryz.zeroValue170
 t167 := Tryz.underlying141
 a167 := Tryz.isAgg141
 z167 := Tryz.sizeOf141
 v167 := Tryz.zeroValue141
 t168 := Tryz.underlying144
 a168 := Tryz.isAgg144
 z168 := Tryz.sizeOf144
 v168 := Tryz.zeroValue144
 t171 := Tryz.underlying161
 a171 := Tryz.isAgg161
 z171 := Tryz.sizeOf161
 v171 := Tryz.zeroValue161
 t173 := Tryz.underlying164
 a173 := Tryz.isAgg164
 z173 := Tryz.sizeOf164
 v173 := Tryz.zeroValue164
 t175 := Tryz.underlying153
 a175 := Tryz.isAgg153
 z175 := Tryz.sizeOf153
 v175 := Tryz.zeroValue153
 t210 := Tryz.underlying157
 a210 := Tryz.isAgg157
 z210 := Tryz.sizeOf157
 v210 := Tryz.zeroValue157
 t212 := Tryz.underlying172
 a212 := Tryz.isAgg172
 z212 := Tryz.sizeOf172
 v212 := Tryz.zeroValue172
 t213 := Tryz.underlying174
 a213 := Tryz.isAgg174
 z213 := Tryz.sizeOf174
 t232 := Tryz.underlying185
 a232 := Tryz.isAgg185
 z232 := Tryz.sizeOf185
 v232 := Tryz.zeroValue185
 t233 := Tryz.underlying186
 a233 := Tryz.isAgg186
 z233 := Tryz.sizeOf186
 v233 := Tryz.zeroValue186
 g15 := by kernel_rfl
 g16 := by kernel_rfl
 g17 := by kernel_rfl
 g18 := by kernel_rfl
 g19 := by kernel_rfl
 t80 := Tryz.underlying71
 a80 := Tryz.isAgg71
 z80 := Tryz.sizeOf71
 v80 := Tryz.zeroValue71
 i0 := by kernel_rfl
 i2 := by kernel_rfl
 i3 := by kernel_rfl
 i4 := by kernel_rfl
 i5 := by kernel_rfl
 i9 := by kernel_rfl
 i20 := by kernel_rfl
 i21 := by kernel_rfl
 i37 := by kernel_rfl
 i46 := by kernel_rfl
 i51 := by kernel_rfl
 i53 := by kernel_rfl
 i75 := by kernel_rfl
 i76 := by kernel_rfl
 i80 := by kernel_rfl
 i85 := by kernel_rfl
 i127 := by kernel_rfl
 i143 := by kernel_rfl
 i145 := by kernel_rfl
 i167 := by kernel_rfl
 i168 := by kernel_rfl
 i171 := by kernel_rfl
 i173 := by kernel_rfl
 i175 := by kernel_rfl
 i210 := by kernel_rfl
 i212 := by kernel_rfl
 i232 := by kernel_rfl
 i233 := by kernel_rfl
 m15 := by kernel_rfl
 m16 := by kernel_rfl
 m17 := by kernel_rfl
 m18 := by kernel_rfl
 m19 := by kernel_rfl
 c0 := by kernel_rfl
 c2 := by kernel_rfl
 c3 := by kernel_rfl
 c4 := by kernel_rfl
 c5 := by kernel_rfl
 c9 := by kernel_rfl
 c20 := by kernel_rfl
 c21 := by kernel_rfl
 c37 := by kernel_rfl
 c46 := by kernel_rfl
 c51 := by kernel_rfl
 c53 := by kernel_rfl
 c75 := by kernel_rfl
 c76 := by kernel_rfl
 c80 := by kernel_rfl
 c85 := by kernel_rfl
 c127 := by kernel_rfl
 c143 := by kernel_rfl
 c145 := by kernel_rfl
 c167 := by kernel_rfl
 c168 := by kernel_rfl
 c171 := by kernel_rfl
 c173 := by kernel_rfl
 c175 := by kernel_rfl
 c210 := by kernel_rfl
 c212 := by kernel_rfl
 c213 := by kernel_rfl
 c232 := by kernel_rfl
 c233 := by kernel_rfl }
open Go.RowKit in
theorem Tryz.strconv_Atoi_ok (s : ByteArray) (hmax : s.size ≤ 9223372036854775806) (v : Int) (h : Lib.atoiAll s.data.toList = .ok v) (w : World) :
  Calls Tryz.prog 118 #[.string s] w fun e w' => e = .returned (.tuple #[.int .i64 v, .nilIface]) ∧ (w' = w ∨ ∃ t, w' = Lib.bytesWorld w 5 t) := Any.strconv_Atoi_ok Tryz.laysC172 s hmax v h w
open Go.RowKit in
theorem Tryz.strconv_Atoi_range (s : ByteArray) (hlim : s.size ≤ 281474976710656) (h : Lib.atoiAll s.data.toList = .range) (ev : Value) (w : World) (hv : w.cell? ⟨2, 0, none⟩ = some ev) (hev : ev = .nilIface ∨ ∃ te pe, ev = .iface te pe) :
  Calls Tryz.prog 118 #[.string s] w fun e w' => ∃ N, e = .returned (.tuple #[.int .i64 (Lib.atoiSat s.data.toList), .iface 144 (.pointer (some ⟨N, 0, none⟩))]) ∧ w.heap.size ≤ N ∧ w'.heap[N]? = some (.cells #[.string ⟨#[65, 116, 111, 105]⟩, .string s, ev] 157 (0, 0)) ∧ Below w.heap.size w w' := Any.strconv_Atoi_range Tryz.laysC172 s hlim h ev w hv hev
end Go.Proofs
namespace Go.Ev
open Go Go.RowKit Go.Proofs
variable [Glob]
theorem natOK36 : NatOK Tryz.prog 36 joinG := nat_join (by kernel_rfl) Tryz.strings_Join_none fun bk o c xs sep w h1 h2 h3 h4 h5 => Tryz.strings_Join bk o c xs sep w h1 h2 h3 h4 h5
theorem natOK130 : NatOK Tryz.prog 130 trimG := nat_trim (by kernel_rfl) fun s cs w h1 h2 h3 => Any.strings_Trim_ascii Tryz.lays160 (fun w => by kernel_rfl) (by kernel_rfl) s cs w h1 h2 h3
theorem natOK118 (hE : ∀ w, zK1 w → ∃ ev, w.cell? ⟨2, 0, none⟩ = some ev ∧ (ev = .nilIface ∨ ∃ te pe, ev = .iface te pe)) : NatOK Tryz.prog 118 (atoiG 144) := by
 refine nat_atoi (by kernel_rfl) (fun s w v h1 h2 => (Tryz.strconv_Atoi_ok s (by omega) v h2 w).mono fun e w' ⟨a, b⟩ => ⟨a, ?_⟩) fun s w ag h1 h2 => ?_
 ·rcases b with rfl | ⟨t, rfl⟩
  ·exact Below.refl _ _
  ·exact Go.Joins.below_bytesWorld _ _ _ _ (Nat.le_refl _)
 ·obtain ⟨ev, hv, hev⟩ := hE w ag
  exact (Tryz.strconv_Atoi_range s h1 h2 ev w hv hev).mono fun e w' ⟨N, a, _, _, b⟩ => ⟨_, a, b⟩
theorem natOK127 (hT : ∀ w, zK1 w → Go.Lib.TabIs Tryz.prog w "internal/strconv.uint64pow10" .u64 Go.Lib.pow10Tab) : NatOK Tryz.prog 127 itoaG :=
 nat_itoa (by kernel_rfl) fun n w ag h0 h1 => (Tryz.strconv_Itoa n h0 h1 w (hT w ag)).mono fun e w' ⟨a, k, os, b⟩ => ⟨a, by subst b; exact Go.Lib.below_grow _ _ (Nat.le_refl _) _ _⟩
end Go.Ev
namespace Go.Pa
abbrev Str := List UInt8
structure Tok where
 kind : Nat
 text : Str
 pos : Nat
 deriving DecidableEq
inductive Tree where
 | mk (op : Nat) (name typ : Str) (n : Int) (pos : Nat) (kids : List Tree)
def Tree.op : Tree → Nat | .mk o _ _ _ _ _ => o
def Tree.name : Tree → Str | .mk _ x _ _ _ _ => x
def Tree.typ : Tree → Str | .mk _ _ x _ _ _ => x
def Tree.n : Tree → Int | .mk _ _ _ x _ _ => x
def Tree.pos : Tree → Nat | .mk _ _ _ _ x _ => x
def Tree.kids : Tree → List Tree | .mk _ _ _ _ _ x => x
inductive PR (α : Type) where
 | ok (a : α) (i d : Nat)
 | err (p e : Nat)
 | out
def PR.bind {α β : Type} (x : PR α) (k : α → Nat → Nat → PR β) : PR β :=
 match x with
 | .ok a i d => k a i d
 | .err p e => .err p e
 | .out => .out
def numVal (s : Str) : Int := match Lib.atoiAll s with | .ok v => v | _ => 0
def signs : List Str := [[], [43], [45], [42], [47], [37], [38], [124], [94], [60, 60], [62, 62], [61, 61], [33, 61], [60], [60, 61], [62], [62, 61]]
def sgnOp (s : Str) : Nat := if s = [] then 0 else if s ∈ signs then signs.idxOf s else 0
def opLevel (op : Nat) : Nat :=
 if op = 3 ∨ op = 4 ∨ op = 9 ∨ op = 10 ∨ op = 5 ∨ op = 6 then 5 else if op = 1 ∨ op = 2 ∨ op = 7 ∨ op = 8 then 4 else if op = 11 ∨ op = 12 ∨ op = 13 ∨ op = 14 ∨ op = 15 ∨ op = 16 then 3 else 0
section
variable (ts : List Tok) (en : Nat)
def now (i : Nat) : Tok := ts.getD i ⟨0, [], en⟩
def isT (s : Str) (i : Nat) : Bool := decide ((now ts en i).text = s) && (decide ((now ts en i).kind = 2) || decide ((now ts en i).kind = 4))
def failP {α : Type} (i : Nat) : PR α := .err (now ts en i).pos 1
def zA9 (s : Str) (i d : Nat) : PR Nat := if isT ts en s i then .ok (now ts en i).pos (i + 1) d else failP ts en i
def wordS (i d : Nat) : PR Tok := if (now ts en i).kind = 1 then .ok (now ts en i) (i + 1) d else failP ts en i
def zCn {α : Type} (i d : Nat) (k : Nat → Nat → PR α) : PR α := if 40 < d + 1 then .err (now ts en i).pos 3 else (k i (d + 1)).bind fun a i d => .ok a i (d - 1)
def typS (i d : Nat) : PR Str :=
 if isT ts en [42] i then (wordS ts en (i + 1) d).bind fun t i d => .ok (42 :: t.text) i d
 else if isT ts en [105, 110, 116] i || isT ts en [98, 111, 111, 108] i then .ok (now ts en i).text (i + 1) d else failP ts en i
def partS (op : Nat) (i d : Nat) : PR Tree := (wordS ts en i d).bind fun t i d => (typS ts en i d).bind fun ty i d => .ok (.mk op t.text ty 0 t.pos []) i d
def zC3 : Nat → Nat → Nat → List Tree → PR (List Tree)
 | 0, _, _, _ => .out
 | n + 1, i, d, acc => if isT ts en [125] i then .ok acc (i + 1) d else (partS ts en 5 i d).bind fun p i d => (zA9 ts en [59] i d).bind fun _ i d => zC3 n i d (acc ++ [p])
def zD1 (n i d : Nat) : PR Tree :=
 (wordS ts en i d).bind fun t i d => (zA9 ts en [115, 116, 114, 117, 99, 116] i d).bind fun _ i d => (zA9 ts en [123] i d).bind fun _ i d => (zC3 ts en n i d []).bind fun k i d => .ok (.mk 2 t.text [] 0 t.pos k) i d
def zCe : Nat → Nat → Nat → List Tree → PR (List Tree)
 | 0, _, _, _ => .out
 | n + 1, i, d, acc => if isT ts en [41] i then .ok acc i d else (partS ts en 5 i d).bind fun p i d =>
  if isT ts en [41] i then zCe n i d (acc ++ [p]) else (zA9 ts en [44] i d).bind fun _ i d => if isT ts en [41] i then failP ts en i else zCe n i d (acc ++ [p])
def zB2 (i : Nat) : Nat × Nat :=
 if (now ts en i).kind ≠ 4 then (0, 0) else if (now ts en i).text = [124, 124] then (1, 0) else if (now ts en i).text = [38, 38] then (2, 0) else (opLevel (sgnOp (now ts en i).text), sgnOp (now ts en i).text)
def binNode (level : Nat) : Nat := [0, 26, 25, 24, 24, 24].getD level 0
def keyS (i d : Nat) : PR Tree :=
 let t := now ts en i
 if t.text = [116, 114, 117, 101] then .ok (.mk 16 [] [] 1 t.pos []) (i + 1) d
 else if t.text = [102, 97, 108, 115, 101] then .ok (.mk 16 [] [] 0 t.pos []) (i + 1) d
 else if t.text = [110, 101, 119] then (zA9 ts en [40] (i + 1) d).bind fun _ i d => (wordS ts en i d).bind fun w i d => (zA9 ts en [41] i d).bind fun _ i d => .ok (.mk 19 w.text [] 0 w.pos []) i d
 else if t.text = [114, 101, 97, 100] then (zA9 ts en [40] (i + 1) d).bind fun _ i d => (zA9 ts en [41] i d).bind fun _ i d => .ok (.mk 22 [] [] 0 t.pos []) i d
 else .ok (.mk 17 [] [] 0 t.pos []) (i + 1) d
mutual
def exprS : Nat → Nat → Nat → Nat → PR Tree
 | 0, _, _, _ => .out
 | n + 1, least, i, d => (zBy n i d).bind fun l i d => exprL n least i d l
def exprL : Nat → Nat → Nat → Nat → Tree → PR Tree
 | 0, _, _, _, _ => .out
 | n + 1, least, i, d, left =>
  if (zB2 ts en i).1 = 0 ∨ (zB2 ts en i).1 < least then .ok left i d
  else (exprS n ((zB2 ts en i).1 + 1) (i + 1) d).bind fun r i' d => exprL n least i' d (.mk (binNode (zB2 ts en i).1) [] [] (zB2 ts en i).2 (now ts en i).pos [left, r])
def zBy : Nat → Nat → Nat → PR Tree
 | 0, _, _ => .out
 | n + 1, i, d =>
  if isT ts en [45] i || isT ts en [33] i then
   zCn ts en i d fun i d => (zBy n (i + 1) d).bind fun k i' d => .ok (.mk 23 [] [] (if (now ts en i).text = [45] then 17 else 18) (now ts en i).pos [k]) i' d
  else postS n i d
def postS : Nat → Nat → Nat → PR Tree
 | 0, _, _ => .out
 | n + 1, i, d => (primS n i d).bind fun x i d => postL n i d x
def postL : Nat → Nat → Nat → Tree → PR Tree
 | 0, _, _, _ => .out
 | n + 1, i, d, x => if isT ts en [46] i then (wordS ts en (i + 1) d).bind fun w i d => postL n i d (.mk 20 w.text [] 0 w.pos [x]) else .ok x i d
def primS : Nat → Nat → Nat → PR Tree
 | 0, _, _ => .out
 | n + 1, i, d =>
  if (now ts en i).kind = 3 then .ok (.mk 15 [] [] (numVal (now ts en i).text) (now ts en i).pos []) (i + 1) d
  else if (now ts en i).kind = 1 then
   if isT ts en [40] (i + 1) then callS n (now ts en i) (i + 1) d else .ok (.mk 18 (now ts en i).text [] 0 (now ts en i).pos []) (i + 1) d
  else if isT ts en [40] i then zA5 n i d
  else if isT ts en [110, 105, 108] i || isT ts en [116, 114, 117, 101] i || isT ts en [102, 97, 108, 115, 101] i || isT ts en [110, 101, 119] i || isT ts en [114, 101, 97, 100] i then keyS ts en i d
  else failP ts en i
def callS : Nat → Tok → Nat → Nat → PR Tree
 | 0, _, _, _ => .out
 | n + 1, t, i, d => zCn ts en i d fun i d => (argsL n (i + 1) d []).bind fun k i d => .ok (.mk 21 t.text [] 0 t.pos k) (i + 1) d
def argsL : Nat → Nat → Nat → List Tree → PR (List Tree)
 | 0, _, _, _ => .out
 | n + 1, i, d, acc => if isT ts en [41] i then .ok acc i d else (exprS n 1 i d).bind fun p i d =>
  if isT ts en [41] i then argsL n i d (acc ++ [p]) else (zA9 ts en [44] i d).bind fun _ i d => if isT ts en [41] i then failP ts en i else argsL n i d (acc ++ [p])
def zA5 : Nat → Nat → Nat → PR Tree
 | 0, _, _ => .out
 | n + 1, i, d => if isT ts en [40] i then zCn ts en i d fun i d => (exprS n 1 (i + 1) d).bind fun e i d => (zA9 ts en [41] i d).bind fun _ i d => .ok e i d else failP ts en i
end
def zC4 (n i d : Nat) : PR Tree :=
 (postS ts en n i d).bind fun l i' d =>
  if isT ts en [40] i && decide ((now ts en (i' - 1)).text = [41]) then failP ts en i'
  else if l.op = 21 && !isT ts en [61] i' then .ok (.mk 14 [] [] 0 l.pos [l]) i' d
  else if l.op = 18 then (zA9 ts en [61] i' d).bind fun _ i d => (exprS ts en n 1 i d).bind fun e i d => .ok (.mk 8 l.name [] 0 l.pos [e]) i d
  else if l.op = 20 then (zA9 ts en [61] i' d).bind fun _ i d => (exprS ts en n 1 i d).bind fun e i d => .ok (.mk 9 l.name [] 0 l.pos [l.kids.getD 0 (.mk 0 [] [] 0 0 []), e]) i d
  else failP ts en i'
def zDc (n i d : Nat) : PR Tree :=
 if isT ts en [112, 114, 105, 110, 116] i then (zA5 ts en n (i + 1) d).bind fun e i' d => .ok (.mk 12 [] [] 0 (now ts en i).pos [e]) i' d
 else if isT ts en [114, 101, 116, 117, 114, 110] i then
  if isT ts en [59] (i + 1) then .ok (.mk 13 [] [] 0 (now ts en i).pos []) (i + 1) d else (exprS ts en n 1 (i + 1) d).bind fun e i' d => .ok (.mk 13 [] [] 0 (now ts en i).pos [e]) i' d
 else if (now ts en i).kind = 1 ∧ (now ts en (i + 1)).kind = 4 ∧ (now ts en (i + 1)).text = [58, 61] then
  (exprS ts en n 1 (i + 2) d).bind fun e i' d => .ok (.mk 7 (now ts en i).text [] 0 (now ts en i).pos [e]) i' d
 else zC4 ts en n i d
mutual
def stmtS : Nat → Nat → Nat → PR Tree
 | 0, _, _ => .out
 | n + 1, i, d =>
  if isT ts en [105, 102] i then zBr n i d
  else if isT ts en [102, 111, 114] i then (exprS ts en n 1 (i + 1) d).bind fun e i' d => (zBw n i' d).bind fun b i' d => .ok (.mk 11 [] [] 0 (now ts en i).pos [e, b]) i' d
  else (zDc ts en n i d).bind fun s i d => (zA9 ts en [59] i d).bind fun _ i d => .ok s i d
def zBr : Nat → Nat → Nat → PR Tree
 | 0, _, _ => .out
 | n + 1, i, d => (zA9 ts en [105, 102] i d).bind fun p i d => (exprS ts en n 1 i d).bind fun e i d => (zBw n i d).bind fun b i d =>
  if isT ts en [101, 108, 115, 101] i then
   (if isT ts en [105, 102] (i + 1) then zBr n (i + 1) d else zBw n (i + 1) d).bind fun c i d => .ok (.mk 10 [] [] 0 p [e, b, c]) i d
  else .ok (.mk 10 [] [] 0 p [e, b]) i d
def zBw : Nat → Nat → Nat → PR Tree
 | 0, _, _ => .out
 | n + 1, i, d => if isT ts en [123] i then zCn ts en i d fun i d => (zCb n (i + 1) d []).bind fun k i' d => .ok (.mk 6 [] [] 0 (now ts en i).pos k) i' d else failP ts en i
def zCb : Nat → Nat → Nat → List Tree → PR (List Tree)
 | 0, _, _, _ => .out
 | n + 1, i, d, acc => if isT ts en [125] i then .ok acc (i + 1) d else (stmtS n i d).bind fun s i d => zCb n i d (acc ++ [s])
end
def funcS (n i d : Nat) : PR Tree :=
 (wordS ts en i d).bind fun t i d => (zA9 ts en [40] i d).bind fun _ i d => (zCe ts en n i d []).bind fun k i d => (zA9 ts en [41] i d).bind fun _ i d =>
  (if isT ts en [123] i then .ok [] i d else typS ts en i d).bind fun ty i d => (zBw ts en n i d).bind fun b i d => .ok (.mk 4 t.text ty 0 t.pos (k ++ [b])) i d
def declS (n i d : Nat) : PR Tree :=
 if isT ts en [116, 121, 112, 101] i then zD1 ts en n (i + 1) d
 else if isT ts en [102, 117, 110, 99] i then funcS ts en n (i + 1) d
 else if isT ts en [118, 97, 114] i then (partS ts en 3 (i + 1) d).bind fun p i d => (zA9 ts en [59] i d).bind fun _ i d => .ok p i d
 else failP ts en i
def progL : Nat → Nat → Nat → Nat → List Tree → PR (List Tree)
 | 0, _, _, _, _ => .out
 | n + 1, m, i, d, acc => if i < ts.length then (declS ts en m i d).bind fun p i d => progL n m i d (acc ++ [p]) else .ok acc i d
end
end Go.Pa
namespace Go.Ev
def PermOn {α : Type} (a b : Nat) (f g : Nat → α) : Prop := ∃ σ τ : Nat → Nat, (∀ i, τ (σ i) = i) ∧ (∀ i, σ (τ i) = i) ∧ (∀ i, ¬ (a ≤ i ∧ i < b) → σ i = i) ∧ ∀ i, g i = f (σ i)
section
variable {α : Type} {a b : Nat} {f g k : Nat → α}
theorem PermOn.refl : PermOn a b f f := ⟨id, id, fun _ => rfl, fun _ => rfl, fun _ _ => rfl, fun _ => rfl⟩
theorem PermOn.trans (x : PermOn a b f g) (y : PermOn a b g k) : PermOn a b f k := by
 obtain ⟨s1, t1, a1, a2, a3, a4⟩ := x
 obtain ⟨s2, t2, b1, b2, b3, b4⟩ := y
 exact ⟨fun i => s1 (s2 i), fun i => t2 (t1 i), fun i => by simp only [a1, b1], fun i => by simp only [a2, b2], fun i hi => by simp only [b3 i hi, a3 i hi], fun i => by rw [b4, a4]⟩
theorem PermOn.symm (x : PermOn a b f g) : PermOn a b g f := by
 obtain ⟨s1, t1, a1, a2, a3, a4⟩ := x
 exact ⟨t1, s1, a2, a1, fun i hi => by have := a1 i; rwa [a3 i hi] at this, fun i => by rw [a4, a2]⟩
theorem PermOn.out (x : PermOn a b f g) {i : Nat} (hi : ¬ (a ≤ i ∧ i < b)) : g i = f i := by
 obtain ⟨s1, t1, a1, a2, a3, a4⟩ := x
 rw [a4, a3 i hi]
theorem PermOn.inside (x : PermOn a b f g) {i : Nat} (h1 : a ≤ i) (h2 : i < b) : ∃ j, a ≤ j ∧ j < b ∧ g i = f j := by
 obtain ⟨s1, t1, a1, a2, a3, a4⟩ := x
 by_cases h : a ≤ s1 i ∧ s1 i < b
 ·exact ⟨s1 i, h.1, h.2, a4 i⟩
 ·have e := a3 _ h
  have e2 := congrArg t1 e
  rw [a1, a1] at e2
  rw [e2] at h
  exact absurd ⟨h1, h2⟩ h
theorem PermOn.all {Q : α → Prop} (x : PermOn a b f g) (h : ∀ i, a ≤ i → i < b → Q (f i)) : ∀ i, a ≤ i → i < b → Q (g i) := by
 intro i h1 h2
 obtain ⟨j, j1, j2, e⟩ := x.inside h1 h2
 rw [e]; exact h j j1 j2
structure Ord (lt : α → α → Bool) : Prop where
 asym : ∀ x y, lt x y = true → lt y x = false
 trans : ∀ x y z, lt y x = false → lt z y = false → lt z x = false
variable {lt : α → α → Bool}
end
end Go.Ev
namespace Go.Ev
open Go
section
variable {loc : T AV} {tmp : List AV} {h : AH} {tab : Nat → Option AFunc} {d : List AV} {a b : ACode} {Q : Res → Prop}
theorem wc_if {c : Opd} (p : Prop) [Decidable p] (hc : ev loc [] c = .bool (decide p)) (h1 : p → WC tab a loc d h Q) (h2 : ¬ p → WC tab b loc d h Q) : WC tab (.cond c a b) loc d h Q :=
 wc_cond hc (fun e => h1 (of_decide_eq_true e)) (fun e => h2 (of_decide_eq_false e))
theorem zAq {c : Opd} (hc : ev loc [] c = .bool true) (h1 : WC tab a loc d h Q) : WC tab (.cond c a b) loc d h Q := wc_cond hc (fun _ => h1) (fun e => by cases e)
theorem wc_no {c : Opd} (hc : ev loc [] c = .bool false) (h1 : WC tab b loc d h Q) : WC tab (.cond c a b) loc d h Q := wc_cond hc (fun e => by cases e) (fun _ => h1)
theorem wrap_add {m n : Nat} (hb : m + n < 9223372036854775808) : IntKind.i64.wrap ((m : Int) + (n : Int)) = ((m + n : Nat) : Int) := by
 rw [← Int.natCast_add]; exact zHf hb
theorem zIq {m n : Nat} (h1 : n ≤ m) (hb : m < 9223372036854775808) : IntKind.i64.wrap ((m : Int) - (n : Int)) = ((m - n : Nat) : Int) := by
 rw [show (m : Int) - (n : Int) = ((m - n : Nat) : Int) by omega]; exact zHf (by omega)
theorem wrap_mul {m n : Nat} (hb : m * n < 9223372036854775808) : IntKind.i64.wrap ((m : Int) * (n : Int)) = ((m * n : Nat) : Int) := by
 rw [← Int.natCast_mul]; exact zHf hb
theorem lt_nat {m n : Nat} : ((m : Int) < (n : Int)) = (m < n) := by rw [Int.ofNat_lt]
theorem le_nat {m n : Nat} : ((m : Int) ≤ (n : Int)) = (m ≤ n) := by rw [Int.ofNat_le]
theorem eq_nat {m n : Nat} : ((m : Int) = (n : Int)) = (m = n) := by rw [Int.ofNat_inj]
theorem quo_nat {m n : Nat} (hn : 0 < n) (hb : m < 9223372036854775808) : oBin .quo (.c (.int .i64 (m : Int))) (.c (.int .i64 (n : Int))) .leaf [] h = .val (.int .i64 ((m / n : Nat) : Int)) h := by
 rw [bin_quo (by omega), show Int.tdiv (m : Int) (n : Int) = ((m / n : Nat) : Int) from rfl, zHf (Nat.lt_of_le_of_lt (Nat.div_le_self _ _) hb)]
theorem rem_nat {k : IntKind} {m n : Nat} (hn : 0 < n) : oBin .rem (.c (.int k (m : Int))) (.c (.int k (n : Int))) .leaf [] h = .val (.int k ((m % n : Nat) : Int)) h := by
 rw [bin_rem (by omega)]; rfl
theorem obind_ite {α β : Type} {q : Prop} [Decidable q] {a b : α} {dd x : β} : obind (if q then some a else some b) dd (fun _ => x) = x := by split <;> rfl
def IArr (c : T AV) (o n : Nat) (f : Nat → Int) : Prop := ∀ i, i < n → c.get (o + i) = some (.int .i64 (f i))
theorem IArr.put {c : T AV} {o n j : Nat} {f : Nat → Int} {z : Int} (x : IArr c o n f) : IArr (T.put (some (.int .i64 z)) c (o + j)) o n (fun k => if k = j then z else f k) := by
 intro k hk
 rw [T.get_put]
 by_cases h1 : k = j
 ·subst h1; simp
 ·rw [if_neg (by omega)]; simp only [if_neg h1]; exact x k hk
structure MoreBut (id : Nat) (h h' : AH) : Prop where
 next : h.next ≤ h'.next
 keep : ∀ k, k < h.next → k ≠ id → h'.mem.get k = h.mem.get k
theorem MoreBut.refl (id : Nat) (h : AH) : MoreBut id h h := ⟨Nat.le_refl _, fun _ _ _ => rfl⟩
theorem MoreBut.trans {id : Nat} {a b c : AH} (x : MoreBut id a b) (y : MoreBut id b c) : MoreBut id a c := ⟨Nat.le_trans x.next y.next, fun k h1 h2 => by rw [y.keep k (Nat.lt_of_lt_of_le h1 x.next) h2, x.keep k h1 h2]⟩
theorem MoreBut.set {id : Nat} {h h' : AH} (x : MoreBut id h h') (o : AObj) : MoreBut id h (h'.set id o) := ⟨by rw [AH.set_next]; exact x.next, fun k h1 h2 => by rw [AH.set_mem, T.get_put_ne _ _ _ _ (Ne.symm h2), x.keep k h1 h2]⟩
theorem More.but {h h' : AH} (x : More h h') (id : Nat) : MoreBut id h h' := ⟨x.next, fun k h1 _ => x.keep k h1⟩
end
end Go.Ev
namespace Go.Ev
open Go
variable [Glob]
def EVC := And.intro @Bool.true_eq_false (And.intro @Bool.false_eq_true (And.intro @Option.getD_some.{0} (And.intro @Option.getD_none.{0} (And.intro @List.getElem?_cons_zero.{0} (And.intro @List.getElem?_cons_succ.{0} (And.intro @List.getElem?_nil.{0} (And.intro @decide_true (And.intro @decide_false (And.intro @decide_eq_true_eq (And.intro @decide_eq_false_iff_not (And.intro @Int.ofNat_eq_natCast (And.intro @eq_self.{1} (And.intro @true_implies (And.intro @true_and (And.intro @and_true (And.intro @false_implies (And.intro @Bool.not_true (And.intro @Bool.not_false (And.intro @Nat.zero_add (And.intro @Nat.add_zero (And.intro @List.take_succ_cons.{0} (And.intro @List.take_zero.{0} (And.intro @List.drop_succ_cons.{0} (And.intro @List.drop_nil.{0} (And.intro @List.nil_append.{0} (And.intro @List.cons_append.{0} (And.intro @List.append_nil.{0} (And.intro @List.drop_zero.{0} (And.intro @Nat.le_refl (And.intro @Nat.mul_one (And.intro @not_true_eq_false (And.intro @not_false_eq_true (@ite_self.{1})))))))))))))))))))))))))))))))))
def EVN := And.intro @wrap_mul (And.intro @wrap_add (And.intro @zIq (And.intro @zHf (And.intro @idx_sl (And.intro @quo_nat (@rem_nat))))))
end Go.Ev
namespace Go.Ev
section
variable {α : Type} {lt : α → α → Bool} {a b i j : Nat} {f g : Nat → α}
end
end Go.Ev
namespace Go.Ev
open Go
section
variable {tab : Nat → Option AFunc} {h : AH}
theorem Gives.uniq {f : Nat} {args : List AV} {r r' : CR} (x : Gives tab f args h r) (y : Gives tab f args h r') : r = r' := by
 obtain ⟨n, hn⟩ := x.at
 obtain ⟨m, hm⟩ := y.at
 rw [← hn (max n m) (Nat.le_max_left _ _), ← hm (max n m) (Nat.le_max_right _ _)]
structure Seg (h0 : AH) (id o n s : Nat) (p : Option Nat) (c0 : T AV) (h : AH) (g : Nat → Int) : Prop where
 old : id < h0.next
 more : MoreBut id h0 h
 row : ∃ c, h.mem.get id = some (.cells c s p false) ∧ IArr c o n g ∧ ∀ k, (k < o ∨ o + n ≤ k) → c.get k = c0.get k
variable {h0 : AH} {id o n s : Nat} {p : Option Nat} {c0 : T AV} {g : Nat → Int}
theorem Seg.on {h' : AH} {g' : Nat → Int} {c : T AV} (x : Seg h0 id o n s p c0 h g) (hc : ∀ k, (k < o ∨ o + n ≤ k) → c.get k = c0.get k) (y : Seg h id o n s p c h' g') : Seg h0 id o n s p c0 h' g' := by
 obtain ⟨a1, a2, c1, a3, a4, a5⟩ := y
 exact ⟨x.old, x.more.trans a2, c1, a3, a4, fun k hk => by rw [a5 k hk, hc k hk]⟩
theorem Seg.add (x : Seg h0 id o n s p c0 h g) (ob : AObj) : Seg h0 id o n s p c0 (h.add ob) g := by
 obtain ⟨a1, a2, c1, a3, a4, a5⟩ := x
 have := a2.next
 exact ⟨a1, a2.trans ((More.add h ob).but id), c1, by rw [AH.add_mem, T.get_put_ne _ _ _ _ (by omega)]; exact a3, a4, a5⟩
end
end Go.Ev
namespace Go.Ev
open Go Go.ChangeShapes Go.RowKit
variable [Glob]
section
variable {H : Type} {enc : TypeId × Value → H} {P : Program} {w : World} {base : Nat} {spare : Nat → Bool} {held : Bool}
theorem zHg (hl : laidOutB P = true) {W' : World} (hb : Below w.heap.size w W') : ∀ {ts : List TypeId} {vs : List Value} {ds : List (DataW H)} {ps : List MemPlace}, (∀ t ∈ ts, P.readableRec t = true ∧ t < P.types.size) →
  DataW.TrodAll enc P w 0 (fun _ => true) true ts vs ds ps → (∀ x ∈ ps, x.block < w.heap.size) → DataW.TrodAll enc P W' 0 (fun b => decide (b < w.heap.size)) true ts vs ds ps
 | [], vs, ds, ps, _, h, _ => by
  obtain ⟨rfl, rfl, rfl⟩ := trodAll_nil h
  exact trodAll_mk0
 | t :: ts, vs, ds, ps, hr, h, hlt => by
  obtain ⟨v, vs', d, ds', p, q, rfl, rfl, rfl, h1, h2⟩ := trodAll_cons h
  exact trodAll_cons_mk (Below.trod hl (hr t (by simp)).1 (hr t (by simp)).2 h1 hb fun x hx => hlt x (by simp [hx])) (zHg hl hb (fun x hx => hr x (by simp [hx])) h2 fun x hx => hlt x (by simp [hx]))
end
end Go.Ev
namespace Go.Ev
open Go Go.ChangeShapes Go.RowKit
variable [Glob]
inductive RdD (P : Program) (h : AH) : TypeId → List AV → Prop
 | bool {t : TypeId} {b : Bool} : P.underlying t = some .bool → RdD P h t [.bool b]
 | int {t : TypeId} {k : IntKind} {n : Int} : P.underlying t = some (.int k) → (Lit.int k n).wf = true → RdD P h t [.int k n]
 | str {t : TypeId} (s : ByteArray) : P.underlying t = some .string → s.size ≤ maxLen → RdD P h t [.str s.data.toList.length (encB s.data.toList)]
 | struct {t : TypeId} {fs : Array Field} {cs : List AV} : P.underlying t = some (.struct fs) → cs.length = P.cellsOf t → (∀ f ∈ fs.toList, RdD P h f.type ((cs.drop f.offset).take (P.cellsOf f.type))) → RdD P h t cs
 | array {t e : TypeId} {n : Nat} {cs : List AV} : P.underlying t = some (.array n e) → cs.length = P.cellsOf t → (∀ i, i < n → RdD P h e ((cs.drop (i * P.cellsOf e)).take (P.cellsOf e))) → RdD P h t cs
 | nils {t e : TypeId} : P.underlying t = some (.slice e) → RdD P h t [.nils]
 | emp {t e : TypeId} {id off : Nat} : P.underlying t = some (.slice e) → RdD P h t [.sl id off 0 (.known 0)]
 | sl {t e : TypeId} {id off len cap s : Nat} {c : T AV} (L : Nat → List AV) : P.underlying t = some (.slice e) → len ≤ cap → cap ≤ maxLen → h.mem.get id = some (.cells c s none true) → id < h.next →
   (∀ i, i < len → (L i).length = P.cellsOf e ∧ ∀ j, j < P.cellsOf e → c.get (off + i * P.cellsOf e + j) = (L i)[j]?) → (∀ i, i < len → RdD P h e (L i)) → RdD P h t [.sl id off len (.known cap)]
theorem RdD.more {P : Program} {h h' : AH} {t : TypeId} {l : List AV} (x : RdD P h t l) (m : More h h') : RdD P h' t l := by
 induction x with
 | bool a => exact .bool a
 | int a b => exact .int a b
 | str s a b => exact .str s a b
 | struct a b _ ih => exact .struct a b ih
 | array a b _ ih => exact .array a b ih
 | nils a => exact .nils a
 | emp a => exact .emp a
 | sl L a b c d e f _ ih => exact .sl L a b c (by rw [m.keep _ e]; exact d) (Nat.lt_of_lt_of_le e m.next) f ih
section
variable {H : Type} {enc : TypeId × Value → H} {P : Program} {w : World}
inductive RdA (P : Program) (h : AH) (t : TypeId) : AV → Prop
 | one {a : AV} : RdD P h t [a] → (∀ fs, P.underlying t ≠ some (.struct fs)) → RdA P h t a
 | agg {l : List AV} {fs : Array Field} : RdD P h t l → P.underlying t = some (.struct fs) → RdA P h t (.agg l)
inductive RdAs (P : Program) (h : AH) : List TypeId → List AV → Prop
 | nil : RdAs P h [] []
 | cons {t : TypeId} {ts : List TypeId} {a : AV} {l : List AV} : RdA P h t a → RdAs P h ts l → RdAs P h (t :: ts) (a :: l)
theorem RdA.more {h h' : AH} {t : TypeId} {a : AV} (x : RdA P h t a) (m : More h h') : RdA P h' t a := by
 cases x with
 | one a b => exact .one (a.more m) b
 | agg a b => exact .agg (a.more m) b
theorem RdAs.more {h h' : AH} : ∀ {ts : List TypeId} {l : List AV}, RdAs P h ts l → More h h' → RdAs P h' ts l
 | _, _, .nil, _ => .nil
 | _, _, .cons a b, m => .cons (a.more m) (b.more m)
end
end Go.Ev
namespace Go.Ev
open Go Go.ChangeShapes Go.RowKit
inductive Sh where
 | bool
 | int (k : IntKind)
 | str
 | struct (l : List Sh)
 | arr (n : Nat) (s : Sh)
 | slice (s : Sh)
mutual
def Sh.size : Sh → Nat
 | .bool => 1
 | .int _ => 1
 | .str => 1
 | .struct l => Sh.sizes l
 | .arr n s => n * s.size
 | .slice _ => 1
def Sh.sizes : List Sh → Nat
 | [] => 0
 | s :: l => s.size + Sh.sizes l
end
inductive SlD {α : Type} (h : AH) (es : Nat) (R : List AV → α → Prop) : AV → List α → Prop
 | nils : SlD h es R .nils []
 | emp {id off : Nat} : SlD h es R (.sl id off 0 (.known 0)) []
 | sl {id off cap sz : Nat} {c : T AV} {xs : List α} (E : Nat → List AV) : xs.length ≤ cap → cap ≤ maxLen → h.mem.get id = some (.cells c sz none true) → id < h.next →
   (∀ (i : Nat) (hi : i < xs.length), (E i).length = es ∧ (∀ j, j < es → c.get (off + i * es + j) = (E i)[j]?) ∧ R (E i) xs[i]) → SlD h es R (.sl id off xs.length (.known cap)) xs
theorem SlD.more {α : Type} {h h' : AH} {es : Nat} {R R' : List AV → α → Prop} {v : AV} {xs : List α} (x : SlD h es R v xs) (m : More h h') (hR : ∀ cs y, R cs y → R' cs y) : SlD h' es R' v xs := by
 cases x with
 | nils => exact .nils
 | emp => exact .emp
 | sl E a b c d e => exact .sl E a b (by rw [m.keep _ d]; exact c) (Nat.lt_of_lt_of_le d m.next) fun i hi => ⟨(e i hi).1, (e i hi).2.1, hR _ _ (e i hi).2.2⟩
theorem SlD.len {α : Type} {h : AH} {es : Nat} {R : List AV → α → Prop} {v : AV} {xs : List α} (x : SlD h es R v xs) : ∀ h', oLen .sl (.c v) .leaf [] h' = .val (.int .i64 (xs.length : Int)) h' := by
 cases x with
 | nils => intro h'; rfl
 | emp => intro h'; exact zIk
 | sl E => intro h'; exact zIk
theorem SlD.mv {α : Type} {h : AH} {es : Nat} {R : List AV → α → Prop} {v : AV} {xs : List α} (x : SlD h es R v xs) : v.mv = true := by
 cases x <;> rfl
theorem SlD.cells {α : Type} {h : AH} {es : Nat} {R : List AV → α → Prop} {v : AV} {xs : List α} (x : SlD h es R v xs) : cellsOf v = some [v] := by
 cases x <;> rfl
theorem SlD.open {α : Type} {h : AH} {es : Nat} {R : List AV → α → Prop} {v : AV} {xs : List α} (x : SlD h es R v xs) (hn : 0 < xs.length) : ∃ (id off cap sz : Nat) (c : T AV) (E : Nat → List AV), v = .sl id off xs.length (.known cap) ∧ h.mem.get id = some (.cells c sz none true) ∧ id < h.next ∧
  ∀ (i : Nat) (hi : i < xs.length), (E i).length = es ∧ (∀ j, j < es → c.get (off + i * es + j) = (E i)[j]?) ∧ R (E i) xs[i] := by
 cases x with
 | nils => simp at hn
 | emp => simp at hn
 | sl E a b c d e => exact ⟨_, _, _, _, _, E, rfl, c, d, e⟩
structure Keep (b : Nat) (h h' : AH) : Prop where
 next : h.next ≤ h'.next
 keep : ∀ k, k < b → h'.mem.get k = h.mem.get k
theorem Keep.refl (b : Nat) (h : AH) : Keep b h h := ⟨Nat.le_refl _, fun _ _ => rfl⟩
theorem Keep.trans {b : Nat} {x y z : AH} (p : Keep b x y) (q : Keep b y z) : Keep b x z := ⟨Nat.le_trans p.next q.next, fun k hk => by rw [q.keep k hk, p.keep k hk]⟩
theorem Keep.less {b b' : Nat} {x y : AH} (p : Keep b x y) (h : b' ≤ b) : Keep b' x y := ⟨p.next, fun k hk => p.keep k (by omega)⟩
theorem Keep.more {h h' : AH} (p : Keep h.next h h') : More h h' := ⟨p.next, p.keep⟩
theorem Keep.set {b id : Nat} {h h' : AH} (p : Keep b h h') (hi : b ≤ id) (o : AObj) : Keep b h (h'.set id o) := ⟨by rw [AH.set_next]; exact p.next, fun k hk => by rw [AH.set_mem, T.get_put_ne _ _ _ _ (by omega)]; exact p.keep k hk⟩
theorem Keep.add {b : Nat} {h h' : AH} (p : Keep b h h') (hb : b ≤ h.next) (o : AObj) : Keep b h (h'.add o) := ⟨Nat.le_trans p.next (Nat.le_succ _), fun k hk => by have := p.next; rw [AH.add_mem, T.get_put_ne _ _ _ _ (by omega)]; exact p.keep k hk⟩
theorem Keep.kill {b id : Nat} {h h' : AH} (p : Keep b h h') (hi : b ≤ id) : Keep b h (h'.kill id) := ⟨by rw [AH.kill_next]; exact p.next, fun k hk => by rw [AH.kill_mem, T.get_put_ne _ _ _ _ (by omega)]; exact p.keep k hk⟩
inductive OwnL (h : AH) (b es : Nat) : AV → List (List AV) → Prop
 | nils : OwnL h b es .nils []
 | emp {id off : Nat} : OwnL h b es (.sl id off 0 (.known 0)) []
 | sl {id : Nat} {c : T AV} {xs : List (List AV)} : xs ≠ [] → b ≤ id → id < h.next → h.mem.get id = some (.cells c (xs.length * es) none false) →
   (∀ (i : Nat) (hi : i < xs.length), xs[i].length = es ∧ ∀ j, j < es → c.get (i * es + j) = xs[i][j]?) → OwnL h b es (.sl id 0 xs.length (.rest es)) xs
theorem OwnL.len {h : AH} {b es : Nat} {v : AV} {xs : List (List AV)} (x : OwnL h b es v xs) : ∀ h', oLen .sl (.c v) .leaf [] h' = .val (.int .i64 (xs.length : Int)) h' := by
 cases x with
 | nils => intro h'; rfl
 | emp => intro h'; rfl
 | sl => intro h'; exact zIk
theorem OwnL.mv {h : AH} {b es : Nat} {v : AV} {xs : List (List AV)} (x : OwnL h b es v xs) : v.mv = true := by cases x <;> rfl
theorem OwnL.more {h h' : AH} {b es : Nat} {v : AV} {xs : List (List AV)} (x : OwnL h b es v xs) (m : More h h') : OwnL h' b es v xs := by
 cases x with
 | nils => exact .nils
 | emp => exact .emp
 | sl a1 a2 a3 a4 a5 => exact .sl a1 a2 (Nat.lt_of_lt_of_le a3 m.next) (by rw [m.keep _ a3]; exact a4) a5
theorem OwnL.open {h : AH} {b es : Nat} {v : AV} {xs : List (List AV)} (x : OwnL h b es v xs) (hn : 0 < xs.length) : ∃ (id : Nat) (c : T AV), v = .sl id 0 xs.length (.rest es) ∧ b ≤ id ∧ id < h.next ∧ h.mem.get id = some (.cells c (xs.length * es) none false) ∧
  ∀ (i : Nat) (hi : i < xs.length), xs[i].length = es ∧ ∀ j, j < es → c.get (i * es + j) = xs[i][j]? := by
 cases x with
 | nils => simp at hn
 | emp => simp at hn
 | sl a1 a2 a3 a4 a5 => exact ⟨_, _, rfl, a2, a3, a4, a5⟩
theorem append_emp {h : AH} {es b n id off : Nat} {x : AV} {new : List AV} (hs : ∀ k, zBz es x h k = k n new) (hn : n ≠ 0) (hr : room n b = true) :
  zDl none es b (.c (.sl id off 0 (.known 0))) (.c x) .leaf [] h = .val (.sl h.next 0 n (.rest es)) (h.add (.cells (zAc new) (n * es) none false)) := by
 show zBz es x h _ = _
 rw [hs]
 show bi (Nat.beq n 0) _ (bi (room n b) (AH.new h (AObj.cells (zAc new) (Nat.mul n es) none false) fun id h => OR.val (AV.sl id 0 n (ACap.rest es)) h) (F 48)) = _
 have e : Nat.beq n 0 = false := by cases n with | zero => exact absurd rfl hn | succ n => rfl
 rw [e, hr]
 simp only [zGn, zDh, AH.new_eq]
 rfl
theorem OwnL.append {h : AH} {b es by' : Nat} {v : AV} {xs : List (List AV)} (x : OwnL h b es v xs) {src : AV} {new : List AV} (hs : ∀ k, zBz es src h k = k 1 new) (hl : new.length = es) (he : 1 ≤ es) (hb : b ≤ h.next) (hx : xs.length < 1000000) (hby : by' ≤ 1000) :
  ∃ v' h', zDl none es by' (.c v) (.c src) .leaf [] h = .val v' h' ∧ OwnL h' b es v' (xs ++ [new]) ∧ Keep b h h' ∧ h'.next = h.next + 1 ∧ (∀ k, k < h.next → (∀ o n e, v ≠ .sl k o n (.rest e)) → h'.mem.get k = h.mem.get k) ∧ ∀ k o n c, v' = .sl k o n c → h.next ≤ k := by
 have fresh : ∀ k o n c, AV.sl h.next 0 1 (.rest es) = .sl k o n c → h.next ≤ k := fun k o n c e => by injection e with e; omega
 have one : OwnL (h.add (.cells (zAc new) (1 * es) none false)) b es (.sl h.next 0 1 (.rest es)) [new] := by
  refine OwnL.sl (xs := [new]) (c := zAc new) (by simp) hb (Nat.lt_succ_self _) (by rw [AH.add_mem, T.get_put_self]; simp) fun i hi => ?_
  obtain rfl : i = 0 := by simp at hi; omega
  refine ⟨hl, fun j hj => ?_⟩
  rw [Nat.zero_mul, Nat.zero_add, zAk]; rfl
 cases x with
 | nils =>
  exact ⟨_, _, zJ5 hs (by omega) (zEj (by omega) hby), one, (Keep.refl b h).add hb _, rfl, fun k hk _ => by rw [AH.add_mem, T.get_put_ne _ _ _ _ (by omega)], fresh⟩
 | emp =>
  exact ⟨_, _, append_emp hs (by omega) (zEj (by omega) hby), one, (Keep.refl b h).add hb _, rfl, fun k hk _ => by rw [AH.add_mem, T.get_put_ne _ _ _ _ (by omega)], fresh⟩
 | sl a1 a2 a3 a4 a5 =>
  rename_i id c
  refine ⟨_, _, zJ4 hs a4 rfl he (by omega) (zEj (by omega) hby), ?_, ((Keep.refl b h).kill a2).add hb _, by rw [AH.add_next, AH.kill_next], fun k hk hne => ?_, fun k o n c e => by injection e with e; omega⟩
  rotate_left
  ·rw [AH.add_mem, AH.kill_next, T.get_put_ne _ _ _ _ (by omega), AH.kill_mem, T.get_put_ne _ _ _ _ (fun e => hne 0 xs.length es (by rw [e]))]
  have e : xs.length + 1 = (xs ++ [new]).length := by simp
  rw [e]
  refine OwnL.sl (c := putL new c (xs.length * es)) (by simp) hb (by rw [AH.add_next, AH.kill_next]; exact Nat.lt_succ_self _) (by rw [AH.add_mem, AH.kill_next, T.get_put_self]) fun i hi => ?_
  by_cases h1 : i < xs.length
  ·rw [List.getElem_append_left h1]
   refine ⟨(a5 i h1).1, fun j hj => ?_⟩
   have h2 : (i + 1) * es ≤ xs.length * es := Nat.mul_le_mul_right _ h1
   rw [Nat.succ_mul] at h2
   rw [zEd, if_neg (by omega)]
   exact (a5 i h1).2 j hj
  ·obtain rfl : i = xs.length := by simp at hi; omega
   rw [List.getElem_append_right (Nat.le_refl _)]
   simp only [Nat.sub_self, List.getElem_cons_zero]
   refine ⟨hl, fun j hj => ?_⟩
   rw [zEd, if_pos (by omega)]
   congr 1; omega
end Go.Ev
