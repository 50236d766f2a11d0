/- A logic over the abstract machine: what code comes to, by predicates on its end. More rules of the abstract machine, as equations for simp. Rules for more operations: arithmetic, boxes, slices that are made and grown. Objects that are read alone, over blocks that are there; arguments that read as before. -/
import Derived.Test.YtokophcpoecilaaGreatEvF
import Derived.Carry
import Derived.OpenShut
import Derived.ChangeArms
import Derived.Deep.Slices
set_option linter.unusedSimpArgs false
set_option linter.unusedVariables false
namespace Go.Ev
open Go
section
variable {tab : Nat → Option AFunc}
def onNorm (K : T AV → List AV → AH → Prop) (Q : Res → Prop) : Res → Prop
  | .norm l d h => K l d h
  | r => Q r
def WC (tab : Nat → Option AFunc) (c : ACode) (loc : T AV) (d : List AV) (h : AH) (Q : Res → Prop) : Prop := ∃ r, Does tab c loc d h r ∧ Q r
def GP (tab : Nat → Option AFunc) (f : Nat) (args : List AV) (h : AH) (Q : AV → AH → Prop) : Prop := ∃ v h1, Gives tab f args h (.ret v h1) ∧ Q v h1
variable {loc : T AV} {d tmp : List AV} {h : AH} {a b : ACode} {Q Q1 : Res → Prop}
theorem WC.mono {c : ACode} (x : WC tab c loc d h Q) (hq : ∀ r, Q r → Q1 r) : WC tab c loc d h Q1 := let ⟨r, h1, h2⟩ := x; ⟨r, h1, hq r h2⟩
theorem GP.mono {f : Nat} {args : List AV} {Q Q1 : AV → AH → Prop} (x : GP tab f args h Q) (hq : ∀ v h1, Q v h1 → Q1 v h1) : GP tab f args h Q1 := let ⟨v, h1, g, q⟩ := x; ⟨v, h1, g, hq v h1 q⟩
theorem wc_skip (x : Q (.norm loc d h)) : WC tab .skip loc d h Q := ⟨_, does_skip, x⟩
theorem wc_ret (x : Q (.ret loc d h)) : WC tab .ret loc d h Q := ⟨_, does_ret, x⟩
theorem wc_exit {id : Nat} (x : Q (.exit id loc d h)) : WC tab (.exit id) loc d h Q := ⟨_, does_exit, x⟩
theorem wc_seq (x : WC tab a loc d h (onNorm (fun l d h => WC tab b l d h Q) Q)) : WC tab (.seq a b) loc d h Q := by
  obtain ⟨r, hr, hq⟩ := x
  cases r with
  | norm l d1 h1 => obtain ⟨r2, hr2, hq2⟩ := hq; exact ⟨r2, does_seq hr hr2, hq2⟩
  | fail l => exact hr.1.elim
  | exit id l d1 h1 => exact ⟨_, does_seq_out hr trivial, hq⟩
  | ret l d1 h1 => exact ⟨_, does_seq_out hr trivial, hq⟩
  | pan v l d1 h1 => exact ⟨_, does_seq_out hr trivial, hq⟩
theorem wc_cond {c : Opd} {q : Bool} (hc : ev loc [] c = .bool q) (h1 : q = true → WC tab a loc d h Q) (h2 : q = false → WC tab b loc d h Q) : WC tab (.cond c a b) loc d h Q := by
  cases q with
  | true => obtain ⟨r, hr, hq⟩ := h1 rfl; exact ⟨r, does_cond hc (by simpa using hr), hq⟩
  | false => obtain ⟨r, hr, hq⟩ := h2 rfl; exact ⟨r, does_cond hc (by simpa using hr), hq⟩
theorem wc_block {id : Nat} (x : WC tab a loc d h (fun r => Q (atBlock id r))) : WC tab (.block id a) loc d h Q := by
  obtain ⟨r, hr, hq⟩ := x
  exact ⟨_, does_block hr, hq⟩
theorem wc_loop (x : WC tab a loc d h (onNorm (fun l d h => WC tab (.loop a) l d h Q) Q)) : WC tab (.loop a) loc d h Q := by
  obtain ⟨r, hr, hq⟩ := x
  cases r with
  | norm l d1 h1 => obtain ⟨r2, hr2, hq2⟩ := hq; exact ⟨r2, does_loop hr hr2, hq2⟩
  | fail l => exact hr.1.elim
  | exit id l d1 h1 => exact ⟨_, does_loop_out hr trivial, hq⟩
  | ret l d1 h1 => exact ⟨_, does_loop_out hr trivial, hq⟩
  | pan v l d1 h1 => exact ⟨_, does_loop_out hr trivial, hq⟩

/-! ### Regions -/
def PO (tab : Nat → Option AFunc) (whole : List AOper) (loc0 : T AV) : List AOper → T AV → List AV → List AV → AH → (Res → Prop) → Prop
  | [], loc, _, d, h, Q => Q (.norm loc d h)
  | ⟨op, g, out, re⟩ :: l, loc, tmp, d, h, Q =>
    match guardB loc tmp g with
    | none => False
    | some q => (q = false → PO tab whole loc0 l (putOut out (.tup []) loc) (.tup [] :: tmp) d h Q) ∧ (q = true →
      match evOp op loc tmp h with
      | .val v h1 => reads loc tmp h1 re = true ∧ PO tab whole loc0 l (putOut out v loc) (v :: tmp) d h1 Q
      | .enter f args => GP tab f args h fun v h1 => reads loc tmp h1 re = true ∧ PO tab whole loc0 l (putOut out v loc) (v :: tmp) d h1 Q
      | .pan v => Q (.pan v (forget whole loc0) d h)
      | .dfr v => PO tab whole loc0 l (putOut out (.tup []) loc) (.tup [] :: tmp) (v :: d) h Q
      | .fail _ => False)
theorem Gives.at {f : Nat} {args : List AV} {r : CR} (x : Gives tab f args h r) : ∃ n, ∀ m, n ≤ m → evCall tab (evC tab m) f args h = r := by
  obtain ⟨hg, n, hn⟩ := x
  refine ⟨n, fun m hm => ?_⟩
  exact evF_mono hm hn hg
theorem PO.ok {whole : List AOper} {loc0 : T AV} : ∀ (l : List AOper) (loc : T AV) (tmp d : List AV) (h : AH), PO tab whole loc0 l loc tmp d h Q →
    ∃ r, r.good ∧ Q r ∧ ∃ n, ∀ m, n ≤ m → evOps (evCall tab (evC tab m)) whole loc0 l loc tmp d h = r
  | [], loc, tmp, d, h, x => ⟨.norm loc d h, trivial, x, 0, fun _ _ => rfl⟩
  | ⟨op, g, out, re⟩ :: l, loc, tmp, d, h, x => by
    have e : ∀ k : Nat → List AV → AH → CR, evOps k whole loc0 (⟨op, g, out, re⟩ :: l) loc tmp d h = obind (guardB loc tmp g) (Res.fail [70]) (fun q => bi q
      (OR.rec (motive := fun _ => Res)
        (fun v h => bi (reads loc tmp h re) (evOps k whole loc0 l (putOut out v loc) (v :: tmp) d h) (Res.fail [71]))
        (fun f args => CR.rec (motive := fun _ => Res) (fun v h => bi (reads loc tmp h re) (evOps k whole loc0 l (putOut out v loc) (v :: tmp) d h) (Res.fail [71])) (fun v h => Res.pan v (forget whole loc0) d h) (fun l => Res.fail l) (k f args h))
        (fun v => Res.pan v (forget whole loc0) d h)
        (fun v => evOps k whole loc0 l (putOut out (AV.tup []) loc) (AV.tup [] :: tmp) (v :: d) h)
        (fun n => Res.fail [n]) (evOp op loc tmp h)) (evOps k whole loc0 l (putOut out (AV.tup []) loc) (AV.tup [] :: tmp) d h)) := fun _ => rfl
    simp only [PO] at x
    cases hg : guardB loc tmp g with
    | none => rw [hg] at x; exact x.elim
    | some q =>
      rw [hg] at x
      cases q with
      | false =>
        obtain ⟨r, h1, h2, n, h3⟩ := PO.ok l _ _ _ _ (x.1 rfl)
        refine ⟨r, h1, h2, n, fun m hm => ?_⟩
        rw [e, hg]; exact h3 m hm
      | true =>
        have x := x.2 rfl
        cases ho : evOp op loc tmp h with
        | val v h1 =>
          rw [ho] at x
          obtain ⟨r, g1, g2, n, g3⟩ := PO.ok l _ _ _ _ x.2
          refine ⟨r, g1, g2, n, fun m hm => ?_⟩
          rw [e, hg, ho]
          show bi (reads loc tmp h1 re) _ _ = r
          rw [x.1]; exact g3 m hm
        | enter f args =>
          rw [ho] at x
          obtain ⟨v, h1, hc, hre, hx⟩ := x
          obtain ⟨n1, hc⟩ := hc.at
          obtain ⟨r, g1, g2, n, g3⟩ := PO.ok l _ _ _ _ hx
          refine ⟨r, g1, g2, max n n1, fun m hm => ?_⟩
          rw [e, hg, ho]
          show (CR.rec (motive := fun _ => Res) (fun v h => bi (reads loc tmp h re) (evOps (evCall tab (evC tab m)) whole loc0 l (putOut out v loc) (v :: tmp) d h) (Res.fail [71])) (fun v h => Res.pan v (forget whole loc0) d h) (fun l => Res.fail l) (evCall tab (evC tab m) f args h) : Res) = r
          rw [hc m (Nat.le_trans (Nat.le_max_right _ _) hm)]
          show bi (reads loc tmp h1 re) _ _ = r
          rw [hre]; exact g3 m (Nat.le_trans (Nat.le_max_left _ _) hm)
        | pan v =>
          rw [ho] at x
          refine ⟨_, ?_, x, 0, fun m _ => ?_⟩
          · trivial
          · rw [e, hg, ho]; rfl
        | dfr v =>
          rw [ho] at x
          obtain ⟨r, g1, g2, n, g3⟩ := PO.ok l _ _ _ _ x
          refine ⟨r, g1, g2, n, fun m hm => ?_⟩
          rw [e, hg, ho]; exact g3 m hm
        | fail k => rw [ho] at x; exact x.elim
theorem wc_ops {l : List AOper} (x : PO tab l loc l loc [] d h Q) : WC tab (.ops l) loc d h Q := by
  obtain ⟨r, h1, h2, n, h3⟩ := PO.ok l _ _ _ _ x
  exact ⟨r, ⟨h1, n + 1, h3 n (Nat.le_refl _)⟩, h2⟩

/-! ### Calls -/
def onEnd (rs : List ARes) (Q : AV → AH → Prop) : Res → Prop
  | .norm l [] h => ∃ vs, results rs l h = some vs ∧ Q (one vs) h
  | .ret l [] h => ∃ vs, results rs l h = some vs ∧ Q (one vs) h
  | _ => False
theorem gp_of {f n : Nat} {body : ACode} {rs : List ARes} {args : List AV} {Q : AV → AH → Prop} (ht : tab f = some (.mk n body rs)) (hn : args.length = n) (x : WC tab body (initLoc args) [] h (onEnd rs Q)) : GP tab f args h Q := by
  obtain ⟨r, hr, hq⟩ := x
  obtain ⟨m, hm⟩ := hr.at
  have hm := hm m (Nat.le_refl _)
  have e : ∀ r, evC tab m body (initLoc args) [] h = r → evF tab m f args h = (Res.rec (motive := fun _ => CR) (fun loc d h => runD tab (evC tab m) (finish rs loc) d Mode.ret h) (fun _ _ _ _ => CR.fail [88]) (fun loc d h => runD tab (evC tab m) (finish rs loc) d Mode.ret h)
      (fun v loc d h => runD tab (evC tab m) (finish rs loc) d (Mode.pan v false) h) (fun l => CR.fail (f :: l)) r) := by
    intro r hr
    subst hr
    show obind (tab f) _ _ = _
    rw [ht]
    show bi (Nat.beq n (llen args)) _ _ = _
    rw [llen_eq, hn, Nat.beq_refl]
    rfl
  have e := e r hm
  cases r with
  | norm l d1 h1 =>
    cases d1 with
    | cons _ _ => exact hq.elim
    | nil =>
      obtain ⟨vs, h2, h3⟩ := hq
      refine ⟨one vs, h1, ⟨trivial, m, ?_⟩, h3⟩
      rw [e]
      show obind (results rs l h1) _ _ = _
      rw [h2]; rfl
  | ret l d1 h1 =>
    cases d1 with
    | cons _ _ => exact hq.elim
    | nil =>
      obtain ⟨vs, h2, h3⟩ := hq
      refine ⟨one vs, h1, ⟨trivial, m, ?_⟩, h3⟩
      rw [e]
      show obind (results rs l h1) _ _ = _
      rw [h2]; rfl
  | exit id l d1 h1 => exact hq.elim
  | pan v l d1 h1 => exact hq.elim
  | fail l => exact hq.elim
end

/-! ### Values -/
theorem evl {loc : T AV} {tmp : List AV} {k : Nat} : ev loc tmp (.l k) = (T.get loc k).getD .bad := by
  show obind (T.get loc k) AV.bad (fun v => v) = _
  cases T.get loc k <;> rfl
theorem nth_zero {v : AV} {l : List AV} : nth (v :: l) 0 = v := rfl
theorem nth_succ {v : AV} {l : List AV} {i : Nat} : nth (v :: l) (i + 1) = nth l i := rfl
theorem evs_nil {loc : T AV} {tmp : List AV} : evs loc tmp [] = [] := rfl
theorem evs_cons {loc : T AV} {tmp : List AV} {x : Opd} {l : List Opd} : evs loc tmp (x :: l) = ev loc tmp x :: evs loc tmp l := rfl
theorem putOut_none {v : AV} {loc : T AV} : putOut none v loc = loc := rfl
theorem putOut_some {k : Nat} {v : AV} {loc : T AV} : putOut (some k) v loc = T.put (some v) loc k := rfl
theorem guardB_none {loc : T AV} {tmp : List AV} : guardB loc tmp none = some true := rfl
def gOf (want : Bool) : AV → Option Bool
  | .bool b => some (if want then b else !b)
  | _ => none
theorem guardB_some {loc : T AV} {tmp : List AV} {x : Opd} {want : Bool} {b : Bool} (hb : ev loc tmp x = .bool b) : guardB loc tmp (some (x, want)) = some (if want then b else !b) := by
  show AV.on Option.none (fun b => some (bi want b (bi b false true))) _ _ _ _ _ _ _ _ _ _ _ _ _ _ (ev loc tmp x) = _
  rw [hb]
  show some (bi want b (bi b false true)) = _
  cases want <;> cases b <;> rfl
theorem reads_nil {loc : T AV} {tmp : List AV} {h : AH} : reads loc tmp h [] = true := rfl
theorem results_nil {loc : T AV} {h : AH} : results [] loc h = some [] := rfl
theorem results_val {loc : T AV} {h : AH} {x : Opd} {rs : List ARes} {l : List AV} (hl : results rs loc h = some l) : results (.val x :: rs) loc h = some (ev loc [] x :: l) := by
  show obind (results rs loc h) Option.none _ = _
  rw [hl]; rfl
theorem one_one {v : AV} : one [v] = v := rfl
theorem one_nil : one [] = .tup [] := rfl
theorem one_more {v w : AV} {l : List AV} : one (v :: w :: l) = .tup (v :: w :: l) := rfl

/-! ### Operations at values -/
section
variable {loc : T AV} {tmp : List AV} {h : AH}
theorem op_move {x : Opd} : evOp (.move x) loc tmp h = oMove (.c (ev loc tmp x)) .leaf [] h := rfl
theorem op_pick {c a b : Opd} : evOp (.pick c a b) loc tmp h = oPick (.c (ev loc tmp c)) (.c (ev loc tmp a)) (.c (ev loc tmp b)) .leaf [] h := rfl
theorem op_load {x : Opd} : evOp (.load x) loc tmp h = oLoad (.c (ev loc tmp x)) .leaf [] h := rfl
theorem op_loadN {n : Nat} {x : Opd} : evOp (.loadN n x) loc tmp h = oLoadN n (.c (ev loc tmp x)) .leaf [] h := rfl
theorem op_store {n : Nat} {a x : Opd} : evOp (.store n a x) loc tmp h = oStore n (.c (ev loc tmp a)) (.c (ev loc tmp x)) .leaf [] h := rfl
theorem op_nil {x : Opd} : evOp (.nilCheck x) loc tmp h = oNil (.c (ev loc tmp x)) .leaf [] h := rfl
theorem op_bin {o : ABin} {x y : Opd} : evOp (.bin o x y) loc tmp h = oBin o (.c (ev loc tmp x)) (.c (ev loc tmp y)) .leaf [] h := rfl
theorem op_eq {neg : Bool} {t : EqT} {x y : Opd} : evOp (.eq neg t x y) loc tmp h = oEq neg t (.c (ev loc tmp x)) (.c (ev loc tmp y)) .leaf [] h := rfl
theorem op_not {x : Opd} : evOp (.not x) loc tmp h = oNot (.c (ev loc tmp x)) .leaf [] h := rfl
theorem op_neg {x : Opd} : evOp (.neg x) loc tmp h = oNeg (.c (ev loc tmp x)) .leaf [] h := rfl
theorem op_convI {k : IntKind} {x : Opd} : evOp (.convI k x) loc tmp h = oConvI k (.c (ev loc tmp x)) .leaf [] h := rfl
theorem op_len {t : LenT} {x : Opd} : evOp (.len t x) loc tmp h = oLen t (.c (ev loc tmp x)) .leaf [] h := by cases t <;> rfl
theorem op_idxAddr {es : Nat} {x i : Opd} : evOp (.idxAddr es x i) loc tmp h = oIdxAddr es (.c (ev loc tmp x)) (.c (ev loc tmp i)) .leaf [] h := rfl
theorem op_fieldAddr {o : Nat} {x : Opd} : evOp (.fieldAddr o x) loc tmp h = oFieldAddr o (.c (ev loc tmp x)) .leaf [] h := rfl
theorem op_field {o n : Nat} {ag : Bool} {x : Opd} : evOp (.field o n ag x) loc tmp h = oField o n ag (.c (ev loc tmp x)) .leaf [] h := rfl
theorem op_extract {i : Nat} {x : Opd} : evOp (.extract i x) loc tmp h = oExtract i (.c (ev loc tmp x)) .leaf [] h := rfl
theorem op_callF {f : Nat} {l : List Opd} : evOp (.callF f l) loc tmp h = .enter f (evs loc tmp l) := rfl
theorem op_alloc {z : List AV} : evOp (.alloc z) loc tmp h = .val (.ptr h.next 0) (h.add (.cells (ofList z) (llen z) false false)) := by
  show AH.new h (AObj.cells (ofList z) (llen z) false false) (fun id h => OR.val (AV.ptr id 0) h) = _
  rw [AH.new_eq]
def AV.mv : AV → Bool
  | .bad | .tup _ => false
  | _ => true
theorem move_mv {v : AV} (hv : v.mv = true) : oMove (.c v) .leaf [] h = .val v h := by
  cases v <;> first | rfl | cases hv
theorem move_int {k : IntKind} {n : Int} : oMove (.c (.int k n)) .leaf [] h = .val (.int k n) h := rfl
theorem move_bool {q : Bool} : oMove (.c (.bool q)) .leaf [] h = .val (.bool q) h := rfl
theorem move_str {n m : Nat} : oMove (.c (.str n m)) .leaf [] h = .val (.str n m) h := rfl
theorem move_ptr {n m : Nat} : oMove (.c (.ptr n m)) .leaf [] h = .val (.ptr n m) h := rfl
theorem move_nilp : oMove (.c .nilp) .leaf [] h = .val .nilp h := rfl
theorem move_sl {i o l : Nat} {c : ACap} : oMove (.c (.sl i o l c)) .leaf [] h = .val (.sl i o l c) h := rfl
theorem move_nils : oMove (.c .nils) .leaf [] h = .val .nils h := rfl
theorem move_agg {l : List AV} : oMove (.c (.agg l)) .leaf [] h = .val (.agg l) h := rfl
theorem bin_lss {k : IntKind} {m n : Int} : oBin .lss (.c (.int k m)) (.c (.int k n)) .leaf [] h = .val (.bool (decide (m < n))) h := by
  show bi (eqK k k) (Ev.bool (ltI m n) h) _ = _
  cases k <;> (show Ev.bool (ltI m n) h = _; rw [bool_eq, ltI_eq])
theorem bin_leq {k : IntKind} {m n : Int} : oBin .leq (.c (.int k m)) (.c (.int k n)) .leaf [] h = .val (.bool (decide (m ≤ n))) h := by
  show bi (eqK k k) (Ev.bool (leI m n) h) _ = _
  cases k <;> (show Ev.bool (leI m n) h = _; rw [bool_eq, leI_eq])
theorem bin_gtr {k : IntKind} {m n : Int} : oBin .gtr (.c (.int k m)) (.c (.int k n)) .leaf [] h = .val (.bool (decide (n < m))) h := by
  show bi (eqK k k) (Ev.bool (ltI n m) h) _ = _
  cases k <;> (show Ev.bool (ltI n m) h = _; rw [bool_eq, ltI_eq])
theorem bin_geq {k : IntKind} {m n : Int} : oBin .geq (.c (.int k m)) (.c (.int k n)) .leaf [] h = .val (.bool (decide (n ≤ m))) h := by
  show bi (eqK k k) (Ev.bool (leI n m) h) _ = _
  cases k <;> (show Ev.bool (leI n m) h = _; rw [bool_eq, leI_eq])
theorem bin_add {k : IntKind} {m n : Int} : oBin .add (.c (.int k m)) (.c (.int k n)) .leaf [] h = .val (.int k (k.wrap (m + n))) h := by
  show bi (eqK k k) (intV k (m + n) h) _ = _
  cases k <;> (show intV _ (m + n) h = _; rw [intV_eq])
theorem bin_sub {k : IntKind} {m n : Int} : oBin .sub (.c (.int k m)) (.c (.int k n)) .leaf [] h = .val (.int k (k.wrap (m - n))) h := by
  show bi (eqK k k) (intV k (m - n) h) _ = _
  cases k <;> (show intV _ (m - n) h = _; rw [intV_eq])
theorem bin_mul {k : IntKind} {m n : Int} : oBin .mul (.c (.int k m)) (.c (.int k n)) .leaf [] h = .val (.int k (k.wrap (m * n))) h := by
  show bi (eqK k k) (intV k (m * n) h) _ = _
  cases k <;> (show intV _ (m * n) h = _; rw [intV_eq])
theorem eq_int {neg : Bool} {k : IntKind} {m n : Int} : oEq neg .num (.c (.int k m)) (.c (.int k n)) .leaf [] h = .val (.bool (if neg then !decide (m = n) else decide (m = n))) h := by
  show obind (bi (eqK k k) (some (eqI m n)) none) _ _ = _
  cases k <;> (show Ev.bool (bi neg (bi (eqI m n) false true) (eqI m n)) h = _; rw [bool_eq, eqI_eq]; cases neg <;> cases decide (m = n) <;> rfl)
theorem eq_str {neg : Bool} {l s l' s' : Nat} : oEq neg .num (.c (.str l s)) (.c (.str l' s')) .leaf [] h = .val (.bool (if neg then !decide (l = l' ∧ s = s') else decide (l = l' ∧ s = s'))) h := by
  show Ev.bool (bi neg (bi (bi (Nat.beq l l') (Nat.beq s s') false) false true) (bi (Nat.beq l l') (Nat.beq s s') false)) h = _
  have : bi (Nat.beq l l') (Nat.beq s s') false = decide (l = l' ∧ s = s') := by
    rw [bi_eq]
    by_cases h1 : l = l'
    · subst h1; rw [if_pos (Nat.beq_refl _)]
      by_cases h2 : s = s'
      · subst h2; simp
      · have : Nat.beq s s' = false := by cases hb : Nat.beq s s' with
          | false => rfl
          | true => exact absurd (Nat.eq_of_beq_eq_true hb) h2
        rw [this]; simp [h2]
    · have : Nat.beq l l' = false := by cases hb : Nat.beq l l' with
        | false => rfl
        | true => exact absurd (Nat.eq_of_beq_eq_true hb) h1
      rw [this]; simp [h1]
  rw [this, bool_eq]
  cases neg <;> cases decide (l = l' ∧ s = s') <;> rfl
theorem eq_bool {neg p q : Bool} : oEq neg .bool (.c (.bool p)) (.c (.bool q)) .leaf [] h = .val (.bool (if neg then !decide (p = q) else decide (p = q))) h := by
  cases neg <;> cases p <;> cases q <;> rfl
theorem not_bool {q : Bool} : oNot (.c (.bool q)) .leaf [] h = .val (.bool (!q)) h := by cases q <;> rfl
theorem len_sl {i o l : Nat} {c : ACap} : oLen .sl (.c (.sl i o l c)) .leaf [] h = .val (.int .i64 l) h := by
  show natV l h = _
  rw [natV_eq]
theorem len_nils : oLen .sl (.c .nils) .leaf [] h = .val (.int .i64 ((0 : Nat) : Int)) h := rfl
theorem len_str {l b : Nat} : oLen .str (.c (.str l b)) .leaf [] h = .val (.int .i64 l) h := by
  show natV l h = _
  rw [natV_eq]
theorem idx_sl {es id o l i : Nat} {c : ACap} {k : IntKind} (hi : i < l) : oIdxAddr es (.c (.sl id o l c)) (.c (.int k (i : Int))) .leaf [] h = .val (.ptr id (o + i * es)) h := by
  show bi (Nat.ble (Nat.succ i) l) (fN (Nat.add o (Nat.mul i es)) fun o => OR.val (AV.ptr id o) h) _ = _
  rw [bi_eq, if_pos (Nat.ble_eq.mpr hi), fN_eq]
  rfl
theorem fieldAddr_ptr {o id p : Nat} : oFieldAddr o (.c (.ptr id p)) .leaf [] h = .val (.ptr id (p + o)) h := by
  show fN (Nat.add p o) (fun o => OR.val (AV.ptr id o) h) = _
  rw [fN_eq]; rfl
theorem load_ptr {id o : Nat} {c : T AV} {s : Nat} {p r : Bool} {v : AV} (hg : h.mem.get id = some (.cells c s p r)) (hc : c.get o = some v) : oLoad (.c (.ptr id o)) .leaf [] h = .val v h := by
  show onCells (AH.get h id) _ = _
  rw [AH.get_eq, hg]
  show obind (T.get c o) _ _ = _
  rw [hc]; rfl
theorem loadN_ptr {n id o : Nat} {c : T AV} {s : Nat} {p r : Bool} {l : List AV} (hg : h.mem.get id = some (.cells c s p r)) (hc : loadL c n o = some l) : oLoadN n (.c (.ptr id o)) .leaf [] h = .val (.agg l) h := by
  show onCells (AH.get h id) _ = _
  rw [AH.get_eq, hg]
  show obind (loadL c n o) _ _ = _
  rw [hc]; rfl
theorem loadL_zero {c : T AV} {o : Nat} : loadL c 0 o = some [] := rfl
theorem loadL_succ {c : T AV} {n o : Nat} {v : AV} {l : List AV} (h1 : c.get o = some v) (h2 : loadL c n (o + 1) = some l) : loadL c (n + 1) o = some (v :: l) := by
  show obind (T.get c o) none (fun v => obind (loadL c n (o + 1)) none fun l => some (v :: l)) = _
  rw [h1]; show obind (loadL c n (o + 1)) none _ = _; rw [h2]; rfl
end
end Go.Ev

namespace Go.Ev
open Go
section
variable {loc : T AV} {tmp : List AV} {h : AH}
noncomputable def gv (v : AV) (want : Bool) : Option Bool := guardB .leaf [] (some (.c v, want))
theorem gb_any {x : Opd} {want : Bool} : guardB loc tmp (some (x, want)) = gv (ev loc tmp x) want := rfl
theorem gb_bool {b want : Bool} : gv (.bool b) want = some (if want then b else !b) := guardB_some rfl
theorem pick_bool {q : Bool} {a b : AV} : oPick (.c (.bool q)) (.c a) (.c b) .leaf [] h = if q then oMove (.c a) .leaf [] h else oMove (.c b) .leaf [] h := by cases q <;> rfl
theorem op_build {z : List AV} {ps : List Part} : evOp (.build z ps) loc tmp h = obind (fill loc tmp ps z) (F 15) fun l => OR.val (AV.agg l) h := by
  rw [← fillQ_eq]; rfl
theorem fill_nil {z : List AV} : fill loc tmp [] z = some z := rfl
theorem onCells_some {c : T AV} {s : Nat} {p r : Bool} {k : T AV → Nat → Bool → Bool → OR} : onCells (some (.cells c s p r)) k = k c s p r := rfl
theorem obind_some {α β : Type} {a : α} {d : β} {k : α → β} : obind (some a) d k = k a := rfl
theorem obind_none {α β : Type} {d : β} {k : α → β} : obind (none : Option α) d k = d := rfl
theorem bi_true {β : Type} {x y : β} : bi true x y = x := rfl
theorem bi_false {β : Type} {x y : β} : bi false x y = y := rfl
theorem AH.add_mem {o : AObj} : (h.add o).mem = T.put (some o) h.mem h.next := rfl
theorem AH.set_mem {id : Nat} {o : AObj} : (h.set id o).mem = T.put (some o) h.mem id := by rw [AH.set_eq]
theorem AH.get_set {id : Nat} {o : AObj} : (h.set id o).mem.get id = some o := by rw [AH.set_eq]; exact T.get_put_self _ _ _
theorem AH.set_next {id : Nat} {o : AObj} : (h.set id o).next = h.next := by rw [AH.set_eq]
theorem load_cells {id o : Nat} : oLoad (.c (.ptr id o)) .leaf [] h = onCells (h.mem.get id) fun c _ _ _ => obind (T.get c o) (F 17) fun v => OR.val v h := by
  rw [← AH.get_eq]; rfl
theorem loadN_cells {n id o : Nat} : oLoadN n (.c (.ptr id o)) .leaf [] h = onCells (h.mem.get id) fun c _ _ _ => obind (loadL c n o) (F 18) fun l => OR.val (AV.agg l) h := by
  rw [← AH.get_eq]; rfl
theorem store_cells {n id o : Nat} {x : AV} : oStore n (.c (.ptr id o)) (.c x) .leaf [] h = onCells (h.mem.get id) fun c s p r => bi r (F 19) (obind (cellsOf x) (F 21) fun vs => bi (Nat.beq (llen vs) n) (obind (storeL vs c o) (F 20) fun c' => OR.val (AV.tup []) (h.set id (AObj.cells c' s p r))) (F 21)) := by
  rw [← AH.get_eq]; rfl
theorem cells_agg {l : List AV} : cellsOf (.agg l) = some l := rfl
theorem cells_int {k : IntKind} {n : Int} : cellsOf (.int k n) = some [.int k n] := rfl
theorem loadL_more {c : T AV} {n o : Nat} : loadL c (n + 1) o = obind (c.get o) none fun v => obind (loadL c n (o + 1)) none fun l => some (v :: l) := rfl
theorem storeL_nil {c : T AV} {o : Nat} : storeL [] c o = some c := rfl
theorem storeL_cons {v : AV} {l : List AV} {c : T AV} {o : Nat} : storeL (v :: l) c o = obind (c.get o) none fun _ => storeL l (T.put (some v) c o) (o + 1) := rfl
theorem llen_nil : llen [] = 0 := rfl
theorem llen_cons {v : AV} {l : List AV} : llen (v :: l) = llen l + 1 := rfl
theorem beq_nat {m n : Nat} : Nat.beq m n = decide (m = n) := by
  by_cases h : m = n
  · subst h; rw [Nat.beq_refl]; simp
  · cases hb : Nat.beq m n with
    | false => simp [h]
    | true => exact absurd (Nat.eq_of_beq_eq_true hb) h
theorem onNorm_norm {K : T AV → List AV → AH → Prop} {Q : Res → Prop} {l : T AV} {d : List AV} : onNorm K Q (.norm l d h) = K l d h := rfl
theorem onNorm_ret {K : T AV → List AV → AH → Prop} {Q : Res → Prop} {l : T AV} {d : List AV} : onNorm K Q (.ret l d h) = Q (.ret l d h) := rfl
theorem onNorm_exit {K : T AV → List AV → AH → Prop} {Q : Res → Prop} {l : T AV} {d : List AV} {id : Nat} : onNorm K Q (.exit id l d h) = Q (.exit id l d h) := rfl
theorem atBlock_norm {id : Nat} {l : T AV} {d : List AV} : atBlock id (.norm l d h) = .norm l d h := rfl
theorem atBlock_ret {id : Nat} {l : T AV} {d : List AV} : atBlock id (.ret l d h) = .ret l d h := rfl
theorem atBlock_exit {id id' : Nat} {l : T AV} {d : List AV} : atBlock id (.exit id' l d h) = if id = id' then .norm l d h else .exit id' l d h := rfl
theorem res_cellN {n : Nat} {x : Opd} {id o : Nat} {l : List AV} (hx : ev loc [] x = .ptr id o) (hl : onCells (h.mem.get id) (fun c _ _ _ => obind (loadL c n o) (F 18) fun l => OR.val (AV.agg l) h) = .val (.agg l) h) : results [.cellN n x] loc h = some [.agg l] := by
  show AV.on Option.none (fun _ => Option.none) (fun _ _ => Option.none) (fun _ _ => Option.none) (fun id off => obind (AH.get h id) Option.none fun o => AObj.rec (motive := fun _ => Option (List AV)) (fun c _ _ _ => obind (loadL c n off) Option.none fun v => some [AV.agg v]) (fun _ _ => Option.none) (fun _ _ _ _ => Option.none) o) Option.none (fun _ _ _ _ => Option.none) Option.none (fun _ => Option.none) Option.none (fun _ _ _ => Option.none) Option.none (fun _ _ => Option.none) Option.none (fun _ => Option.none) (fun _ => Option.none) (ev loc [] x) = _
  rw [hx]
  show obind (AH.get h id) Option.none _ = _
  rw [AH.get_eq]
  cases hg : h.mem.get id with
  | none => rw [hg] at hl; cases hl
  | some ob =>
    rw [hg] at hl
    cases ob with
    | cells c s p r =>
      show obind (loadL c n o) Option.none _ = _
      have hl : obind (loadL c n o) (F 18) (fun l => OR.val (AV.agg l) h) = .val (.agg l) h := hl
      cases hll : loadL c n o with
      | none => rw [hll] at hl; cases hl
      | some l' => rw [hll] at hl; injection hl with hl _; injection hl with hl; subst hl; rfl
    | _ => cases hl
/-! ### Regions step by step: the rest is data, so that simp looks at one operation at a time -/
section
variable {tab : Nat → Option AFunc}
def stepO (tab : Nat → Option AFunc) (whole : List AOper) (loc0 : T AV) (l : List AOper) (out : Option Nat) (re : List ARe) (loc : T AV) (tmp d : List AV) (h : AH) (Q : Res → Prop) : OR → Prop
  | .val v h1 => reads loc tmp h1 re = true ∧ PO tab whole loc0 l (putOut out v loc) (v :: tmp) d h1 Q
  | .enter f args => GP tab f args h fun v h1 => reads loc tmp h1 re = true ∧ PO tab whole loc0 l (putOut out v loc) (v :: tmp) d h1 Q
  | .pan v => Q (.pan v (forget whole loc0) d h)
  | .dfr v => PO tab whole loc0 l (putOut out (.tup []) loc) (.tup [] :: tmp) (v :: d) h Q
  | .fail _ => False
def guardO (tab : Nat → Option AFunc) (whole : List AOper) (loc0 : T AV) (l : List AOper) (op : AOp) (out : Option Nat) (re : List ARe) (loc : T AV) (tmp d : List AV) (h : AH) (Q : Res → Prop) : Option Bool → Prop
  | none => False
  | some false => PO tab whole loc0 l (putOut out (.tup []) loc) (.tup [] :: tmp) d h Q
  | some true => stepO tab whole loc0 l out re loc tmp d h Q (evOp op loc tmp h)
variable {whole l : List AOper} {loc0 : T AV} {op : AOp} {g : Option (Opd × Bool)} {out : Option Nat} {re : List ARe} {d : List AV} {Q : Res → Prop}
theorem PO_nil : PO tab whole loc0 [] loc tmp d h Q = Q (.norm loc d h) := rfl
theorem PO_cons : PO tab whole loc0 (⟨op, g, out, re⟩ :: l) loc tmp d h Q = guardO tab whole loc0 l op out re loc tmp d h Q (guardB loc tmp g) := by
  rw [PO]
  cases guardB loc tmp g with
  | none => rfl
  | some q =>
    cases q with
    | false => simp [guardO]
    | true => simp only [guardO]; cases evOp op loc tmp h <;> simp [stepO]
theorem guardO_false : guardO tab whole loc0 l op out re loc tmp d h Q (some false) = PO tab whole loc0 l (putOut out (.tup []) loc) (.tup [] :: tmp) d h Q := rfl
theorem guardO_true : guardO tab whole loc0 l op out re loc tmp d h Q (some true) = stepO tab whole loc0 l out re loc tmp d h Q (evOp op loc tmp h) := rfl
theorem stepO_val {v : AV} {h1 : AH} : stepO tab whole loc0 l out re loc tmp d h Q (.val v h1) = (reads loc tmp h1 re = true ∧ PO tab whole loc0 l (putOut out v loc) (v :: tmp) d h1 Q) := rfl
theorem stepO_enter {f : Nat} {args : List AV} : stepO tab whole loc0 l out re loc tmp d h Q (.enter f args) = GP tab f args h fun v h1 => reads loc tmp h1 re = true ∧ PO tab whole loc0 l (putOut out v loc) (v :: tmp) d h1 Q := rfl
theorem stepO_pan {v : AV} : stepO tab whole loc0 l out re loc tmp d h Q (.pan v) = Q (.pan v (forget whole loc0) d h) := rfl
theorem stepO_dfr {v : AV} : stepO tab whole loc0 l out re loc tmp d h Q (.dfr v) = PO tab whole loc0 l (putOut out (.tup []) loc) (.tup [] :: tmp) (v :: d) h Q := rfl
/-- a region: what is to come is hidden from simp -/
theorem wc_opq {l : List AOper} (x : ∀ Q', (∀ r, Q r → Q' r) → PO tab l loc l loc [] d h Q') : WC tab (.ops l) loc d h Q := wc_ops (x Q fun _ h => h)
end
/-- a sequence by what holds between -/
theorem wc_mid {tab : Nat → Option AFunc} {a b : ACode} {d : List AV} {Q : Res → Prop} (M : T AV → List AV → AH → Prop) (x : WC tab a loc d h (onNorm M Q)) (y : ∀ l d h, M l d h → WC tab b l d h Q) : WC tab (.seq a b) loc d h Q := by
  refine wc_seq (x.mono fun r hr => ?_)
  cases r <;> first | exact y _ _ _ hr | exact hr
noncomputable def reOf (r w : AV) (b : Bool) : OR → Bool → Bool
  | .val v _, true => bi (same v w) b false
  | _, true => false
  | _, false => b
theorem reads_cons {op : AOp} {i : Nat} {g : Option (Opd × Bool)} {l : List ARe} {v : AV} {h' : AH} (hg : guardB loc tmp g = some true) (hv : evOp op loc tmp h = .val v h') (hs : same v (nth tmp i) = true) : reads loc tmp h (⟨op, i, g⟩ :: l) = reads loc tmp h l := by
  show obind (guardB loc tmp g) false (fun q => bi q (OR.rec (motive := fun _ => Bool) (fun v _ => bi (same v (nth tmp i)) (reads loc tmp h l) false) (fun _ _ => false) (fun _ => false) (fun _ => false) (fun _ => false) (evOp op loc tmp h)) (reads loc tmp h l)) = _
  rw [hg, hv]
  show bi (same v (nth tmp i)) (reads loc tmp h l) false = _
  rw [hs]; rfl
theorem same_int {k : IntKind} {n : Int} : same (.int k n) (.int k n) = true := by
  show bi (eqK k k) (eqI n n) false = true
  rw [eqI_eq]
  cases k <;> exact decide_eq_true rfl
theorem same_agg_nil : same (.agg []) (.agg []) = true := rfl
theorem same_agg_cons {x y : AV} {xs ys : List AV} : same (.agg (x :: xs)) (.agg (y :: ys)) = bi (same x y) (same (.agg xs) (.agg ys)) false := rfl
theorem eq_agg {neg : Bool} {ks : List SK} {a b : List AV} : oEq neg (.agg ks) (.c (.agg a)) (.c (.agg b)) .leaf [] h = obind (eqL ks a b) (F 29) fun q => OR.val (.bool (if neg then !q else q)) h := by
  show obind (eqL ks a b) (F 29) (fun q => Ev.bool (bi neg (bi q false true) q) h) = _
  cases eqL ks a b with
  | none => rfl
  | some q => cases neg <;> cases q <;> rfl
theorem eqLz : eqL [] [] [] = some true := rfl
theorem eqLs {k : SK} {ks : List SK} {x y : AV} {xs ys : List AV} : eqL (k :: ks) (x :: xs) (y :: ys) = obind (eqS k x y) none fun q => bi q (eqL ks xs ys) (obind (eqL ks xs ys) none fun _ => some false) := rfl
theorem eqS_int {k : IntKind} {m n : Int} : eqS .int (.int k m) (.int k n) = some (decide (m = n)) := by
  show bi (eqK k k) (some (eqI m n)) none = _
  rw [eqI_eq]
  cases k <;> rfl
theorem eqS_bool {p q : Bool} : eqS .bool (.bool p) (.bool q) = some (decide (p = q)) := by cases p <;> cases q <;> rfl
def yesF : AFunc := knownF 0 [([], .bool true)]
theorem gp_yes {tab : Nat → Option AFunc} {f : Nat} {Q : AV → AH → Prop} (ht : tab f = some yesF) (q : Q (.bool true) h) : GP tab f [] h Q := by
  refine gp_of ht rfl (wc_ops ?_)
  rw [PO_cons, guardB_none, guardO_true]
  show stepO tab _ _ [] (some 0) [] _ [] [] h _ (OR.val (.bool true) h)
  refine ⟨rfl, ?_⟩
  rw [PO_nil]
  refine ⟨_, results_val results_nil, ?_⟩
  rw [one_one, evl, putOut_some, T.get_put_self]
  exact q
/-- what was there is there -/
structure More (h h' : AH) : Prop where
  next : h.next ≤ h'.next
  keep : ∀ id, id < h.next → h'.mem.get id = h.mem.get id
theorem More.refl (h : AH) : More h h := ⟨Nat.le_refl _, fun _ _ => rfl⟩
theorem More.trans {a b c : AH} (x : More a b) (y : More b c) : More a c := ⟨Nat.le_trans x.next y.next, fun id hi => by rw [y.keep id (Nat.lt_of_lt_of_le hi x.next), x.keep id hi]⟩
theorem More.add (h : AH) (o : AObj) : More h (h.add o) := ⟨Nat.le_succ _, fun id hi => by rw [AH.add_mem, T.get_put_ne _ _ _ _ (by omega)]⟩
theorem More.set {h h' : AH} (x : More h h') {id : Nat} (hi : h.next ≤ id) (o : AObj) : More h (h'.set id o) := ⟨by rw [AH.set_next]; exact x.next, fun i hj => by rw [AH.set_mem, T.get_put_ne _ _ _ _ (by omega), x.keep i hj]⟩
/-- a loop by an invariant that bears a measure -/
theorem wc_while {tab : Nat → Option AFunc} {a : ACode} {Q : Res → Prop} (I : Nat → T AV → List AV → AH → Prop) (step : ∀ k loc d h, I k loc d h → WC tab a loc d h (onNorm (fun l d h => ∃ k', k' < k ∧ I k' l d h) Q)) :
    ∀ (k : Nat) {loc : T AV} {d : List AV} {h : AH}, I k loc d h → WC tab (.loop a) loc d h Q := by
  intro k
  induction k using Nat.strongRecOn with
  | ind k ih =>
    intro loc d h hI
    refine wc_loop ((step k loc d h hI).mono fun r hr => ?_)
    cases r with
    | norm l d1 h1 => obtain ⟨k', hk, hI'⟩ := hr; exact ih k' hk hI'
    | _ => exact hr
theorem wrap_nat {n : Nat} (hn : n < 9223372036854775808) : IntKind.i64.wrap (n : Int) = n := inRange_wrap (by show Nat.ble n (nat_lit 9223372036854775807) = true; exact Nat.ble_eq.mpr (Nat.le_of_lt_succ hn))
end
end Go.Ev

namespace Go.Ev
open Go
section
variable {loc : T AV} {tmp : List AV} {h : AH}
theorem op_max {x y : Opd} : evOp (.max x y) loc tmp h = oMax (.c (ev loc tmp x)) (.c (ev loc tmp y)) .leaf [] h := rfl
theorem op_min {x y : Opd} : evOp (.min x y) loc tmp h = oMin (.c (ev loc tmp x)) (.c (ev loc tmp y)) .leaf [] h := rfl
theorem max_int {k k' : IntKind} {m n : Int} : oMax (.c (.int k m)) (.c (.int k' n)) .leaf [] h = .val (.int k (if m < n then n else m)) h := by
  show bi (ltI m n) (OR.val (AV.int k n) h) (OR.val (AV.int k m) h) = _
  rw [ltI_eq, bi_eq]
  by_cases hc : m < n <;> simp [hc]
theorem min_int {k k' : IntKind} {m n : Int} : oMin (.c (.int k m)) (.c (.int k' n)) .leaf [] h = .val (.int k (if n < m then n else m)) h := by
  show bi (ltI n m) (OR.val (AV.int k n) h) (OR.val (AV.int k m) h) = _
  rw [ltI_eq, bi_eq]
  by_cases hc : n < m <;> simp [hc]
theorem convI_int {k k' : IntKind} {n : Int} : oConvI k (.c (.int k' n)) .leaf [] h = .val (.int k (k.wrap n)) h := by
  show intV k n h = _
  rw [intV_eq]
theorem bin_rem {k : IntKind} {m n : Int} (hn : n ≠ 0) : oBin .rem (.c (.int k m)) (.c (.int k n)) .leaf [] h = .val (.int k (Int.tmod m n)) h := by
  have e : eqI n (Int.ofNat 0) = false := by rw [eqI_eq]; exact decide_eq_false hn
  show bi (eqK k k) (bi (eqI n (Int.ofNat 0)) (F 22) (fI (Int.tmod m n) fun n => OR.val (AV.int k n) h)) _ = _
  rw [e]
  cases k <;> (show fI (Int.tmod m n) (fun n => OR.val (AV.int _ n) h) = _; rw [fI_eq])
theorem bin_quo {k : IntKind} {m n : Int} (hn : n ≠ 0) : oBin .quo (.c (.int k m)) (.c (.int k n)) .leaf [] h = .val (.int k (k.wrap (Int.tdiv m n))) h := by
  have e : eqI n (Int.ofNat 0) = false := by rw [eqI_eq]; exact decide_eq_false hn
  show bi (eqK k k) (bi (eqI n (Int.ofNat 0)) (F 22) (intV k (Int.tdiv m n) h)) _ = _
  rw [e]
  cases k <;> (show intV _ (Int.tdiv m n) h = _; rw [intV_eq])
theorem bin_shr {k k' : IntKind} {m n : Nat} (hn : n ≤ k.bits) : oBin .shr (.c (.int k (m : Int))) (.c (.int k' (n : Int))) .leaf [] h = .val (.int k ((m / 2 ^ n : Nat) : Int)) h := by
  show bi (Nat.ble n k.bits) (fN (Nat.div m (Nat.pow 2 n)) fun m => OR.val (AV.int k (Int.ofNat m)) h) (F 26) = _
  rw [bi_eq, if_pos (Nat.ble_eq.mpr hn), fN_eq]
  rfl
theorem nil_ptr {i o : Nat} : oNil (.c (.ptr i o)) .leaf [] h = .val (.ptr i o) h := rfl
theorem extract_tup {i : Nat} {l : List AV} (hv : (nth l i).mv = true) : oExtract i (.c (.tup l)) .leaf [] h = .val (nth l i) h := by
  show AV.on (F 44) (fun _ => OR.val (nth l i) h) (fun _ _ => OR.val (nth l i) h) (fun _ _ => OR.val (nth l i) h) (fun _ _ => OR.val (nth l i) h) (OR.val (nth l i) h) (fun _ _ _ _ => OR.val (nth l i) h) (OR.val (nth l i) h) (fun _ => OR.val (nth l i) h) (OR.val (nth l i) h) (fun _ _ _ => OR.val (nth l i) h) (OR.val (nth l i) h) (fun _ _ => OR.val (nth l i) h) (OR.val (nth l i) h) (fun _ => OR.val (nth l i) h) _ (nth l i) = _
  cases e : nth l i <;> rw [e] at hv <;> first | rfl | cases hv
theorem op_box {x : Opd} : evOp (.box x) loc tmp h = oBox (.c (ev loc tmp x)) .leaf [] h := rfl
theorem box_agg {l : List AV} : oBox (.c (.agg l)) .leaf [] h = .val (.ptr h.next 0) (h.add (.cells (ofList l) (llen l) false false)) := by
  show AH.new h (AObj.cells (ofList l) (llen l) false false) (fun id h => OR.val (AV.ptr id 0) h) = _
  rw [AH.new_eq]
theorem op_bslice {z : List AV} {len : Nat} {ps : List Part} : evOp (.bslice z len ps) loc tmp h = obind (fill loc tmp ps z) (F 16) fun l => OR.val (.sl h.next 0 len (.known len)) (h.add (.cells (ofList l) (llen z) false false)) := by
  rw [← fillQ_eq]
  show obind (fillQ loc tmp ps z) (F 16) (fun l => AH.new h (AObj.cells (ofList l) (llen z) false false) fun id h => OR.val (AV.sl id 0 len (ACap.known len)) h) = _
  cases fillQ loc tmp ps z with
  | none => rfl
  | some l => simp only [obind_some, AH.new_eq]
theorem fill_cons {off size : Nat} {x : Opd} {ps : List Part} {z : List AV} : fill loc tmp (⟨off, size, x⟩ :: ps) z = obind (cellsOf (ev loc tmp x)) none fun vs => bi (Nat.beq (llen vs) size) (bi (Nat.ble (Nat.add off size) (llen z)) (fill loc tmp ps (lapp (ltake off z) (lapp vs (ldrop (Nat.add off size) z)))) none) none := rfl
theorem ble_nat {m n : Nat} : Nat.ble m n = decide (m ≤ n) := by
  by_cases h : m ≤ n
  · simp [h]
  · cases hb : Nat.ble m n with
    | false => simp [h]
    | true => exact absurd (Nat.le_of_ble_eq_true hb) h
theorem add_nat {m n : Nat} : Nat.add m n = m + n := rfl
theorem cells_str {a b : Nat} : cellsOf (.str a b) = some [.str a b] := rfl
theorem cells_bool {b : Bool} : cellsOf (.bool b) = some [.bool b] := rfl
theorem cells_sl {i o l : Nat} {c : ACap} : cellsOf (.sl i o l c) = some [.sl i o l c] := rfl
theorem op_append {es b : Nat} {s x : Opd} : evOp (.append es b s x) loc tmp h = oAppend es b (.c (ev loc tmp s)) (.c (ev loc tmp x)) .leaf [] h := rfl
theorem src_sl {es id o len : Nat} {cap : ACap} {c : T AV} {s : Nat} {p r : Bool} {l : List AV} (hlen : len ≠ 0) (hg : h.mem.get id = some (.cells c s p r)) (hl : loadL c (len * es) o = some l) (k : Nat → List AV → OR) : srcCells es (.sl id o len cap) h k = k len l := by
  show bi (Nat.beq len 0) _ (onCells (AH.get h id) (fun c _ _ _ => obind (loadL c (Nat.mul len es) o) (F 47) fun l => k len l)) = _
  have e : Nat.beq len 0 = false := by cases len with | zero => exact absurd rfl hlen | succ n => rfl
  rw [e, bi_false, AH.get_eq, hg]
  show obind (loadL c (len * es) o) (F 47) (fun l => k len l) = _
  rw [hl]; rfl
theorem append_nils {es b n : Nat} {x : AV} {new : List AV} (hs : ∀ k, srcCells es x h k = k n new) (hn : n ≠ 0) (hr : room n b = true) :
    oAppend es b (.c .nils) (.c x) .leaf [] h = .val (.sl h.next 0 n (.rest es)) (h.add (.cells (ofList new) (n * es) true false)) := by
  show srcCells es x h _ = _
  rw [hs]
  show bi (Nat.beq n 0) (OR.val AV.nils h) (bi (room n b) (AH.new h (AObj.cells (ofList new) (Nat.mul n es) true false) fun id h => OR.val (AV.sl id 0 n (ACap.rest es)) h) (F 48)) = _
  have e : Nat.beq n 0 = false := by cases n with | zero => exact absurd rfl hn | succ n => rfl
  rw [e, hr]
  simp only [bi_true, bi_false, AH.new_eq]
  rfl
theorem append_own {es b n d len size : Nat} {x : AV} {new : List AV} {cd : T AV} {p : Bool} (hs : ∀ k, srcCells es x h k = k n new) (hg : h.mem.get d = some (.cells cd size p false)) (hz : size = len * es) (he : 1 ≤ es) (hn : n ≠ 0) (hr : room (len + n) b = true) :
    oAppend es b (.c (.sl d 0 len (.rest es))) (.c x) .leaf [] h = .val (.sl h.next 0 (len + n) (.rest es)) ((h.kill d).add (.cells (putL new cd (len * es)) ((len + n) * es) true false)) := by
  show srcCells es x h _ = _
  rw [hs]
  have e : Nat.beq n 0 = false := by cases n with | zero => exact absurd rfl hn | succ n => rfl
  show bi (Nat.beq n 0) _ (onCells (AH.get h d) _) = _
  rw [e, bi_false, AH.get_eq, hg]
  simp only [onCells_some, fN_eq]
  have h1 : Nat.beq es es = true := Nat.beq_refl es
  have h2 : Nat.ble 1 es = true := Nat.ble_eq.mpr he
  have h3 : Nat.ble (Nat.add 0 (Nat.mul (Nat.add len n) es)) size = false := by
    cases hb : Nat.ble (Nat.add 0 (Nat.mul (Nat.add len n) es)) size with
    | false => rfl
    | true =>
      have := Nat.le_of_ble_eq_true hb
      have this : 0 + (len + n) * es ≤ size := this
      rw [Nat.add_mul] at this
      have : 1 * 1 ≤ n * es := Nat.mul_le_mul (by omega) he
      omega
  show bi (Nat.beq es es) (bi false (F 51) (bi (Nat.ble 1 es) (bi (Nat.ble (Nat.add 0 (Nat.mul (Nat.add len n) es)) size) _ (bi (room (Nat.add len n) b) (bi (Nat.beq 0 0) (AH.new (AH.kill h d) (AObj.cells (putL new cd (Nat.mul len es)) (Nat.mul (Nat.add len n) es) true false) fun id h => OR.val (AV.sl id 0 (Nat.add len n) (ACap.rest es)) h) _) (F 52))) (F 52))) (F 52) = _
  rw [h1, h2, h3, show room (Nat.add len n) b = true from hr]
  simp only [bi_true, bi_false, AH.new_eq, AH.kill_next]
  rfl
theorem AH.kill_mem {d : Nat} : (h.kill d).mem = T.put none h.mem d := by rw [AH.kill_eq]
theorem More.kill {h h' : AH} (x : More h h') {id : Nat} (hi : h.next ≤ id) : More h (h'.kill id) := ⟨by rw [AH.kill_next]; exact x.next, fun i hj => by rw [AH.kill_mem, T.get_put_ne _ _ _ _ (by omega), x.keep i hj]⟩
theorem room_small {n b : Nat} (hn : n ≤ 1000000) (hb : b ≤ 1000) : room n b = true := by
  unfold room
  rw [bi_eq, if_pos (Nat.ble_eq.mpr (Nat.le_trans hn (by decide)))]
  refine Nat.ble_eq.mpr ?_
  have : (2 * n + 512) * b ≤ 2000512 * 1000 := Nat.mul_le_mul (by omega) hb
  exact Nat.le_trans this (by decide)
theorem wrap_i64 {n : Int} (h1 : -9223372036854775808 ≤ n) (h2 : n < 9223372036854775808) : IntKind.i64.wrap n = n := by
  refine inRange_wrap ?_
  cases n with
  | ofNat n =>
    have h2 : n < 9223372036854775808 := by have h2 : (n : Int) < 9223372036854775808 := h2; omega
    show Nat.ble n (nat_lit 9223372036854775807) = true
    exact Nat.ble_eq.mpr (Nat.le_of_lt_succ h2)
  | negSucc n =>
    have h1 : n < 9223372036854775808 := by omega
    show Nat.ble n (nat_lit 9223372036854775807) = true
    exact Nat.ble_eq.mpr (Nat.le_of_lt_succ h1)
theorem wrap_u64 {n : Nat} : IntKind.u64.wrap (n : Int) = ((n % 18446744073709551616 : Nat) : Int) := by
  simp [IntKind.wrap, IntKind.signed, IntKind.bits]
end
end Go.Ev

namespace Go.Ev
open Go Go.ChangeShapes Go.RowKit
def AllRo (h : AH) : Prop := ∀ id o, h.mem.get id = some o → o.ro = true
theorem add_off {b off k : Nat} : (Addr.mk b off none).add k = ⟨b, off + k, none⟩ := by
  unfold Addr.add
  split
  · rename_i h; subst h; rfl
  · rfl
/-- an object that is read alone, over a block that is there -/
theorem WR.addRo {ρ : Rho} {h : AH} {w : World} (W : WR ρ h w) (A : AllRo h) {o : AObj} {x : Obj} {b p s : Nat} (hr : o.ro = true) (hx : w.heap[b]? = some x) (ho : ObjR ρ o x p s) :
    ∃ ρ', ρ'  = ρ.ext h.next (b, p, s) ∧ WR ρ' (h.add o) w ∧ ρ.le ρ' ∧ AllRo (h.add o) := by
  have hn := W.none_next
  have hle : ρ.le (ρ.ext h.next (b, p, s)) := Rho.le_ext hn
  have hget : ∀ i, (h.add o).mem.get i = if h.next = i then some o else h.mem.get i := fun i => T.get_put _ _ _ _
  have hb : b < w.heap.size := by
    rcases Nat.lt_or_ge b w.heap.size with hlt | hge
    · exact hlt
    · rw [Array.getElem?_eq_none hge] at hx; cases hx
  refine ⟨_, rfl, ⟨?_, ?_, ?_, ?_⟩, hle, ?_⟩
  · intro id o' b' p' s' hg he
    rw [hget] at hg
    by_cases hi : h.next = id
    · subst hi
      rw [if_pos rfl] at hg
      rw [Rho.ext_self] at he
      injection hg with hg; subst hg
      injection he with he; injection he with h1 h2; injection h2 with h2 h3
      subst h1; subst h2; subst h3
      exact ⟨x, hx, ho.mono hle⟩
    · rw [if_neg hi] at hg
      rw [Rho.ext_ne _ _ (Ne.symm hi)] at he
      obtain ⟨y, hy, hr⟩ := W.obj hg he
      exact ⟨y, hy, hr.mono hle⟩
  · intro i j o1 o2 b' p1 s1 p2 s2 h1 h2 hne e1 e2
    rw [hget] at h1 h2
    by_cases hi : h.next = i
    · rw [if_pos hi] at h1
      rw [if_neg (fun e => hne (hi.symm.trans e))] at h2
      injection h1 with h1; subst h1
      exact ⟨hr, A _ _ h2⟩
    · rw [if_neg hi] at h1
      by_cases hj : h.next = j
      · rw [if_pos hj] at h2
        injection h2 with h2; subst h2
        exact ⟨A _ _ h1, hr⟩
      · rw [if_neg hj] at h2
        exact ⟨A _ _ h1, A _ _ h2⟩
  · intro id y he
    by_cases hi : h.next = id
    · subst hi
      rw [Rho.ext_self] at he; injection he with he; subst he
      exact ⟨Nat.lt_succ_self _, hb⟩
    · rw [Rho.ext_ne _ _ (Ne.symm hi)] at he
      exact ⟨Nat.lt_succ_of_lt (W.dom he).1, (W.dom he).2⟩
  · intro id hid
    have hid' : h.next + 1 ≤ id := hid
    rw [hget, if_neg (by omega)]
    exact W.fresh (by omega)
  · intro id o' hg
    rw [hget] at hg
    by_cases hi : h.next = id
    · rw [if_pos hi] at hg; injection hg with hg; subst hg; exact hr
    · rw [if_neg hi] at hg; exact A _ _ hg
section
variable {H : Type} {enc : TypeId × Value → H} {P : Program} {w : World} {base : Nat} {spare : Nat → Bool} {held : Bool}
theorem trodAll_below (hl : laidOutB P = true) {W' : World} (hb : Below w.heap.size w W') : ∀ {ts : List TypeId} {vs : List Value} {ds : List (DataW H)} {ps : List MemPlace}, (∀ t ∈ ts, P.readableRec t = true ∧ t < P.types.size) →
    DataW.TrodAll enc P w 0 (fun _ => true) true ts vs ds ps → (∀ x ∈ ps, x.block < w.heap.size) → DataW.TrodAll enc P W' 0 (fun b => decide (b < w.heap.size)) true ts vs ds ps
  | [], vs, ds, ps, _, h, _ => by
    obtain ⟨rfl, rfl, rfl⟩ := trodAll_nil h
    exact trodAll_mk0
  | t :: ts, vs, ds, ps, hr, h, hlt => by
    obtain ⟨v, vs', d, ds', p, q, rfl, rfl, rfl, h1, h2⟩ := trodAll_cons h
    exact trodAll_cons_mk (Below.trod hl (hr t (by simp)).1 (hr t (by simp)).2 h1 hb fun x hx => hlt x (by simp [hx])) (trodAll_below hl hb (fun x hx => hr x (by simp [hx])) h2 fun x hx => hlt x (by simp [hx]))
end
end Go.Ev
