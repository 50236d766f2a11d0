/- One operation of a region; regions that run in their text's order. Regions that run in their text's order. What stands ahead of what; the order that is followed; the values of the run. The run in the order that is followed, place by place. A region whose order is drawn: what holds at each moment. A region whose order is drawn: each operation keeps what holds. A region whose order is drawn: the moves. A region whose order is drawn: whatever the order, the run's answer. Regions whose order is drawn, whole. -/
import Derived.Test.YtokophcpoecilaaGreatEvD
import Derived.Orders
set_option linter.unusedSimpArgs false
set_option linter.unusedVariables false
namespace Go.Ev
open Go

/-! ### Slots and temporaries -/
noncomputable def slot (loc : T AV) (k : Nat) : AV := obind (T.get loc k) AV.bad fun v => v
theorem slot_put (v : AV) (loc : T AV) (k k' : Nat) : slot (T.put (some v) loc k) k' = if k = k' then v else slot loc k' := by
  unfold slot
  rw [T.get_put]
  split <;> rfl
theorem ev_l (loc : T AV) (tmp : List AV) (k : Nat) : ev loc tmp (.l k) = slot loc k := rfl
theorem ev_t (loc : T AV) (tmp : List AV) (k : Nat) : ev loc tmp (.t k) = nth tmp k := rfl
theorem ev_c (loc : T AV) (tmp : List AV) (v : AV) : ev loc tmp (.c v) = v := rfl
theorem findSlot_get {m : List Nat} {t k : Nat} (h : findSlot m t = some k) : m[k]? = some t := by
  unfold findSlot at h
  obtain ⟨hlt, h1, _⟩ := List.findIdx?_eq_some_iff_getElem.1 h
  rw [List.getElem?_eq_getElem hlt]
  congr 1
  exact eq_of_beq h1
theorem findSlot_inj {m : List Nat} {t t' k : Nat} (h : findSlot m t = some k) (h' : findSlot m t' = some k) : t = t' := by
  have := findSlot_get h
  rw [findSlot_get h'] at this
  exact (Option.some.inj this).symm
theorem findIx_cons (x : Option Nat) (ts : List (Option Nat)) (t : Nat) : findIx (x :: ts) t = if x = some t then some 0 else (findIx ts t).map (· + 1) := by
  unfold findIx
  rw [List.findIdx?_cons]
  by_cases h : x = some t
  · subst h; simp
  · rw [if_neg h]
    have : (x == some t) = false := by simpa using h
    rw [this]; rfl
def LocR (ρ : Rho) (m : List Nat) (loc : T AV) (a : Act) : Prop := ∀ t k, findSlot m t = some k → VR ρ (slot loc k) (a.tmps.getD t undef)
def TmpR (ρ : Rho) (ts : List (Option Nat)) (tmp : List AV) (a : Act) : Prop := ∀ t i, findIx ts t = some i → VR ρ (nth tmp i) (a.tmps.getD t undef)
theorem LocR.mono {ρ ρ' : Rho} {m : List Nat} {loc : T AV} {a : Act} (h : ρ.le ρ') (l : LocR ρ m loc a) : LocR ρ' m loc a := fun t k e => (l t k e).mono h
theorem TmpR.mono {ρ ρ' : Rho} {ts : List (Option Nat)} {tmp : List AV} {a : Act} (h : ρ.le ρ') (l : TmpR ρ ts tmp a) : TmpR ρ' ts tmp a := fun t k e => (l t k e).mono h
theorem tmps_put {a : Act} {d : Option Tmp} {v : Value} (hd : ∀ x, d = some x → x < a.tmps.size) (t : Nat) : (a.put d v).tmps.getD t undef = if d = some t then v else a.tmps.getD t undef := by
  cases d with
  | none => simp [Act.put]
  | some x =>
    have := hd x rfl
    by_cases h : x = t
    · subst h; simp [Act.put, this]
    · rw [if_neg (by simpa using h)]
      simp [Act.put, Array.getElem?_setIfInBounds_ne h]
theorem size_put {a : Act} {d : Option Tmp} {v : Value} : (a.put d v).tmps.size = a.tmps.size := by cases d <;> simp [Act.put]
theorem LocR.put {ρ : Rho} {m : List Nat} {loc : T AV} {a : Act} {d : Option Tmp} {v : AV} {v' : Value} (hd : ∀ x, d = some x → x < a.tmps.size) (hv : VR ρ v v') (l : LocR ρ m loc a) : LocR ρ m (putOut (d.bind (findSlot m)) v loc) (a.put d v') := by
  intro t k e
  rw [tmps_put hd]
  cases d with
  | none => exact l t k e
  | some x =>
    show VR ρ (slot (putOut (findSlot m x) v loc) k) _
    by_cases hx : x = t
    · subst hx
      rw [e, if_pos rfl]
      show VR ρ (slot (T.put (some v) loc k) k) _
      rw [slot_put, if_pos rfl]; exact hv
    · rw [if_neg (by simpa using hx)]
      cases hs : findSlot m x with
      | none => exact l t k e
      | some k' =>
        show VR ρ (slot (T.put (some v) loc k') k) _
        rw [slot_put, if_neg (fun h => hx (findSlot_inj (by rw [hs, h]) e))]
        exact l t k e
theorem TmpR.put {ρ : Rho} {ts : List (Option Nat)} {tmp : List AV} {a : Act} {d : Option Tmp} {v : AV} {v' : Value} (hd : ∀ x, d = some x → x < a.tmps.size) (hv : VR ρ v v') (l : TmpR ρ ts tmp a) : TmpR ρ (d :: ts) (v :: tmp) (a.put d v') := by
  intro t i e
  rw [tmps_put hd]
  rw [findIx_cons] at e
  split at e
  · rename_i h
    injection e with e; subst e
    rw [if_pos h]; exact hv
  · rename_i h
    rw [if_neg h]
    obtain ⟨j, hj, e⟩ := mapS e
    subst e
    exact l t j hj

/-! ### Deferred calls -/
inductive DefsR (ρ : Rho) : List AV → List Deferred → Prop
  | nil : DefsR ρ [] []
  | cons {a : AV} {d : Deferred} {l : List AV} {l' : List Deferred} : Defs ρ a d → DefsR ρ l l' → DefsR ρ (a :: l) (d :: l')
theorem Defs.mono {ρ ρ' : Rho} (h : ρ.le ρ') {a : AV} {d : Deferred} (k : Defs ρ a d) : Defs ρ' a d := by
  obtain ⟨f, l, c, l', c', e1, e2, h1, h2⟩ := k
  exact ⟨f, l, c, l', c', e1, e2, h1.mono h, h2.mono h⟩
theorem DefsR.mono {ρ ρ' : Rho} (h : ρ.le ρ') {l : List AV} {l' : List Deferred} (k : DefsR ρ l l') : DefsR ρ' l l' := by
  induction k with
  | nil => exact .nil
  | cons a _ ih => exact .cons (a.mono h) ih

/-! ### Calls -/
def CallsR (P : Program) (ρ : Rho) (h : AH) (w : World) (f : Nat) (args' : List Value) : CR → Prop
  | .ret v h' => Calls P f args'.toArray w fun e w' => ∃ ρ' v', e = .returned v' ∧ VR ρ' v v' ∧ WR ρ' h' w' ∧ Step ρ h w ρ' h' w'
  | .pan v h' => Calls P f args'.toArray w fun e w' => ∃ ρ' v', e = .panicked [{ v := v', recovered := false }] ∧ VR ρ' v v' ∧ WR ρ' h' w' ∧ Step ρ h w ρ' h' w'
  | .fail _ => True
structure CallOK (P : Program) (call : Nat → List AV → AH → CR) : Prop where
  cb : ∀ {f : Nat} {args : List AV} {h : AH}, (∀ ns, call f args h ≠ .fail ns) → callable P f = true
  ok : ∀ {f : Nat} {args : List AV} {h : AH} {ρ : Rho} {w : World} {args' : List Value}, VRs ρ args args' → WR ρ h w → CallsR P ρ h w f args' (call f args h)

/-! ### One operation -/
section
variable (call : Nat → List AV → AH → CR) (loc : T AV) (tmp : List AV) (d : List AV) (h : AH) (ao : AOp) (g : Option (Opd × Bool)) (re : List ARe)
inductive StepA : AV → List AV → AH → Prop
  | skip : guardB loc tmp g = some false → StepA (.tup []) d h
  | val {v : AV} {h' : AH} : guardB loc tmp g = some true → evOp ao loc tmp h = .val v h' → reads loc tmp h' re = true → StepA v d h'
  | enter {f : Nat} {args : List AV} {v : AV} {h' : AH} : guardB loc tmp g = some true → evOp ao loc tmp h = .enter f args → call f args h = .ret v h' → reads loc tmp h' re = true → StepA v d h'
  | dfr {v : AV} : guardB loc tmp g = some true → evOp ao loc tmp h = .dfr v → StepA (.tup []) (v :: d) h
inductive PanA : AV → AH → Prop
  | enter {f : Nat} {args : List AV} {v : AV} {h' : AH} : guardB loc tmp g = some true → evOp ao loc tmp h = .enter f args → call f args h = .pan v h' → PanA v h'
  | pan {v : AV} : guardB loc tmp g = some true → evOp ao loc tmp h = .pan v → PanA v h
end
theorem evOps_cons {call : Nat → List AV → AH → CR} {whole : List AOper} {loc0 : T AV} {op : AOp} {g : Option (Opd × Bool)} {out : Option Nat} {re : List ARe} {l : List AOper} {loc : T AV} {tmp d : List AV} {h : AH} {r : Res}
    (e : evOps call whole loc0 (⟨op, g, out, re⟩ :: l) loc tmp d h = r) : (∃ ns, r = .fail ns) ∨ (∃ v d' h', StepA call loc tmp d h op g re v d' h' ∧ evOps call whole loc0 l (putOut out v loc) (v :: tmp) d' h' = r) ∨
      ∃ v h', PanA call loc tmp h op g v h' ∧ r = .pan v (forget whole loc0) d h' := by
  have e : obind (guardB loc tmp g) (Res.fail [70]) (fun q => bi q
      (OR.rec (motive := fun _ => Res)
        (fun v h => bi (reads loc tmp h re) (evOps call whole loc0 l (putOut out v loc) (v :: tmp) d h) (Res.fail [71]))
        (fun f args => CR.rec (motive := fun _ => Res) (fun v h => bi (reads loc tmp h re) (evOps call whole loc0 l (putOut out v loc) (v :: tmp) d h) (Res.fail [71])) (fun v h => Res.pan v (forget whole loc0) d h) (fun l => Res.fail l) (call f args h))
        (fun v => Res.pan v (forget whole loc0) d h)
        (fun v => evOps call whole loc0 l (putOut out (AV.tup []) loc) (AV.tup [] :: tmp) (v :: d) h)
        (fun n => Res.fail [n]) (evOp op loc tmp h)) (evOps call whole loc0 l (putOut out (AV.tup []) loc) (AV.tup [] :: tmp) d h)) = r := e
  cases hg : guardB loc tmp g with
  | none => rw [hg] at e; exact .inl ⟨_, e.symm⟩
  | some q =>
    rw [hg] at e
    cases q with
    | false => exact .inr (.inl ⟨_, _, _, .skip hg, e⟩)
    | true =>
      have e : (OR.rec (motive := fun _ => Res)
        (fun v h => bi (reads loc tmp h re) (evOps call whole loc0 l (putOut out v loc) (v :: tmp) d h) (Res.fail [71]))
        (fun f args => CR.rec (motive := fun _ => Res) (fun v h => bi (reads loc tmp h re) (evOps call whole loc0 l (putOut out v loc) (v :: tmp) d h) (Res.fail [71])) (fun v h => Res.pan v (forget whole loc0) d h) (fun l => Res.fail l) (call f args h))
        (fun v => Res.pan v (forget whole loc0) d h)
        (fun v => evOps call whole loc0 l (putOut out (AV.tup []) loc) (AV.tup [] :: tmp) (v :: d) h)
        (fun n => Res.fail [n]) (evOp op loc tmp h)) = r := e
      cases ho : evOp op loc tmp h with
      | val v h' =>
        rw [ho] at e
        have e : bi (reads loc tmp h' re) (evOps call whole loc0 l (putOut out v loc) (v :: tmp) d h') (Res.fail [71]) = r := e
        cases hr : reads loc tmp h' re with
        | false => rw [hr] at e; exact .inl ⟨_, e.symm⟩
        | true => rw [hr] at e; exact .inr (.inl ⟨_, _, _, .val hg ho hr, e⟩)
      | enter f args =>
        rw [ho] at e
        have e : (CR.rec (motive := fun _ => Res) (fun v h => bi (reads loc tmp h re) (evOps call whole loc0 l (putOut out v loc) (v :: tmp) d h) (Res.fail [71])) (fun v h => Res.pan v (forget whole loc0) d h) (fun l => Res.fail l) (call f args h)) = r := e
        cases hcl : call f args h with
        | ret v h' =>
          rw [hcl] at e
          have e : bi (reads loc tmp h' re) (evOps call whole loc0 l (putOut out v loc) (v :: tmp) d h') (Res.fail [71]) = r := e
          cases hr : reads loc tmp h' re with
          | false => rw [hr] at e; exact .inl ⟨_, e.symm⟩
          | true => rw [hr] at e; exact .inr (.inl ⟨_, _, _, .enter hg ho hcl hr, e⟩)
        | pan v h' => rw [hcl] at e; exact .inr (.inr ⟨_, _, .enter hg ho hcl, e.symm⟩)
        | fail l => rw [hcl] at e; exact .inl ⟨_, e.symm⟩
      | pan v => rw [ho] at e; exact .inr (.inr ⟨_, _, .pan hg ho, e.symm⟩)
      | dfr v => rw [ho] at e; exact .inr (.inl ⟨_, _, _, .dfr hg ho, e⟩)
      | fail n => rw [ho] at e; exact .inl ⟨_, e.symm⟩
section
variable {P : Program} {ρ : Rho} {h h' : AH} {w : World} {loc : T AV} {tmp d d' : List AV} {cx : Operand → Option Opd} {kill : Bool} {a : Act} {o : Oper} {ao : AOp} {g : Option (Opd × Bool)} {re : List ARe} {v : AV}
  {call : Nat → List AV → AH → CR} {next : Act → World → Prop} {Q : Exit → Act → World → Prop}
theorem step_wp (hcall : CallOK P call) (hs : StepA call loc tmp d h ao g re v d' h') (hg : guardB loc tmp g = some true) (W : WR ρ h w) (hx : OpdsR ρ loc tmp cx a.eval) (hc : cOp P cx kill o.op = some ao) (hd : DefsR ρ d a.defers)
    (hn : ∀ ρ' v' w' ds', VR ρ' v v' → WR ρ' h' w' → Step ρ h w ρ' h' w' → DefsR ρ' d' ds' → next (({ a with defers := ds' } : Act).put o.dst v') w') : o.wp P a w next Q := by
  have G := good_op (P := P) (ρ := ρ) (h := h) (w := w) (loc := loc) (tmp := tmp) W hx (fun _ => rfl) (fun _ => rfl) hc
  unfold Oper.wp
  cases hs with
  | skip h1 => rw [h1] at hg; cases hg
  | val _ he _ =>
    rw [he] at G
    obtain ⟨ρ', v', w', hrun, hv, W', S'⟩ := G
    have := hn ρ' v' w' a.defers hv W' S' (hd.mono S'.le)
    rcases hrun with hrun | ⟨hrun, rfl⟩
    · rw [hrun]; exact this
    · rw [hrun]; exact this
  | enter hg1 he hcl hr1 =>
    rename_i f args
    rw [he] at G
    have hcb : callable P f = true := hcall.cb fun ns e => by rw [hcl] at e; cases e
    obtain ⟨args', hrun, ha⟩ := G hcb
    have hC := hcall.ok (f := f) (h := h) ha W
    rw [hcl] at hC
    rw [hrun]
    refine Calls.mono hC fun e w' he => ?_
    obtain ⟨ρ', v', rfl, hv, W', S'⟩ := he
    exact hn ρ' v' w' a.defers hv W' S' (hd.mono S'.le)
  | dfr _ he =>
    rw [he] at G
    obtain ⟨dd, hrun, hdd⟩ := G
    rw [hrun]
    exact hn ρ undef w (dd :: a.defers) (.tup .nil rfl) W (.refl _ _ _) (.cons hdd hd)
theorem pan_wp (hcall : CallOK P call) (hs : PanA call loc tmp h ao g v h') (W : WR ρ h w) (hx : OpdsR ρ loc tmp cx a.eval) (hc : cOp P cx kill o.op = some ao)
    (hq : ∀ ρ' v' w', VR ρ' v v' → WR ρ' h' w' → Step ρ h w ρ' h' w' → Q (.panic [{ v := v', recovered := false }]) a w') : o.wp P a w next Q := by
  have G := good_op (P := P) (ρ := ρ) (h := h) (w := w) (loc := loc) (tmp := tmp) W hx (fun _ => rfl) (fun _ => rfl) hc
  unfold Oper.wp
  cases hs with
  | enter hg1 he hcl =>
    rename_i f args
    rw [he] at G
    have hcb : callable P f = true := hcall.cb fun ns e => by rw [hcl] at e; cases e
    obtain ⟨args', hrun, ha⟩ := G hcb
    have hC := hcall.ok (f := f) (h := h) ha W
    rw [hcl] at hC
    rw [hrun]
    refine Calls.mono hC fun e w' he => ?_
    obtain ⟨ρ', v', rfl, hv, W', S'⟩ := he
    exact hq ρ' v' w' hv W' S'
  | pan _ he =>
    rw [he] at G
    obtain ⟨v', hrun, hv⟩ := G
    rw [hrun]
    exact hq ρ v' w hv W (.refl _ _ _)
end
end Go.Ev

namespace Go.Ev
open Go
/-! ### What is left behind -/
def Post (ρ0 : Rho) (h0 : AH) (w0 : World) (m : List Nat) (n : Nat) (loc : T AV) (d : List AV) (h : AH) (a : Act) (w : World) : Prop :=
  ∃ ρ, LocR ρ m loc a ∧ DefsR ρ d a.defers ∧ WR ρ h w ∧ Step ρ0 h0 w0 ρ h w ∧ a.tmps.size = n
def PostP (ρ0 : Rho) (h0 : AH) (w0 : World) (m : List Nat) (n : Nat) (v : AV) (loc : T AV) (d : List AV) (h : AH) (ch : List PanicEntry) (a : Act) (w : World) : Prop :=
  ∃ ρ v', ch = [{ v := v', recovered := false }] ∧ VR ρ v v' ∧ LocR ρ m loc a ∧ DefsR ρ d a.defers ∧ WR ρ h w ∧ Step ρ0 h0 w0 ρ h w ∧ a.tmps.size = n
def QRes (ρ0 : Rho) (h0 : AH) (w0 : World) (m : List Nat) (n : Nat) : Res → Exit → Act → World → Prop
  | .norm loc d h, .normal, a, w => Post ρ0 h0 w0 m n loc d h a w
  | .exit id loc d h, .exit id', a, w => id = id' ∧ Post ρ0 h0 w0 m n loc d h a w
  | .ret loc d h, .ret, a, w => Post ρ0 h0 w0 m n loc d h a w
  | .pan v loc d h, .panic ch, a, w => PostP ρ0 h0 w0 m n v loc d h ch a w
  | _, _, _, _ => False
def Res.good : Res → Prop
  | .fail _ => False
  | _ => True

def outs (l : List AOper) : List Nat := l.filterMap (·.out)
theorem forget_slot : ∀ (l : List AOper) (loc : T AV) (k : Nat), slot (forget l loc) k = if k ∈ outs l then AV.bad else slot loc k
  | [], loc, k => by simp [outs]; rfl
  | ⟨op, g, none, re⟩ :: l, loc, k => by
    show slot (forget l loc) k = _
    rw [forget_slot l loc k]
    simp [outs]
  | ⟨op, g, some x, re⟩ :: l, loc, k => by
    show slot (forget l (T.put (some AV.bad) loc x)) k = _
    rw [forget_slot l _ k, slot_put]
    have : outs (⟨op, g, some x, re⟩ :: l) = x :: outs l := rfl
    rw [this]
    by_cases h : k ∈ outs l
    · rw [if_pos h, if_pos (List.mem_cons_of_mem _ h)]
    · rw [if_neg h]
      by_cases hx : x = k
      · subst hx; rw [if_pos rfl, if_pos (List.mem_cons_self ..)]
      · rw [if_neg hx, if_neg (by simp [h, Ne.symm hx])]
theorem slot_putOut (out : Option Nat) (v : AV) (loc : T AV) (k : Nat) : slot (putOut out v loc) k = if out = some k then v else slot loc k := by
  cases out with
  | none => rfl
  | some x =>
    show slot (T.put (some v) loc x) k = _
    rw [slot_put]
    by_cases h : x = k
    · rw [if_pos h, if_pos (by rw [h])]
    · rw [if_neg h, if_neg (by simpa using h)]
theorem LocR.forget {ρ : Rho} {m : List Nat} {loc loc0 : T AV} {a : Act} {l : List AOper} (L : LocR ρ m loc a) (h : ∀ k, k ∉ outs l → slot loc k = slot loc0 k) : LocR ρ m (forget l loc0) a := by
  intro t k e
  rw [forget_slot]
  split
  · exact .bad _
  · rw [← h k ‹_›]; exact L t k e
section
variable {P : Program} {ρ : Rho} {loc : T AV} {tmp : List AV} {m : List Nat} {ops : Array Oper} {ts : List (Option Nat)} {a : Act}
theorem opds_of (L : LocR ρ m loc a) (T : TmpR ρ ts tmp a) : OpdsR ρ loc tmp (cOpd m ts) a.eval := by
  intro x y e
  cases x with
  | tmp t =>
    unfold cOpd at e
    simp only at e
    split at e
    · rename_i i hi
      injection e with e; subst e
      exact T t i hi
    · obtain ⟨k, hk, e⟩ := mapS e
      subst e
      exact L t k hk
  | const v => obtain ⟨z, hz, e⟩ := mapS e; subst e; exact cvVal_rel hz
  | func f => injection e with e; subst e; exact .fn .nil .nil rfl rfl
  | global _ => injection e with e; subst e; exact .bad _
theorem guard_rel {o : Oper} {g : Option (Opd × Bool)} {q : Bool} (hgc : cGuard m ops ts o = some g) (hx : ∀ gi want d y, o.guard = some (gi, want) → (ops[gi]?).bind (·.dst) = some d → cOpd m ts (.tmp d) = some y → VR ρ (ev loc tmp y) (a.tmps.getD d undef))
    (hq : guardB loc tmp g = some q) : Region.wanted o (yielded ops a.tmps) = q := by
  unfold cGuard at hgc
  unfold Region.wanted
  cases hg : o.guard with
  | none =>
    rw [hg] at hgc
    injection hgc with hgc; subst hgc
    injection hq
  | some p =>
    obtain ⟨gi, want⟩ := p
    rw [hg] at hgc
    have hgc : (do some (some (← cOpd m ts (.tmp (← (← ops[gi]?).dst)), want)) : Option (Option (Opd × Bool))) = some g := hgc
    obtain ⟨og, h1, hgc⟩ := bindS hgc
    obtain ⟨dd, h2, hgc⟩ := bindS hgc
    obtain ⟨y, h3, hgc⟩ := bindS hgc
    injection hgc with hgc; subst hgc
    have hd : (ops[gi]?).bind (·.dst) = some dd := by rw [h1]; exact h2
    have hv := hx gi want dd y hg hd h3
    simp only [yielded, hd, Option.bind_some]
    have hq : AV.on (β := Option Bool) none (fun b => some (bi want b (bi b false true))) (fun _ _ => some false) (fun _ _ => some false) (fun _ _ => some false) none (fun _ _ _ _ => none) none (fun _ => none) none (fun _ _ _ => none) none (fun _ _ => none) none (fun _ => none) (fun _ => some false) (ev loc tmp y) = some q := hq
    rw [Array.getD_eq_getD_getElem?] at hv
    generalize hav : ev loc tmp y = av at hv hq
    cases hu : a.tmps[dd]? with
    | none =>
      rw [hu] at hv
      cases hv with
      | bad => cases hq
      | tup _ _ => injection hq
    | some u =>
      rw [hu] at hv
      have hv : VR ρ av u := hv
      cases hv <;> first | (cases hq; done) | skip
      case bool b =>
        injection hq with hq
        rw [← hq]
        cases b <;> cases want <;> rfl
      all_goals first | (injection hq; done) | (injection hq with hq; rw [← hq]; rfl)
end
section
variable {P : Program} {m : List Nat} {ops : Array Oper} {call : Nat → List AV → AH → CR} {whole : List AOper} {loc0 : T AV} {ρ0 : Rho} {h0 : AH} {w0 : World} {n : Nat}
theorem plain_ops (hcall : CallOK P call) (hdst : ∀ o ∈ ops, ∀ x, o.dst = some x → x < n) : ∀ (rest : List Oper) (k : Nat) (ts : List (Option Nat)) (aos : List AOper) (loc : T AV) (tmp d : List AV) (h : AH) (ρ : Rho) (a : Act) (w : World) (r : Res),
    ops.toList.drop k = rest → cPlain P m ops rest ts = some aos → evOps call whole loc0 aos loc tmp d h = r → r.good → LocR ρ m loc a → TmpR ρ ts tmp a → WR ρ h w → DefsR ρ d a.defers → Step ρ0 h0 w0 ρ h w → a.tmps.size = n →
    (∀ o ∈ aos, ∀ k, o.out = some k → k ∈ outs whole) → (∀ k, k ∉ outs whole → slot loc k = slot loc0 k) → wpOps P ops (QRes ρ0 h0 w0 m n r) (List.range' k rest.length) a w
  | [], k, ts, aos, loc, tmp, d, h, ρ, a, w, r, hrest, hc, hr, hgood, L, T, W, D, S, hn, ho, hs => by
    injection hc with hc; subst hc
    subst hr
    exact ⟨ρ, L, D, W, S, hn⟩
  | o :: rest, k, ts, aos, loc, tmp, d, h, ρ, a, w, r, hrest, hc, hr, hgood, L, T, W, D, S, hn, ho, hs => by
    obtain ⟨ao, hao, hc⟩ := bindS hc
    obtain ⟨aos', haos, hc⟩ := bindS hc
    injection hc with hc; subst hc
    obtain ⟨op, hop, hao⟩ := bindS hao
    obtain ⟨g, hg, hao⟩ := bindS hao
    injection hao with hao; subst hao
    have hk : ops[k]? = some o := by
      have : ops.toList[k]? = some o := by rw [← List.head?_drop, hrest]; rfl
      simpa using this
    have hmem : o ∈ ops := Array.mem_of_getElem? hk
    have hdo : ∀ x, o.dst = some x → x < a.tmps.size := fun x hx => by rw [hn]; exact hdst o hmem x hx
    have hrest' : ops.toList.drop (k + 1) = rest := by rw [← List.drop_drop, hrest]; rfl
    have X := opds_of L T
    have hout : ∀ k', (o.dst.bind (findSlot m)) = some k' → k' ∈ outs whole := fun k' hk' => ho _ (List.mem_cons_self ..) k' hk'
    have hslots : ∀ v k', k' ∉ outs whole → slot (putOut (o.dst.bind (findSlot m)) v loc) k' = slot loc0 k' := by
      intro v k' hk'
      rw [slot_putOut, if_neg (fun e => hk' (hout _ e))]
      exact hs k' hk'
    have gx : ∀ gi want dd y, o.guard = some (gi, want) → (ops[gi]?).bind (·.dst) = some dd → cOpd m ts (.tmp dd) = some y → VR ρ (ev loc tmp y) (a.tmps.getD dd undef) := fun gi want dd y _ _ h3 => X _ _ h3
    rw [List.length_cons, List.range'_succ]
    unfold wpOps
    rw [hk]
    simp only
    rcases evOps_cons hr with ⟨ns, rfl⟩ | ⟨v, d', h', hst, hr'⟩ | ⟨v, h', hpan, rfl⟩
    · exact hgood.elim
    · by_cases hgt : guardB loc tmp g = some true
      · rw [if_pos (guard_rel hg gx hgt)]
        left
        refine step_wp hcall hst hgt W X hop D ?_
        intro ρ' v' w' ds' hv W' S' D'
        have hp : ∀ {a2 : Act}, a2 = { a with defers := ds' } → LocR ρ' m (putOut (o.dst.bind (findSlot m)) v loc) (a2.put o.dst v') ∧ TmpR ρ' (o.dst :: ts) (v :: tmp) (a2.put o.dst v') := by
          intro a2 e
          subst e
          exact ⟨LocR.put hdo hv (L.mono S'.le), TmpR.put hdo hv (T.mono S'.le)⟩
        have hp := hp rfl
        have hdf : (({ a with defers := ds' } : Act).put o.dst v').defers = ds' := by cases o.dst <;> rfl
        exact plain_ops hcall hdst rest (k + 1) (o.dst :: ts) aos' _ _ d' h' ρ' _ w' r hrest' haos hr' hgood hp.1 hp.2 W' (by rw [hdf]; exact D') (S.trans S') (by rw [size_put]; exact hn) (fun o' ho' => ho o' (List.mem_cons_of_mem _ ho')) (hslots v)
      · cases hst with
        | skip hgf =>
          rw [if_neg (by rw [guard_rel hg gx hgf]; simp)]
          have hv : VR ρ (.tup []) undef := .tup .nil rfl
          have hdf : (a.put o.dst undef).defers = a.defers := by cases o.dst <;> rfl
          exact plain_ops hcall hdst rest (k + 1) (o.dst :: ts) aos' _ _ d h ρ _ w r hrest' haos hr' hgood (LocR.put hdo hv L) (TmpR.put hdo hv T) W (by rw [hdf]; exact D) S (by rw [size_put]; exact hn) (fun o' ho' => ho o' (List.mem_cons_of_mem _ ho')) (hslots _)
        | val h1 _ _ => exact absurd h1 hgt
        | enter h1 _ _ _ => exact absurd h1 hgt
        | dfr h1 _ => exact absurd h1 hgt
    · have hgt : guardB loc tmp g = some true := by cases hpan <;> assumption
      rw [if_pos (guard_rel hg gx hgt)]
      left
      refine pan_wp hcall hpan W X hop ?_
      intro ρ' v' w' hv W' S'
      exact ⟨ρ', v', rfl, hv, (L.mono S'.le).forget hs, D.mono S'.le, W', S.trans S', hn⟩
theorem plain_region {id : Nat} {aos : List AOper} {loc : T AV} {d : List AV} {h : AH} {ρ : Rho} {a : Act} {w : World} {r : Res} (hcall : CallOK P call) (hdst : ∀ o ∈ ops, ∀ x, o.dst = some x → x < n)
    (hc : cPlain P m ops ops.toList [] = some aos) (hr : evOps call aos loc aos loc [] d h = r) (hgood : r.good) (L : LocR ρ m loc a) (W : WR ρ h w) (D : DefsR ρ d a.defers) (hn : a.tmps.size = n) :
    (Code.region id ops false).wp P (QRes ρ h w m n r) a w := by
  refine wp_region ?_
  rw [List.range_eq_range']
  have := plain_ops (whole := aos) (loc0 := loc) (ρ0 := ρ) (h0 := h) (w0 := w) hcall hdst ops.toList 0 [] aos loc [] d h ρ a w r rfl hc hr hgood L (fun t i e => by cases e) W D (.refl _ _ _) hn
    (fun o ho k hk => List.mem_filterMap.2 ⟨o, ho, hk⟩) (fun _ _ => rfl)
  simpa using this
end
end Go.Ev

namespace Go.Ev
open Go
/-! ### The very same -/
mutual
theorem same_eq : ∀ {a b : AV}, same a b = true → a = b
  | .bad, b, h => by cases h
  | .bool p, b, h => by
    cases b <;> try (cases h; done)
    rename_i q
    have h : bi p q (bi q false true) = true := h
    cases p <;> cases q <;> first | rfl | cases h
  | .int k m, b, h => by
    cases b <;> try (cases h; done)
    rename_i k' n
    have h : bi (eqK k k') (eqI m n) false = true := h
    rw [bi_eq] at h
    split at h
    · rename_i hk
      rw [eqI_eq] at h
      rw [eqK_iff hk, of_decide_eq_true h]
    · cases h
  | .str l s, b, h => by
    cases b <;> try (cases h; done)
    rename_i l' s'
    have h : bi (Nat.beq l l') (Nat.beq s s') false = true := h
    rw [bi_eq] at h
    split at h
    · rename_i hx
      rw [Nat.eq_of_beq_eq_true hx, Nat.eq_of_beq_eq_true h]
    · cases h
  | .ptr i o, b, h => by
    cases b <;> try (cases h; done)
    rename_i i' o'
    have h : bi (Nat.beq i i') (Nat.beq o o') false = true := h
    rw [bi_eq] at h
    split at h
    · rename_i hx
      rw [Nat.eq_of_beq_eq_true hx, Nat.eq_of_beq_eq_true h]
    · cases h
  | .nilp, b, h => by cases b <;> first | rfl | cases h
  | .sl i o l c, b, h => by
    cases b <;> try (cases h; done)
    rename_i i' o' l' c'
    have h : bi (Nat.beq i i') (bi (Nat.beq o o') (bi (Nat.beq l l') (ACap.rec (motive := fun _ => Bool) (fun x => ACap.rec (motive := fun _ => Bool) (fun y => Nat.beq x y) (fun _ => false) c') (fun x => ACap.rec (motive := fun _ => Bool) (fun _ => false) (fun y => Nat.beq x y) c') c) false) false) false = true := h
    simp only [bi_eq] at h
    split at h
    · rename_i h1
      split at h
      · rename_i h2
        split at h
        · rename_i h3
          rw [Nat.eq_of_beq_eq_true h1, Nat.eq_of_beq_eq_true h2, Nat.eq_of_beq_eq_true h3]
          cases c <;> cases c' <;> first | (rw [Nat.eq_of_beq_eq_true h]) | cases h
        · cases h
      · cases h
    · cases h
  | .nils, b, h => by cases b <;> first | rfl | cases h
  | .mp i, b, h => by
    cases b <;> try (cases h; done)
    rename_i i'
    have h : Nat.beq i i' = true := h
    rw [Nat.eq_of_beq_eq_true h]
  | .nilm, b, h => by cases b <;> first | rfl | cases h
  | .fn f l l2, b, h => by
    cases b <;> try (cases h; done)
    rename_i f' l' l2'
    have h : bi (Nat.beq f f') (bi (same (.tup l) (.tup l')) (same (.tup l2) (.tup l2')) false) false = true := h
    simp only [bi_eq] at h
    split at h
    · rename_i h1
      split at h
      · rename_i h2
        rw [Nat.eq_of_beq_eq_true h1, sameL_eq h2, sameL_eq h]
      · cases h
    · cases h
  | .nilf, b, h => by cases b <;> first | rfl | cases h
  | .ifc t v, b, h => by
    cases b <;> try (cases h; done)
    rename_i t' v'
    have h : bi (Nat.beq t t') (same v v') false = true := h
    rw [bi_eq] at h
    split at h
    · rename_i hx
      rw [Nat.eq_of_beq_eq_true hx, same_eq h]
    · cases h
  | .nili, b, h => by cases b <;> first | rfl | cases h
  | .agg l, b, h => by
    cases b <;> try (cases h; done)
    rename_i l'
    have h : same (.tup l) (.tup l') = true := h
    rw [sameL_eq h]
  | .tup l, b, h => by
    cases b <;> try (cases h; done)
    rename_i l'
    rw [sameL_eq h]
theorem sameL_eq : ∀ {l l' : List AV}, same (.tup l) (.tup l') = true → l = l'
  | [], l', h => by cases l' <;> first | rfl | cases h
  | v :: l, l', h => by
    cases l' with
    | nil => cases h
    | cons w ws =>
      have h : bi (same v w) (same (.tup l) (.tup ws)) false = true := h
      rw [bi_eq] at h
      split at h
      · rename_i hx
        rw [same_eq hx, sameL_eq h]
      · cases h
end

/-! ### Ahead -/
def bef (anc : List Nat) (j i : Nat) : Bool := (anc.getD i 0).testBit j
theorem or_fold (acc : List Nat) : ∀ (l : List Edge) (s j : Nat), (l.foldl (fun s e => if Region.binds .any e then s ||| 2 ^ e.on ||| acc.getD e.on 0 else s) s).testBit j = true →
    s.testBit j = true ∨ ∃ e ∈ l, Region.binds .any e = true ∧ (e.on = j ∨ (acc.getD e.on 0).testBit j = true)
  | [], s, j, h => .inl h
  | e :: l, s, j, h => by
    rw [List.foldl_cons] at h
    rcases or_fold acc l _ j h with h1 | ⟨e', he, hb, hc⟩
    · split at h1
      · rename_i hb
        rw [Nat.testBit_or, Nat.testBit_or, Bool.or_eq_true, Bool.or_eq_true] at h1
        rcases h1 with (h1 | h1) | h1
        · exact .inl h1
        · rw [Nat.testBit_two_pow] at h1
          exact .inr ⟨e, by simp, hb, .inl (of_decide_eq_true h1)⟩
        · exact .inr ⟨e, by simp, hb, .inr h1⟩
      · exact .inl h1
    · exact .inr ⟨e', by simp [he], hb, hc⟩
def ancStep (acc : List Nat) (o : Oper) : List Nat := acc ++ [o.after.toList.foldl (fun s e => if Region.binds .any e then s ||| 2 ^ e.on ||| acc.getD e.on 0 else s) 0]
theorem anc_prefix : ∀ (l : List Oper) (acc : List Nat) (i : Nat), i < acc.length → (l.foldl ancStep acc).getD i 0 = acc.getD i 0
  | [], acc, i, h => rfl
  | o :: l, acc, i, h => by
    rw [List.foldl_cons, anc_prefix l _ i (by simp [ancStep]; omega)]
    simp [ancStep, List.getElem?_append_left h]
theorem anc_spec : ∀ (l : List Oper) (acc : List Nat) (i j : Nat), acc.length ≤ i → ((l.foldl ancStep acc).getD i 0).testBit j = true →
    ∃ o e, l[i - acc.length]? = some o ∧ e ∈ o.after ∧ Region.binds .any e = true ∧ (e.on = j ∨ ((l.foldl ancStep acc).getD e.on 0).testBit j = true)
  | [], acc, i, j, hi, h => by
    rw [List.foldl_nil, List.getD_eq_getElem?_getD, List.getElem?_eq_none hi] at h
    simp at h
  | o :: l, acc, i, j, hi, h => by
    rw [List.foldl_cons] at h ⊢
    by_cases he : i = acc.length
    · subst he
      rw [anc_prefix l _ _ (by simp [ancStep])] at h
      have : (ancStep acc o).getD acc.length 0 = o.after.toList.foldl (fun s e => if Region.binds .any e then s ||| 2 ^ e.on ||| acc.getD e.on 0 else s) 0 := by simp [ancStep]
      rw [this] at h
      rcases or_fold acc _ _ _ h with h1 | ⟨e, he, hb, hc⟩
      · simp at h1
      · refine ⟨o, e, by simp, by simpa using he, hb, ?_⟩
        rcases hc with hc | hc
        · exact .inl hc
        · right
          have hlt : e.on < acc.length := by
            rcases Nat.lt_or_ge e.on acc.length with hh | hh
            · exact hh
            · rw [List.getD_eq_getElem?_getD, List.getElem?_eq_none hh] at hc; simp at hc
          rw [anc_prefix l _ _ (by simp [ancStep]; omega)]
          simp only [ancStep, List.getD_eq_getElem?_getD, List.getElem?_append_left hlt] at hc ⊢
          exact hc
    · obtain ⟨o', e, h1, h2, h3, h4⟩ := anc_spec l (ancStep acc o) i j (by simp [ancStep]; omega) h
      refine ⟨o', e, ?_, h2, h3, h4⟩
      have hlen : (ancStep acc o).length = acc.length + 1 := by simp [ancStep]
      rw [hlen] at h1
      obtain ⟨k, hk⟩ : ∃ k, i - acc.length = k + 1 := ⟨i - acc.length - 1, by omega⟩
      rw [hk, List.getElem?_cons_succ, show k = i - (acc.length + 1) by omega]
      exact h1
theorem bef_edge {ops : Array Oper} {i j : Nat} (h : bef (ancs ops) j i = true) : ∃ o e, ops[i]? = some o ∧ e ∈ o.after ∧ Region.binds .any e = true ∧ (e.on = j ∨ bef (ancs ops) j e.on = true) := by
  obtain ⟨o, e, h1, h2, h3, h4⟩ := anc_spec ops.toList [] i j (Nat.zero_le _) h
  exact ⟨o, e, by simpa using h1, h2, h3, h4⟩

structure DrawOk (ops : Array Oper) (anc ord : List Nat) : Prop where
  cover : ∀ {i : Nat}, i < ops.size → i ∈ ord
  back : ∀ {i : Nat} {o : Oper}, ops[i]? = some o → ∀ e ∈ o.after, Region.binds .any e = true → e.on < i
  dst : ∀ {i p : Nat} {o q : Oper} {d : Nat}, ops[i]? = some o → ops[p]? = some q → i ≠ p → q.dst = some d → o.dst ≠ some d ∧ (d ∈ opTmps ops o → bef anc p i = true ∨ bef anc i p = true)
  pair : ∀ {a b i j : Nat}, ord[a]? = some i → ord[b]? = some j → b < a → i ≠ j ∧ bef anc i j = false ∧ ∃ oi oj, ops[i]? = some oi ∧ ops[j]? = some oj ∧ (clsO oj.op = 3 → bef anc j i = true)
theorem drawOk_spec {ops : Array Oper} {anc ord : List Nat} (h : drawOk ops anc ord = true) : DrawOk ops anc ord := by
  unfold drawOk at h
  simp only [Bool.and_eq_true, List.all_eq_true] at h
  obtain ⟨h1, h2⟩ := h
  have lt : ∀ {i : Nat} {o : Oper}, ops[i]? = some o → i < ops.size := fun h => (Array.getElem?_eq_some_iff.1 h).1
  refine ⟨?_, ?_, ?_, ?_⟩
  · intro i hi
    have := (h1 i (by simpa using hi)).1
    simpa using this
  · intro i o ho e he hb
    have := (h1 i (by simpa using lt ho)).2
    rw [ho] at this
    simp only [Bool.and_eq_true] at this
    have h3 := Array.all_eq_true_iff_forall_mem.1 this.1 e he
    simpa [hb] using h3
  · intro i p o q d ho hq hne hd
    have := (h1 i (by simpa using lt ho)).2
    rw [ho] at this
    simp only [Bool.and_eq_true, List.all_eq_true] at this
    have h3 := this.2 p (by simpa using lt hq)
    rw [hq] at h3
    simp only [hd] at h3
    have hne' : (i == p) = false := by simpa using hne
    rw [hne', Bool.false_or, Bool.and_eq_true] at h3
    refine ⟨by simpa using h3.1, fun hm => ?_⟩
    have h4 := h3.2
    have hc : (opTmps ops o).contains d = true := by simpa using hm
    rw [hc, Bool.not_true, Bool.false_or, Bool.or_eq_true] at h4
    exact h4
  · intro a b i j ha hb hlt
    have h3 := h2 (i, a) (List.mem_zipIdx_iff_getElem?.2 ha) (j, b) (List.mem_zipIdx_iff_getElem?.2 hb)
    have hd : decide (b < a) = true := by simpa using hlt
    simp only [hd, Bool.not_true, Bool.false_or, Bool.and_eq_true] at h3
    obtain ⟨⟨h4, h5⟩, h6⟩ := h3
    refine ⟨by simpa using h4, by simpa [bef] using h5, ?_⟩
    split at h6
    · rename_i oi oj e1 e2
      refine ⟨oi, oj, e1, e2, fun h3 => ?_⟩
      rw [Bool.or_eq_true] at h6
      rcases h6 with h6 | h6
      · simp [h3] at h6
      · exact h6
    · cases h6
end Go.Ev

namespace Go.Ev
open Go
def TS (ops : Array Oper) (ord : List Nat) (p : Nat) : List (Option Nat) := ((ord.take p).map fun i => (ops[i]?).bind (·.dst)).reverse
def DN (ord : List Nat) (p : Nat) : List Nat := (ord.take p).reverse
theorem TS_succ {ops : Array Oper} {ord : List Nat} {p i : Nat} (h : ord[p]? = some i) : TS ops ord (p + 1) = (ops[i]?).bind (·.dst) :: TS ops ord p := by
  simp [TS, List.take_add_one, h]
theorem DN_succ {ord : List Nat} {p i : Nat} (h : ord[p]? = some i) : DN ord (p + 1) = i :: DN ord p := by
  simp [DN, List.take_add_one, h]

section
variable (P : Program) (m : List Nat) (ops : Array Oper) (anc ord : List Nat) (call : Nat → List AV → AH → CR)
structure Runs where
  L : Nat → T AV
  X : Nat → List AV
  D : Nat → List AV
  H : Nat → AH
  V : Nat → AV
variable (R : Runs)
/-- a step of the run -/
structure StepAt (p i : Nat) (o : Oper) (ao : AOp) (g : Option (Opd × Bool)) (re : List ARe) : Prop where
  oi : ord[p]? = some i
  oo : ops[i]? = some o
  co : cOp P (cOpd m (TS ops ord p)) false o.op = some ao
  cg : cGuard m ops (TS ops ord p) o = some g
  cr : clsO o.op = 3 → cReads P m ops anc (DN ord p) (TS ops ord p) i = some re
  st : StepA call (R.L p) (R.X p) (R.D p) (R.H p) ao g re (R.V p) (R.D (p + 1)) (R.H (p + 1))
  lo : R.L (p + 1) = putOut (o.dst.bind (findSlot m)) (R.V p) (R.L p)
  tm : R.X (p + 1) = R.V p :: R.X p
/-- where the run panics -/
structure PanAt (p : Nat) (v : AV) (h' : AH) : Prop where
  ex : ∃ i o ao g, ord[p]? = some i ∧ ops[i]? = some o ∧ cOp P (cOpd m (TS ops ord p)) false o.op = some ao ∧ cGuard m ops (TS ops ord p) o = some g ∧ PanA call (R.L p) (R.X p) (R.H p) ao g v h'
end
section
variable {P : Program} {m : List Nat} {ops : Array Oper} {anc ord : List Nat} {call : Nat → List AV → AH → CR}
theorem cDraw_cons {j : Nat} {rest dn : List Nat} {ts : List (Option Nat)} {aos : List AOper} (hc : cDraw P m ops anc (j :: rest) dn ts = some aos) : ∃ o re op g aos', ops[j]? = some o ∧ (clsO o.op = 3 → cReads P m ops anc dn ts j = some re) ∧ cOp P (cOpd m ts) false o.op = some op ∧ cGuard m ops ts o = some g ∧
    cDraw P m ops anc rest (j :: dn) (o.dst :: ts) = some aos' ∧ aos = ⟨op, g, o.dst.bind (findSlot m), re⟩ :: aos' := by
  obtain ⟨o, ho, hc⟩ := bindS hc
  have key : ∀ re, (do let a ← cOper P m ops false ts o re; some (a :: (← cDraw P m ops anc rest (j :: dn) (o.dst :: ts)))) = some aos → ∃ op g aos', cOp P (cOpd m ts) false o.op = some op ∧ cGuard m ops ts o = some g ∧
      cDraw P m ops anc rest (j :: dn) (o.dst :: ts) = some aos' ∧ aos = ⟨op, g, o.dst.bind (findSlot m), re⟩ :: aos' := by
    intro re hc
    obtain ⟨ao, hao, hc⟩ := bindS hc
    obtain ⟨aos', haos, hc⟩ := bindS hc
    injection hc with hc; subst hc
    obtain ⟨op, hop, hao⟩ := bindS hao
    obtain ⟨g, hg, hao⟩ := bindS hao
    injection hao with hao; subst hao
    exact ⟨op, g, aos', hop, hg, haos, rfl⟩
  by_cases h3 : clsO o.op = 3
  · have hc : (if clsO o.op = 3 then (cReads P m ops anc dn ts j >>= fun re => do let a ← cOper P m ops false ts o re; some (a :: (← cDraw P m ops anc rest (j :: dn) (o.dst :: ts)))) else (do let a ← cOper P m ops false ts o []; some (a :: (← cDraw P m ops anc rest (j :: dn) (o.dst :: ts))))) = some aos := hc
    rw [if_pos h3] at hc
    obtain ⟨re, hre, hc⟩ := bindS hc
    obtain ⟨op, g, aos', h1, h2, h4, h5⟩ := key re hc
    exact ⟨o, re, op, g, aos', ho, fun _ => hre, h1, h2, h4, h5⟩
  · have hc : (if clsO o.op = 3 then (cReads P m ops anc dn ts j >>= fun re => do let a ← cOper P m ops false ts o re; some (a :: (← cDraw P m ops anc rest (j :: dn) (o.dst :: ts)))) else (do let a ← cOper P m ops false ts o []; some (a :: (← cDraw P m ops anc rest (j :: dn) (o.dst :: ts))))) = some aos := hc
    rw [if_neg h3] at hc
    obtain ⟨op, g, aos', h1, h2, h4, h5⟩ := key [] hc
    exact ⟨o, [], op, g, aos', ho, fun e => absurd e h3, h1, h2, h4, h5⟩
theorem trace_ex {whole : List AOper} {loc0 : T AV} : ∀ (rest : List Nat) (s : Nat) (aos : List AOper) (loc : T AV) (tmp d : List AV) (h : AH) (r : Res), s ≤ ord.length → ord.drop s = rest → cDraw P m ops anc rest (DN ord s) (TS ops ord s) = some aos →
    evOps call whole loc0 aos loc tmp d h = r → r.good → ∃ (R : Runs) (q : Nat), s ≤ q ∧ q ≤ ord.length ∧ R.L s = loc ∧ R.X s = tmp ∧ R.D s = d ∧ R.H s = h ∧ (∀ p, s ≤ p → p < q → ∃ i o ao g re, StepAt P m ops anc ord call R p i o ao g re) ∧
      ((q = ord.length ∧ r = .norm (R.L q) (R.D q) (R.H q)) ∨ ∃ v h', PanAt P m ops ord call R q v h' ∧ r = .pan v (forget whole loc0) (R.D q) h')
  | [], s, aos, loc, tmp, d, h, r, hs, hrest, hc, hr, hgood => by
    have hlen : s = ord.length := by
      have := congrArg List.length hrest
      simp at this; omega
    injection hc with hc; subst hc
    exact ⟨⟨fun _ => loc, fun _ => tmp, fun _ => d, fun _ => h, fun _ => .bad⟩, s, Nat.le_refl _, hs, rfl, rfl, rfl, rfl, fun p h1 h2 => by omega, .inl ⟨hlen, hr.symm⟩⟩
  | j :: rest, s, aos, loc, tmp, d, h, r, hs, hrest, hc, hr, hgood => by
    obtain ⟨o, re, op, g, aos', ho, hcr, hop, hg, haos, rfl⟩ := cDraw_cons hc
    have hj : ord[s]? = some j := by rw [← List.head?_drop, hrest]; rfl
    have hlt : s < ord.length := by
      rcases Nat.lt_or_ge s ord.length with h | h
      · exact h
      · rw [List.getElem?_eq_none h] at hj; cases hj
    have hrest' : ord.drop (s + 1) = rest := by rw [← List.drop_drop, hrest]; rfl
    rcases evOps_cons hr with ⟨ns, rfl⟩ | ⟨v, d', h', hst, hr'⟩ | ⟨v, h', hpan, rfl⟩
    · exact hgood.elim
    · have hdst : (ops[j]?).bind (·.dst) = o.dst := by rw [ho]; rfl
      have haos2 : cDraw P m ops anc rest (DN ord (s + 1)) (TS ops ord (s + 1)) = some aos' := by rw [DN_succ hj, TS_succ hj, hdst]; exact haos
      obtain ⟨R, q, h1, h2, e1, e2, e3, e4, hall, hend⟩ := trace_ex rest (s + 1) aos' _ _ d' h' r hlt hrest' haos2 hr' hgood
      let R' : Runs := ⟨fun p => if p = s then loc else R.L p, fun p => if p = s then tmp else R.X p, fun p => if p = s then d else R.D p, fun p => if p = s then h else R.H p, fun p => if p = s then v else R.V p⟩
      have r1 : ∀ p, s < p → R'.L p = R.L p ∧ R'.X p = R.X p ∧ R'.D p = R.D p ∧ R'.H p = R.H p ∧ R'.V p = R.V p := fun p hp => by
        have : ¬ p = s := by omega
        simp [R', this]
      have r0 : R'.L s = loc ∧ R'.X s = tmp ∧ R'.D s = d ∧ R'.H s = h ∧ R'.V s = v := by simp [R']
      refine ⟨R', q, by omega, h2, r0.1, r0.2.1, r0.2.2.1, r0.2.2.2.1, fun p hp1 hp2 => ?_, ?_⟩
      · by_cases hps : p = s
        · subst hps
          refine ⟨j, o, op, g, re, hj, ho, hop, hg, hcr, ?_, ?_, ?_⟩
          · rw [(r1 (p + 1) (by omega)).2.2.1, (r1 (p + 1) (by omega)).2.2.2.1, r0.1, r0.2.1, r0.2.2.1, r0.2.2.2.1, r0.2.2.2.2, e3, e4]; exact hst
          · rw [(r1 (p + 1) (by omega)).1, e1, r0.1, r0.2.2.2.2]
          · rw [(r1 (p + 1) (by omega)).2.1, e2, r0.2.1, r0.2.2.2.2]
        · obtain ⟨i, o2, ao2, g2, re2, S⟩ := hall p (by omega) hp2
          have q1 := r1 p (by omega)
          have q2 := r1 (p + 1) (by omega)
          refine ⟨i, o2, ao2, g2, re2, S.oi, S.oo, S.co, S.cg, S.cr, ?_, ?_, ?_⟩
          · rw [q2.2.2.1, q2.2.2.2.1, q1.1, q1.2.1, q1.2.2.1, q1.2.2.2.1, q1.2.2.2.2]; exact S.st
          · rw [q2.1, q1.1, q1.2.2.2.2]; exact S.lo
          · rw [q2.2.1, q1.2.1, q1.2.2.2.2]; exact S.tm
      · have q1 := r1 q (by omega)
        rcases hend with ⟨he, hr2⟩ | ⟨v2, h2, hp, hr2⟩
        · left; refine ⟨he, ?_⟩
          rw [q1.1, q1.2.2.1, q1.2.2.2.1]; exact hr2
        · right
          refine ⟨v2, h2, ?_, by rw [q1.2.2.1]; exact hr2⟩
          obtain ⟨i, o2, ao2, g2, a1, a2, a3, a4, a5⟩ := hp.ex
          refine ⟨i, o2, ao2, g2, a1, a2, a3, a4, ?_⟩
          rw [q1.1, q1.2.1, q1.2.2.2.1]; exact a5
    · refine ⟨⟨fun _ => loc, fun _ => tmp, fun _ => d, fun _ => h, fun _ => .bad⟩, s, Nat.le_refl _, hs, rfl, rfl, rfl, rfl, fun p h1 h2 => by omega, .inr ⟨v, h', ⟨j, o, op, g, hj, ho, hop, hg, hpan⟩, rfl⟩⟩

/-- what the temporaries hold -/
theorem ts_val {R : Runs} (h0 : R.X 0 = []) {q : Nat} (hst : ∀ p, p < q → ∃ i o ao g re, StepAt P m ops anc ord call R p i o ao g re) : ∀ (p : Nat), p ≤ q → ∀ t, match findIx (TS ops ord p) t with
    | some k => ∃ b i o, b < p ∧ ord[b]? = some i ∧ ops[i]? = some o ∧ o.dst = some t ∧ nth (R.X p) k = R.V b
    | none => ∀ b i o, b < p → ord[b]? = some i → ops[i]? = some o → o.dst ≠ some t
  | 0, hp, t => by
    have : findIx (TS ops ord 0) t = none := by simp [TS, findIx]
    rw [this]
    intro b i o hb; omega
  | p + 1, hp, t => by
    obtain ⟨i, o, ao, g, re, S⟩ := hst p (by omega)
    have ih := ts_val h0 hst p (by omega) t
    have hdst : (ops[i]?).bind (·.dst) = o.dst := by rw [S.oo]; rfl
    rw [TS_succ S.oi, hdst, findIx_cons]
    by_cases hd : o.dst = some t
    · rw [if_pos hd]
      exact ⟨p, i, o, by omega, S.oi, S.oo, hd, by rw [S.tm]; rfl⟩
    · rw [if_neg hd]
      cases hf : findIx (TS ops ord p) t with
      | none =>
        rw [hf] at ih
        intro b i' o' hb h1 h2
        by_cases hbp : b = p
        · subst hbp
          rw [S.oi] at h1; injection h1 with h1; subst h1
          rw [S.oo] at h2; injection h2 with h2; subst h2
          exact hd
        · exact ih b i' o' (by omega) h1 h2
      | some k =>
        rw [hf] at ih
        obtain ⟨b, i', o', h1, h2, h3, h4, h5⟩ := ih
        exact ⟨b, i', o', by omega, h2, h3, h4, by rw [S.tm]; exact h5⟩
/-- what the slots hold -/
theorem slot_val {R : Runs} {q : Nat} (hst : ∀ p, p < q → ∃ i o ao g re, StepAt P m ops anc ord call R p i o ao g re) (k : Nat) : ∀ (p : Nat), p ≤ q →
    (slot (R.L p) k = slot (R.L 0) k ∧ ∀ b i o, b < p → ord[b]? = some i → ops[i]? = some o → o.dst.bind (findSlot m) ≠ some k) ∨
    ∃ b i o, b < p ∧ ord[b]? = some i ∧ ops[i]? = some o ∧ o.dst.bind (findSlot m) = some k ∧ slot (R.L p) k = R.V b
  | 0, _ => .inl ⟨rfl, fun b i o hb => by omega⟩
  | p + 1, hp => by
    obtain ⟨i, o, ao, g, re, S⟩ := hst p (by omega)
    rw [S.lo, slot_putOut]
    by_cases hd : o.dst.bind (findSlot m) = some k
    · rw [if_pos hd]
      exact .inr ⟨p, i, o, by omega, S.oi, S.oo, hd, rfl⟩
    · rw [if_neg hd]
      rcases slot_val hst k p (by omega) with ⟨h1, h2⟩ | ⟨b, i', o', h1, h2, h3, h4, h5⟩
      · refine .inl ⟨h1, fun b i' o' hb e1 e2 => ?_⟩
        by_cases hbp : b = p
        · subst hbp
          rw [S.oi] at e1; injection e1 with e1; subst e1
          rw [S.oo] at e2; injection e2 with e2; subst e2
          exact hd
        · exact h2 b i' o' (by omega) e1 e2
      · exact .inr ⟨b, i', o', by omega, h2, h3, h4, h5⟩
/-- whose slots the whole writes -/
theorem outs_draw : ∀ {l : List Nat} {dn : List Nat} {ts : List (Option Nat)} {aos : List AOper}, cDraw P m ops anc l dn ts = some aos → ∀ i o k, i ∈ l → ops[i]? = some o → o.dst.bind (findSlot m) = some k → k ∈ outs aos
  | [], _, _, _, _, i, o, k, hi, _, _ => by simp at hi
  | j :: l, dn, ts, aos, hc, i, o, k, hi, ho, hk => by
    obtain ⟨o1, re, op, g, aos', ho1, _, hop, hg, haos, rfl⟩ := cDraw_cons hc
    rcases List.mem_cons.1 hi with rfl | hi
    · rw [ho1] at ho; injection ho with ho; subst ho
      exact List.mem_filterMap.2 ⟨_, List.mem_cons_self .., hk⟩
    · have := outs_draw haos i o k hi ho hk
      obtain ⟨x, hx, he⟩ := List.mem_filterMap.1 this
      exact List.mem_filterMap.2 ⟨x, List.mem_cons_of_mem _ hx, he⟩
/-- the reads that are asked again -/
theorem reads_draw {j : Nat} {ts : List (Option Nat)} {re : List ARe} {done : List Nat} (hc : cReads P m ops anc done ts j = some re) : ∀ pos i, done[pos]? = some i → ∀ o, ops[i]? = some o → clsO o.op = 1 → bef anc i j = false →
    ∃ x ∈ re, x.pos = pos ∧ cOp P (cOpd m ts) false o.op = some x.op ∧ cGuard m ops ts o = some x.guard ∧ ∀ k i' o' t, k ≤ pos → done[k]? = some i' → ops[i']? = some o' → o'.dst = some t → t ∉ opTmps ops o := by
  have gen : ∀ (l : List (Nat × Nat)) (re : List ARe), l.foldr (fun (x : Nat × Nat) (acc : Option (List ARe)) => do
      let acc ← acc
      let o ← ops[x.1]?
      if clsO o.op = 1 ∧ (anc.getD j 0).testBit x.1 = false then
        if (done.take (x.2 + 1)).all fun p => match (ops[p]?).bind (·.dst) with | some d => !(opTmps ops o).contains d | none => true then
          some (({ op := ← cOp P (cOpd m ts) false o.op, pos := x.2, guard := ← cGuard m ops ts o } : ARe) :: acc)
        else none
      else some acc) (some []) = some re → ∀ i pos, (i, pos) ∈ l → ∀ o, ops[i]? = some o → clsO o.op = 1 → bef anc i j = false →
      ∃ x ∈ re, x.pos = pos ∧ cOp P (cOpd m ts) false o.op = some x.op ∧ cGuard m ops ts o = some x.guard ∧ ((done.take (pos + 1)).all fun p => match (ops[p]?).bind (·.dst) with | some d => !(opTmps ops o).contains d | none => true) = true := by
    intro l
    induction l with
    | nil => intro re _ i pos hm; simp at hm
    | cons y l ih =>
      intro re hre i pos hm o ho h1 hb
      rw [List.foldr_cons] at hre
      obtain ⟨acc, hacc, hre⟩ := bindS hre
      obtain ⟨o1, ho1, hre⟩ := bindS hre
      by_cases hcond : clsO o1.op = 1 ∧ (anc.getD j 0).testBit y.1 = false
      · rw [if_pos hcond] at hre
        split at hre
        · rename_i hall
          obtain ⟨op, hop, hre⟩ := bindS hre
          obtain ⟨g, hg, hre⟩ := bindS hre
          injection hre with hre; subst hre
          rcases List.mem_cons.1 hm with e | hm
          · subst e
            rw [ho] at ho1; injection ho1 with ho1; subst ho1
            exact ⟨_, List.mem_cons_self .., rfl, hop, hg, hall⟩
          · obtain ⟨x, hx, hr⟩ := ih acc hacc i pos hm o ho h1 hb
            exact ⟨x, List.mem_cons_of_mem _ hx, hr⟩
        · cases hre
      · rw [if_neg hcond] at hre
        injection hre with hre; subst hre
        rcases List.mem_cons.1 hm with e | hm
        · subst e
          rw [ho] at ho1; injection ho1 with ho1; subst ho1
          exact absurd ⟨h1, hb⟩ hcond
        · exact ih _ hacc i pos hm o ho h1 hb
  intro pos i hpos o ho h1 hb
  obtain ⟨x, hx, e1, e2, e3, e4⟩ := gen _ re hc i pos (List.mem_zipIdx_iff_getElem?.2 hpos) o ho h1 hb
  refine ⟨x, hx, e1, e2, e3, fun k i' o' t hk hi' ho' ht hmem => ?_⟩
  have hin : i' ∈ done.take (pos + 1) := by
    have : (done.take (pos + 1))[k]? = some i' := by rw [List.getElem?_take, if_pos (by omega)]; exact hi'
    exact List.mem_of_getElem? this
  have := List.all_eq_true.1 e4 i' hin
  have hd : (ops[i']?).bind (·.dst) = some t := by rw [ho']; exact ht
  rw [hd] at this
  simp [hmem] at this
theorem reads_true {loc : T AV} {tmp : List AV} {h : AH} : ∀ {re : List ARe}, reads loc tmp h re = true → ∀ x ∈ re, ∃ q, guardB loc tmp x.guard = some q ∧ (q = true → ∃ v h', evOp x.op loc tmp h = .val v h' ∧ v = nth tmp x.pos)
  | [], _, x, hx => by simp at hx
  | ⟨op, i, g⟩ :: l, h1, x, hx => by
    have h1 : obind (guardB loc tmp g) false (fun q => bi q (OR.rec (motive := fun _ => Bool) (fun v _ => bi (same v (nth tmp i)) (reads loc tmp h l) false) (fun _ _ => false) (fun _ => false) (fun _ => false) (fun _ => false) (evOp op loc tmp h)) (reads loc tmp h l)) = true := h1
    cases hg : guardB loc tmp g with
    | none => rw [hg] at h1; cases h1
    | some q =>
      rw [hg] at h1
      cases q with
      | false =>
        have h1 : reads loc tmp h l = true := h1
        rcases List.mem_cons.1 hx with rfl | hx
        · exact ⟨false, hg, fun e => by cases e⟩
        · exact reads_true h1 x hx
      | true =>
        have h1 : (OR.rec (motive := fun _ => Bool) (fun v _ => bi (same v (nth tmp i)) (reads loc tmp h l) false) (fun _ _ => false) (fun _ => false) (fun _ => false) (fun _ => false) (evOp op loc tmp h)) = true := h1
        cases ho : evOp op loc tmp h with
        | val v h' =>
          rw [ho] at h1
          have h1 : bi (same v (nth tmp i)) (reads loc tmp h l) false = true := h1
          rw [bi_eq] at h1
          split at h1
          · rename_i hs
            rcases List.mem_cons.1 hx with rfl | hx
            · exact ⟨true, hg, fun _ => ⟨v, h', ho, same_eq hs⟩⟩
            · exact reads_true h1 x hx
          · cases h1
        | _ => rw [ho] at h1; cases h1
end
end Go.Ev

namespace Go.Ev
open Go
theorem clsO_le (op : Op) : clsO op ≤ 3 := by
  unfold clsO
  repeat' split
  all_goals omega
section
variable {P : Program} {cx : Operand → Option Opd} {loc : T AV} {tmp : List AV}
theorem quiet_op {op : Op} {ao : AOp} (hc : cOp P cx false op = some ao) (h3 : clsO op ≠ 3) (h : AH) : (∃ n, evOp ao loc tmp h = .fail n) ∨ ∃ v h', evOp ao loc tmp h = .val v h' := by
  have := clsO_le op
  by_cases h0 : clsO op = 0
  · rcases pure_op (loc := loc) (tmp := tmp) hc h0 with ⟨n, hn⟩ | ⟨v, hv⟩
    · exact .inl ⟨n, hn h⟩
    · exact .inr ⟨v, h, hv h⟩
  · by_cases h1 : clsO op = 1
    · rcases read_op (loc := loc) (tmp := tmp) hc h1 h with ⟨n, hn⟩ | ⟨v, hv, _⟩
      · exact .inl ⟨n, hn⟩
      · exact .inr ⟨v, h, hv⟩
    · rcases makeA_op (loc := loc) (tmp := tmp) hc (by omega) with ⟨n, hn⟩ | ⟨V, o, hv⟩
      · exact .inl ⟨n, hn h⟩
      · exact .inr ⟨_, _, hv h⟩
end
/-! ### Memory that grows -/
def WF (h : AH) : Prop := ∀ id, h.next ≤ id → h.mem.get id = none
structure Grows (h h' : AH) : Prop where
  le : h.next ≤ h'.next
  old : ∀ {id}, id < h.next → h'.mem.get id = h.mem.get id
  wf : WF h → WF h'
theorem Grows.refl (h : AH) : Grows h h := ⟨Nat.le_refl _, fun _ => rfl, id⟩
theorem Grows.trans {a b c : AH} (x : Grows a b) (y : Grows b c) : Grows a c := ⟨Nat.le_trans x.le y.le, fun h => by rw [y.old (Nat.lt_of_lt_of_le h x.le), x.old h], fun h => y.wf (x.wf h)⟩
theorem AH.add_get (h : AH) (o : AObj) (id : Nat) : (h.add o).mem.get id = if h.next = id then some o else h.mem.get id := T.get_put _ _ _ _
theorem AH.add_next (h : AH) (o : AObj) : (h.add o).next = h.next + 1 := rfl
theorem Grows.add (h : AH) (o : AObj) : Grows h (h.add o) := by
  refine ⟨Nat.le_succ _, fun hi => ?_, fun hw id hi => ?_⟩
  · rw [AH.add_get, if_neg (by omega)]
  · rw [AH.add_next] at hi
    rw [AH.add_get, if_neg (by omega)]
    exact hw id (by omega)
theorem Grows.ext {h h' : AH} (g : Grows h h') (hw : WF h) : Ext h h' := by
  intro id o e
  rcases Nat.lt_or_ge id h.next with hl | hl
  · rw [g.old hl]; exact e
  · rw [hw id hl] at e; cases e
theorem WR.wf {ρ : Rho} {h : AH} {w : World} (W : WR ρ h w) : WF h := fun _ hi => W.fresh hi
/-- memory is seen to have grown, and the model has not moved -/
theorem WR.grow {ρ : Rho} {h h' : AH} {w : World} (W : WR ρ h w) (g : Grows h h') : WR ρ h' w ∧ Step ρ h w ρ h' w := by
  have hold : ∀ {id x}, ρ id = some x → h'.mem.get id = h.mem.get id := fun e => g.old (W.dom e).1
  refine ⟨⟨fun hg he => ?_, fun h1 h2 hne e1 e2 => ?_, fun he => ⟨Nat.lt_of_lt_of_le (W.dom he).1 g.le, (W.dom he).2⟩, fun hi => g.wf W.wf _ hi⟩, ⟨ρ.le_refl, ?_, fun _ _ => rfl, Nat.le_refl _, rfl, rfl, rfl, g.le, fun hi _ => g.old hi, fun a b => absurd a b⟩⟩
  · rw [hold he] at hg; exact W.obj hg he
  · rw [hold e1] at h1; rw [hold e2] at h2; exact W.inj h1 h2 hne e1 e2
  · rintro k _ ⟨id, o, p, s, h1, h2, h3⟩
    exact ⟨id, o, p, s, by rw [← hold h3]; exact h1, h2, h3⟩
section
variable {P : Program} {cx : Operand → Option Opd} {loc : T AV} {tmp d d' : List AV} {h h' : AH} {call : Nat → List AV → AH → CR} {g : Option (Opd × Bool)} {re : List ARe} {v : AV} {op : Op} {ao : AOp}
theorem stepA_quiet (hs : StepA call loc tmp d h ao g re v d' h') (hc : cOp P cx false op = some ao) (h3 : clsO op ≠ 3) : d' = d ∧ Grows h h' ∧ (clsO op < 2 → h' = h) ∧ (guardB loc tmp g = some false ∧ v = .tup [] ∧ h' = h ∨ guardB loc tmp g = some true ∧ evOp ao loc tmp h = .val v h') := by
  cases hs with
  | skip hg => exact ⟨rfl, .refl _, fun _ => rfl, .inl ⟨hg, rfl, rfl⟩⟩
  | val hg he hr =>
    have hle := clsO_le op
    have hsm : clsO op < 2 → h' = h := by
      intro hl
      by_cases h0 : clsO op = 0
      · rcases pure_op (loc := loc) (tmp := tmp) hc h0 with ⟨n, hn⟩ | ⟨u, hu⟩
        · cases he.symm.trans (hn h)
        · have e := he.symm.trans (hu h); injection e with _ e
      · rcases read_op (loc := loc) (tmp := tmp) hc (by omega) h with ⟨n, hn⟩ | ⟨u, hu, _⟩
        · cases he.symm.trans hn
        · have e := he.symm.trans hu; injection e with _ e
    refine ⟨rfl, ?_, hsm, .inr ⟨hg, he⟩⟩
    by_cases hl : clsO op < 2
    · rw [hsm hl]; exact .refl _
    · rcases makeA_op (loc := loc) (tmp := tmp) hc (by omega) with ⟨n, hn⟩ | ⟨V, o, hv⟩
      · cases he.symm.trans (hn h)
      · have e := he.symm.trans (hv h); injection e with _ e; rw [e]; exact .add _ _
  | enter hg he _ _ => rcases quiet_op (loc := loc) (tmp := tmp) hc h3 h with ⟨n, hn⟩ | ⟨u, h2, hu⟩ <;> simp_all
  | dfr hg he => rcases quiet_op (loc := loc) (tmp := tmp) hc h3 h with ⟨n, hn⟩ | ⟨u, h2, hu⟩ <;> simp_all
end
structure Dr (P : Program) (m : List Nat) (ops : Array Oper) (ord : List Nat) (call : Nat → List AV → AH → CR) (n : Nat) (R : Runs) (q : Nat) : Prop where
  hcall : CallOK P call
  ok : DrawOk ops (ancs ops) ord
  x0 : R.X 0 = []
  ql : q ≤ ord.length
  st : ∀ p, p < q → ∃ i o ao g re, StepAt P m ops (ancs ops) ord call R p i o ao g re
  en : q = ord.length ∨ ∃ i o, ord[q]? = some i ∧ ops[i]? = some o ∧ clsO o.op = 3
  dst : ∀ {i : Nat} {o : Oper} {x : Nat}, ops[i]? = some o → o.dst = some x → x < n
structure Inv (ops : Array Oper) (ord : List Nat) (n : Nat) (R : Runs) (q : Nat) (ρ0 : Rho) (a0 : Act) (w0 : World) (listed : Array Bool) (a : Act) (w : World) (ρ : Rho) (ps : Nat) : Prop where
  sz : listed.size = ops.size
  le : ps ≤ q
  act : ps = ord.length ∨ ∃ i o, ord[ps]? = some i ∧ ops[i]? = some o ∧ clsO o.op = 3
  low : ∀ {p i : Nat} {o : Oper}, p < ps → ord[p]? = some i → ops[i]? = some o → clsO o.op = 3 → listed.getD i false = true
  high : ∀ {p i : Nat}, ps ≤ p → ord[p]? = some i → listed.getD i false = false
  dc : ∀ {i j : Nat}, listed.getD i false = true → bef (ancs ops) j i = true → listed.getD j false = true
  W : WR ρ (R.H ps) w
  S : Step ρ0 (R.H 0) w0 ρ (R.H ps) w
  wf : ∀ p, p ≤ ps → WF (R.H p)
  nx : ∀ {p p' : Nat}, p ≤ p' → p' ≤ ps → (R.H p).next ≤ (R.H p').next
  fl : ∀ {p i : Nat} {ob : AObj}, p < ps → ord[p]? = some i → listed.getD i false = false → R.H (p + 1) = (R.H p).add ob → ρ (R.H p).next = none ∧ (R.H ps).mem.get (R.H p).next = some ob
  T : ∀ {p i : Nat} {o : Oper} {t : Nat}, p < ps → ord[p]? = some i → ops[i]? = some o → listed.getD i false = true → o.dst = some t → VR ρ (R.V p) (a.tmps.getD t undef)
  U : ∀ {t : Nat}, (∀ i o, ops[i]? = some o → listed.getD i false = true → o.dst ≠ some t) → a.tmps.getD t undef = a0.tmps.getD t undef
  N : a.tmps.size = n
  Df : DefsR ρ (R.D ps) a.defers
section
variable {P : Program} {m : List Nat} {ops : Array Oper} {ord : List Nat} {call : Nat → List AV → AH → CR} {n : Nat} {R : Runs} {q : Nat} {ρ0 : Rho} {a0 : Act} {w0 : World} {listed : Array Bool} {a : Act} {w : World} {ρ : Rho} {ps : Nat}
/-- nobody between two places writes what an operation looks at -/
def Calm (ops : Array Oper) (ord : List Nat) (o : Oper) (p e : Nat) : Prop := ∀ b i' o' t, p ≤ b → b < e → ord[b]? = some i' → ops[i']? = some o' → o'.dst = some t → t ∉ opTmps ops o
theorem look_at (K : Dr P m ops ord call n R q) (L0 : LocR ρ0 m (R.L 0) a0) (I : Inv ops ord n R q ρ0 a0 w0 listed a w ρ ps) {p i e : Nat} {o : Oper} (hp : ord[p]? = some i) (ho : ops[i]? = some o) (hun : listed.getD i false = false)
    (hanc : ∀ j, bef (ancs ops) j i = true → listed.getD j false = true) (hpe : p ≤ e) (hes : e ≤ ps) (calm : Calm ops ord o p e) {t : Nat} (ht : t ∈ opTmps ops o) {y : Opd} (hy : cOpd m (TS ops ord e) (.tmp t) = some y) :
    VR ρ (ev (R.L e) (R.X e) y) (a.tmps.getD t undef) := by
  have heq : e ≤ q := Nat.le_trans hes I.le
  have tv := ts_val K.x0 K.st e heq t
  unfold cOpd at hy
  simp only at hy
  cases hf : findIx (TS ops ord e) t with
  | some k =>
    rw [hf] at hy tv
    injection hy with hy; subst hy
    obtain ⟨b, i', o', hb, h1, h2, h3, h4⟩ := tv
    rw [ev_t, h4]
    have hbp : b < p := by
      rcases Nat.lt_or_ge b p with h | h
      · exact h
      · exact absurd ht (calm b i' o' t h hb h1 h2 h3)
    obtain ⟨hne, hnb, _⟩ := K.ok.pair hp h1 hbp
    have hl : listed.getD i' false = true := by
      rcases (K.ok.dst ho h2 hne h3).2 ht with h | h
      · exact hanc _ h
      · rw [hnb] at h; cases h
    exact I.T (by omega) h1 h2 hl h3
  | none =>
    rw [hf] at hy tv
    obtain ⟨k, hk, e1⟩ := mapS hy
    subst e1
    rw [ev_l]
    have hs : slot (R.L e) k = slot (R.L 0) k := by
      rcases slot_val K.st k e heq with ⟨h, _⟩ | ⟨b, i', o', hb, h1, h2, h3, _⟩
      · exact h
      · exfalso
        cases hd : o'.dst with
        | none => rw [hd] at h3; cases h3
        | some t' =>
          rw [hd] at h3
          have : t' = t := findSlot_inj h3 hk
          subst this
          exact tv b i' o' hb h1 h2 hd
    rw [hs, I.U (t := t) ?_]
    · exact (L0 t k hk).mono I.S.le
    · intro i2 o2 h2 hl hd
      have hne : i ≠ i2 := by intro e; subst e; rw [hun] at hl; cases hl
      rcases (K.ok.dst ho h2 hne hd).2 ht with h | h
      · obtain ⟨b, hb, hbe⟩ := List.getElem_of_mem (K.ok.cover (Array.getElem?_eq_some_iff.1 h2).1)
        have hb2 : ord[b]? = some i2 := by rw [List.getElem?_eq_getElem hb, hbe]
        rcases Nat.lt_or_ge b e with hlt | hge
        · exact tv b i2 o2 hlt hb2 h2 hd
        · have hbp : p < b := by
            rcases Nat.lt_or_ge p b with h | h
            · exact h
            · have : b = p := by omega
              subst this
              rw [hp] at hb2; injection hb2 with hb2; exact absurd hb2 hne
          obtain ⟨_, hnb, _⟩ := K.ok.pair hb2 hp hbp
          rw [hnb] at h; cases h
      · have := I.dc hl h
        rw [hun] at this; cases this
/-- the operands that an operation asks for -/
def own (ops : Array Oper) (o : Oper) (cx : Operand → Option Opd) : Operand → Option Opd
  | .tmp t => if t ∈ opTmps ops o then cx (.tmp t) else none
  | x => cx x
theorem own_op {o : Oper} {cx : Operand → Option Opd} {ao : AOp} (h : cOp P cx false o.op = some ao) : cOp P (own ops o cx) false o.op = some ao := by
  rw [← h]
  refine cOp_congr fun x hx => ?_
  cases x with
  | tmp t =>
    have : t ∈ opTmps ops o := List.mem_append_left _ (List.mem_filterMap.2 ⟨.tmp t, by simpa using hx, rfl⟩)
    simp [own, this]
  | _ => rfl
theorem opds_at (K : Dr P m ops ord call n R q) (L0 : LocR ρ0 m (R.L 0) a0) (I : Inv ops ord n R q ρ0 a0 w0 listed a w ρ ps) {p i e : Nat} {o : Oper} (hp : ord[p]? = some i) (ho : ops[i]? = some o) (hun : listed.getD i false = false)
    (hanc : ∀ j, bef (ancs ops) j i = true → listed.getD j false = true) (hpe : p ≤ e) (hes : e ≤ ps) (calm : Calm ops ord o p e) : OpdsR ρ (R.L e) (R.X e) (own ops o (cOpd m (TS ops ord e))) a.eval := by
  intro x y hxy
  cases x with
  | tmp t =>
    have hxy : (if t ∈ opTmps ops o then cOpd m (TS ops ord e) (.tmp t) else none) = some y := hxy
    split at hxy
    · exact look_at K L0 I hp ho hun hanc hpe hes calm ‹_› hxy
    · cases hxy
  | const v => obtain ⟨z, hz, e⟩ := mapS hxy; subst e; exact cvVal_rel hz
  | func f => injection hxy with e; subst e; exact .fn .nil .nil rfl rfl
  | global _ => injection hxy with e; subst e; exact .bad _
theorem guard_at (K : Dr P m ops ord call n R q) (L0 : LocR ρ0 m (R.L 0) a0) (I : Inv ops ord n R q ρ0 a0 w0 listed a w ρ ps) {p i e : Nat} {o : Oper} (hp : ord[p]? = some i) (ho : ops[i]? = some o) (hun : listed.getD i false = false)
    (hanc : ∀ j, bef (ancs ops) j i = true → listed.getD j false = true) (hpe : p ≤ e) (hes : e ≤ ps) (calm : Calm ops ord o p e) {g : Option (Opd × Bool)} (hg : cGuard m ops (TS ops ord e) o = some g) {b : Bool} (hb : guardB (R.L e) (R.X e) g = some b) :
    Region.wanted o (yielded ops a.tmps) = b := by
  refine guard_rel (ρ := ρ) hg (fun gi want d y h1 h2 h3 => ?_) hb
  refine look_at K L0 I hp ho hun hanc hpe hes calm (List.mem_append_right _ ?_) h3
  rw [h1]
  simp [h2]
end
end Go.Ev

namespace Go.Ev
open Go
section
variable {P : Program} {m : List Nat} {ops : Array Oper} {ord : List Nat} {call : Nat → List AV → AH → CR} {n : Nat} {R : Runs} {q : Nat} {ρ0 : Rho} {a0 : Act} {w0 : World} {listed : Array Bool} {a : Act} {w : World} {ρ : Rho} {ps : Nat}
theorem lt_ord {p i : Nat} (h : ord[p]? = some i) : p < ord.length := by
  rcases Nat.lt_or_ge p ord.length with h1 | h1
  · exact h1
  · rw [List.getElem?_eq_none h1] at h; cases h
theorem Dr.grow (K : Dr P m ops ord call n R q) : ∀ {s r : Nat}, s ≤ r → r ≤ q → (∀ p i o, s ≤ p → p < r → ord[p]? = some i → ops[i]? = some o → clsO o.op ≠ 3) → Grows (R.H s) (R.H r) ∧ R.D r = R.D s := by
  intro s r hsr
  induction r with
  | zero =>
    intro _ _
    have h0 : s = 0 := by omega
    rw [h0]; exact ⟨.refl _, rfl⟩
  | succ r ih =>
    intro hq hcl
    by_cases hs : s = r + 1
    · subst hs; exact ⟨.refl _, rfl⟩
    · obtain ⟨g1, d1⟩ := ih (by omega) (by omega) (fun p i o h1 h2 => hcl p i o h1 (by omega))
      obtain ⟨i, o, ao, g, re, S⟩ := K.st r (by omega)
      obtain ⟨d2, g2, _⟩ := stepA_quiet S.st S.co (hcl r i o (by omega) (by omega) S.oi S.oo)
      exact ⟨g1.trans g2, by rw [d2, d1]⟩
/-- a read, whenever it comes, finds what the run found -/
theorem stable (K : Dr P m ops ord call n R q) (L0 : LocR ρ0 m (R.L 0) a0) (I : Inv ops ord n R q ρ0 a0 w0 listed a w ρ ps) {p i : Nat} {o : Oper} {ao : AOp} {g : Option (Opd × Bool)} {re : List ARe} (S : StepAt P m ops (ancs ops) ord call R p i o ao g re)
    (hun : listed.getD i false = false) (hanc : ∀ j, bef (ancs ops) j i = true → listed.getD j false = true) (hcl : clsO o.op < 2) (hg : guardB (R.L p) (R.X p) g = some true) :
    ∀ r, p ≤ r → r ≤ ps → ∃ e ao', p ≤ e ∧ e ≤ r ∧ Calm ops ord o p e ∧ cOp P (cOpd m (TS ops ord e)) false o.op = some ao' ∧ evOp ao' (R.L e) (R.X e) (R.H r) = .val (R.V p) (R.H r) := by
  have hrd : ∀ {ao' : AOp} {e : Nat}, cOp P (cOpd m (TS ops ord e)) false o.op = some ao' → ReadF fun h => evOp ao' (R.L e) (R.X e) h := by
    intro ao' e hc
    by_cases h0 : clsO o.op = 0
    · exact (pure_op hc h0).read
    · exact read_op hc (by omega)
  intro r hpr
  induction r with
  | zero =>
    intro _
    obtain rfl : p = 0 := by omega
    obtain ⟨_, _, hsm, hv⟩ := stepA_quiet S.st S.co (by omega)
    rcases hv with ⟨h1, _⟩ | ⟨_, he⟩
    · rw [hg] at h1; cases h1
    · rw [hsm hcl] at he
      exact ⟨0, ao, Nat.le_refl _, Nat.le_refl _, fun b _ _ _ h1 h2 => by omega, S.co, he⟩
  | succ r ih =>
    intro hps
    by_cases hs : p = r + 1
    · subst hs
      obtain ⟨_, _, hsm, hv⟩ := stepA_quiet S.st S.co (by omega)
      rcases hv with ⟨h1, _⟩ | ⟨_, he⟩
      · rw [hg] at h1; cases h1
      · rw [hsm hcl] at he
        exact ⟨r + 1, ao, Nat.le_refl _, Nat.le_refl _, fun b _ _ _ h1 h2 => by omega, S.co, he⟩
    · obtain ⟨e, ao', h1, h2, h3, h4, h5⟩ := ih (by omega) (by omega)
      obtain ⟨i2, o2, ao2, g2, re2, S2⟩ := K.st r (by have := I.le; omega)
      by_cases hc3 : clsO o2.op = 3
      · by_cases h0 : clsO o.op = 0
        · refine ⟨e, ao', h1, by omega, h3, h4, ?_⟩
          rcases pure_op (loc := R.L e) (tmp := R.X e) h4 h0 with ⟨k, hk⟩ | ⟨v, hv⟩
          · cases h5.symm.trans (hk _)
          · have e1 := h5.symm.trans (hv (R.H r))
            injection e1 with e1 _
            rw [e1]; exact hv _
        · have hl2 : listed.getD i2 false = true := I.low (by omega) S2.oi S2.oo hc3
          have hnb : bef (ancs ops) i i2 = false := by
            cases hb : bef (ancs ops) i i2 with
            | false => rfl
            | true => have := I.dc hl2 hb; rw [hun] at this; cases this
          have hpr2 : p < r := by
            rcases Nat.lt_or_ge p r with h | h
            · exact h
            · have : p = r := by omega
              subst this
              have := S.oi.symm.trans S2.oi; injection this with this; subst this
              rw [hun] at hl2; cases hl2
          have hdone : (DN ord r)[r - 1 - p]? = some i := by
            have hlen : (ord.take r).length = r := by rw [List.length_take]; have := lt_ord S2.oi; omega
            unfold DN
            rw [List.getElem?_reverse (by omega), hlen, show r - 1 - (r - 1 - p) = p by omega, List.getElem?_take, if_pos hpr2]
            exact S.oi
          obtain ⟨x, hx, x1, x2, x3, x4⟩ := reads_draw (S2.cr hc3) (r - 1 - p) i hdone o S.oo (by omega) hnb
          have hcalm : Calm ops ord o p r := by
            intro b i' o' t hb1 hb2 hi' ho' ht
            refine x4 (r - 1 - b) i' o' t (by omega) ?_ ho' ht
            have hlen : (ord.take r).length = r := by rw [List.length_take]; have := lt_ord S2.oi; omega
            unfold DN
            rw [List.getElem?_reverse (by omega), hlen, show r - 1 - (r - 1 - b) = b by omega, List.getElem?_take, if_pos hb2]
            exact hi'
          have hsame : R.H (r + 1) = R.H r ∨ reads (R.L r) (R.X r) (R.H (r + 1)) re2 = true := by
            have hstr := S2.st
            generalize R.H (r + 1) = h' at hstr
            generalize R.V r = v' at hstr
            generalize R.D (r + 1) = d' at hstr
            cases hstr with
            | skip hgf => exact .inl rfl
            | val _ _ hr => exact .inr hr
            | enter _ _ _ hr => exact .inr hr
            | dfr hgt he => exact .inl rfl
          rcases hsame with hsame | hr
          · exact ⟨e, ao', h1, by omega, h3, h4, by rw [hsame]; exact h5⟩
          have hrt : ∃ ao', cOp P (cOpd m (TS ops ord r)) false o.op = some ao' ∧ evOp ao' (R.L r) (R.X r) (R.H (r + 1)) = .val (R.V p) (R.H (r + 1)) := by
            obtain ⟨b, hb, hbt⟩ := reads_true hr x hx
            have w1 := guard_at K L0 I S.oi S.oo hun hanc (Nat.le_refl _) (by omega) (fun b _ _ _ h1 h2 => by omega) S.cg hg
            have w2 := guard_at K L0 I S.oi S.oo hun hanc (by omega) (by omega) hcalm x3 hb
            rw [w1] at w2
            obtain ⟨v, h2, hv, hve⟩ := hbt w2.symm
            have hval : v = R.V p := by
              rw [hve, x1]
              have : ∀ k, k ≤ q → ∀ b, b < k → nth (R.X k) (k - 1 - b) = R.V b := by
                intro k
                induction k with
                | zero => intro _ b hb; omega
                | succ k ihk =>
                  intro hk b hb
                  obtain ⟨_, _, _, _, _, S3⟩ := K.st k (by omega)
                  rw [S3.tm]
                  by_cases hbk : b = k
                  · subst hbk; rw [show b + 1 - 1 - b = 0 by omega]; rfl
                  · rw [show k + 1 - 1 - b = (k - 1 - b) + 1 by omega]
                    exact ihk (by omega) b (by omega)
              exact this r (by have := I.le; omega) p hpr2
            refine ⟨x.op, x2, ?_⟩
            rcases hrd x2 (R.H (r + 1)) with ⟨k, hk⟩ | ⟨u, hu, _⟩
            · cases hv.symm.trans hk
            · have e1 := hv.symm.trans hu
              injection e1 with e1 _
              rw [← hval, e1]; exact hu
          obtain ⟨ao3, c1, c2⟩ := hrt
          exact ⟨r, ao3, by omega, by omega, hcalm, c1, c2⟩
      · obtain ⟨_, gr, _, _⟩ := stepA_quiet S2.st S2.co hc3
        refine ⟨e, ao', h1, by omega, h3, h4, ?_⟩
        rcases hrd h4 (R.H r) with ⟨k, hk⟩ | ⟨u, hu, hx⟩
        · cases h5.symm.trans hk
        · have e1 := h5.symm.trans hu
          injection e1 with e1 _
          rw [e1]
          exact hx _ (gr.ext (I.wf r (by omega)))
end
end Go.Ev

namespace Go.Ev
open Go
section
variable {P : Program} {m : List Nat} {ops : Array Oper} {ord : List Nat} {call : Nat → List AV → AH → CR} {n : Nat} {R : Runs} {q : Nat} {ρ0 : Rho} {a0 : Act} {w0 : World} {listed : Array Bool} {a : Act} {w : World} {ρ : Rho} {ps : Nat}
theorem Dr.next (K : Dr P m ops ord call n R q) : ∀ (k s : Nat), q - s = k → s ≤ q → ∃ ps', s ≤ ps' ∧ ps' ≤ q ∧ (∀ p i o, s ≤ p → p < ps' → ord[p]? = some i → ops[i]? = some o → clsO o.op ≠ 3) ∧ (ps' = ord.length ∨ ∃ i o, ord[ps']? = some i ∧ ops[i]? = some o ∧ clsO o.op = 3)
  | 0, s, hk, hs => ⟨s, Nat.le_refl _, hs, fun p i o h1 h2 => by omega, by rw [show s = q by omega]; exact K.en⟩
  | k + 1, s, hk, hs => by
    obtain ⟨i, o, ao, g, re, S⟩ := K.st s (by omega)
    by_cases h3 : clsO o.op = 3
    · exact ⟨s, Nat.le_refl _, hs, fun p i o h1 h2 => by omega, .inr ⟨i, o, S.oi, S.oo, h3⟩⟩
    · obtain ⟨ps', h1, h2, h4, h5⟩ := Dr.next K k (s + 1) (by omega) (by omega)
      refine ⟨ps', by omega, h2, fun p i2 o2 q1 q2 q3 q4 => ?_, h5⟩
      by_cases hp : p = s
      · subst hp
        rw [S.oi] at q3; injection q3 with q3; subst q3
        rw [S.oo] at q4; injection q4 with q4; subst q4
        exact h3
      · exact h4 p i2 o2 (by omega) q2 q3 q4
theorem pos_inj (K : Dr P m ops ord call n R q) {p p' i : Nat} (h : ord[p]? = some i) (h' : ord[p']? = some i) : p = p' := by
  rcases Nat.lt_trichotomy p p' with hl | hl | hl
  · exact absurd rfl (K.ok.pair h' h hl).1
  · exact hl
  · exact absurd rfl (K.ok.pair h h' hl).1
theorem getD_set {i j : Nat} (h : i < listed.size) : (listed.setIfInBounds i true).getD j false = if i = j then true else listed.getD j false := by
  by_cases hij : i = j
  · subst hij; simp [h]
  · rw [if_neg hij, getD_set_ne false hij]
/-- an operation that does not act has been done -/
theorem Inv.put (K : Dr P m ops ord call n R q) (I : Inv ops ord n R q ρ0 a0 w0 listed a w ρ ps) {p i : Nat} {o : Oper} (hp : ord[p]? = some i) (ho : ops[i]? = some o) (hps : p < ps) (hanc : ∀ j, bef (ancs ops) j i = true → listed.getD j false = true)
    {ρ' : Rho} {w' : World} {v' : Value} (hv : VR ρ' (R.V p) v') (hle : ρ.le ρ') (W' : WR ρ' (R.H ps) w') (S' : Step ρ0 (R.H 0) w0 ρ' (R.H ps) w')
    (hfl : ∀ {p2 i2 : Nat} {ob : AObj}, p2 < ps → ord[p2]? = some i2 → i2 ≠ i → listed.getD i2 false = false → R.H (p2 + 1) = (R.H p2).add ob → ρ' (R.H p2).next = none) :
    Inv ops ord n R q ρ0 a0 w0 (listed.setIfInBounds i true) (a.put o.dst v') w' ρ' ps := by
  have hi : i < listed.size := by rw [I.sz]; exact (Array.getElem?_eq_some_iff.1 ho).1
  have hdo : ∀ x, o.dst = some x → x < a.tmps.size := fun x hx => by rw [I.N]; exact K.dst ho hx
  have hset : ∀ {j : Nat}, (listed.setIfInBounds i true).getD j false = if i = j then true else listed.getD j false := fun {j} => getD_set hi
  refine ⟨by simp [I.sz], I.le, I.act, ?_, ?_, ?_, W', S', I.wf, I.nx, ?_, ?_, ?_, by rw [size_put]; exact I.N, ?_⟩
  · intro p2 i2 o2 h1 h2 h3 h4
    rw [hset]; split
    · rfl
    · exact I.low h1 h2 h3 h4
  · intro p2 i2 h1 h2
    rw [hset, if_neg (fun e => ?_)]
    · exact I.high h1 h2
    · subst e
      have := pos_inj K hp h2
      omega
  · intro i2 j h1 h2
    rw [hset] at h1 ⊢
    split at h1
    · rename_i e; subst e
      split
      · rfl
      · exact hanc j h2
    · split
      · rfl
      · exact I.dc h1 h2
  · intro p2 i2 ob h1 h2 h3 h4
    rw [hset] at h3
    split at h3
    · cases h3
    · rename_i hne
      exact ⟨hfl h1 h2 (Ne.symm hne) h3 h4, (I.fl h1 h2 h3 h4).2⟩
  · intro p2 i2 o2 t h1 h2 h3 h4 h5
    rw [tmps_put hdo]
    rw [hset] at h4
    split at h4
    · rename_i e; subst e
      have := pos_inj K hp h2
      subst this
      rw [ho] at h3; injection h3 with h3; subst h3
      rw [if_pos h5]; exact hv
    · rename_i hne
      rw [if_neg (fun e => (K.ok.dst h3 ho (Ne.symm hne) e).1 h5)]
      exact (I.T h1 h2 h3 h4 h5).mono hle
  · intro t ht
    rw [tmps_put hdo, if_neg (ht i o ho (by rw [hset, if_pos rfl]))]
    refine I.U fun i2 o2 h1 h2 => ht i2 o2 h1 ?_
    rw [hset]; split
    · rfl
    · exact h2
  · have : (a.put o.dst v').defers = a.defers := by cases o.dst <;> rfl
    rw [this]; exact I.Df.mono hle
/-- an operation that acts has been done -/
theorem Inv.act_put (K : Dr P m ops ord call n R q) (I : Inv ops ord n R q ρ0 a0 w0 listed a w ρ ps) (hq : ps < q) {i : Nat} {o : Oper} (hp : ord[ps]? = some i) (ho : ops[i]? = some o) (hanc : ∀ j, bef (ancs ops) j i = true → listed.getD j false = true)
    {ρ' : Rho} {w' : World} {v' : Value} {ds' : List Deferred} (hv : VR ρ' (R.V ps) v') (W' : WR ρ' (R.H (ps + 1)) w') (S' : Step ρ (R.H ps) w ρ' (R.H (ps + 1)) w') (D' : DefsR ρ' (R.D (ps + 1)) ds') :
    ∃ ps', Inv ops ord n R q ρ0 a0 w0 (listed.setIfInBounds i true) (({ a with defers := ds' } : Act).put o.dst v') w' ρ' ps' := by
  have hi : i < listed.size := by rw [I.sz]; exact (Array.getElem?_eq_some_iff.1 ho).1
  have hdo : ∀ x, o.dst = some x → x < ({ a with defers := ds' } : Act).tmps.size := fun x hx => by show x < a.tmps.size; rw [I.N]; exact K.dst ho hx
  have hset : ∀ {j : Nat}, (listed.setIfInBounds i true).getD j false = if i = j then true else listed.getD j false := fun {j} => getD_set hi
  obtain ⟨ps', g1, g2, g3, g4⟩ := K.next (q - (ps + 1)) (ps + 1) rfl (by omega)
  have gr : ∀ r, ps + 1 ≤ r → r ≤ ps' → Grows (R.H (ps + 1)) (R.H r) ∧ R.D r = R.D (ps + 1) := fun r h1 h2 => K.grow h1 (by omega) (fun p i o q1 q2 => g3 p i o q1 (by omega))
  obtain ⟨W2, S2⟩ := W'.grow (gr ps' g1 (Nat.le_refl _)).1
  refine ⟨ps', by simp [I.sz], g2, g4, ?_, ?_, ?_, W2, I.S.trans (S'.trans S2), ?_, ?_, ?_, ?_, ?_, by rw [size_put]; exact I.N, ?_⟩
  · intro p2 i2 o2 h1 h2 h3 h4
    rw [hset]; split
    · rfl
    · rename_i hne
      rcases Nat.lt_trichotomy p2 ps with hl | hl | hl
      · exact I.low hl h2 h3 h4
      · subst hl; rw [hp] at h2; injection h2 with h2; exact absurd h2 hne
      · exact absurd h4 (g3 p2 i2 o2 (by omega) h1 h2 h3)
  · intro p2 i2 h1 h2
    rw [hset, if_neg (fun e => ?_)]
    · exact I.high (by omega) h2
    · subst e
      have := pos_inj K hp h2
      omega
  · intro i2 j h1 h2
    rw [hset] at h1 ⊢
    split at h1
    · rename_i e; subst e
      split
      · rfl
      · exact hanc j h2
    · split
      · rfl
      · exact I.dc h1 h2
  · intro p2 h1
    rcases Nat.lt_or_ge ps p2 with hl | hl
    · exact (gr p2 hl h1).1.wf W'.wf
    · exact I.wf p2 hl
  · intro p2 p3 h1 h2
    rcases Nat.lt_or_ge ps p3 with hl | hl
    · have b1 := (gr p3 hl h2).1.le
      rcases Nat.lt_or_ge ps p2 with hl2 | hl2
      · have cl : ∀ p i o, p2 ≤ p → p < p3 → ord[p]? = some i → ops[i]? = some o → clsO o.op ≠ 3 := fun p i o q1 q2 => g3 p i o (by omega) (by omega)
        exact (K.grow h1 (by omega) cl).1.le
      · exact Nat.le_trans (I.nx hl2 (Nat.le_refl _)) (Nat.le_trans S'.next b1)
    · exact I.nx h1 hl
  · intro p2 i2 ob h1 h2 h3 h4
    rw [hset] at h3
    split at h3
    · cases h3
    · rename_i hne
      rcases Nat.lt_trichotomy p2 ps with hl | hl | hl
      · obtain ⟨f1, f2⟩ := I.fl hl h2 h3 h4
        have hlt : (R.H p2).next < (R.H ps).next := by
          rcases Nat.lt_or_ge (R.H p2).next (R.H ps).next with hh | hh
          · exact hh
          · rw [I.wf ps (Nat.le_refl _) _ hh] at f2; cases f2
        refine ⟨?_, ?_⟩
        · cases e : ρ' (R.H p2).next with
          | none => rfl
          | some x => have := S'.new f1 (by rw [e]; simp); omega
        · rw [(gr ps' g1 (Nat.le_refl _)).1.old (Nat.lt_of_lt_of_le hlt S'.next), S'.keep hlt f1]; exact f2
      · subst hl; rw [hp] at h2; injection h2 with h2; exact absurd h2 hne
      · have b1 := (gr p2 hl (by omega)).1.le
        refine ⟨?_, ?_⟩
        · cases e : ρ' (R.H p2).next with
          | none => rfl
          | some x => have := (W'.dom e).1; omega
        · have cl : ∀ p i o, p2 + 1 ≤ p → p < ps' → ord[p]? = some i → ops[i]? = some o → clsO o.op ≠ 3 := fun p i o q1 q2 => g3 p i o (by omega) (by omega)
          rw [(K.grow (s := p2 + 1) (r := ps') (by omega) (by omega) cl).1.old (by rw [h4]; exact Nat.lt_succ_self _), h4, AH.add_get, if_pos rfl]
  · intro p2 i2 o2 t h1 h2 h3 h4 h5
    rw [tmps_put hdo]
    rw [hset] at h4
    split at h4
    · rename_i e; subst e
      have := pos_inj K hp h2
      subst this
      rw [ho] at h3; injection h3 with h3; subst h3
      rw [if_pos h5]; exact hv
    · rename_i hne
      rw [if_neg (fun e => (K.ok.dst h3 ho (Ne.symm hne) e).1 h5)]
      have hl : p2 < ps := by
        rcases Nat.lt_or_ge p2 ps with hh | hh
        · exact hh
        · rw [I.high hh h2] at h4; cases h4
      exact (I.T hl h2 h3 h4 h5).mono S'.le
  · intro t ht
    rw [tmps_put hdo, if_neg (ht i o ho (by rw [hset, if_pos rfl]))]
    refine I.U fun i2 o2 h1 h2 => ht i2 o2 h1 ?_
    rw [hset]; split
    · rfl
    · exact h2
  · have : (({ a with defers := ds' } : Act).put o.dst v').defers = ds' := by cases o.dst <;> rfl
    rw [this, (gr ps' g1 (Nat.le_refl _)).2]; exact D'
end
end Go.Ev

namespace Go.Ev
open Go
section
variable {P : Program} {m : List Nat} {ops : Array Oper} {ord : List Nat} {call : Nat → List AV → AH → CR} {n : Nat} {R : Runs} {q : Nat} {ρ0 : Rho} {a0 : Act} {w0 : World} {listed : Array Bool} {a : Act} {w : World} {ρ : Rho} {ps : Nat}
/-- a floating object comes down -/
theorem Inv.land (K : Dr P m ops ord call n R q) (I : Inv ops ord n R q ρ0 a0 w0 listed a w ρ ps) {p i : Nat} {ob : AObj} (hp : ord[p]? = some i) (hps : p < ps) (hun : listed.getD i false = false) (hob : R.H (p + 1) = (R.H p).add ob)
    {x : Obj} {sz : Nat} {w' : World} (hx : ObjR ρ ob x 0 sz) (hh : w'.heap = w.heap.push x) (hs : Same w w') :
    ρ.le (ρ.ext (R.H p).next (w.heap.size, 0, sz)) ∧ WR (ρ.ext (R.H p).next (w.heap.size, 0, sz)) (R.H ps) w' ∧ Step ρ0 (R.H 0) w0 (ρ.ext (R.H p).next (w.heap.size, 0, sz)) (R.H ps) w' ∧
      ∀ {p2 i2 : Nat} {ob2 : AObj}, p2 < ps → ord[p2]? = some i2 → i2 ≠ i → listed.getD i2 false = false → R.H (p2 + 1) = (R.H p2).add ob2 → (ρ.ext (R.H p).next (w.heap.size, 0, sz)) (R.H p2).next = none := by
  obtain ⟨f1, f2⟩ := I.fl hps hp hun hob
  have hle : ρ.le (ρ.ext (R.H p).next (w.heap.size, 0, sz)) := Rho.le_ext f1
  have hlt : (R.H p).next < (R.H ps).next := by
    rcases Nat.lt_or_ge (R.H p).next (R.H ps).next with hh | hh
    · exact hh
    · rw [I.wf ps (Nat.le_refl _) _ hh] at f2; cases f2
  have hold : ∀ k, k < w.heap.size → w'.heap[k]? = w.heap[k]? := fun k hk => by rw [hh, Array.getElem?_push, if_neg (by omega)]
  have hsz : w.heap.size ≤ w'.heap.size := by rw [hh]; simp
  refine ⟨hle, ⟨?_, ?_, ?_, ?_⟩, ⟨Rho.le_trans I.S.le hle, ?_, ?_, Nat.le_trans I.S.size hsz, hs.os.trans I.S.os, hs.tape.trans I.S.tape, hs.output.trans I.S.output, I.S.next, I.S.keep, ?_⟩, ?_⟩
  · intro id o b p' s' hg he
    by_cases hi : id = (R.H p).next
    · subst hi
      rw [Rho.ext_self] at he
      rw [f2] at hg; injection hg with hg; subst hg
      injection he with he; injection he with h1 h2; injection h2 with h2 h3
      subst h1; subst h2; subst h3
      exact ⟨x, by rw [hh]; simp, hx.mono hle⟩
    · rw [Rho.ext_ne _ _ hi] at he
      obtain ⟨y, hy, hr⟩ := I.W.obj hg he
      exact ⟨y, by rw [hold _ (I.W.dom he).2]; exact hy, hr.mono hle⟩
  · intro i1 j1 o1 o2 b p1 s1 p2 s2 h1 h2 hne e1 e2
    by_cases hi : i1 = (R.H p).next
    · subst hi
      rw [Rho.ext_self] at e1
      rw [Rho.ext_ne _ _ (Ne.symm hne)] at e2
      injection e1 with e1; injection e1 with e1 _
      have := (I.W.dom e2).2; omega
    · rw [Rho.ext_ne _ _ hi] at e1
      by_cases hj : j1 = (R.H p).next
      · subst hj
        rw [Rho.ext_self] at e2
        injection e2 with e2; injection e2 with e2 _
        have := (I.W.dom e1).2; omega
      · rw [Rho.ext_ne _ _ hj] at e2
        exact I.W.inj h1 h2 hne e1 e2
  · intro id y he
    by_cases hi : id = (R.H p).next
    · subst hi
      rw [Rho.ext_self] at he; injection he with he; subst he
      exact ⟨hlt, by rw [hh]; simp⟩
    · rw [Rho.ext_ne _ _ hi] at he
      exact ⟨(I.W.dom he).1, Nat.lt_of_lt_of_le (I.W.dom he).2 hsz⟩
  · intro id hid; exact I.W.fresh hid
  · rintro k hk ⟨id, o, p', s', h1, h2, h3⟩
    by_cases hi : id = (R.H p).next
    · subst hi
      rw [Rho.ext_self] at h3; injection h3 with h3; injection h3 with h3 _
      have := I.S.size; omega
    · rw [Rho.ext_ne _ _ hi] at h3
      exact I.S.own hk ⟨id, o, p', s', h1, h2, h3⟩
  · intro k hk ho
    rw [hold k (Nat.lt_of_lt_of_le hk I.S.size)]
    exact I.S.frame hk ho
  · intro id h1 h2
    by_cases hi : id = (R.H p).next
    · subst hi; exact I.nx (Nat.zero_le _) (by omega)
    · rw [Rho.ext_ne _ _ hi] at h2
      exact I.S.new h1 h2
  · intro p2 i2 ob2 h1 h2 hne h3 h4
    rw [Rho.ext_ne _ _ (fun e => ?_)]
    · exact (I.fl h1 h2 h3 h4).1
    · have hpp : p2 ≠ p := fun e => by subst e; rw [hp] at h2; injection h2 with h2; exact hne h2.symm
      rcases Nat.lt_or_gt_of_ne hpp with hl | hl
      · have := I.nx (p := p2 + 1) (p' := p) (by omega) (by omega)
        rw [h4, AH.add_next] at this; omega
      · have := I.nx (p := p + 1) (p' := p2) (by omega) (by omega)
        rw [hob, AH.add_next] at this; omega
/-- what comes at the end -/
structure Fin (P : Program) (m : List Nat) (ops : Array Oper) (ord : List Nat) (call : Nat → List AV → AH → CR) (n : Nat) (R : Runs) (q : Nat) (whole : List AOper) (r : Res) : Prop where
  outs : ∀ i o k, i ∈ ord → ops[i]? = some o → o.dst.bind (findSlot m) = some k → k ∈ outs whole
  fin : (q = ord.length ∧ r = .norm (R.L q) (R.D q) (R.H q)) ∨ ∃ v h', PanAt P m ops ord call R q v h' ∧ r = .pan v (forget whole (R.L 0)) (R.D q) h'
theorem wp_ready (K : Dr P m ops ord call n R q) (L0 : LocR ρ0 m (R.L 0) a0) {whole : List AOper} {r : Res} (F : Fin P m ops ord call n R q whole r) (I : Inv ops ord n R q ρ0 a0 w0 listed a w ρ ps) {i : Nat} (hr : i ∈ Region.ready .any ops listed)
    {K' : Act → World → Prop} (hK : ∀ a' w' ρ' ps', Inv ops ord n R q ρ0 a0 w0 (listed.setIfInBounds i true) a' w' ρ' ps' → K' a' w') : wpOp P ops (QRes ρ0 (R.H 0) w0 m n r) i K' a w := by
  obtain ⟨hun0, o, ho, hdeps⟩ := mem_ready.1 hr
  have hi : i < ops.size := (Array.getElem?_eq_some_iff.1 ho).1
  have hun : listed.getD i false = false := by
    have : i < listed.size := by rw [I.sz]; exact hi
    simp [this] at hun0 ⊢; exact hun0
  have hanc : ∀ j, bef (ancs ops) j i = true → listed.getD j false = true := by
    intro j hb
    obtain ⟨o', e, h1, h2, h3, h4⟩ := bef_edge hb
    rw [ho] at h1; injection h1 with h1; subst h1
    have hl := hdeps e h2 h3
    rcases h4 with h4 | h4
    · rw [← h4]; exact hl
    · exact I.dc hl h4
  obtain ⟨p, hp1, hp2⟩ := List.getElem_of_mem (K.ok.cover hi)
  have hp : ord[p]? = some i := by rw [List.getElem?_eq_getElem hp1, hp2]
  have hpps : p ≤ ps := by
    rcases Nat.lt_or_ge ps p with hl | hl
    · exfalso
      rcases I.act with h | ⟨j, oj, h1, h2, h3⟩
      · omega
      · obtain ⟨_, _, oi, oj', e1, e2, e3⟩ := K.ok.pair hp h1 hl
        rw [h2] at e2; injection e2 with e2; subst e2
        have := hanc j (e3 h3)
        rw [I.high (Nat.le_refl _) h1] at this; cases this
    · exact hl
  have calm0 : ∀ e, Calm ops ord o e e := fun e b _ _ _ h1 h2 => by omega
  unfold wpOp
  rw [ho]
  simp only
  rcases Nat.lt_or_ge p ps with hlt | hge
  · obtain ⟨i2, o2, ao, g, re, S⟩ := K.st p (by have := I.le; omega)
    have e1 := hp.symm.trans S.oi; injection e1 with e1; subst e1
    have e2 := ho.symm.trans S.oo; injection e2 with e2; subst e2
    have hc3 : clsO o.op ≠ 3 := fun h3 => by rw [I.low hlt hp ho h3] at hun; cases hun
    obtain ⟨hd, hgr, hsm, hv⟩ := stepA_quiet S.st S.co hc3
    rcases hv with ⟨hg, hV, hH⟩ | ⟨hg, he⟩
    · rw [if_neg (by rw [guard_at K L0 I hp ho hun hanc (Nat.le_refl _) hpps (calm0 p) S.cg hg]; simp)]
      exact hK _ _ ρ ps (I.put K hp ho hlt hanc (v' := undef) (by rw [hV]; exact .tup .nil rfl) ρ.le_refl I.W I.S (fun h1 h2 _ h3 h4 => (I.fl h1 h2 h3 h4).1))
    · rw [if_pos (guard_at K L0 I hp ho hun hanc (Nat.le_refl _) hpps (calm0 p) S.cg hg)]
      left
      unfold Oper.wp
      by_cases hc2 : clsO o.op < 2
      · obtain ⟨e, ao', h1, h2, h3, h4, h5⟩ := stable K L0 I S hun hanc hc2 hg ps hpps (Nat.le_refl _)
        have G := good_op (P := P) (ρ := ρ) (h := R.H ps) (w := w) (loc := R.L e) (tmp := R.X e) (kill := false) I.W (opds_at K L0 I hp ho hun hanc h1 h2 h3) (fun _ => rfl) (fun _ => rfl) (own_op h4)
        rw [h5] at G
        obtain ⟨ρ', v', w', hrun, hvr, W', S'⟩ := G
        have hnext : K' (a.put o.dst v') w' := by
          refine hK _ _ ρ' ps (I.put K hp ho hlt hanc hvr S'.le W' (I.S.trans S') (fun q1 q2 _ q3 q4 => ?_))
          obtain ⟨f1, f2⟩ := I.fl q1 q2 q3 q4
          cases hq : ρ' (R.H _).next with
          | none => rfl
          | some x =>
            have b1 := S'.new f1 (by rw [hq]; simp)
            have b2 := (W'.dom hq).1
            omega
        rcases hrun with hrun | ⟨hrun, rfl⟩
        · rw [hrun]; exact hnext
        · rw [hrun]; exact hnext
      · have hle3 := clsO_le o.op
        have hcl2 : clsO o.op = 2 := by omega
        have X := opds_at K L0 I hp ho hun hanc (Nat.le_refl _) hpps (calm0 p)
        rcases make_op (P := P) (w := w) X (own_op S.co) hcl2 with ⟨k, hk⟩ | ⟨V, ob, x, sz, w', v', hf, hox, hhp, hsame, hrun, hvv⟩
        · cases he.symm.trans (hk _)
        · have e3 := he.symm.trans (hf _)
          injection e3 with e3 e4
          obtain ⟨l1, l2, l3, l4⟩ := I.land K hp hlt hun e4 hox hhp hsame
          rw [hrun]
          refine hK _ _ _ ps (I.put K hp ho hlt hanc ?_ l1 l2 l3 l4)
          rw [e3]; exact hvv _ _ (Rho.ext_self _ _ _)
  · have hpe : p = ps := by omega
    subst hpe
    have h3 : clsO o.op = 3 := by
      rcases I.act with h | ⟨j, oj, h1, h2, h3⟩
      · omega
      · have e1 := hp.symm.trans h1; injection e1 with e1; subst e1
        have e2 := ho.symm.trans h2; injection e2 with e2; subst e2
        exact h3
    have X := opds_at K L0 I hp ho hun hanc (Nat.le_refl _) hpps (calm0 p)
    rcases Nat.lt_or_ge p q with hq | hq
    · obtain ⟨i2, o2, ao, g, re, S⟩ := K.st p hq
      have e1 := hp.symm.trans S.oi; injection e1 with e1; subst e1
      have e2 := ho.symm.trans S.oo; injection e2 with e2; subst e2
      by_cases hgt : guardB (R.L p) (R.X p) g = some true
      · rw [if_pos (guard_at K L0 I hp ho hun hanc (Nat.le_refl _) hpps (calm0 p) S.cg hgt)]
        left
        refine step_wp K.hcall S.st hgt I.W X (own_op S.co) I.Df ?_
        intro ρ' v' w' ds' hv W' S' D'
        obtain ⟨ps', I'⟩ := I.act_put K hq hp ho hanc hv W' S' D'
        exact hK _ _ _ _ I'
      · have hst := S.st
        have hskip : guardB (R.L p) (R.X p) g = some false ∧ R.V p = .tup [] ∧ R.D (p + 1) = R.D p ∧ R.H (p + 1) = R.H p := by
          generalize R.V p = v at hst
          generalize R.D (p + 1) = d' at hst
          generalize R.H (p + 1) = h' at hst
          cases hst with
          | skip hgf => exact ⟨hgf, rfl, rfl, rfl⟩
          | val h1 _ _ => exact absurd h1 hgt
          | enter h1 _ _ _ => exact absurd h1 hgt
          | dfr h1 _ => exact absurd h1 hgt
        obtain ⟨hgf, hV, hD, hH⟩ := hskip
        rw [if_neg (by rw [guard_at K L0 I hp ho hun hanc (Nat.le_refl _) hpps (calm0 p) S.cg hgf]; simp)]
        obtain ⟨ps', I'⟩ := I.act_put K hq hp ho hanc (ρ' := ρ) (w' := w) (v' := undef) (ds' := a.defers) (by rw [hV]; exact .tup .nil rfl) (by rw [hH]; exact I.W) (by rw [hH]; exact .refl _ _ _) (by rw [hD]; exact I.Df)
        exact hK _ _ _ _ I'
    · have hpq : p = q := by have := I.le; omega
      rcases F.fin with ⟨h1, _⟩ | ⟨v, h', hpan, hres⟩
      · omega
      · obtain ⟨i2, o2, ao, g, b1, b2, b3, b4, b5⟩ := hpan.ex
        rw [← hpq] at b1 b3 b4 b5 hres
        have e1 := hp.symm.trans b1; injection e1 with e1; subst e1
        have e2 := ho.symm.trans b2; injection e2 with e2; subst e2
        have hgt : guardB (R.L p) (R.X p) g = some true := by cases b5 <;> assumption
        rw [if_pos (guard_at K L0 I hp ho hun hanc (Nat.le_refl _) hpps (calm0 p) b4 hgt)]
        left
        refine pan_wp K.hcall b5 I.W X (own_op b3) ?_
        intro ρ' v' w' hv W' S'
        rw [hres]
        refine ⟨ρ', v', rfl, hv, ?_, I.Df.mono S'.le, W', I.S.trans S', I.N⟩
        intro t k hk
        rw [forget_slot]
        split
        · exact .bad _
        · rename_i hnk
          rw [I.U (t := t) ?_]
          · exact (L0 t k hk).mono (Rho.le_trans I.S.le S'.le)
          · intro i2 o2 h1 h2 hd
            have hmem := K.ok.cover (Array.getElem?_eq_some_iff.1 h1).1
            exact hnk (F.outs i2 o2 k hmem h1 (by rw [hd]; exact hk))
end
end Go.Ev

namespace Go.Ev
open Go
theorem countP_lt {p p' : Nat → Bool} : ∀ {l : List Nat} {i : Nat}, i ∈ l → p i = true → p' i = false → (∀ x, p' x = true → p x = true) → l.countP p' < l.countP p
  | [], i, h, _, _, _ => by simp at h
  | x :: l, i, h, h1, h2, h3 => by
    rw [List.countP_cons, List.countP_cons]
    have hm : l.countP p' ≤ l.countP p := List.countP_mono_left fun y _ hy => h3 y hy
    rcases List.mem_cons.1 h with rfl | h
    · rw [h1, h2]; simp; omega
    · have := countP_lt h h1 h2 h3
      by_cases hx : p' x = true
      · rw [hx, h3 x hx]; simp; omega
      · have hx : p' x = false := by simpa using hx
        rw [hx]; simp; split <;> omega
section
variable {P : Program} {m : List Nat} {ops : Array Oper} {ord : List Nat} {call : Nat → List AV → AH → CR} {n : Nat} {R : Runs} {q : Nat} {ρ0 : Rho} {a0 : Act} {w0 : World}
theorem all_listed {listed : Array Bool} (K : Dr P m ops ord call n R q) (hsz : listed.size = ops.size) (h : Region.ready .any ops listed = []) : ∀ i, i < ops.size → listed.getD i false = true := by
  intro i
  induction i using Nat.strongRecOn with
  | _ i ih =>
    intro hi
    cases hl : listed.getD i false with
    | true => rfl
    | false =>
      exfalso
      have ho : ops[i]? = some ops[i] := Array.getElem?_eq_getElem hi
      have : i ∈ Region.ready .any ops listed := by
        refine mem_ready.2 ⟨?_, ops[i], ho, fun e he hb => ?_⟩
        · have : i < listed.size := by omega
          simp [this] at hl ⊢; exact hl
        · have hlt := K.ok.back ho e he hb
          exact ih e.on hlt (by omega)
      rw [h] at this; simp at this
theorem fin_normal {listed : Array Bool} {a : Act} {w : World} {ρ : Rho} {ps : Nat} (K : Dr P m ops ord call n R q) (L0 : LocR ρ0 m (R.L 0) a0) {whole : List AOper} {r : Res} (F : Fin P m ops ord call n R q whole r) (I : Inv ops ord n R q ρ0 a0 w0 listed a w ρ ps)
    (hall : ∀ i, i < ops.size → listed.getD i false = true) : QRes ρ0 (R.H 0) w0 m n r .normal a w := by
  have hps : ps = ord.length := by
    rcases I.act with h | ⟨i, o, h1, h2, _⟩
    · exact h
    · have := hall i (Array.getElem?_eq_some_iff.1 h2).1
      rw [I.high (Nat.le_refl _) h1] at this; cases this
  have hq : q = ps := by have := I.le; have := K.ql; omega
  rcases F.fin with ⟨_, hr⟩ | ⟨v, h', hpan, _⟩
  · rw [hr]
    subst hq
    refine ⟨ρ, ?_, I.Df, I.W, I.S, I.N⟩
    intro t k hk
    rcases slot_val K.st k q (Nat.le_refl _) with ⟨h1, h2⟩ | ⟨b, i, o, h1, h2, h3, h4, h5⟩
    · rw [h1, I.U (t := t) ?_]
      · exact (L0 t k hk).mono I.S.le
      · intro i o ho _ hd
        obtain ⟨b, hb, hbe⟩ := List.getElem_of_mem (K.ok.cover (Array.getElem?_eq_some_iff.1 ho).1)
        exact h2 b i o (by omega) (by rw [List.getElem?_eq_getElem hb, hbe]) ho (by rw [hd]; exact hk)
    · rw [h5]
      cases hd : o.dst with
      | none => rw [hd] at h4; cases h4
      | some t' =>
        rw [hd] at h4
        have : t' = t := findSlot_inj h4 hk
        subst this
        exact I.T h1 h2 h3 (hall i (Array.getElem?_eq_some_iff.1 h3).1) hd
  · obtain ⟨i, o, ao, g, h1, _⟩ := hpan.ex
    rw [hq, hps, List.getElem?_eq_none (Nat.le_refl _)] at h1; cases h1
theorem wp_any (K : Dr P m ops ord call n R q) (L0 : LocR ρ0 m (R.L 0) a0) {whole : List AOper} {r : Res} (F : Fin P m ops ord call n R q whole r) : ∀ (fuel : Nat) (listed : Array Bool) (a : Act) (w : World) (ρ : Rho) (ps : Nat),
    Inv ops ord n R q ρ0 a0 w0 listed a w ρ ps → (List.range ops.size).countP (fun i => !listed.getD i true) ≤ fuel → wpAny P .any ops (QRes ρ0 (R.H 0) w0 m n r) fuel listed a w
  | 0, listed, a, w, ρ, ps, I, hc => by
    have hall : ∀ i, i < ops.size → listed.getD i false = true := by
      intro i hi
      have h0 : (List.range ops.size).countP (fun i => !listed.getD i true) = 0 := by omega
      have := List.countP_eq_zero.1 h0 i (by simpa using hi)
      have hs : i < listed.size := by rw [I.sz]; exact hi
      simp [hs] at this ⊢; exact this
    refine ⟨?_, fin_normal K L0 F I hall⟩
    apply List.eq_nil_iff_forall_not_mem.2
    intro i hi
    obtain ⟨h1, o, ho, _⟩ := mem_ready.1 hi
    have hlt := (Array.getElem?_eq_some_iff.1 ho).1
    have := hall i hlt
    have hs : i < listed.size := by rw [I.sz]; exact hlt
    simp [hs] at h1 this
    rw [this] at h1; cases h1
  | fuel + 1, listed, a, w, ρ, ps, I, hc => by
    refine ⟨fun hr => fin_normal K L0 F I (all_listed K I.sz hr), fun i hi => ?_⟩
    refine wp_ready K L0 F I hi fun a' w' ρ' ps' I' => wp_any K L0 F fuel _ a' w' ρ' ps' I' ?_
    obtain ⟨h1, o, ho, _⟩ := mem_ready.1 hi
    have hlt := (Array.getElem?_eq_some_iff.1 ho).1
    have hs : i < listed.size := by rw [I.sz]; exact hlt
    have := countP_lt (p := fun i => !listed.getD i true) (p' := fun j => !(listed.setIfInBounds i true).getD j true) (l := List.range ops.size) (i := i) (by simpa using hlt) (by simp only [h1, Bool.not_false]) (by simp [hs]) (fun x hx => by
      by_cases hxi : i = x
      · subst hxi; simp [hs] at hx
      · rw [getD_set_ne true hxi] at hx; exact hx)
    omega
theorem draw_region {id : Nat} {ac : ACode} {loc : T AV} {d : List AV} {h : AH} {ρ : Rho} {a : Act} {w : World} {r : Res} (hm : P.follows .mixedOrders = true) (hcall : CallOK P call) (hdst : ∀ o ∈ ops, ∀ x, o.dst = some x → x < n)
    (hc : cRegion P m ops true = some ac) (hr : ∀ aos, ac = .ops aos → evOps call aos loc aos loc [] d h = r) (hgood : r.good) (L : LocR ρ m loc a) (W : WR ρ h w) (D : DefsR ρ d a.defers) (hn : a.tmps.size = n) :
    (Code.region id ops true).wp P (QRes ρ h w m n r) a w := by
  have hc : (do let ord ← order ops (ancs ops) ops.size []; if drawOk ops (ancs ops) ord then (do some (ACode.ops (← cDraw P m ops (ancs ops) ord [] []))) else none) = some ac := hc
  obtain ⟨ord, hord, hc⟩ := bindS hc
  split at hc
  · rename_i hok
    obtain ⟨aos, haos, hc⟩ := bindS hc
    injection hc with hc; subst hc
    have hr := hr aos rfl
    have ok := drawOk_spec hok
    obtain ⟨R, q, h1, h2, e1, e2, e3, e4, hall, hend⟩ := trace_ex (call := call) (anc := ancs ops) ord 0 aos loc [] d h r (Nat.zero_le _) rfl (by simpa [DN, TS] using haos) hr hgood
    subst e1; subst e3; subst e4
    have K : Dr P m ops ord call n R q := by
      refine ⟨hcall, ok, e2, h2, fun p hp => hall p (Nat.zero_le _) hp, ?_, fun ho hd => hdst _ (Array.mem_of_getElem? ho) _ hd⟩
      rcases hend with ⟨hq, _⟩ | ⟨v, h', hpan, _⟩
      · exact .inl hq
      · obtain ⟨i, o, ao, g, b1, b2, b3, b4, b5⟩ := hpan.ex
        refine .inr ⟨i, o, b1, b2, ?_⟩
        by_cases h3 : clsO o.op = 3
        · exact h3
        · exfalso
          rcases quiet_op (loc := R.L q) (tmp := R.X q) b3 h3 (R.H q) with ⟨k, hk⟩ | ⟨u, hu, hk⟩
          · cases b5 with
            | enter _ he _ => cases he.symm.trans hk
            | pan _ he => cases he.symm.trans hk
          · cases b5 with
            | enter _ he _ => cases he.symm.trans hk
            | pan _ he => cases he.symm.trans hk
    have F : Fin P m ops ord call n R q aos r := ⟨fun i o k hi ho hk => outs_draw haos i o k hi ho hk, hend⟩
    obtain ⟨ps, g1, g2, g3, g4⟩ := K.next q 0 (by omega) (Nat.zero_le _)
    have gr : ∀ s r, s ≤ r → r ≤ ps → Grows (R.H s) (R.H r) ∧ R.D r = R.D s := fun s r h1 h2 => K.grow h1 (by omega) (fun p i o _ q2 => g3 p i o (Nat.zero_le _) (by omega))
    have W1 : WR ρ (R.H 0) { w with drawn := w.drawn + 1 } := W.of_heap rfl
    obtain ⟨W2, S2⟩ := W1.grow (gr 0 ps (Nat.zero_le _) (Nat.le_refl _)).1
    refine wp_region_any hm ?_
    refine wp_any K L F ops.size _ a _ ρ ps ?_ ?_
    · have hf : ∀ i, (Array.replicate ops.size false).getD i false = false := fun i => by
        rw [Array.getD_eq_getD_getElem?, Array.getElem?_replicate]; split <;> rfl
      have S1 : Step ρ (R.H 0) w ρ (R.H 0) { w with drawn := w.drawn + 1 } := Step.of_heap rfl ⟨rfl, rfl, rfl⟩
      refine ⟨by simp, g2, g4, fun q1 q2 q3 q4 => absurd q4 (g3 _ _ _ (Nat.zero_le _) q1 q2 q3), fun _ _ => hf _, fun q1 _ => ?_, W2, S1.trans S2, fun p hp => (gr 0 p (Nat.zero_le _) hp).1.wf W.wf, fun q1 q2 => (gr _ _ q1 q2).1.le, fun {p i ob} q1 q2 q3 q4 => ?_, fun _ _ _ q4 _ => ?_, fun _ => rfl, hn, ?_⟩
      · rw [hf] at q1; cases q1
      · refine ⟨?_, ?_⟩
        · cases e : ρ (R.H p).next with
          | none => rfl
          | some x => have := (W.dom e).1; have := (gr 0 p (Nat.zero_le _) (by omega)).1.le; omega
        · rw [(gr (p + 1) ps (by omega) (Nat.le_refl _)).1.old (by rw [q4]; exact Nat.lt_succ_self _), q4, AH.add_get, if_pos rfl]
      · rw [hf] at q4; cases q4
      · rw [(gr 0 ps (Nat.zero_le _) (Nat.le_refl _)).2]; exact D
    · have := List.countP_le_length (p := fun i => !(Array.replicate ops.size false).getD i true) (l := List.range ops.size)
      simpa using this
  · cases hc
end
end Go.Ev
