/- Code, by the evaluator's fuel. Deferred calls: recover asked at a body's top. Calls: a function's frame, its results, its deferred calls; all together. The whole: what the abstract machine says a call comes to, the model does. Tables of functions; an answer that is a truth. More fuel answers the same. What code does, whatever the fuel: rules by shape. -/
import Derived.Test.YtokophcpoecilaaGreatEvE
import Derived.Recover
set_option linter.unusedSimpArgs false
set_option linter.unusedVariables false
namespace Go.Ev
open Go
theorem Post.trans {ρ0 ρ : Rho} {h0 h : AH} {w0 w : World} {m : List Nat} {n : Nat} {loc : T AV} {d : List AV} {h' : AH} {a' : Act} {w' : World} (S : Step ρ0 h0 w0 ρ h w) (p : Post ρ h w m n loc d h' a' w') : Post ρ0 h0 w0 m n loc d h' a' w' := by
  obtain ⟨ρ', a1, a2, a3, a4, a5⟩ := p
  exact ⟨ρ', a1, a2, a3, S.trans a4, a5⟩
theorem QRes.trans {ρ0 ρ : Rho} {h0 h : AH} {w0 w : World} {m : List Nat} {n : Nat} {r : Res} {e : Exit} {a' : Act} {w' : World} (S : Step ρ0 h0 w0 ρ h w) (p : QRes ρ h w m n r e a' w') : QRes ρ0 h0 w0 m n r e a' w' := by
  cases r <;> cases e <;> first | exact p.elim | skip
  · exact Post.trans S p
  · exact ⟨p.1, Post.trans S p.2⟩
  · exact Post.trans S p
  · obtain ⟨ρ', v', q1, q2, a1, a2, a3, a4, a5⟩ := p
    exact ⟨ρ', v', q1, q2, a1, a2, a3, S.trans a4, a5⟩
/-- a loop's body, and the loop again -/
def wpL (P : Program) (c : Code) (Q : Exit → Act → World → Prop) (a : Act) (w : World) : Prop :=
  ∀ (b : Frame) (k : List Item) (cs : List Frame), ∃ e a' w', Q e a' w' ∧ Arrives P (lone (b.at a (.code c :: .inLoop c :: k)) cs w) b k cs e a' w'
theorem wpL_of {P : Program} {c : Code} {Q : Exit → Act → World → Prop} {a : Act} {w : World} (h : c.wp P (Exit.then (wpL P c Q) Q) a w) : wpL P c Q a w := by
  intro b k cs
  obtain ⟨e, a₁, w₁, hq, harr⟩ := h b (.inLoop c :: k) cs
  cases e with
  | normal =>
    obtain ⟨e₂, a₂, w₂, hq₂, harr₂⟩ := hq b k cs
    exact ⟨e₂, a₂, w₂, hq₂, .of_steps (Steps.trans harr (.one step_inLoop)) harr₂⟩
  | exit id => exact ⟨_, a₁, w₁, hq, .pass (x := .inLoop c) rfl (fun _ _ => .inl (by simp)) harr⟩
  | goto l => exact ⟨_, a₁, w₁, hq, .pass (x := .inLoop c) rfl (fun _ _ => .inl (by simp)) harr⟩
  | ret => exact ⟨_, a₁, w₁, hq, .pass (x := .inLoop c) rfl (fun _ _ => .inl (by simp)) harr⟩
  | panic ch => exact ⟨_, a₁, w₁, hq, .pass (x := .inLoop c) rfl (fun _ _ => .inl (by simp)) harr⟩
  | outgrown => exact ⟨_, a₁, w₁, hq, .pass (x := .inLoop c) rfl (fun _ _ => .inl (by simp)) harr⟩
theorem wp_of_wpL {P : Program} {c : Code} {Q : Exit → Act → World → Prop} {a : Act} {w : World} (h : wpL P c Q a w) : (Code.loop c).wp P Q a w := by
  intro b k cs
  obtain ⟨e, a', w', hq, harr⟩ := h b k cs
  exact ⟨e, a', w', hq, .of_steps (.one step_loop) harr⟩
section
variable {P : Program} {tab : Nat → Option AFunc}
def CodeOK (P : Program) (tab : Nat → Option AFunc) (n : Nat) : Prop := ∀ (m : List Nat) (N : Nat) (c : Code) (c' : ACode), cCode P m c = some c' → dstOk N c = true → ∀ (loc : T AV) (d : List AV) (h : AH) (r : Res), evC tab n c' loc d h = r → r.good →
  ∀ (ρ : Rho) (a : Act) (w : World), LocR ρ m loc a → WR ρ h w → DefsR ρ d a.defers → N ≤ a.tmps.size → c.wp P (QRes ρ h w m a.tmps.size r) a w
def LoopOK (P : Program) (tab : Nat → Option AFunc) (n : Nat) : Prop := ∀ (m : List Nat) (N : Nat) (c : Code) (c' : ACode), cCode P m c = some c' → dstOk N c = true → ∀ (loc : T AV) (d : List AV) (h : AH) (r : Res), evC tab n (.loop c') loc d h = r → r.good →
  ∀ (ρ : Rho) (a : Act) (w : World), LocR ρ m loc a → WR ρ h w → DefsR ρ d a.defers → N ≤ a.tmps.size → wpL P c (QRes ρ h w m a.tmps.size r) a w
theorem stuck_bad {n : Nat} {loc : T AV} {d : List AV} {h : AH} {r : Res} (hr : evC tab (n + 1) stuckC loc d h = r) (hg : r.good) : False := by
  have hr : Res.fail [59] = r := hr
  rw [← hr] at hg; exact hg
theorem tmp_nil {ρ : Rho} {a : Act} {tmp : List AV} : TmpR ρ [] tmp a := fun t i e => by cases e
/-- one code after another -/
theorem then_ok {ρ : Rho} {h : AH} {w : World} {m : List Nat} {n : Nat} {r1 r : Res} {K : Act → World → Prop} (hn : ∀ loc d h' a' w', r1 = .norm loc d h' → Post ρ h w m n loc d h' a' w' → K a' w') (ho : (∀ loc d h', r1 ≠ .norm loc d h') → r = r1) :
    ∀ e a' w', QRes ρ h w m n r1 e a' w' → Exit.then K (QRes ρ h w m n r) e a' w' := by
  intro e a' w' q
  cases r1 with
  | norm loc d h' => cases e <;> first | exact q.elim | exact hn _ _ _ _ _ rfl q
  | exit id loc d h' => rw [ho (by intros; simp)]; cases e <;> first | exact q.elim | exact q
  | ret loc d h' => rw [ho (by intros; simp)]; cases e <;> first | exact q.elim | exact q
  | pan v loc d h' => rw [ho (by intros; simp)]; cases e <;> first | exact q.elim | exact q
  | fail l => cases e <;> exact q.elim
theorem code_step (hm : P.follows .mixedOrders = true) {n : Nat} (hcall : CallOK P (evCall tab (evC tab n))) (A : CodeOK P tab n) (B : LoopOK P tab n) : CodeOK P tab (n + 1) ∧ LoopOK P tab (n + 1) := by
  have loopOK : LoopOK P tab (n + 1) := by
    intro m N c c' hc hd loc d h r hr hgood ρ a w L W D hN
    have hr : (Res.rec (motive := fun _ => Res) (fun loc d h => evC tab n (ACode.loop c') loc d h) Res.exit Res.ret Res.pan Res.fail (evC tab n c' loc d h) : Res) = r := hr
    refine wpL_of ?_
    cases h1 : evC tab n c' loc d h with
    | fail l => rw [h1] at hr; have hr : Res.fail l = r := hr; rw [← hr] at hgood; exact hgood.elim
    | norm l1 d1 hh1 =>
      rw [h1] at hr
      have X := A m N c c' hc hd loc d h _ h1 trivial ρ a w L W D hN
      refine wp_mono X (then_ok (fun loc2 d2 h2 a2 w2 e1 p => ?_) (fun ho => absurd rfl (ho _ _ _)))
      injection e1 with e1 e2 e3; subst e1; subst e2; subst e3
      obtain ⟨ρ2, L2, D2, W2, S2, N2⟩ := p
      have := B m N c c' hc hd _ _ _ r hr hgood ρ2 a2 w2 L2 W2 D2 (by omega)
      intro b k cs
      obtain ⟨e, a', w', q, rr⟩ := this b k cs
      refine ⟨e, a', w', ?_, rr⟩
      rw [N2] at q
      exact q.trans S2
    | exit id l1 d1 hh1 =>
      rw [h1] at hr; have hr : Res.exit id l1 d1 hh1 = r := hr
      have X := A m N c c' hc hd loc d h _ h1 trivial ρ a w L W D hN
      exact wp_mono X (then_ok (fun loc2 d2 h2 a2 w2 e1 p => by cases e1) (fun ho => hr.symm))
    | ret l1 d1 hh1 =>
      rw [h1] at hr; have hr : Res.ret l1 d1 hh1 = r := hr
      have X := A m N c c' hc hd loc d h _ h1 trivial ρ a w L W D hN
      exact wp_mono X (then_ok (fun loc2 d2 h2 a2 w2 e1 p => by cases e1) (fun ho => hr.symm))
    | pan v l1 d1 hh1 =>
      rw [h1] at hr; have hr : Res.pan v l1 d1 hh1 = r := hr
      have X := A m N c c' hc hd loc d h _ h1 trivial ρ a w L W D hN
      exact wp_mono X (then_ok (fun loc2 d2 h2 a2 w2 e1 p => by cases e1) (fun ho => hr.symm))
  refine ⟨?_, loopOK⟩
  intro m N c c' hc hd loc d h r hr hgood ρ a w L W D hN
  cases c with
  | skip =>
    injection hc with hc; subst hc
    have hr : Res.norm loc d h = r := hr
    subst hr
    exact wp_skip ⟨ρ, L, D, W, .refl _ _ _, rfl⟩
  | ret =>
    injection hc with hc; subst hc
    have hr : Res.ret loc d h = r := hr
    subst hr
    exact wp_ret ⟨ρ, L, D, W, .refl _ _ _, rfl⟩
  | exit id =>
    injection hc with hc; subst hc
    have hr : Res.exit id loc d h = r := hr
    subst hr
    exact wp_exit ⟨rfl, ρ, L, D, W, .refl _ _ _, rfl⟩
  | region id ops draw =>
    have hdst : ∀ o ∈ ops, ∀ x, o.dst = some x → x < a.tmps.size := by
      intro o ho x hx
      have hd : (ops.all fun o => match o.dst with | some d => decide (d < N) | none => true) = true := hd
      have := Array.all_eq_true_iff_forall_mem.1 hd o ho
      rw [hx] at this
      exact Nat.lt_of_lt_of_le (of_decide_eq_true this) hN
    have hc : (match cRegion P m ops draw with | some c => some c | none => some stuckC) = some c' := hc
    cases hcr : cRegion P m ops draw with
    | none =>
      rw [hcr] at hc
      injection hc with hc; subst hc
      exact (stuck_bad hr hgood).elim
    | some c1 =>
    rw [hcr] at hc
    injection hc with hc; subst hc
    have hc := hcr
    cases draw with
    | true =>
      refine draw_region hm hcall hdst hc (fun aos e => ?_) hgood L W D rfl
      subst e; exact hr
    | false =>
      have hc : (if (ops.toList.any fun o => isRecover o.op) then (do let r ← recovSlot ops.toList; if (findSlot m r.1).isSome then none else some (ACode.recov (findSlot m r.2))) else (do some (ACode.ops (← cPlain P m ops ops.toList [])))) = some c1 := hc
      split at hc
      · obtain ⟨s, hs, hc⟩ := bindS hc
        split at hc
        · cases hc
        · injection hc with hc; subst hc
          have hr : Res.fail [89] = r := hr
          rw [← hr] at hgood; exact hgood.elim
      · obtain ⟨aos, haos, hc⟩ := bindS hc
        injection hc with hc; subst hc
        exact plain_region hcall hdst haos hr hgood L W D rfl
  | seq x y =>
    obtain ⟨x', hx, hc⟩ := bindS hc
    obtain ⟨y', hy, hc⟩ := bindS hc
    injection hc with hc; subst hc
    have hd : (dstOk N x && dstOk N y) = true := hd
    rw [Bool.and_eq_true] at hd
    have hr : (Res.rec (motive := fun _ => Res) (fun loc d h => evC tab n y' loc d h) Res.exit Res.ret Res.pan Res.fail (evC tab n x' loc d h) : Res) = r := hr
    refine wp_seq ?_
    cases h1 : evC tab n x' loc d h with
    | fail l => rw [h1] at hr; have hr : Res.fail l = r := hr; rw [← hr] at hgood; exact hgood.elim
    | norm l1 d1 hh1 =>
      rw [h1] at hr
      have X := A m N x x' hx hd.1 loc d h _ h1 trivial ρ a w L W D hN
      refine wp_mono X (then_ok (fun loc2 d2 h2 a2 w2 e1 p => ?_) (fun ho => absurd rfl (ho _ _ _)))
      injection e1 with e1 e2 e3; subst e1; subst e2; subst e3
      obtain ⟨ρ2, L2, D2, W2, S2, N2⟩ := p
      have := A m N y y' hy hd.2 _ _ _ r hr hgood ρ2 a2 w2 L2 W2 D2 (by omega)
      rw [N2] at this
      exact wp_mono this fun e a' w' q => q.trans S2
    | exit id l1 d1 hh1 =>
      rw [h1] at hr; have hr : Res.exit id l1 d1 hh1 = r := hr
      have X := A m N x x' hx hd.1 loc d h _ h1 trivial ρ a w L W D hN
      exact wp_mono X (then_ok (fun loc2 d2 h2 a2 w2 e1 p => by cases e1) (fun ho => hr.symm))
    | ret l1 d1 hh1 =>
      rw [h1] at hr; have hr : Res.ret l1 d1 hh1 = r := hr
      have X := A m N x x' hx hd.1 loc d h _ h1 trivial ρ a w L W D hN
      exact wp_mono X (then_ok (fun loc2 d2 h2 a2 w2 e1 p => by cases e1) (fun ho => hr.symm))
    | pan v l1 d1 hh1 =>
      rw [h1] at hr; have hr : Res.pan v l1 d1 hh1 = r := hr
      have X := A m N x x' hx hd.1 loc d h _ h1 trivial ρ a w L W D hN
      exact wp_mono X (then_ok (fun loc2 d2 h2 a2 w2 e1 p => by cases e1) (fun ho => hr.symm))
  | cond cc x y =>
    obtain ⟨o, ho, hc⟩ := bindS hc
    obtain ⟨x', hx, hc⟩ := bindS hc
    obtain ⟨y', hy, hc⟩ := bindS hc
    injection hc with hc; subst hc
    have hd : (dstOk N x && dstOk N y) = true := hd
    rw [Bool.and_eq_true] at hd
    have hv := opds_of (ρ := ρ) (tmp := []) (ts := []) L tmp_nil _ _ ho
    have hr : AV.on (Res.fail [90]) (fun q => bi q (evC tab n x' loc d h) (evC tab n y' loc d h)) (fun _ _ => Res.fail [90]) (fun _ _ => Res.fail [90]) (fun _ _ => Res.fail [90]) (Res.fail [90]) (fun _ _ _ _ => Res.fail [90]) (Res.fail [90]) (fun _ => Res.fail [90]) (Res.fail [90]) (fun _ _ _ => Res.fail [90]) (Res.fail [90]) (fun _ _ => Res.fail [90]) (Res.fail [90]) (fun _ => Res.fail [90]) (fun _ => Res.fail [90]) (ev loc [] o) = r := hr
    generalize ev loc [] o = av at hv hr
    cases av <;> try (have hr : Res.fail [90] = r := hr; rw [← hr] at hgood; exact hgood.elim)
    rename_i b
    generalize hae : a.eval cc = u at hv
    cases hv
    refine wp_cond hae ?_
    cases b with
    | true => exact A m N x x' hx hd.1 loc d h r hr hgood ρ a w L W D hN
    | false => exact A m N y y' hy hd.2 loc d h r hr hgood ρ a w L W D hN
  | block id x =>
    obtain ⟨x', hx, hc⟩ := bindS hc
    injection hc with hc; subst hc
    have hr : (Res.rec (motive := fun _ => Res) Res.norm (fun id' loc d h => bi (Nat.beq id id') (Res.norm loc d h) (Res.exit id' loc d h)) Res.ret Res.pan Res.fail (evC tab n x' loc d h) : Res) = r := hr
    refine wp_block ?_
    cases h1 : evC tab n x' loc d h with
    | fail l => rw [h1] at hr; have hr : Res.fail l = r := hr; rw [← hr] at hgood; exact hgood.elim
    | norm l1 d1 hh1 =>
      rw [h1] at hr; have hr : Res.norm l1 d1 hh1 = r := hr; subst hr
      refine wp_mono (A m N x x' hx hd loc d h _ h1 trivial ρ a w L W D hN) fun e a' w' q => ?_
      cases e <;> first | exact q.elim | exact q
    | ret l1 d1 hh1 =>
      rw [h1] at hr; have hr : Res.ret l1 d1 hh1 = r := hr; subst hr
      refine wp_mono (A m N x x' hx hd loc d h _ h1 trivial ρ a w L W D hN) fun e a' w' q => ?_
      cases e <;> first | exact q.elim | exact q
    | pan v l1 d1 hh1 =>
      rw [h1] at hr; have hr : Res.pan v l1 d1 hh1 = r := hr; subst hr
      refine wp_mono (A m N x x' hx hd loc d h _ h1 trivial ρ a w L W D hN) fun e a' w' q => ?_
      cases e <;> first | exact q.elim | exact q
    | exit id' l1 d1 hh1 =>
      rw [h1] at hr
      have hr : bi (Nat.beq id id') (Res.norm l1 d1 hh1) (Res.exit id' l1 d1 hh1) = r := hr
      refine wp_mono (A m N x x' hx hd loc d h _ h1 trivial ρ a w L W D hN) fun e a' w' q => ?_
      cases e <;> try exact q.elim
      rename_i id2
      obtain ⟨e1, p⟩ := q
      subst e1
      show if id' = id then _ else _
      rw [bi_eq] at hr
      by_cases hid : id' = id
      · subst hid
        rw [if_pos (Nat.beq_refl _)] at hr
        rw [if_pos rfl, ← hr]; exact p
      · have : Nat.beq id id' = false := by
          cases hb : Nat.beq id id' with
          | false => rfl
          | true => exact absurd (Nat.eq_of_beq_eq_true hb).symm hid
        rw [this] at hr
        have hr : Res.exit id' l1 d1 hh1 = r := hr
        rw [if_neg hid, ← hr]; exact ⟨rfl, p⟩
  | loop x =>
    obtain ⟨x', hx, hc⟩ := bindS hc
    injection hc with hc; subst hc
    exact wp_of_wpL (loopOK m N x x' hx hd loc d h r hr hgood ρ a w L W D hN)
  | _ => injection hc with hc; subst hc; exact (stuck_bad hr hgood).elim
end
end Go.Ev

namespace Go.Ev
open Go
theorem wpS_block {P : Program} {Q : Exit → Act → List Frame → World → Prop} {a : Act} {cs : List Frame} {w : World} {id : Nat} {c : Code} (h : c.wpS P (fun e a cs w => match e with | .exit id' => if id' = id then Q .normal a cs w else Q (.exit id') a cs w | e => Q e a cs w) a cs w) : (Code.block id c).wpS P Q a cs w := by
  intro b k hb hr
  obtain ⟨e, a₁, cs₁, w₁, hq, harr⟩ := h b (.inBlock id :: k) hb hr
  cases e with
  | normal => exact ⟨.normal, a₁, cs₁, w₁, hq, .head step_block (Steps.trans harr (.one step_inBlock))⟩
  | exit id' =>
    by_cases hid : id' = id
    · simp only [hid, if_true] at hq
      exact ⟨.normal, a₁, cs₁, w₁, hq, .head step_block (harr k (by simp [exitTo, hid]))⟩
    · simp only [hid, if_false] at hq
      refine ⟨.exit id', a₁, cs₁, w₁, hq, fun k' hk => .head step_block (harr k' ?_)⟩
      have : (id == id') = false := by simp; exact fun h => hid h.symm
      simp [exitTo, this, hk]
  | goto l => exact ⟨_, a₁, cs₁, w₁, hq, fun k' hk => .head step_block (harr k' (by simp [gotoIn, hk]))⟩
  | ret => exact ⟨_, a₁, cs₁, w₁, hq, .of_steps (.one step_block) harr⟩
  | panic ch => exact ⟨_, a₁, cs₁, w₁, hq, .of_steps (.one step_block) harr⟩
  | outgrown => exact ⟨_, a₁, cs₁, w₁, hq, .of_steps (b := b) (k := k) (cs := cs₁) (e := .outgrown) (.one step_block) harr⟩
theorem wpS_mono {P : Program} {Q Q' : Exit → Act → List Frame → World → Prop} {a : Act} {cs : List Frame} {w : World} {c : Code} (h : c.wpS P Q a cs w) (hq : ∀ e a cs w, Q e a cs w → Q' e a cs w) : c.wpS P Q' a cs w :=
  fun b k hb hr => let ⟨e, a', cs', w', q, r⟩ := h b k hb hr; ⟨e, a', cs', w', hq _ _ _ _ q, r⟩
/-- how a frame stands -/
inductive ModeR (ρ : Rho) : Mode → FrameMode → Prop
  | ret : ModeR ρ .ret .returning
  | pan {v : AV} {v' : Value} {r : Bool} : VR ρ v v' → ModeR ρ (.pan v r) (.panicking [{ v := v', recovered := r }])
theorem ModeR.mono {ρ ρ' : Rho} (h : ρ.le ρ') {m : Mode} {u : FrameMode} (k : ModeR ρ m u) : ModeR ρ' m u := by
  cases k with
  | ret => exact .ret
  | pan v => exact .pan (v.mono h)
section
variable {P : Program} {tab : Nat → Option AFunc}
def QD (ρ0 : Rho) (h0 : AH) (w0 : World) (m : List Nat) (n : Nat) (c0 : Frame) (cs : List Frame) : DR → Exit → Act → List Frame → World → Prop
  | .norm md loc h, .normal, a, cs', w => ∃ ρ u', cs' = { c0 with mode := u' } :: cs ∧ ModeR ρ md u' ∧ LocR ρ m loc a ∧ a.defers = [] ∧ WR ρ h w ∧ Step ρ0 h0 w0 ρ h w ∧ a.tmps.size = n
  | .exit id md loc h, .exit id', a, cs', w => id = id' ∧ ∃ ρ u', cs' = { c0 with mode := u' } :: cs ∧ ModeR ρ md u' ∧ LocR ρ m loc a ∧ a.defers = [] ∧ WR ρ h w ∧ Step ρ0 h0 w0 ρ h w ∧ a.tmps.size = n
  | .ret md h, .ret, a, cs', w => ∃ ρ u', cs' = { c0 with mode := u' } :: cs ∧ ModeR ρ md u' ∧ a.defers = [] ∧ WR ρ h w ∧ Step ρ0 h0 w0 ρ h w ∧ a.tmps.size = n
  | _, _, _, _, _ => False
def DR.good : DR → Prop
  | .fail _ => False
  | _ => True
theorem QD.trans {ρ0 ρ : Rho} {h0 h : AH} {w0 w : World} {m : List Nat} {n : Nat} {c0 : Frame} {cs : List Frame} {r : DR} {e : Exit} {a' : Act} {cs' : List Frame} {w' : World} (S : Step ρ0 h0 w0 ρ h w) (p : QD ρ h w m n c0 cs r e a' cs' w') : QD ρ0 h0 w0 m n c0 cs r e a' cs' w' := by
  cases r <;> cases e <;> first | exact p.elim | skip
  · obtain ⟨ρ', u', q1, q2, q3, q4, q5, q6, q7⟩ := p; exact ⟨ρ', u', q1, q2, q3, q4, q5, S.trans q6, q7⟩
  · obtain ⟨hid, ρ', u', q1, q2, q3, q4, q5, q6, q7⟩ := p; exact ⟨hid, ρ', u', q1, q2, q3, q4, q5, S.trans q6, q7⟩
  · obtain ⟨ρ', u', q1, q2, q4, q5, q6, q7⟩ := p; exact ⟨ρ', u', q1, q2, q4, q5, S.trans q6, q7⟩
theorem plain_d {evc : ACode → T AV → List AV → AH → Res} {m : List Nat} {c : Code} {c' : ACode} {md : Mode} {loc : T AV} {h : AH} {r : DR} {ρ : Rho} {a : Act} {c0 : Frame} {cs : List Frame} {w : World} {u : FrameMode}
    (A : ∀ r, evc c' loc [] h = r → r.good → c.wp P (QRes ρ h w m a.tmps.size r) a w) (hr : dPlain evc c' md loc h = r) (hgood : r.good) (hmd : ModeR ρ md u) :
    c.wpS P (QD ρ h w m a.tmps.size c0 cs r) a ({ c0 with mode := u } :: cs) w := by
  have hr : (Res.rec (motive := fun _ => DR) (fun loc d h => List.rec (motive := fun _ => DR) (DR.norm md loc h) (fun _ _ _ => DR.fail [80]) d) (fun id loc d h => List.rec (motive := fun _ => DR) (DR.exit id md loc h) (fun _ _ _ => DR.fail [80]) d)
    (fun _ d h => List.rec (motive := fun _ => DR) (DR.ret md h) (fun _ _ _ => DR.fail [80]) d) (fun _ _ _ _ => DR.fail [81]) DR.fail (evc c' loc [] h) : DR) = r := hr
  have dn : ∀ {ρ' : Rho} {ds : List Deferred}, DefsR ρ' [] ds → ds = [] := fun hd => by cases hd; rfl
  cases h1 : evc c' loc [] h with
  | fail l => rw [h1] at hr; have hr : DR.fail l = r := hr; rw [← hr] at hgood; exact hgood.elim
  | pan v l d h2 => rw [h1] at hr; have hr : DR.fail [81] = r := hr; rw [← hr] at hgood; exact hgood.elim
  | norm l d h2 =>
    rw [h1] at hr
    cases d with
    | cons _ _ => have hr : DR.fail [80] = r := hr; rw [← hr] at hgood; exact hgood.elim
    | nil =>
      have hr : DR.norm md l h2 = r := hr
      subst hr
      refine wpS_of_wp (wp_mono (A _ h1 trivial) fun e a' w' q => ?_)
      cases e <;> try exact q.elim
      obtain ⟨ρ', q1, q2, q3, q4, q5⟩ := q
      exact ⟨ρ', u, rfl, hmd.mono q4.le, q1, dn q2, q3, q4, q5⟩
  | exit id l d h2 =>
    rw [h1] at hr
    cases d with
    | cons _ _ => have hr : DR.fail [80] = r := hr; rw [← hr] at hgood; exact hgood.elim
    | nil =>
      have hr : DR.exit id md l h2 = r := hr
      subst hr
      refine wpS_of_wp (wp_mono (A _ h1 trivial) fun e a' w' q => ?_)
      cases e <;> try exact q.elim
      obtain ⟨hid, ρ', q1, q2, q3, q4, q5⟩ := q
      exact ⟨hid, ρ', u, rfl, hmd.mono q4.le, q1, dn q2, q3, q4, q5⟩
  | ret l d h2 =>
    rw [h1] at hr
    cases d with
    | cons _ _ => have hr : DR.fail [80] = r := hr; rw [← hr] at hgood; exact hgood.elim
    | nil =>
      have hr : DR.ret md h2 = r := hr
      subst hr
      refine wpS_of_wp (wp_mono (A _ h1 trivial) fun e a' w' q => ?_)
      cases e <;> try exact q.elim
      obtain ⟨ρ', q1, q2, q3, q4, q5⟩ := q
      exact ⟨ρ', u, rfl, hmd.mono q4.le, dn q2, q3, q4, q5⟩
theorem wpOpsS_recover {ops : Array Oper} {Q : Exit → Act → List Frame → World → Prop} {i : Nat} {rest : List Nat} {o : Oper} {a : Act} {cs : List Frame} {w : World} (ho : ops[i]? = some o) (hg : o.guard = none) (hr : (execOp a.eval o).run P w = .ok .recover w)
    (h : match recoverD cs with | some (v, cs') => wpOpsS P ops Q rest (a.put o.dst v) cs' w | none => wpOpsS P ops Q rest (a.put o.dst .nilIface) cs w) : wpOpsS P ops Q (i :: rest) a cs w := by
  unfold wpOpsS
  rw [ho]
  simp only [Region.wanted, hg, if_true, hr]
  exact h
theorem wpOpsS_value {ops : Array Oper} {Q : Exit → Act → List Frame → World → Prop} {i : Nat} {rest : List Nat} {o : Oper} {a : Act} {cs : List Frame} {w : World} {v : Value} (ho : ops[i]? = some o) (hg : o.guard = none) (hr : (execOp a.eval o).run P w = .ok (.value v) w)
    (h : wpOpsS P ops Q rest (a.put o.dst v) cs w) : wpOpsS P ops Q (i :: rest) a cs w := by
  unfold wpOpsS
  rw [ho]
  simp only [Region.wanted, hg, if_true, hr]
  exact h
/-- s := recover() -/
theorem recov_ok {m : List Nat} {ops : Array Oper} {id : Nat} {x y : Nat} (hs : recovSlot ops.toList = some (x, y)) (hx : findSlot m x = none) {N : Nat} (hdst : ∀ o ∈ ops, ∀ x, o.dst = some x → x < N) {md : Mode} {loc : T AV} {h : AH} {ρ : Rho} {a : Act} {w : World} {u : FrameMode} {c0 : Frame} {cs : List Frame}
    (L : LocR ρ m loc a) (W : WR ρ h w) (hd : a.defers = []) (hN : a.tmps.size = N) (hmd : ModeR ρ md u) :
    (Code.region id ops false).wpS P (QD ρ h w m N c0 cs (Mode.rec (motive := fun _ => DR) (DR.norm Mode.ret (putOut (findSlot m y) AV.nili loc) h) (fun v r => bi r (DR.norm (Mode.pan v r) (putOut (findSlot m y) AV.nili loc) h) (DR.norm (Mode.pan v true) (putOut (findSlot m y) v loc) h)) md)) a ({ c0 with mode := u } :: cs) w := by
  unfold recovSlot at hs
  split at hs
  · rename_i x1 args1 ats1 ty1 ps1 af1 y1 c1 ty2 ps2 af2 hops
    split at hs
    · rename_i hcond
      injection hs with hs; injection hs with hs1 hs2
      subst hs1; subst hs2
      obtain ⟨rfl, hargs⟩ := hcond
      obtain ⟨l⟩ := ops
      have hops : l = _ := hops
      subst hops
      have b1 : x1 < a.tmps.size := by rw [hN]; exact hdst _ (List.mem_toArray.2 (List.mem_cons_self ..)) _ rfl
      have b2 : y1 < a.tmps.size := by rw [hN]; exact hdst _ (List.mem_toArray.2 (List.mem_cons_of_mem _ (List.mem_cons_self ..))) _ rfl
      refine wpS_region ?_
      have hput : ∀ (v : AV) (v' : Value) (md2 : Mode) (u2 : FrameMode), VR ρ v v' → ModeR ρ md2 u2 → QD ρ h w m N c0 cs (DR.norm md2 (putOut (findSlot m y1) v loc) h) .normal ((a.put (some x1) v').put (some y1) ((a.put (some x1) v').eval (.tmp x1))) ({ c0 with mode := u2 } :: cs) w := by
        intro v v' md2 u2 hv hm2
        have he : (a.put (some x1) v').eval (.tmp x1) = v' := by
          show (a.put (some x1) v').tmps.getD x1 undef = v'
          rw [tmps_put (fun x e => by injection e with e; subst e; exact b1), if_pos rfl]
        rw [he]
        have hsz : (a.put (some x1) v').tmps.size = a.tmps.size := size_put
        refine ⟨ρ, u2, rfl, hm2, ?_, by simp [Act.put, hd], W, .refl _ _ _, by rw [size_put, hsz]; exact hN⟩
        have L1 : LocR ρ m loc (a.put (some x1) v') := by
          have := LocR.put (d := some x1) (m := m) (loc := loc) (fun x e => by injection e with e; subst e; exact b1) hv L
          have e0 : ((some x1 : Option Nat).bind (findSlot m)) = none := hx
          rw [e0] at this
          exact this
        exact LocR.put (d := some y1) (fun x e => by injection e with e; subst e; rw [hsz]; exact b2) hv L1
      have hr1 : ∀ {o : Oper} {a : Act}, o = { dst := some x1, op := Op.call { callee := Callee.builtin Builtin.recover, args := args1, argTypes := ats1 }, type := ty1, pos := ps1, after := af1, guard := none } → (execOp a.eval o).run P w = .ok .recover w := by
        intro o a e; subst e; simp [execOp, resolve, invoke, builtin]
      have fin : ∀ (v : AV) (v' : Value) (md2 : Mode) (u2 : FrameMode), VR ρ v v' → ModeR ρ md2 u2 → wpOpsS P _ (QD ρ h w m N c0 cs (DR.norm md2 (putOut (findSlot m y1) v loc) h)) [1] (a.put (some x1) v') ({ c0 with mode := u2 } :: cs) w :=
        fun v v' md2 u2 hv hm2 => wpOpsS_value (ops := ⟨[{ dst := some x1, op := Op.call { callee := Callee.builtin Builtin.recover, args := args1, argTypes := ats1 }, type := ty1, pos := ps1, after := af1, guard := none }, { dst := some y1, op := Op.assign (Operand.tmp x1), type := ty2, pos := ps2, after := af2, guard := none }]⟩) (i := 1) rfl rfl rfl (hput v v' md2 u2 hv hm2)
      cases hmd with
      | ret => exact wpOpsS_recover (i := 0) (rest := [1]) rfl rfl (hr1 rfl) (fin .nili .nilIface .ret .returning .nili .ret)
      | pan hv =>
        rename_i v v' r
        cases r with
        | true => exact wpOpsS_recover (i := 0) (rest := [1]) rfl rfl (hr1 rfl) (fin .nili .nilIface (.pan v true) _ .nili (.pan hv))
        | false => exact wpOpsS_recover (i := 0) (rest := [1]) rfl rfl (hr1 rfl) (fin v v' (.pan v true) _ hv (.pan hv))
    · cases hs
  · cases hs
theorem evD_ok {n : Nat} (A : CodeOK P tab n) : ∀ (c : Code) (c' : ACode) (m : List Nat) (N : Nat), cCode P m c = some c' → dstOk N c = true → ∀ (md : Mode) (loc : T AV) (h : AH) (r : DR), evD (evC tab n) c' md loc h = r → r.good →
    ∀ (ρ : Rho) (a : Act) (w : World) (u : FrameMode) (c0 : Frame) (cs : List Frame), LocR ρ m loc a → WR ρ h w → a.defers = [] → N ≤ a.tmps.size → ModeR ρ md u → c.wpS P (QD ρ h w m a.tmps.size c0 cs r) a ({ c0 with mode := u } :: cs) w := by
  intro c
  have plain : ∀ (c : Code) (c' : ACode) (m : List Nat) (N : Nat), cCode P m c = some c' → dstOk N c = true → ∀ (md : Mode) (loc : T AV) (h : AH) (r : DR), dPlain (evC tab n) c' md loc h = r → r.good →
    ∀ (ρ : Rho) (a : Act) (w : World) (u : FrameMode) (c0 : Frame) (cs : List Frame), LocR ρ m loc a → WR ρ h w → a.defers = [] → N ≤ a.tmps.size → ModeR ρ md u → c.wpS P (QD ρ h w m a.tmps.size c0 cs r) a ({ c0 with mode := u } :: cs) w := by
    intro c c' m N hc hd md loc h r hr hgood ρ a w u c0 cs L W hdf hN hmd
    exact plain_d (fun r1 h1 g1 => A m N c c' hc hd loc [] h r1 h1 g1 ρ a w L W (by rw [hdf]; exact .nil) hN) hr hgood hmd
  induction c with
  | skip => intro c' m N hc hd md loc h r hr; injection hc with hc; subst hc; exact plain _ _ m N rfl hd md loc h r hr
  | ret => intro c' m N hc hd md loc h r hr; injection hc with hc; subst hc; exact plain _ _ m N rfl hd md loc h r hr
  | exit id => intro c' m N hc hd md loc h r hr; injection hc with hc; subst hc; exact plain _ _ m N rfl hd md loc h r hr
  | loop x ih =>
    intro c' m N hc hd md loc h r hr
    obtain ⟨x', hx, hc'⟩ := bindS hc
    injection hc' with hc'; subst hc'
    exact plain _ _ m N hc hd md loc h r hr
  | region id ops draw =>
    intro c' m N hc hd md loc h r hr hgood ρ a w u c0 cs L W hdf hN hmd
    have hcx : (match cRegion P m ops draw with | some c => some c | none => some stuckC) = some c' := hc
    cases hcr : cRegion P m ops draw with
    | none =>
      rw [hcr] at hcx
      injection hcx with hcx; subst hcx
      exact plain _ _ m N hc hd md loc h r hr hgood ρ a w u c0 cs L W hdf hN hmd
    | some c1 =>
    rw [hcr] at hcx
    injection hcx with hcx; subst hcx
    cases draw with
    | true =>
      have hc0 : (do let ord ← order ops (ancs ops) ops.size []; if drawOk ops (ancs ops) ord then (do some (ACode.ops (← cDraw P m ops (ancs ops) ord [] []))) else none) = some c1 := hcr
      obtain ⟨ord, hord, hc1⟩ := bindS hc0
      split at hc1
      · obtain ⟨aos, haos, hc1⟩ := bindS hc1
        injection hc1 with hc1; subst hc1
        exact plain _ _ m N hc hd md loc h r hr hgood ρ a w u c0 cs L W hdf hN hmd
      · cases hc1
    | false =>
      have hc0 : (if (ops.toList.any fun o => isRecover o.op) then (do let r ← recovSlot ops.toList; if (findSlot m r.1).isSome then none else some (ACode.recov (findSlot m r.2))) else (do some (ACode.ops (← cPlain P m ops ops.toList [])))) = some c1 := hcr
      split at hc0
      · obtain ⟨⟨x, y⟩, hs, hc1⟩ := bindS hc0
        split at hc1
        · cases hc1
        · rename_i hx
          injection hc1 with hc1; subst hc1
          have hx : findSlot m x = none := by
            cases hh : findSlot m x with
            | none => rfl
            | some k => rw [hh] at hx; exact absurd rfl hx
          have hdst : ∀ o ∈ ops, ∀ x, o.dst = some x → x < a.tmps.size := by
            intro o ho x hx
            have hd : (ops.all fun o => match o.dst with | some d => decide (d < N) | none => true) = true := hd
            have := Array.all_eq_true_iff_forall_mem.1 hd o ho
            rw [hx] at this
            exact Nat.lt_of_lt_of_le (of_decide_eq_true this) hN
          have := recov_ok (P := P) (id := id) (c0 := c0) (cs := cs) hs hx hdst L W hdf rfl hmd
          have hr : (Mode.rec (motive := fun _ => DR) (DR.norm Mode.ret (putOut (findSlot m y) AV.nili loc) h) (fun v r => bi r (DR.norm (Mode.pan v r) (putOut (findSlot m y) AV.nili loc) h) (DR.norm (Mode.pan v true) (putOut (findSlot m y) v loc) h)) md) = r := hr
          rw [hr] at this
          exact this
      · obtain ⟨aos, haos, hc1⟩ := bindS hc0
        injection hc1 with hc1; subst hc1
        exact plain _ _ m N hc hd md loc h r hr hgood ρ a w u c0 cs L W hdf hN hmd
  | seq x y ihx ihy =>
    intro c' m N hc hd md loc h r hr hgood ρ a w u c0 cs L W hdf hN hmd
    obtain ⟨x', hx, hc⟩ := bindS hc
    obtain ⟨y', hy, hc⟩ := bindS hc
    injection hc with hc; subst hc
    have hd : (dstOk N x && dstOk N y) = true := hd
    rw [Bool.and_eq_true] at hd
    have hr : (DR.rec (motive := fun _ => DR) (fun m loc h => evD (evC tab n) y' m loc h) DR.exit DR.ret DR.fail (evD (evC tab n) x' md loc h) : DR) = r := hr
    refine wpS_seq ?_
    cases h1 : evD (evC tab n) x' md loc h with
    | fail l => rw [h1] at hr; have hr : DR.fail l = r := hr; rw [← hr] at hgood; exact hgood.elim
    | norm md1 l1 h2 =>
      rw [h1] at hr
      refine wpS_mono (ihx x' m N hx hd.1 md loc h _ h1 trivial ρ a w u c0 cs L W hdf hN hmd) fun e a' cs' w' q => ?_
      cases e <;> try exact q.elim
      obtain ⟨ρ', u', rfl, q2, q3, q4, q5, q6, q7⟩ := q
      have := ihy y' m N hy hd.2 md1 l1 h2 r hr hgood ρ' a' w' u' c0 cs q3 q5 q4 (by omega) q2
      rw [q7] at this
      exact wpS_mono this fun e a2 cs2 w2 q => q.trans q6
    | exit id md1 l1 h2 =>
      rw [h1] at hr; have hr : DR.exit id md1 l1 h2 = r := hr
      refine wpS_mono (ihx x' m N hx hd.1 md loc h _ h1 trivial ρ a w u c0 cs L W hdf hN hmd) fun e a' cs' w' q => ?_
      rw [← hr]
      cases e <;> first | exact q.elim | exact q
    | ret md1 h2 =>
      rw [h1] at hr; have hr : DR.ret md1 h2 = r := hr
      refine wpS_mono (ihx x' m N hx hd.1 md loc h _ h1 trivial ρ a w u c0 cs L W hdf hN hmd) fun e a' cs' w' q => ?_
      rw [← hr]
      cases e <;> first | exact q.elim | exact q
  | cond cc x y ihx ihy =>
    intro c' m N hc hd md loc h r hr hgood ρ a w u c0 cs L W hdf hN hmd
    obtain ⟨o, ho, hc⟩ := bindS hc
    obtain ⟨x', hx, hc⟩ := bindS hc
    obtain ⟨y', hy, hc⟩ := bindS hc
    injection hc with hc; subst hc
    have hd : (dstOk N x && dstOk N y) = true := hd
    rw [Bool.and_eq_true] at hd
    have hv := opds_of (ρ := ρ) (tmp := []) (ts := []) L tmp_nil _ _ ho
    have hr : AV.on (DR.fail [82]) (fun q => bi q (evD (evC tab n) x' md loc h) (evD (evC tab n) y' md loc h)) (fun _ _ => DR.fail [82]) (fun _ _ => DR.fail [82]) (fun _ _ => DR.fail [82]) (DR.fail [82]) (fun _ _ _ _ => DR.fail [82]) (DR.fail [82]) (fun _ => DR.fail [82]) (DR.fail [82]) (fun _ _ _ => DR.fail [82]) (DR.fail [82]) (fun _ _ => DR.fail [82]) (DR.fail [82]) (fun _ => DR.fail [82]) (fun _ => DR.fail [82]) (ev loc [] o) = r := hr
    generalize ev loc [] o = av at hv hr
    cases av <;> try (have hr : DR.fail [82] = r := hr; rw [← hr] at hgood; exact hgood.elim)
    rename_i b
    generalize hae : a.eval cc = vv at hv
    cases hv
    refine wpS_cond hae ?_
    cases b with
    | true => exact ihx x' m N hx hd.1 md loc h r hr hgood ρ a w u c0 cs L W hdf hN hmd
    | false => exact ihy y' m N hy hd.2 md loc h r hr hgood ρ a w u c0 cs L W hdf hN hmd
  | block id x ih =>
    intro c' m N hc hd md loc h r hr hgood ρ a w u c0 cs L W hdf hN hmd
    obtain ⟨x', hx, hc⟩ := bindS hc
    injection hc with hc; subst hc
    have hr : (DR.rec (motive := fun _ => DR) DR.norm (fun id' m loc h => bi (Nat.beq id id') (DR.norm m loc h) (DR.exit id' m loc h)) DR.ret DR.fail (evD (evC tab n) x' md loc h) : DR) = r := hr
    refine wpS_block ?_
    cases h1 : evD (evC tab n) x' md loc h with
    | fail l => rw [h1] at hr; have hr : DR.fail l = r := hr; rw [← hr] at hgood; exact hgood.elim
    | norm md1 l1 h2 =>
      rw [h1] at hr; have hr : DR.norm md1 l1 h2 = r := hr; subst hr
      refine wpS_mono (ih x' m N hx hd md loc h _ h1 trivial ρ a w u c0 cs L W hdf hN hmd) fun e a' cs' w' q => ?_
      cases e <;> first | exact q.elim | exact q
    | ret md1 h2 =>
      rw [h1] at hr; have hr : DR.ret md1 h2 = r := hr; subst hr
      refine wpS_mono (ih x' m N hx hd md loc h _ h1 trivial ρ a w u c0 cs L W hdf hN hmd) fun e a' cs' w' q => ?_
      cases e <;> first | exact q.elim | exact q
    | exit id' md1 l1 h2 =>
      rw [h1] at hr
      have hr : bi (Nat.beq id id') (DR.norm md1 l1 h2) (DR.exit id' md1 l1 h2) = r := hr
      refine wpS_mono (ih x' m N hx hd md loc h _ h1 trivial ρ a w u c0 cs L W hdf hN hmd) fun e a' cs' w' q => ?_
      cases e <;> try exact q.elim
      rename_i id2
      obtain ⟨e1, p⟩ := q
      subst e1
      show if id' = id then _ else _
      rw [bi_eq] at hr
      by_cases hid : id' = id
      · subst hid
        rw [if_pos (Nat.beq_refl _)] at hr
        rw [if_pos rfl, ← hr]; exact p
      · have : Nat.beq id id' = false := by
          cases hb : Nat.beq id id' with
          | false => rfl
          | true => exact absurd (Nat.eq_of_beq_eq_true hb).symm hid
        rw [this] at hr
        have hr : DR.exit id' md1 l1 h2 = r := hr
        rw [if_neg hid, ← hr]; exact ⟨rfl, p⟩
  | _ => intro c' m N hc hd md loc h r hr; have hc1 := hc; injection hc1 with hc1; subst hc1; exact plain _ _ m N hc hd md loc h r hr
end
end Go.Ev

namespace Go.Ev
open Go
theorem dedup_pre : ∀ (l acc : List Nat), ∃ s, dedup acc l = acc.reverse ++ s
  | [], acc => ⟨[], by simp [dedup]⟩
  | x :: l, acc => by
    unfold dedup
    split
    · exact dedup_pre l acc
    · obtain ⟨s, hs⟩ := dedup_pre l (x :: acc)
      exact ⟨x :: s, by rw [hs]; simp⟩
theorem dedup_get (l : List Nat) {n k : Nat} (h : k < n) : (dedup (List.range n).reverse l)[k]? = some k := by
  obtain ⟨s, hs⟩ := dedup_pre l (List.range n).reverse
  rw [hs, List.reverse_reverse, List.getElem?_append_left (by simpa using h)]
  simp [h]
theorem slots_get {fn : Func} {c : Code} {k : Nat} (h : k < fn.params.size + fn.nfree) : (slots fn c)[k]? = some k := dedup_get _ h
section
variable {P : Program} {tab : Nat → Option AFunc}
theorem cFunc_some {f : Nat} {af : AFunc} (h : cFunc P f = some af) : ∃ fn c, P.funcs[f]? = some fn ∧ fn.body = some c ∧ dstOk fn.ntmps c = true ∧ callable P f = true ∧ af.nargs = fn.params.size + fn.nfree ∧ cCode P (slots fn c) c = some af.body ∧ fn.results.toList.mapM (cRes P (slots fn c)) = some af.res := by
  obtain ⟨fn, hfn, h⟩ := bindS h
  obtain ⟨c, hc, h⟩ := bindS h
  have h : (if fn.name = "runtime.NumGoroutine" ∨ dstOk fn.ntmps c = false then none else (do some { nargs := fn.params.size + fn.nfree, body := ← cCode P (slots fn c) c, res := ← fn.results.toList.mapM (cRes P (slots fn c)) })) = some af := h
  split at h
  · cases h
  · rename_i hcond
    obtain ⟨b, hb, h⟩ := bindS h
    obtain ⟨rs, hrs, h⟩ := bindS h
    injection h with h; subst h
    have h1 : fn.name ≠ "runtime.NumGoroutine" := fun e => hcond (.inl e)
    have h2 : dstOk fn.ntmps c = true := by
      cases hd : dstOk fn.ntmps c with
      | true => rfl
      | false => exact absurd (.inr hd) hcond
    refine ⟨fn, c, hfn, hc, h2, ?_, rfl, hb, hrs⟩
    unfold callable
    rw [hfn]
    simp [h1, hc]
def frame0 (fn : Func) (args' : List Value) : Act := { tmps := args'.toArray ++ Array.replicate (fn.ntmps - args'.toArray.size) undef, defers := [] }
theorem frame0_size (fn : Func) (args' : List Value) : fn.ntmps ≤ (frame0 fn args').tmps.size := by
  simp [frame0]; omega
theorem frame0_loc {ρ : Rho} {fn : Func} {c : Code} {args : List AV} {args' : List Value} (hlen : args.length = fn.params.size + fn.nfree) (ha : VRs ρ args args') : LocR ρ (slots fn c) (initLoc args) (frame0 fn args') := by
  intro t k hk
  have hm := findSlot_get hk
  have hl := ha.length
  unfold slot initLoc
  rw [get_ofList]
  rcases Nat.lt_or_ge k args.length with h | h
  · rw [slots_get (by omega)] at hm
    injection hm with hm; subst hm
    have : args[k]? = some args[k] := List.getElem?_eq_getElem h
    obtain ⟨v, hv, hr⟩ := ha.get this
    rw [this]
    show VR ρ args[k] _
    have hk' : k < args'.length := by omega
    have : (frame0 fn args').tmps.getD k undef = v := by
      have h2 : (frame0 fn args').tmps[k]? = some v := by
        simp only [frame0]
        rw [Array.getElem?_append_left (by simpa using hk')]
        simpa using hv
      rw [Array.getD_eq_getD_getElem?, h2]; rfl
    rw [this]; exact hr
  · rw [List.getElem?_eq_none h]; exact .bad _
theorem load_res {ρ : Rho} {h : AH} {w : World} (W : WR ρ h w) {id off : Nat} {c : T AV} {s : Nat} {o r : Bool} {t : TypeId} {v : Value} (hg : h.mem.get id = some (.cells c s o r)) (hv : VR ρ (.ptr id off) v) :
    ∃ addr, v = .pointer (some addr) ∧ (∀ a, tyAgg P t = some false → c.get off = some a → ∃ u, (loadVar t addr).run P w = .ok u w ∧ VR ρ a u) ∧
      ∀ n l, tyAgg P t = some true → tySize P t = some n → loadL c n off = some l → ∃ u, (loadVar t addr).run P w = .ok u w ∧ VR ρ (.agg l) u := by
  cases hv with
  | ptr hr hp =>
    subst hp
    obtain ⟨y, hy, hyr⟩ := W.obj hg hr
    refine ⟨_, rfl, fun a ht ha => ?_, fun n l ht hn hl => ?_⟩
    · cases hyr with
      | cells a1 a2 a3 a4 =>
        obtain ⟨_, _, u, hu, hur⟩ := a3 _ _ ha
        refine ⟨u, ?_, hur⟩
        simp only [loadVar, Sem.run_bind, run_tyAgg ht, Result.andThen_ok, Bool.false_eq_true, if_false, run_load, cell_of hy hu]
    · obtain ⟨l', hrun, hl'⟩ := run_loadCells_rel (P := P) hy hyr hl
      refine ⟨_, ?_, .agg hl' rfl⟩
      simp only [loadVar, Sem.run_bind, run_tyAgg ht, Result.andThen_ok, if_true, run_tySize hn, hrun]
      rfl
theorem results_list {ρ : Rho} {m : List Nat} {loc : T AV} {a : Act} {h : AH} {w : World} (L : LocR ρ m loc a) (W : WR ρ h w) (g : ResultVar → Sem Value) (hg1 : ∀ t, (g (.tmp t)).run P w = .ok (a.tmps.getD t undef) w)
    (hg2 : ∀ x t addr u, a.tmps.getD x undef = .pointer (some addr) → (loadVar t addr).run P w = .ok u w → (g (.cell x t)).run P w = .ok u w) : ∀ (l : List ResultVar) (rs : List ARes) (vs : List AV), l.mapM (cRes P m) = some rs → results rs loc h = some vs → ∃ us : List Value, (l.mapM g).run P w = .ok us w ∧ VRs ρ vs us
  | [], rs, vs, hc, hr => by
    simp at hc; subst hc
    injection hr with hr; subst hr
    exact ⟨[], by simp, .nil⟩
  | x :: l, rs, vs, hc, hr => by
    rw [List.mapM_cons] at hc
    obtain ⟨r1, h1, hc⟩ := bindS hc
    obtain ⟨rs', h2, hc⟩ := bindS hc
    injection hc with hc; subst hc
    have hr : obind (results rs' loc h) none (fun l => ARes.rec (motive := fun _ => Option (List AV)) (fun x => some (ev loc [] x :: l))
      (fun x => AV.on none (fun _ => none) (fun _ _ => none) (fun _ _ => none) (fun id off => obind (AH.get h id) none fun o => AObj.rec (motive := fun _ => Option (List AV)) (fun c _ _ _ => obind (T.get c off) none fun v => some (v :: l)) (fun _ _ => none) (fun _ _ _ _ => none) o) none (fun _ _ _ _ => none) none (fun _ => none) none (fun _ _ _ => none) none (fun _ _ => none) none (fun _ => none) (fun _ => none) (ev loc [] x))
      (fun n x => AV.on none (fun _ => none) (fun _ _ => none) (fun _ _ => none) (fun id off => obind (AH.get h id) none fun o => AObj.rec (motive := fun _ => Option (List AV)) (fun c _ _ _ => obind (loadL c n off) none fun v => some (AV.agg v :: l)) (fun _ _ => none) (fun _ _ _ _ => none) o) none (fun _ _ _ _ => none) none (fun _ => none) none (fun _ _ _ => none) none (fun _ _ => none) none (fun _ => none) (fun _ => none) (ev loc [] x)) r1) = some vs := hr
    cases hrr : results rs' loc h with
    | none => rw [hrr] at hr; cases hr
    | some vs' =>
      rw [hrr] at hr
      obtain ⟨us, hus, hvs⟩ := results_list L W g hg1 hg2 l rs' vs' h2 hrr
      have O := opds_of (ρ := ρ) (tmp := []) (ts := []) L tmp_nil
      have fin : ∀ {v : AV} {u : Value}, (g x).run P w = .ok u w → VR ρ v u → some (v :: vs') = some vs → ∃ us : List Value, ((x :: l).mapM g).run P w = .ok us w ∧ VRs ρ vs us := by
        intro v u hrun hv e
        injection e with e; subst e
        refine ⟨u :: us, ?_, .cons hv hvs⟩
        rw [List.mapM_cons]
        simp only [Sem.run_bind, hrun, Result.andThen_ok, hus, Sem.run_pure]
      cases x with
      | tmp t =>
        obtain ⟨y, hy, e⟩ := mapS h1
        subst e
        exact fin (hg1 t) (O _ _ hy) hr
      | cell x t =>
        obtain ⟨y, hy, h1⟩ := bindS h1
        obtain ⟨ga, hga, h1⟩ := bindS h1
        have hv : VR ρ (ev loc [] y) (a.tmps.getD x undef) := O _ _ hy
        cases ga with
        | true =>
          obtain ⟨n, hn, h1⟩ := bindS h1
          injection h1 with h1; subst h1
          generalize hev : ev loc [] y = av at hv
          have hr : AV.on none (fun _ => none) (fun _ _ => none) (fun _ _ => none) (fun id off => obind (AH.get h id) none fun o => AObj.rec (motive := fun _ => Option (List AV)) (fun c _ _ _ => obind (loadL c n off) none fun v => some (AV.agg v :: vs')) (fun _ _ => none) (fun _ _ _ _ => none) o) none (fun _ _ _ _ => none) none (fun _ => none) none (fun _ _ _ => none) none (fun _ _ => none) none (fun _ => none) (fun _ => none) (ev loc [] y) = some vs := hr
          rw [hev] at hr
          cases av <;> try (cases hr; done)
          rename_i id off
          have hr : obind (AH.get h id) none (fun o => AObj.rec (motive := fun _ => Option (List AV)) (fun c _ _ _ => obind (loadL c n off) none fun v => some (AV.agg v :: vs')) (fun _ _ => none) (fun _ _ _ _ => none) o) = some vs := hr
          rw [AH.get_eq] at hr
          cases hgt : h.mem.get id with
          | none => rw [hgt] at hr; cases hr
          | some ob =>
            rw [hgt] at hr
            cases ob <;> try (cases hr; done)
            rename_i c s o r
            have hr : obind (loadL c n off) none (fun v => some (AV.agg v :: vs')) = some vs := hr
            cases hl : loadL c n off with
            | none => rw [hl] at hr; cases hr
            | some ll =>
              rw [hl] at hr
              obtain ⟨addr, e1, _, e3⟩ := load_res (P := P) (t := t) W hgt hv
              obtain ⟨u, hrun, hvu⟩ := e3 n ll hga hn hl
              exact fin (hg2 x t addr u e1 hrun) hvu hr
        | false =>
          injection h1 with h1; subst h1
          generalize hev : ev loc [] y = av at hv
          have hr : AV.on none (fun _ => none) (fun _ _ => none) (fun _ _ => none) (fun id off => obind (AH.get h id) none fun o => AObj.rec (motive := fun _ => Option (List AV)) (fun c _ _ _ => obind (T.get c off) none fun v => some (v :: vs')) (fun _ _ => none) (fun _ _ _ _ => none) o) none (fun _ _ _ _ => none) none (fun _ => none) none (fun _ _ _ => none) none (fun _ _ => none) none (fun _ => none) (fun _ => none) (ev loc [] y) = some vs := hr
          rw [hev] at hr
          cases av <;> try (cases hr; done)
          rename_i id off
          have hr : obind (AH.get h id) none (fun o => AObj.rec (motive := fun _ => Option (List AV)) (fun c _ _ _ => obind (T.get c off) none fun v => some (v :: vs')) (fun _ _ => none) (fun _ _ _ _ => none) o) = some vs := hr
          rw [AH.get_eq] at hr
          cases hgt : h.mem.get id with
          | none => rw [hgt] at hr; cases hr
          | some ob =>
            rw [hgt] at hr
            cases ob <;> try (cases hr; done)
            rename_i c s o r
            have hr : obind (T.get c off) none (fun v => some (v :: vs')) = some vs := hr
            cases hl : T.get c off with
            | none => rw [hl] at hr; cases hr
            | some ll =>
              rw [hl] at hr
              obtain ⟨addr, e1, e2, _⟩ := load_res (P := P) (t := t) W hgt hv
              obtain ⟨u, hrun, hvu⟩ := e2 ll hga hl
              exact fin (hg2 x t addr u e1 hrun) hvu hr
theorem results_ok {ρ : Rho} {m : List Nat} {loc : T AV} {a : Act} {h : AH} {w : World} {fn : Func} {rs : List ARes} {vs : List AV} (L : LocR ρ m loc a) (W : WR ρ h w) (hc : fn.results.toList.mapM (cRes P m) = some rs) (hr : results rs loc h = some vs) :
    ∃ u, (Go.results fn a.tmps).run P w = .ok u w ∧ VR ρ (one vs) u := by
  let g : ResultVar → Sem Value := fun
    | .tmp t => pure (a.tmps.getD t undef)
    | .cell x t => do loadVar t (← asAddr (a.tmps.getD x undef))
  obtain ⟨us, hus, hvs⟩ := results_list (P := P) L W g (fun t => rfl) (fun x t addr u e1 hrun => by
    show (do loadVar t (← asAddr (a.tmps.getD x undef)) : Sem Value).run P w = _
    rw [e1]
    simp only [asAddr, Sem.run_bind, Sem.run_pure, Result.andThen_ok, hrun]) _ _ _ hc hr
  have hm : (fn.results.mapM g).run P w = .ok us.toArray w := by
    rw [Array.mapM_eq_mapM_toList]
    simp only [Sem.run_map, hus]
    rfl
  refine ⟨if h : us.toArray.size = 1 then us.toArray[0] else .tuple us.toArray, ?_, ?_⟩
  · show (do let vs ← fn.results.mapM g; pure (if h : vs.size = 1 then vs[0] else .tuple vs) : Sem Value).run P w = _
    simp only [Sem.run_bind, hm, Result.andThen_ok, Sem.run_pure]
  · cases hvs with
    | nil => exact .tup .nil rfl
    | cons h1 h2 =>
      cases h2 with
      | nil => exact h1
      | cons h3 h4 =>
        rw [dif_neg (by simp)]
        exact .tup (.cons h1 (.cons h3 h4)) rfl
/-- what a call comes to, to be shown of its frame -/
def RC (ρ0 : Rho) (h0 : AH) (w0 : World) : CR → Ending → World → Prop
  | .ret v h', e, w' => ∃ ρ' v', e = .returned v' ∧ VR ρ' v v' ∧ WR ρ' h' w' ∧ Step ρ0 h0 w0 ρ' h' w'
  | .pan v h', e, w' => ∃ ρ' v', e = .panicked [{ v := v', recovered := false }] ∧ VR ρ' v v' ∧ WR ρ' h' w' ∧ Step ρ0 h0 w0 ρ' h' w'
  | .fail _, _, _ => False
def CR.good : CR → Prop
  | .fail _ => False
  | _ => True
inductive Going : Mode → Prop
  | ret : Going .ret
  | pan (v : AV) : Going (.pan v false)
/-- an entry that is no code: answers that are known: to these arguments this value, and all is left as it was -/
def slotsL : Nat → Nat → List Opd
  | 0, _ => []
  | n + 1, i => .l i :: slotsL n (i + 1)
def knownF (n : Nat) (rows : List (List AV × AV)) : AFunc := .mk n (.ops [⟨.known rows (slotsL n 0), none, some 0, []⟩]) [.val (.l 0)]
def SaysV (P : Program) (f : Nat) (args : List AV) (v : AV) : Prop := ∀ (w : World) (ρ : Rho) (args' : List Value), VRs ρ args args' →
  Calls P f args'.toArray w fun e w' => ∃ v', e = .returned v' ∧ VR ρ v v' ∧ w.heap.size ≤ w'.heap.size ∧ (∀ k, k < w.heap.size → w'.heap[k]? = w.heap[k]?) ∧ w'.os = w.os ∧ w'.tape = w.tape ∧ w'.output = w.output
def Known (P : Program) (f : Nat) (rows : List (List AV × AV)) : Prop := callable P f = true ∧ ∀ r ∈ rows, SaysV P f r.1 r.2
def TabOK (P : Program) (tab : Nat → Option AFunc) : Prop := ∀ f af, tab f = some af → cFunc P f = some af ∨ ∃ n rows, af = knownF n rows ∧ Known P f rows
theorem evs_slots : ∀ (n i : Nat) (args : List AV), i + n ≤ args.length → evs (ofList args) [] (slotsL n i) = (args.drop i).take n
  | 0, i, args, _ => by simp [slotsL]; rfl
  | n + 1, i, args, h => by
    show ev (ofList args) [] (.l i) :: evs (ofList args) [] (slotsL n (i + 1)) = _
    rw [evs_slots n (i + 1) args (by omega)]
    have hi : i < args.length := by omega
    have : ev (ofList args) [] (.l i) = args[i] := by
      show obind (T.get (ofList args) i) AV.bad (fun v => v) = _
      rw [get_ofList, List.getElem?_eq_getElem hi]; rfl
    rw [this, List.drop_eq_getElem_cons (i := i) hi, List.take_succ_cons]
theorem findRow_some {args : List AV} {v : AV} : ∀ {rows : List (List AV × AV)}, findRow args rows = some v → ∃ r ∈ rows, r.1 = args ∧ r.2 = v
  | [], h => by cases h
  | r :: rows, h => by
    have h : bi (same (.tup r.1) (.tup args)) (some r.2) (findRow args rows) = some v := h
    rw [bi_eq] at h
    split at h
    · rename_i hs
      injection h with h
      exact ⟨r, by simp, sameL_eq hs, h⟩
    · obtain ⟨r', h1, h2⟩ := findRow_some h
      exact ⟨r', by simp [h1], h2⟩
theorem run_defers {n : Nat} (htab : TabOK P tab) (A : CodeOK P tab n) {fn : Func} {m : List Nat} {rs : List ARes} {loc : T AV} {a : Act} {ρ0 : Rho} {h0 : AH} {w0 : World} (hrs : fn.results.toList.mapM (cRes P m) = some rs) :
    ∀ (ds : List AV) (md : Mode) (h : AH) (r : CR), runD tab (evC tab n) (finish rs loc) ds md h = r → r.good → Going md → ∀ (ρ : Rho) (w : World) (u : FrameMode) (ds' : List Deferred), DefsR ρ ds ds' → LocR ρ m loc a → WR ρ h w → Step ρ0 h0 w0 ρ h w → ModeR ρ md u →
    Leaves P fn a.tmps (RC ρ0 h0 w0 r) ds' u w
  | [], md, h, r, hr, hgood, hgo, ρ, w, u, ds', hds, L, W, S, hmd => by
    cases hds
    have hr : (Mode.rec (motive := fun _ => CR) (obind (results rs loc h) (CR.fail [86]) fun l => CR.ret (one l) h) (fun v _ => CR.pan v h) md) = r := hr
    cases hmd with
    | ret =>
      have hr : obind (results rs loc h) (CR.fail [86]) (fun l => CR.ret (one l) h) = r := hr
      cases hres : results rs loc h with
      | none => rw [hres] at hr; have hr : CR.fail [86] = r := hr; rw [← hr] at hgood; exact hgood.elim
      | some vs =>
        rw [hres] at hr; have hr : CR.ret (one vs) h = r := hr
        subst hr
        obtain ⟨v, hrun, hv⟩ := results_ok L W hrs hres
        exact ⟨v, hrun, ρ, v, rfl, hv, W, S⟩
    | pan hv =>
      have hr : CR.pan _ h = r := hr
      subst hr
      cases hgo
      exact ⟨ρ, _, rfl, hv, W, S⟩
  | d :: ds, md, h, r, hr, hgood, hgo, ρ, w, u, ds', hds, L, W, S, hmd => by
    cases hds with
    | cons hd hds =>
      rename_i dd ds'
      obtain ⟨f, first, caps, first', caps', rfl, rfl, hf1, hf2⟩ := hd
      have hr : obind (tab f) (CR.fail [84]) (fun fn => AFunc.rec (motive := fun _ => CR) (fun n1 body rs1 => bi (Nat.beq n1 (llen (lapp first caps)))
        (List.rec (motive := fun _ => CR) (DR.rec (motive := fun _ => CR)
          (fun m _ h => Mode.rec (motive := fun _ => CR) (runD tab (evC tab n) (finish rs loc) ds Mode.ret h) (fun v r => bi r (runD tab (evC tab n) (finish rs loc) ds Mode.ret h) (runD tab (evC tab n) (finish rs loc) ds (Mode.pan v r) h)) m) (fun _ _ _ _ => CR.fail [85])
          (fun m h => Mode.rec (motive := fun _ => CR) (runD tab (evC tab n) (finish rs loc) ds Mode.ret h) (fun v r => bi r (runD tab (evC tab n) (finish rs loc) ds Mode.ret h) (runD tab (evC tab n) (finish rs loc) ds (Mode.pan v r) h)) m) CR.fail (evD (evC tab n) body md (initLoc (lapp first caps)) h)) (fun _ _ _ => CR.fail [93]) rs1) (CR.fail [92])) fn) = r := hr
      cases ht : tab f with
      | none => rw [ht] at hr; have hr : CR.fail [84] = r := hr; rw [← hr] at hgood; exact hgood.elim
      | some af =>
        rw [ht] at hr
        rcases htab f af ht with hcf | ⟨k0, rows, rfl, _⟩
        rotate_left
        · have hr : bi (Nat.beq k0 (llen (lapp first caps))) (CR.fail [93]) (CR.fail [92]) = r := hr
          rw [bi_eq] at hr
          split at hr <;> (rw [← hr] at hgood; exact hgood.elim)
        obtain ⟨fn1, c, hfn, hbody, hdst, hcb, hna, hcode, hres1⟩ := cFunc_some hcf
        obtain ⟨n1, body, rs1⟩ := af
        have hr : bi (Nat.beq n1 (llen (lapp first caps)))
          (List.rec (motive := fun _ => CR) (DR.rec (motive := fun _ => CR)
            (fun m _ h => Mode.rec (motive := fun _ => CR) (runD tab (evC tab n) (finish rs loc) ds Mode.ret h) (fun v r => bi r (runD tab (evC tab n) (finish rs loc) ds Mode.ret h) (runD tab (evC tab n) (finish rs loc) ds (Mode.pan v r) h)) m) (fun _ _ _ _ => CR.fail [85])
            (fun m h => Mode.rec (motive := fun _ => CR) (runD tab (evC tab n) (finish rs loc) ds Mode.ret h) (fun v r => bi r (runD tab (evC tab n) (finish rs loc) ds Mode.ret h) (runD tab (evC tab n) (finish rs loc) ds (Mode.pan v r) h)) m) CR.fail (evD (evC tab n) body md (initLoc (lapp first caps)) h)) (fun _ _ _ => CR.fail [93]) rs1) (CR.fail [92]) = r := hr
        rw [bi_eq] at hr
        split at hr
        · rename_i hlen
          cases rs1 with
          | cons _ _ => have hr : CR.fail [93] = r := hr; rw [← hr] at hgood; exact hgood.elim
          | nil =>
            have hlen := Nat.eq_of_beq_eq_true hlen
            rw [llen_eq, lapp_eq] at hlen
            have hna : n1 = fn1.params.size + fn1.nfree := hna
            have hra : VRs ρ (first ++ caps) (first' ++ caps') := hf1.append hf2
            have L1 := frame0_loc (fn := fn1) (c := c) (by omega) hra
            have hnil : fn1.results.toList = [] := by
              cases hl : fn1.results.toList with
              | nil => rfl
              | cons x l =>
                have hres1 : fn1.results.toList.mapM (cRes P (slots fn1 c)) = some [] := hres1
                rw [hl, List.mapM_cons] at hres1
                obtain ⟨_, _, h3⟩ := bindS hres1
                obtain ⟨_, _, h3⟩ := bindS h3
                cases h3
            have hnil2 : fn1.results = #[] := by apply Array.ext'; simpa using hnil
            have hrun0 : ∀ tm w1, (Go.results fn1 tm).run P w1 = .ok (.tuple #[]) w1 := fun tm w1 => by simp [Go.results, hnil2]
            have hr : (DR.rec (motive := fun _ => CR)
              (fun m _ h => Mode.rec (motive := fun _ => CR) (runD tab (evC tab n) (finish rs loc) ds Mode.ret h) (fun v r => bi r (runD tab (evC tab n) (finish rs loc) ds Mode.ret h) (runD tab (evC tab n) (finish rs loc) ds (Mode.pan v r) h)) m) (fun _ _ _ _ => CR.fail [85])
              (fun m h => Mode.rec (motive := fun _ => CR) (runD tab (evC tab n) (finish rs loc) ds Mode.ret h) (fun v r => bi r (runD tab (evC tab n) (finish rs loc) ds Mode.ret h) (runD tab (evC tab n) (finish rs loc) ds (Mode.pan v r) h)) m) CR.fail (evD (evC tab n) body md (initLoc (lapp first caps)) h)) = r := hr
            have hu : u ≠ .run := by cases hmd <;> simp
            have hinv : ∀ w, (invoke (.fn (.func f) caps'.toArray) first'.toArray).run P w = .ok (.enter f (first' ++ caps').toArray) w := by
              intro w
              simp only [invoke, run_callFunc hcb]
              congr 2
              apply Array.ext'
              simp
            refine leaves_cons hu (hinv w) ?_
            rw [lapp_eq] at hr
            -- what the deferred call leaves behind
            have go : ∀ (md1 : Mode) (h1 : AH) (ρ1 : Rho) (u1 : FrameMode) (w1 : World), (Mode.rec (motive := fun _ => CR) (runD tab (evC tab n) (finish rs loc) ds Mode.ret h1) (fun v r => bi r (runD tab (evC tab n) (finish rs loc) ds Mode.ret h1) (runD tab (evC tab n) (finish rs loc) ds (Mode.pan v r) h1)) md1) = r →
                ModeR ρ1 md1 u1 → WR ρ1 h1 w1 → Step ρ h w ρ1 h1 w1 → Leaves P fn a.tmps (RC ρ0 h0 w0 r) ds' (settle u1) w1 := by
              intro md1 h1 ρ1 u1 w1 hr1 hm1 W1 S1
              cases hm1 with
              | ret => exact run_defers htab A hrs ds .ret h1 r hr1 hgood .ret ρ1 w1 _ ds' (hds.mono S1.le) (L.mono S1.le) W1 (S.trans S1) .ret
              | pan hv =>
                rename_i v v' rc
                cases rc with
                | true => exact run_defers htab A hrs ds .ret h1 r hr1 hgood .ret ρ1 w1 _ ds' (hds.mono S1.le) (L.mono S1.le) W1 (S.trans S1) .ret
                | false => exact run_defers htab A hrs ds (.pan v false) h1 r hr1 hgood (.pan v) ρ1 w1 _ ds' (hds.mono S1.le) (L.mono S1.le) W1 (S.trans S1) (.pan hv)
            refine callsD_of_wpS hfn hbody fun c0 cs hc0 => ?_
            have hc0' : c0 = { c0 with mode := u } := by subst hc0; rfl
            have D := evD_ok A c body (slots fn1 c) fn1.ntmps hcode hdst md (initLoc (first ++ caps)) h _ rfl
            cases hev : evD (evC tab n) body md (initLoc (first ++ caps)) h with
            | fail l => rw [hev] at hr; have hr : CR.fail l = r := hr; rw [← hr] at hgood; exact hgood.elim
            | exit id md1 l1 h1 => rw [hev] at hr; have hr : CR.fail [85] = r := hr; rw [← hr] at hgood; exact hgood.elim
            | norm md1 l1 h1 =>
              rw [hev] at hr D
              have D := D trivial ρ (frame0 fn1 (first' ++ caps')) w u c0 cs L1 W rfl (frame0_size _ _) hmd
              rw [← hc0'] at D
              refine wpS_mono D fun e a' cs' w' q => ?_
              cases e <;> try exact q.elim
              obtain ⟨ρ1, u1, q1, q2, q3, q4, q5, q6, q7⟩ := q
              exact ⟨q4, u1, q1, _, hrun0 _ _, go md1 h1 ρ1 u1 w' hr q2 q5 q6⟩
            | ret md1 h1 =>
              rw [hev] at hr D
              have D := D trivial ρ (frame0 fn1 (first' ++ caps')) w u c0 cs L1 W rfl (frame0_size _ _) hmd
              rw [← hc0'] at D
              refine wpS_mono D fun e a' cs' w' q => ?_
              cases e <;> try exact q.elim
              obtain ⟨ρ1, u1, q1, q2, q4, q5, q6, q7⟩ := q
              exact ⟨q4, u1, q1, _, hrun0 _ _, go md1 h1 ρ1 u1 w' hr q2 q5 q6⟩
        · have hr : CR.fail [92] = r := hr; rw [← hr] at hgood; exact hgood.elim
end
end Go.Ev

namespace Go.Ev
open Go
section
variable {P : Program} {tab : Nat → Option AFunc}
theorem defs_nil {ρ : Rho} {ds : List Deferred} (h : DefsR ρ [] ds) : ds = [] := by cases h; rfl
theorem call_run {n : Nat} (htab : TabOK P tab) (A : CodeOK P tab n) {f : Nat} {args : List AV} {h : AH} {r : CR} (hr : evCall tab (evC tab n) f args h = r) (hgood : r.good) :
    callable P f = true ∧ ∀ {ρ : Rho} {w : World} {args' : List Value}, VRs ρ args args' → WR ρ h w → Calls P f args'.toArray w (RC ρ h w r) := by
  have hr : obind (tab f) (CR.fail [87, f]) (fun fn => AFunc.rec (motive := fun _ => CR) (fun n1 body rs => bi (Nat.beq n1 (llen args))
    (Res.rec (motive := fun _ => CR) (fun loc d h => runD tab (evC tab n) (finish rs loc) d Mode.ret h) (fun _ _ _ _ => CR.fail [88]) (fun loc d h => runD tab (evC tab n) (finish rs loc) d Mode.ret h)
      (fun v loc d h => runD tab (evC tab n) (finish rs loc) d (Mode.pan v false) h) (fun l => CR.fail (f :: l)) (evC tab n body (initLoc args) [] h)) (CR.fail [92])) fn) = r := hr
  cases ht : tab f with
  | none => rw [ht] at hr; have hr : CR.fail [87, f] = r := hr; rw [← hr] at hgood; exact hgood.elim
  | some af =>
    rw [ht] at hr
    rcases htab f af ht with hcf | ⟨k0, rows, rfl, hyes⟩
    rotate_left
    · have hr : bi (Nat.beq k0 (llen args)) (Res.rec (motive := fun _ => CR) (fun loc d h => runD tab (evC tab n) (finish [.val (.l 0)] loc) d Mode.ret h) (fun _ _ _ _ => CR.fail [88]) (fun loc d h => runD tab (evC tab n) (finish [.val (.l 0)] loc) d Mode.ret h)
        (fun v loc d h => runD tab (evC tab n) (finish [.val (.l 0)] loc) d (Mode.pan v false) h) (fun l => CR.fail (f :: l)) (evC tab n (.ops [⟨.known rows (slotsL k0 0), none, some 0, []⟩]) (initLoc args) [] h)) (CR.fail [92]) = r := hr
      rw [bi_eq] at hr
      split at hr
      · rename_i hlen
        have hlen := Nat.eq_of_beq_eq_true hlen
        rw [llen_eq] at hlen
        cases n with
        | zero => have hr : CR.fail [f, 91] = r := hr; rw [← hr] at hgood; exact hgood.elim
        | succ n =>
          have hargs : evs (initLoc args) [] (slotsL k0 0) = args := by
            show evs (ofList args) [] (slotsL k0 0) = args
            rw [evs_slots k0 0 args (by omega), hlen]; simp
          have hev : evOp (.known rows (slotsL k0 0)) (initLoc args) [] h = obind (findRow args rows) (F 67) fun v => OR.val v h := by
            show obind (findRow (evs (initLoc args) [] (slotsL k0 0)) rows) (F 67) (fun v => OR.val v h) = _
            rw [hargs]
          have hC : evC tab (n + 1) (.ops [⟨.known rows (slotsL k0 0), none, some 0, []⟩]) (initLoc args) [] h = (OR.rec (motive := fun _ => Res) (fun v h => Res.norm (T.put (some v) (initLoc args) 0) [] h)
              (opEnter (evCall tab (evC tab n)) [⟨.known rows (slotsL k0 0), none, some 0, []⟩] (initLoc args) (evOps (evCall tab (evC tab n)) [⟨.known rows (slotsL k0 0), none, some 0, []⟩] (initLoc args) []) (initLoc args) [] [] h (some 0) [])
              (opPan [⟨.known rows (slotsL k0 0), none, some 0, []⟩] (initLoc args) [] h) (opDfr (evOps (evCall tab (evC tab n)) [⟨.known rows (slotsL k0 0), none, some 0, []⟩] (initLoc args) []) (initLoc args) [] [] h (some 0)) opFail (evOp (.known rows (slotsL k0 0)) (initLoc args) [] h) : Res) := rfl
          rw [hC, hev] at hr
          cases hf : findRow args rows with
          | none => rw [hf] at hr; have hr : CR.fail [f, 67] = r := hr; rw [← hr] at hgood; exact hgood.elim
          | some v =>
            rw [hf] at hr
            have hr : obind (some [ev (T.put (some v) (initLoc args) 0) [] (.l 0)]) (CR.fail [86]) (fun l => CR.ret (one l) h) = r := hr
            have hv : ev (T.put (some v) (initLoc args) 0) [] (.l 0) = v := by
              show obind (T.get (T.put (some v) (initLoc args) 0) 0) AV.bad (fun v => v) = v
              rw [T.get_put_self]; rfl
            rw [hv] at hr
            have hr : CR.ret v h = r := hr
            subst hr
            obtain ⟨rw', hm, h1, h2⟩ := findRow_some hf
            refine ⟨hyes.1, fun {ρ w args'} ha W => ?_⟩
            have hs := hyes.2 rw' hm
            rw [h1, h2] at hs
            refine Calls.mono (hs w ρ args' ha) fun e w' he => ?_
            obtain ⟨v', he, hvr, hs, hf, ho, hta, hout⟩ := he
            refine ⟨ρ, v', he, hvr, ⟨fun {id o b p s} h1 h2 => ?_, W.inj, fun {id x} h1 => ⟨(W.dom h1).1, Nat.lt_of_lt_of_le (W.dom h1).2 hs⟩, W.fresh⟩,
              ⟨ρ.le_refl, fun _ k => k, fun hk _ => hf _ hk, hs, ho, hta, hout, Nat.le_refl _, fun _ _ => rfl, fun a b => absurd a b⟩⟩
            rw [hf b (W.dom h2).2]
            exact W.obj h1 h2
      · have hr : CR.fail [92] = r := hr; rw [← hr] at hgood; exact hgood.elim
    obtain ⟨fn, c, hfn, hbody, hdst, hcb, hna, hcode, hres⟩ := cFunc_some hcf
    obtain ⟨n1, body, rs⟩ := af
    have hr : bi (Nat.beq n1 (llen args))
      (Res.rec (motive := fun _ => CR) (fun loc d h => runD tab (evC tab n) (finish rs loc) d Mode.ret h) (fun _ _ _ _ => CR.fail [88]) (fun loc d h => runD tab (evC tab n) (finish rs loc) d Mode.ret h)
        (fun v loc d h => runD tab (evC tab n) (finish rs loc) d (Mode.pan v false) h) (fun l => CR.fail (f :: l)) (evC tab n body (initLoc args) [] h)) (CR.fail [92]) = r := hr
    rw [bi_eq] at hr
    split at hr
    · rename_i hlen
      refine ⟨hcb, fun {ρ w args'} ha W => ?_⟩
      have hlen := Nat.eq_of_beq_eq_true hlen
      rw [llen_eq] at hlen
      have hna : n1 = fn.params.size + fn.nfree := hna
      have L1 := frame0_loc (fn := fn) (c := c) (ρ := ρ) (args' := args') (by omega) ha
      refine calls_of_wp_defers hfn hbody ?_
      have X := A (slots fn c) fn.ntmps c body hcode hdst (initLoc args) [] h _ rfl
      cases hev : evC tab n body (initLoc args) [] h with
      | fail l => rw [hev] at hr; have hr : CR.fail (f :: l) = r := hr; rw [← hr] at hgood; exact hgood.elim
      | exit id l d h1 => rw [hev] at hr; have hr : CR.fail [88] = r := hr; rw [← hr] at hgood; exact hgood.elim
      | norm l d h1 =>
        rw [hev] at hr X
        refine wp_mono (X trivial ρ (frame0 fn args') w L1 W .nil (frame0_size _ _)) fun e a' w' q => ?_
        cases e <;> try exact q.elim
        obtain ⟨ρ1, q1, q2, q3, q4, q5⟩ := q
        exact run_defers htab A hres d .ret h1 r hr hgood .ret ρ1 w' _ a'.defers q2 q1 q3 q4 .ret
      | ret l d h1 =>
        rw [hev] at hr X
        refine wp_mono (X trivial ρ (frame0 fn args') w L1 W .nil (frame0_size _ _)) fun e a' w' q => ?_
        cases e <;> try exact q.elim
        obtain ⟨ρ1, q1, q2, q3, q4, q5⟩ := q
        exact run_defers htab A hres d .ret h1 r hr hgood .ret ρ1 w' _ a'.defers q2 q1 q3 q4 .ret
      | pan v l d h1 =>
        rw [hev] at hr X
        refine wp_mono (X trivial ρ (frame0 fn args') w L1 W .nil (frame0_size _ _)) fun e a' w' q => ?_
        cases e <;> try exact q.elim
        obtain ⟨ρ1, v', rfl, qv, q1, q2, q3, q4, q5⟩ := q
        exact run_defers htab A hres d (.pan v false) h1 r hr hgood (.pan v) ρ1 w' _ a'.defers q2 q1 q3 q4 (.pan qv)
    · have hr : CR.fail [92] = r := hr; rw [← hr] at hgood; exact hgood.elim
theorem call_ok {n : Nat} (htab : TabOK P tab) (A : CodeOK P tab n) : CallOK P (evCall tab (evC tab n)) := by
  refine ⟨fun {f args h} hne => ?_, fun {f args h ρ w args'} ha W => ?_⟩
  · refine (call_run htab A (f := f) (args := args) (h := h) rfl ?_).1
    cases hc : evCall tab (evC tab n) f args h with
    | fail l => exact absurd hc (hne l)
    | ret v h => trivial
    | pan v h => trivial
  · cases hc : evCall tab (evC tab n) f args h with
    | fail l => trivial
    | ret v h' => exact (call_run htab A hc trivial).2 ha W
    | pan v h' => exact (call_run htab A hc trivial).2 ha W
theorem all_ok (hm : P.follows .mixedOrders = true) (htab : TabOK P tab) : ∀ n, CodeOK P tab n ∧ LoopOK P tab n
  | 0 => by
    refine ⟨?_, ?_⟩
    · intro m N c c' hc hd loc d h r hr hgood
      have hr : Res.fail [91] = r := hr
      rw [← hr] at hgood; exact hgood.elim
    · intro m N c c' hc hd loc d h r hr hgood
      have hr : Res.fail [91] = r := hr
      rw [← hr] at hgood; exact hgood.elim
  | n + 1 => by
    obtain ⟨A, B⟩ := all_ok hm htab n
    exact code_step hm (call_ok htab A) A B
/-- what the abstract machine says a call comes to, the model does -/
theorem evF_ok (hm : P.follows .mixedOrders = true) (htab : TabOK P tab) {n f : Nat} {args : List AV} {h : AH} {r : CR} (hr : evF tab n f args h = r) (hgood : r.good)
    {ρ : Rho} {w : World} {args' : List Value} (ha : VRs ρ args args') (W : WR ρ h w) : Calls P f args'.toArray w (RC ρ h w r) :=
  (call_run htab (all_ok hm htab n).1 hr hgood).2 ha W
/-- values without memory -/
noncomputable def pureV (v : AV) : Bool := AV.rec (motive_1 := fun _ => Bool) (motive_2 := fun _ => Bool) true (fun _ => true) (fun _ _ => true) (fun _ _ => true) (fun _ _ => false) true (fun _ _ _ _ => false) true (fun _ => false) true (fun _ a b ia ib => ia && ib) true (fun _ _ i => i) true (fun _ i => i) (fun _ i => i) true (fun _ _ i j => i && j) v
mutual
theorem VR.pure {ρ ρ' : Rho} : ∀ {a : AV} {v : Value}, pureV a = true → VR ρ a v → VR ρ' a v
  | _, _, _, .bad v => .bad v
  | _, _, _, .bool b => .bool b
  | _, _, _, .int k n => .int k n
  | _, _, _, .str s e1 e2 => .str s e1 e2
  | _, _, h, .ptr e p => by cases h
  | _, _, _, .nilp => .nilp
  | _, _, h, .sl e p c => by cases h
  | _, _, h, .slz => by cases h
  | _, _, h, .sle => by cases h
  | _, _, _, .nils => .nils
  | _, _, h, .mp e => by cases h
  | _, _, _, .nilm => .nilm
  | _, _, h, .fn a c x y => .fn (VRs.pure (Bool.and_eq_true _ _ ▸ (show (_ && _) = true from h)).1 a) (VRs.pure (Bool.and_eq_true _ _ ▸ (show (_ && _) = true from h)).2 c) x y
  | _, _, _, .nilf => .nilf
  | _, _, h, .ifc v => .ifc (VR.pure h v)
  | _, _, _, .nili => .nili
  | _, _, h, .agg l x => .agg (VCs.pure h l) x
  | _, _, h, .tup l x => .tup (VRs.pure h l) x
theorem VRs.pure {ρ ρ' : Rho} : ∀ {l : List AV} {l' : List Value}, pureV (.tup l) = true → VRs ρ l l' → VRs ρ' l l'
  | _, _, _, .nil => .nil
  | _, _, h, .cons a r => .cons (VR.pure (Bool.and_eq_true _ _ ▸ (show (_ && _) = true from h)).1 a) (VRs.pure (Bool.and_eq_true _ _ ▸ (show (_ && _) = true from h)).2 r)
theorem VCs.pure {ρ ρ' : Rho} : ∀ {l : List AV} {l' : List Value}, pureV (.tup l) = true → VCs ρ l l' → VCs ρ' l l'
  | _, _, _, .nil => .nil
  | _, _, h, .cons c a r => .cons c (VR.pure (Bool.and_eq_true _ _ ▸ (show (_ && _) = true from h)).1 a) (VCs.pure (Bool.and_eq_true _ _ ▸ (show (_ && _) = true from h)).2 r)
end
/-- from nothing -/
theorem WR.empty (w : World) : WR (fun _ => none) (AH.mk T.leaf 0) w := by
  refine ⟨fun h _ => ?_, fun h _ _ _ _ => ?_, fun h => ?_, fun _ => T.get_leaf _⟩
  · rw [T.get_leaf] at h; cases h
  · rw [T.get_leaf] at h; cases h
  · cases h
/-- an answer that the abstract machine gives of arguments without memory -/
theorem says_of {n f : Nat} {args : List AV} {v : AV} {h' : AH} (hm : P.follows .mixedOrders = true) (htab : TabOK P tab) (hr : evF tab n f args (AH.mk T.leaf 0) = .ret v h') (hp : pureV (.tup args) = true) (hv : pureV v = true) : SaysV P f args v := by
  intro w ρ args' ha
  refine Calls.mono (evF_ok hm htab hr trivial (ρ := fun _ => none) (args' := args') (ha.pure hp) (WR.empty w)) fun e w' he => ?_
  obtain ⟨ρ', v', rfl, hv', W', S'⟩ := he
  refine ⟨v', rfl, hv'.pure hv, S'.size, fun k hk => S'.frame hk ?_, S'.os, S'.tape, S'.output⟩
  rintro ⟨id, o, p, s, h1, _⟩
  rw [T.get_leaf] at h1; cases h1
/-- a call without arguments that answers a truth -/
theorem evF_bool (hm : P.follows .mixedOrders = true) (htab : TabOK P tab) {n f : Nat} {b : Bool} {h' : AH} (hr : evF tab n f [] (AH.mk T.leaf 0) = .ret (.bool b) h') (w : World) :
    Calls P f #[] w fun e w' => e = .returned (.bool b) ∧ w.heap.size ≤ w'.heap.size ∧ (∀ k, k < w.heap.size → w'.heap[k]? = w.heap[k]?) ∧ w'.os = w.os ∧ w'.tape = w.tape ∧ w'.output = w.output := by
  refine Calls.mono (evF_ok hm htab hr trivial (ρ := fun _ => none) (args' := []) .nil (WR.empty w)) fun e w' he => ?_
  obtain ⟨ρ', v', rfl, hv, W', S'⟩ := he
  cases hv
  refine ⟨rfl, S'.size, fun k hk => S'.frame hk ?_, S'.os, S'.tape, S'.output⟩
  rintro ⟨id, o, p, s, h1, _⟩
  rw [T.get_leaf] at h1; cases h1
end
end Go.Ev

namespace Go.Ev
open Go
inductive AllT {α : Type} (Q : Nat → α → Prop) : T α → (Nat → Nat) → Prop
  | leaf {g : Nat → Nat} : AllT Q .leaf g
  | node {v : Option α} {l r : T α} {g : Nat → Nat} : (∀ a, v = some a → Q (g 0) a) → AllT Q l (fun j => g (2 * j + 1)) → AllT Q r (fun j => g (2 * j + 2)) → AllT Q (.node v l r) g
theorem AllT.get {α : Type} {Q : Nat → α → Prop} {t : T α} {g : Nat → Nat} (h : AllT Q t g) : ∀ {k : Nat} {a : α}, t.get k = some a → Q (g k) a := by
  induction h with
  | leaf => intro k a e; rw [T.get_leaf] at e; cases e
  | node hv _ _ il ir =>
    intro k a e
    cases k with
    | zero => exact hv a e
    | succ k =>
      rw [T.get_succ] at e
      split at e
      · rename_i hk
        have := il e
        have h2 : 2 * (k / 2) + 1 = k + 1 := by omega
        simp only [h2] at this
        exact this
      · rename_i hk
        have := ir e
        have h2 : 2 * (k / 2) + 2 = k + 1 := by omega
        simp only [h2] at this
        exact this
theorem entE {P : Program} {k : Nat} {x : AFunc} (h : cFunc P k = some x) : ∀ a, some x = some a → cFunc P k = some a := fun a e => by rw [h, e]
theorem noE {P : Program} {k : Nat} : ∀ a : AFunc, (none : Option AFunc) = some a → cFunc P k = some a := fun a e => by cases e
noncomputable def isTrue (c : CR) : Bool := CR.rec (motive := fun _ => Bool) (fun v _ => AV.on false (fun b => b) (fun _ _ => false) (fun _ _ => false) (fun _ _ => false) false (fun _ _ _ _ => false) false (fun _ => false) false (fun _ _ _ => false) false (fun _ _ => false) false (fun _ => false) (fun _ => false) v) (fun _ _ => false) (fun _ => false) c
theorem isTrue_eq {c : CR} (h : isTrue c = true) : ∃ h', c = .ret (.bool true) h' := by
  cases c with
  | ret v h' =>
    cases v <;> try (cases h; done)
    rename_i b
    have h : b = true := h
    subst h
    exact ⟨h', rfl⟩
  | _ => cases h
theorem truth_ok {P : Program} {tab : Nat → Option AFunc} (hm : P.follows .mixedOrders = true) (htab : TabOK P tab) {n f : Nat} (h : isTrue (evF tab n f [] (AH.mk T.leaf 0)) = true) (w : World) :
    Calls P f #[] w fun e w' => e = .returned (.bool true) ∧ w.heap.size ≤ w'.heap.size ∧ (∀ k, k < w.heap.size → w'.heap[k]? = w.heap[k]?) ∧ w'.os = w.os ∧ w'.tape = w.tape ∧ w'.output = w.output := by
  obtain ⟨h', hr⟩ := isTrue_eq h
  exact evF_bool hm htab hr w
noncomputable def isV (v : AV) (c : CR) : Bool := CR.rec (motive := fun _ => Bool) (fun u _ => same u v) (fun _ _ => false) (fun _ => false) c
theorem isV_eq {v : AV} {c : CR} (h : isV v c = true) : ∃ h', c = .ret v h' := by
  cases c with
  | ret u h' => exact ⟨h', by rw [same_eq (show same u v = true from h)]⟩
  | _ => cases h
/-- each row is what the abstract machine says -/
noncomputable def allV (tab : Nat → Option AFunc) (f : Nat) (rows : List (List AV × AV)) : Bool := List.rec (motive := fun _ => Bool) true (fun r _ ih => bi (isV r.2 (evF tab 1000000 f r.1 (AH.mk T.leaf 0))) ih false) rows
noncomputable def allP (rows : List (List AV × AV)) : Bool := List.rec (motive := fun _ => Bool) true (fun r _ ih => bi (pureV (.tup r.1)) (bi (pureV r.2) ih false) false) rows
theorem known_of {P : Program} {tab : Nat → Option AFunc} (hm : P.follows .mixedOrders = true) (htab : TabOK P tab) {f : Nat} (hc : callable P f = true) : ∀ {rows : List (List AV × AV)}, allV tab f rows = true → allP rows = true → Known P f rows
  | [], _, _ => ⟨hc, fun r hr => by cases hr⟩
  | r :: rows, h, hp => by
    have h : bi (isV r.2 (evF tab 1000000 f r.1 (AH.mk T.leaf 0))) (allV tab f rows) false = true := h
    have hp : bi (pureV (.tup r.1)) (bi (pureV r.2) (allP rows) false) false = true := hp
    rw [bi_eq] at h hp
    split at h
    · rename_i h1
      split at hp
      · rename_i p1
        rw [bi_eq] at hp
        split at hp
        · rename_i p2
          obtain ⟨h', he⟩ := isV_eq h1
          refine ⟨hc, fun x hx => ?_⟩
          cases hx with
          | head => exact says_of hm htab he p1 p2
          | tail _ hx => exact (known_of hm htab hc h hp).2 x hx
        · cases hp
      · cases hp
    · cases h
theorem Known.app {P : Program} {f : Nat} {a b : List (List AV × AV)} (x : Known P f a) (y : Known P f b) : Known P f (a ++ b) :=
  ⟨x.1, fun r hr => by rcases List.mem_append.1 hr with h | h; exact x.2 r h; exact y.2 r h⟩
/-- an entry more -/
theorem TabOK.log {P : Program} {t : T AFunc} (h : TabOK P (fun f => T.get t f)) {n k m : Nat} {rows : List (List AV × AV)} (hk : Known P k rows) : TabOK P (fun f => T.get (T.log n k (some (knownF m rows)) t) f) := by
  intro f af e0
  have e : (T.log n k (some (knownF m rows)) t).get f = some af := e0
  clear e0
  rw [T.get_log] at e
  split at e
  · rename_i hf
    injection e with e1
    subst hf
    exact .inr ⟨m, rows, e1.symm, hk⟩
  · exact h f af e
/-- an anchor that holds, as an entry -/
theorem known_true {P : Program} {tab : Nat → Option AFunc} (hm : P.follows .mixedOrders = true) (htab : TabOK P tab) {n f : Nat} (hc : callable P f = true) (h : isTrue (evF tab n f [] (AH.mk T.leaf 0)) = true) : Known P f [([], .bool true)] := by
  obtain ⟨h', hr⟩ := isTrue_eq h
  exact ⟨hc, fun r hr' => by
    cases hr' with
    | head => exact says_of hm htab hr rfl rfl
    | tail _ hx => cases hx⟩
end Go.Ev

namespace Go.Ev
open Go
def LeC (f g : ACode → T AV → List AV → AH → Res) : Prop := ∀ c loc d h, (f c loc d h).good → g c loc d h = f c loc d h
def LeK (f g : Nat → List AV → AH → CR) : Prop := ∀ k args h, (f k args h).good → g k args h = f k args h
theorem evOps_mono {f g : Nat → List AV → AH → CR} (H : LeK f g) {whole : List AOper} {loc0 : T AV} : ∀ (l : List AOper) (loc : T AV) (tmp d : List AV) (h : AH), (evOps f whole loc0 l loc tmp d h).good → evOps g whole loc0 l loc tmp d h = evOps f whole loc0 l loc tmp d h
  | [], loc, tmp, d, h, hg => rfl
  | ⟨op, gd, out, re⟩ :: l, loc, tmp, d, h, hg => by
    have e : ∀ k : Nat → List AV → AH → CR, evOps k whole loc0 (⟨op, gd, out, re⟩ :: l) loc tmp d h = obind (guardB loc tmp gd) (Res.fail [70]) (fun q => bi q
      (OR.rec (motive := fun _ => Res)
        (fun v h => bi (reads loc tmp h re) (evOps k whole loc0 l (putOut out v loc) (v :: tmp) d h) (Res.fail [71]))
        (fun f args => CR.rec (motive := fun _ => Res) (fun v h => bi (reads loc tmp h re) (evOps k whole loc0 l (putOut out v loc) (v :: tmp) d h) (Res.fail [71])) (fun v h => Res.pan v (forget whole loc0) d h) (fun l => Res.fail l) (k f args h))
        (fun v => Res.pan v (forget whole loc0) d h)
        (fun v => evOps k whole loc0 l (putOut out (AV.tup []) loc) (AV.tup [] :: tmp) (v :: d) h)
        (fun n => Res.fail [n]) (evOp op loc tmp h)) (evOps k whole loc0 l (putOut out (AV.tup []) loc) (AV.tup [] :: tmp) d h)) := fun _ => rfl
    rw [e] at hg
    rw [e, e]
    cases hgd : guardB loc tmp gd with
    | none => rfl
    | some q =>
      rw [hgd] at hg
      cases q with
      | false => exact evOps_mono H l _ _ _ _ hg
      | true =>
        have hg : (OR.rec (motive := fun _ => Res)
          (fun v h => bi (reads loc tmp h re) (evOps f whole loc0 l (putOut out v loc) (v :: tmp) d h) (Res.fail [71]))
          (fun fn args => CR.rec (motive := fun _ => Res) (fun v h => bi (reads loc tmp h re) (evOps f whole loc0 l (putOut out v loc) (v :: tmp) d h) (Res.fail [71])) (fun v h => Res.pan v (forget whole loc0) d h) (fun l => Res.fail l) (f fn args h))
          (fun v => Res.pan v (forget whole loc0) d h)
          (fun v => evOps f whole loc0 l (putOut out (AV.tup []) loc) (AV.tup [] :: tmp) (v :: d) h)
          (fun n => Res.fail [n]) (evOp op loc tmp h) : Res).good := hg
        show (OR.rec (motive := fun _ => Res)
          (fun v h => bi (reads loc tmp h re) (evOps g whole loc0 l (putOut out v loc) (v :: tmp) d h) (Res.fail [71]))
          (fun f args => CR.rec (motive := fun _ => Res) (fun v h => bi (reads loc tmp h re) (evOps g whole loc0 l (putOut out v loc) (v :: tmp) d h) (Res.fail [71])) (fun v h => Res.pan v (forget whole loc0) d h) (fun l => Res.fail l) (g f args h))
          (fun v => Res.pan v (forget whole loc0) d h)
          (fun v => evOps g whole loc0 l (putOut out (AV.tup []) loc) (AV.tup [] :: tmp) (v :: d) h)
          (fun n => Res.fail [n]) (evOp op loc tmp h) : Res) = (OR.rec (motive := fun _ => Res)
          (fun v h => bi (reads loc tmp h re) (evOps f whole loc0 l (putOut out v loc) (v :: tmp) d h) (Res.fail [71]))
          (fun fn args => CR.rec (motive := fun _ => Res) (fun v h => bi (reads loc tmp h re) (evOps f whole loc0 l (putOut out v loc) (v :: tmp) d h) (Res.fail [71])) (fun v h => Res.pan v (forget whole loc0) d h) (fun l => Res.fail l) (f fn args h))
          (fun v => Res.pan v (forget whole loc0) d h)
          (fun v => evOps f whole loc0 l (putOut out (AV.tup []) loc) (AV.tup [] :: tmp) (v :: d) h)
          (fun n => Res.fail [n]) (evOp op loc tmp h) : Res)
        cases ho : evOp op loc tmp h with
        | val v h' =>
          rw [ho] at hg
          have hg : (bi (reads loc tmp h' re) (evOps f whole loc0 l (putOut out v loc) (v :: tmp) d h') (Res.fail [71])).good := hg
          show bi (reads loc tmp h' re) (evOps g whole loc0 l (putOut out v loc) (v :: tmp) d h') (Res.fail [71]) = bi (reads loc tmp h' re) (evOps f whole loc0 l (putOut out v loc) (v :: tmp) d h') (Res.fail [71])
          cases hr : reads loc tmp h' re with
          | false => rfl
          | true => rw [hr] at hg; exact evOps_mono H l _ _ _ _ hg
        | enter fn args =>
          rw [ho] at hg
          have hg : (CR.rec (motive := fun _ => Res) (fun v h => bi (reads loc tmp h re) (evOps f whole loc0 l (putOut out v loc) (v :: tmp) d h) (Res.fail [71])) (fun v h => Res.pan v (forget whole loc0) d h) (fun l => Res.fail l) (f fn args h) : Res).good := hg
          show (CR.rec (motive := fun _ => Res) (fun v h => bi (reads loc tmp h re) (evOps g whole loc0 l (putOut out v loc) (v :: tmp) d h) (Res.fail [71])) (fun v h => Res.pan v (forget whole loc0) d h) (fun l => Res.fail l) (g fn args h) : Res) =
            (CR.rec (motive := fun _ => Res) (fun v h => bi (reads loc tmp h re) (evOps f whole loc0 l (putOut out v loc) (v :: tmp) d h) (Res.fail [71])) (fun v h => Res.pan v (forget whole loc0) d h) (fun l => Res.fail l) (f fn args h) : Res)
          cases hc : f fn args h with
          | fail l => rw [hc] at hg; exact hg.elim
          | pan v h' => rw [H fn args h (by rw [hc]; trivial), hc]
          | ret v h' =>
            rw [H fn args h (by rw [hc]; trivial), hc]
            rw [hc] at hg
            have hg : (bi (reads loc tmp h' re) (evOps f whole loc0 l (putOut out v loc) (v :: tmp) d h') (Res.fail [71])).good := hg
            show bi (reads loc tmp h' re) (evOps g whole loc0 l (putOut out v loc) (v :: tmp) d h') (Res.fail [71]) = bi (reads loc tmp h' re) (evOps f whole loc0 l (putOut out v loc) (v :: tmp) d h') (Res.fail [71])
            cases hr : reads loc tmp h' re with
            | false => rfl
            | true => rw [hr] at hg; exact evOps_mono H l _ _ _ _ hg
        | pan v => rfl
        | dfr v => rw [ho] at hg; exact evOps_mono H l _ _ _ _ hg
        | fail n => rfl
theorem dPlain_mono {f g : ACode → T AV → List AV → AH → Res} (H : LeC f g) {c : ACode} {md : Mode} {loc : T AV} {h : AH} (hg : (dPlain f c md loc h).good) : dPlain g c md loc h = dPlain f c md loc h := by
  have : (f c loc [] h).good := by
    cases e : f c loc [] h with
    | fail l => unfold dPlain at hg; rw [e] at hg; exact hg.elim
    | _ => trivial
  unfold dPlain
  rw [H c loc [] h this]
theorem evD_mono {f g : ACode → T AV → List AV → AH → Res} (H : LeC f g) : ∀ (c : ACode) (md : Mode) (loc : T AV) (h : AH), (evD f c md loc h).good → evD g c md loc h = evD f c md loc h
  | .skip, md, loc, h, hg => dPlain_mono H hg
  | .ops l, md, loc, h, hg => dPlain_mono H hg
  | .recov o, md, loc, h, hg => rfl
  | .loop a, md, loc, h, hg => dPlain_mono H hg
  | .exit id, md, loc, h, hg => dPlain_mono H hg
  | .ret, md, loc, h, hg => dPlain_mono H hg
  | .seq a b, md, loc, h, hg => by
    have e : ∀ k, evD k (.seq a b) md loc h = (DR.rec (motive := fun _ => DR) (fun m loc h => evD k b m loc h) DR.exit DR.ret DR.fail (evD k a md loc h) : DR) := fun _ => rfl
    rw [e] at hg
    rw [e, e]
    cases h1 : evD f a md loc h with
    | fail l => rw [h1] at hg; exact hg.elim
    | norm md1 l1 h2 => rw [evD_mono H a md loc h (by rw [h1]; trivial), h1]; rw [h1] at hg; exact evD_mono H b _ _ _ hg
    | exit id md1 l1 h2 => rw [evD_mono H a md loc h (by rw [h1]; trivial), h1]
    | ret md1 h2 => rw [evD_mono H a md loc h (by rw [h1]; trivial), h1]
  | .cond c a b, md, loc, h, hg => by
    have e : ∀ k, evD k (.cond c a b) md loc h = AV.on (DR.fail [82]) (fun q => bi q (evD k a md loc h) (evD k b md loc h)) (fun _ _ => DR.fail [82]) (fun _ _ => DR.fail [82]) (fun _ _ => DR.fail [82]) (DR.fail [82]) (fun _ _ _ _ => DR.fail [82]) (DR.fail [82]) (fun _ => DR.fail [82]) (DR.fail [82]) (fun _ _ _ => DR.fail [82]) (DR.fail [82]) (fun _ _ => DR.fail [82]) (DR.fail [82]) (fun _ => DR.fail [82]) (fun _ => DR.fail [82]) (ev loc [] c) := fun _ => rfl
    rw [e] at hg
    rw [e, e]
    cases hv : ev loc [] c <;> rw [hv] at hg <;> try rfl
    rename_i q
    cases q with
    | true => exact evD_mono H a _ _ _ hg
    | false => exact evD_mono H b _ _ _ hg
  | .block id a, md, loc, h, hg => by
    have e : ∀ k, evD k (.block id a) md loc h = (DR.rec (motive := fun _ => DR) DR.norm (fun id' m loc h => bi (Nat.beq id id') (DR.norm m loc h) (DR.exit id' m loc h)) DR.ret DR.fail (evD k a md loc h) : DR) := fun _ => rfl
    rw [e] at hg
    rw [e, e]
    cases h1 : evD f a md loc h with
    | fail l => rw [h1] at hg; exact hg.elim
    | _ => rw [evD_mono H a md loc h (by rw [h1]; trivial), h1]
section
variable {tab : Nat → Option AFunc}
theorem runD_mono {f g : ACode → T AV → List AV → AH → Res} (H : LeC f g) {fin : Mode → AH → CR} : ∀ (ds : List AV) (md : Mode) (h : AH), (runD tab f fin ds md h).good → runD tab g fin ds md h = runD tab f fin ds md h
  | [], md, h, hg => rfl
  | d :: ds, md, h, hg => by
    have go : ∀ (m : Mode) (h : AH), (Mode.rec (motive := fun _ => CR) (runD tab f fin ds Mode.ret h) (fun v r => bi r (runD tab f fin ds Mode.ret h) (runD tab f fin ds (Mode.pan v r) h)) m : CR).good →
        (Mode.rec (motive := fun _ => CR) (runD tab g fin ds Mode.ret h) (fun v r => bi r (runD tab g fin ds Mode.ret h) (runD tab g fin ds (Mode.pan v r) h)) m : CR) = (Mode.rec (motive := fun _ => CR) (runD tab f fin ds Mode.ret h) (fun v r => bi r (runD tab f fin ds Mode.ret h) (runD tab f fin ds (Mode.pan v r) h)) m : CR) := by
      intro m h hg
      cases m with
      | ret => exact runD_mono H ds _ _ hg
      | pan v r =>
        cases r with
        | true => exact runD_mono H ds _ _ hg
        | false => exact runD_mono H ds _ _ hg
    cases d <;> try (exact hg.elim)
    rename_i fn first caps
    have e : ∀ k, runD tab k fin (AV.fn fn first caps :: ds) md h = obind (tab fn) (CR.fail [84]) (fun fn => AFunc.rec (motive := fun _ => CR) (fun n body rs => bi (Nat.beq n (llen (lapp first caps)))
      (List.rec (motive := fun _ => CR) (DR.rec (motive := fun _ => CR) (fun m _ h => (Mode.rec (motive := fun _ => CR) (runD tab k fin ds Mode.ret h) (fun v r => bi r (runD tab k fin ds Mode.ret h) (runD tab k fin ds (Mode.pan v r) h)) m)) (fun _ _ _ _ => CR.fail [85])
        (fun m h => (Mode.rec (motive := fun _ => CR) (runD tab k fin ds Mode.ret h) (fun v r => bi r (runD tab k fin ds Mode.ret h) (runD tab k fin ds (Mode.pan v r) h)) m)) CR.fail (evD k body md (initLoc (lapp first caps)) h)) (fun _ _ _ => CR.fail [93]) rs) (CR.fail [92])) fn) := fun _ => rfl
    rw [e] at hg
    rw [e, e]
    cases ht : tab fn with
    | none => rfl
    | some af =>
      rw [ht] at hg
      obtain ⟨n, body, rs⟩ := af
      have hg : (bi (Nat.beq n (llen (lapp first caps))) (List.rec (motive := fun _ => CR) (DR.rec (motive := fun _ => CR) (fun m _ h => (Mode.rec (motive := fun _ => CR) (runD tab f fin ds Mode.ret h) (fun v r => bi r (runD tab f fin ds Mode.ret h) (runD tab f fin ds (Mode.pan v r) h)) m)) (fun _ _ _ _ => CR.fail [85])
        (fun m h => (Mode.rec (motive := fun _ => CR) (runD tab f fin ds Mode.ret h) (fun v r => bi r (runD tab f fin ds Mode.ret h) (runD tab f fin ds (Mode.pan v r) h)) m)) CR.fail (evD f body md (initLoc (lapp first caps)) h)) (fun _ _ _ => CR.fail [93]) rs) (CR.fail [92])).good := hg
      show bi (Nat.beq n (llen (lapp first caps))) (List.rec (motive := fun _ => CR) (DR.rec (motive := fun _ => CR) (fun m _ h => (Mode.rec (motive := fun _ => CR) (runD tab g fin ds Mode.ret h) (fun v r => bi r (runD tab g fin ds Mode.ret h) (runD tab g fin ds (Mode.pan v r) h)) m)) (fun _ _ _ _ => CR.fail [85])
        (fun m h => (Mode.rec (motive := fun _ => CR) (runD tab g fin ds Mode.ret h) (fun v r => bi r (runD tab g fin ds Mode.ret h) (runD tab g fin ds (Mode.pan v r) h)) m)) CR.fail (evD g body md (initLoc (lapp first caps)) h)) (fun _ _ _ => CR.fail [93]) rs) (CR.fail [92]) =
        bi (Nat.beq n (llen (lapp first caps))) (List.rec (motive := fun _ => CR) (DR.rec (motive := fun _ => CR) (fun m _ h => (Mode.rec (motive := fun _ => CR) (runD tab f fin ds Mode.ret h) (fun v r => bi r (runD tab f fin ds Mode.ret h) (runD tab f fin ds (Mode.pan v r) h)) m)) (fun _ _ _ _ => CR.fail [85])
        (fun m h => (Mode.rec (motive := fun _ => CR) (runD tab f fin ds Mode.ret h) (fun v r => bi r (runD tab f fin ds Mode.ret h) (runD tab f fin ds (Mode.pan v r) h)) m)) CR.fail (evD f body md (initLoc (lapp first caps)) h)) (fun _ _ _ => CR.fail [93]) rs) (CR.fail [92])
      cases hb : Nat.beq n (llen (lapp first caps)) with
      | false => rfl
      | true =>
        rw [hb] at hg
        cases rs with
        | cons _ _ => rfl
        | nil =>
          cases hev : evD f body md (initLoc (lapp first caps)) h with
          | fail l => rw [hev] at hg; exact hg.elim
          | exit id md1 l1 h1 => rw [hev] at hg; exact hg.elim
          | norm md1 l1 h1 =>
            rw [evD_mono H body md _ h (by rw [hev]; trivial), hev]
            rw [hev] at hg
            exact go _ _ hg
          | ret md1 h1 =>
            rw [evD_mono H body md _ h (by rw [hev]; trivial), hev]
            rw [hev] at hg
            exact go _ _ hg
theorem evCall_mono {f g : ACode → T AV → List AV → AH → Res} (H : LeC f g) : LeK (evCall tab f) (evCall tab g) := by
  intro fn args h hg
  have e : ∀ k, evCall tab k fn args h = obind (tab fn) (CR.fail [87, fn]) (fun af => AFunc.rec (motive := fun _ => CR) (fun n1 body rs => bi (Nat.beq n1 (llen args))
    (Res.rec (motive := fun _ => CR) (fun loc d h => runD tab k (finish rs loc) d Mode.ret h) (fun _ _ _ _ => CR.fail [88]) (fun loc d h => runD tab k (finish rs loc) d Mode.ret h)
      (fun v loc d h => runD tab k (finish rs loc) d (Mode.pan v false) h) (fun l => CR.fail (fn :: l)) (k body (initLoc args) [] h)) (CR.fail [92])) af) := fun _ => rfl
  rw [e] at hg
  rw [e, e]
  cases ht : tab fn with
  | none => rfl
  | some af =>
    rw [ht] at hg
    obtain ⟨n, body, rs⟩ := af
    have hg : (bi (Nat.beq n (llen args)) (Res.rec (motive := fun _ => CR) (fun loc d h => runD tab f (finish rs loc) d Mode.ret h) (fun _ _ _ _ => CR.fail [88]) (fun loc d h => runD tab f (finish rs loc) d Mode.ret h)
      (fun v loc d h => runD tab f (finish rs loc) d (Mode.pan v false) h) (fun l => CR.fail (fn :: l)) (f body (initLoc args) [] h)) (CR.fail [92])).good := hg
    show bi (Nat.beq n (llen args)) (Res.rec (motive := fun _ => CR) (fun loc d h => runD tab g (finish rs loc) d Mode.ret h) (fun _ _ _ _ => CR.fail [88]) (fun loc d h => runD tab g (finish rs loc) d Mode.ret h)
      (fun v loc d h => runD tab g (finish rs loc) d (Mode.pan v false) h) (fun l => CR.fail (fn :: l)) (g body (initLoc args) [] h)) (CR.fail [92]) = bi (Nat.beq n (llen args)) (Res.rec (motive := fun _ => CR) (fun loc d h => runD tab f (finish rs loc) d Mode.ret h) (fun _ _ _ _ => CR.fail [88]) (fun loc d h => runD tab f (finish rs loc) d Mode.ret h)
      (fun v loc d h => runD tab f (finish rs loc) d (Mode.pan v false) h) (fun l => CR.fail (fn :: l)) (f body (initLoc args) [] h)) (CR.fail [92])
    cases hb : Nat.beq n (llen args) with
    | false => rfl
    | true =>
      rw [hb] at hg
      cases hev : f body (initLoc args) [] h with
      | fail l => rw [hev] at hg; exact hg.elim
      | exit id l d h1 => rw [hev] at hg; exact hg.elim
      | norm l d h1 => rw [H body _ _ h (by rw [hev]; trivial), hev]; rw [hev] at hg; exact runD_mono H _ _ _ hg
      | ret l d h1 => rw [H body _ _ h (by rw [hev]; trivial), hev]; rw [hev] at hg; exact runD_mono H _ _ _ hg
      | pan v l d h1 => rw [H body _ _ h (by rw [hev]; trivial), hev]; rw [hev] at hg; exact runD_mono H _ _ _ hg
theorem stepC_mono {f g : ACode → T AV → List AV → AH → Res} (H : LeC f g) : LeC (stepC tab f) (stepC tab g) := by
  intro c loc d h hg
  cases c with
  | skip => rfl
  | ops l => exact evOps_mono (evCall_mono H) l loc [] d h hg
  | recov o => rfl
  | exit id => rfl
  | ret => rfl
  | seq a b =>
    have e : ∀ k, stepC tab k (.seq a b) loc d h = (Res.rec (motive := fun _ => Res) (fun loc d h => k b loc d h) Res.exit Res.ret Res.pan Res.fail (k a loc d h) : Res) := fun _ => rfl
    rw [e] at hg
    rw [e, e]
    cases h1 : f a loc d h with
    | fail l => rw [h1] at hg; exact hg.elim
    | norm l1 d1 h2 => rw [H a loc d h (by rw [h1]; trivial), h1]; rw [h1] at hg; exact H b _ _ _ hg
    | _ => rw [H a loc d h (by rw [h1]; trivial), h1]
  | cond c a b =>
    have e : ∀ k, stepC tab k (.cond c a b) loc d h = AV.on (Res.fail [90]) (fun q => bi q (k a loc d h) (k b loc d h)) (fun _ _ => Res.fail [90]) (fun _ _ => Res.fail [90]) (fun _ _ => Res.fail [90]) (Res.fail [90]) (fun _ _ _ _ => Res.fail [90]) (Res.fail [90]) (fun _ => Res.fail [90]) (Res.fail [90]) (fun _ _ _ => Res.fail [90]) (Res.fail [90]) (fun _ _ => Res.fail [90]) (Res.fail [90]) (fun _ => Res.fail [90]) (fun _ => Res.fail [90]) (ev loc [] c) := fun _ => rfl
    rw [e] at hg
    rw [e, e]
    cases hv : ev loc [] c <;> rw [hv] at hg <;> try rfl
    rename_i q
    cases q with
    | true => exact H a _ _ _ hg
    | false => exact H b _ _ _ hg
  | block id a =>
    have e : ∀ k, stepC tab k (.block id a) loc d h = (Res.rec (motive := fun _ => Res) Res.norm (fun id' loc d h => bi (Nat.beq id id') (Res.norm loc d h) (Res.exit id' loc d h)) Res.ret Res.pan Res.fail (k a loc d h) : Res) := fun _ => rfl
    rw [e] at hg
    rw [e, e]
    cases h1 : f a loc d h with
    | fail l => rw [h1] at hg; exact hg.elim
    | _ => rw [H a loc d h (by rw [h1]; trivial), h1]
  | loop a =>
    have e : ∀ k, stepC tab k (.loop a) loc d h = (Res.rec (motive := fun _ => Res) (fun loc d h => k (.loop a) loc d h) Res.exit Res.ret Res.pan Res.fail (k a loc d h) : Res) := fun _ => rfl
    rw [e] at hg
    rw [e, e]
    cases h1 : f a loc d h with
    | fail l => rw [h1] at hg; exact hg.elim
    | norm l1 d1 h2 => rw [H a loc d h (by rw [h1]; trivial), h1]; rw [h1] at hg; exact H (.loop a) _ _ _ hg
    | _ => rw [H a loc d h (by rw [h1]; trivial), h1]
theorem evC_succ : ∀ n, LeC (evC tab n) (evC tab (n + 1))
  | 0 => fun c loc d h hg => hg.elim
  | n + 1 => stepC_mono (evC_succ n)
theorem evC_mono {n m : Nat} (h : n ≤ m) : LeC (evC tab n) (evC tab m) := by
  induction h with
  | refl => exact fun _ _ _ _ _ => rfl
  | step _ ih => intro c loc d h hg; rw [evC_succ _ c loc d h (by rw [ih c loc d h hg]; exact hg), ih c loc d h hg]
theorem evF_mono {n m : Nat} (h : n ≤ m) {f : Nat} {args : List AV} {hp : AH} {r : CR} (hr : evF tab n f args hp = r) (hg : r.good) : evF tab m f args hp = r := by
  subst hr
  exact evCall_mono (evC_mono h) f args hp hg
end
end Go.Ev

namespace Go.Ev
open Go
section
variable {tab : Nat → Option AFunc}
def Does (tab : Nat → Option AFunc) (c : ACode) (loc : T AV) (d : List AV) (h : AH) (r : Res) : Prop := r.good ∧ ∃ n, evC tab n c loc d h = r
def Gives (tab : Nat → Option AFunc) (f : Nat) (args : List AV) (h : AH) (r : CR) : Prop := r.good ∧ ∃ n, evF tab n f args h = r
theorem Does.at {c : ACode} {loc : T AV} {d : List AV} {h : AH} {r : Res} (x : Does tab c loc d h r) : ∃ n, ∀ m, n ≤ m → evC tab m c loc d h = r := by
  obtain ⟨hg, n, hn⟩ := x
  refine ⟨n, fun m hm => ?_⟩
  rw [evC_mono hm c loc d h (by rw [hn]; exact hg), hn]
variable {loc l1 : T AV} {d d1 : List AV} {h h1 : AH} {r : Res} {a b : ACode}
theorem does_skip : Does tab .skip loc d h (.norm loc d h) := ⟨trivial, 1, rfl⟩
theorem does_ret : Does tab .ret loc d h (.ret loc d h) := ⟨trivial, 1, rfl⟩
theorem does_exit {id : Nat} : Does tab (.exit id) loc d h (.exit id loc d h) := ⟨trivial, 1, rfl⟩
theorem does_seq (x : Does tab a loc d h (.norm l1 d1 h1)) (y : Does tab b l1 d1 h1 r) : Does tab (.seq a b) loc d h r := by
  obtain ⟨n, hn⟩ := x.at
  obtain ⟨m, hm⟩ := y.at
  refine ⟨y.1, max n m + 1, ?_⟩
  show (Res.rec (motive := fun _ => Res) (fun loc d h => evC tab (max n m) b loc d h) Res.exit Res.ret Res.pan Res.fail (evC tab (max n m) a loc d h) : Res) = r
  rw [hn _ (Nat.le_max_left _ _)]
  exact hm _ (Nat.le_max_right _ _)
def Res.out : Res → Prop
  | .norm _ _ _ => False
  | _ => True
theorem does_seq_out (x : Does tab a loc d h r) (ho : r.out) : Does tab (.seq a b) loc d h r := by
  obtain ⟨n, hn⟩ := x.at
  refine ⟨x.1, n + 1, ?_⟩
  show (Res.rec (motive := fun _ => Res) (fun loc d h => evC tab n b loc d h) Res.exit Res.ret Res.pan Res.fail (evC tab n a loc d h) : Res) = r
  rw [hn _ (Nat.le_refl _)]
  cases r <;> first | exact ho.elim | rfl
theorem does_cond {c : Opd} {q : Bool} (hc : ev loc [] c = .bool q) (x : Does tab (if q then a else b) loc d h r) : Does tab (.cond c a b) loc d h r := by
  obtain ⟨n, hn⟩ := x.at
  refine ⟨x.1, n + 1, ?_⟩
  show AV.on (Res.fail [90]) (fun q => bi q (evC tab n a loc d h) (evC tab n b loc d h)) (fun _ _ => Res.fail [90]) (fun _ _ => Res.fail [90]) (fun _ _ => Res.fail [90]) (Res.fail [90]) (fun _ _ _ _ => Res.fail [90]) (Res.fail [90]) (fun _ => Res.fail [90]) (Res.fail [90]) (fun _ _ _ => Res.fail [90]) (Res.fail [90]) (fun _ _ => Res.fail [90]) (Res.fail [90]) (fun _ => Res.fail [90]) (fun _ => Res.fail [90]) (ev loc [] c) = r
  rw [hc]
  have := hn n (Nat.le_refl _)
  cases q <;> exact this
def atBlock (id : Nat) : Res → Res
  | .exit id' l d h => if id = id' then .norm l d h else .exit id' l d h
  | r => r
theorem does_block {id : Nat} (x : Does tab a loc d h r) : Does tab (.block id a) loc d h (atBlock id r) := by
  obtain ⟨n, hn⟩ := x.at
  refine ⟨?_, n + 1, ?_⟩
  · have := x.1
    cases r <;> first | exact this | (simp only [atBlock]; split <;> trivial)
  show (Res.rec (motive := fun _ => Res) Res.norm (fun id' loc d h => bi (Nat.beq id id') (Res.norm loc d h) (Res.exit id' loc d h)) Res.ret Res.pan Res.fail (evC tab n a loc d h) : Res) = _
  rw [hn _ (Nat.le_refl _)]
  cases r with
  | exit id' l d h =>
    show bi (Nat.beq id id') _ _ = if id = id' then _ else _
    rw [bi_eq]
    by_cases he : id = id'
    · subst he; rw [if_pos (Nat.beq_refl _), if_pos rfl]
    · rw [if_neg he]
      have : Nat.beq id id' = false := by
        cases hb : Nat.beq id id' with
        | false => rfl
        | true => exact absurd (Nat.eq_of_beq_eq_true hb) he
      rw [this]; rfl
  | _ => rfl
theorem does_loop (x : Does tab a loc d h (.norm l1 d1 h1)) (y : Does tab (.loop a) l1 d1 h1 r) : Does tab (.loop a) loc d h r := by
  obtain ⟨n, hn⟩ := x.at
  obtain ⟨m, hm⟩ := y.at
  refine ⟨y.1, max n m + 1, ?_⟩
  show (Res.rec (motive := fun _ => Res) (fun loc d h => evC tab (max n m) (.loop a) loc d h) Res.exit Res.ret Res.pan Res.fail (evC tab (max n m) a loc d h) : Res) = r
  rw [hn _ (Nat.le_max_left _ _)]
  exact hm _ (Nat.le_max_right _ _)
theorem does_loop_out (x : Does tab a loc d h r) (ho : r.out) : Does tab (.loop a) loc d h r := by
  obtain ⟨n, hn⟩ := x.at
  refine ⟨x.1, n + 1, ?_⟩
  show (Res.rec (motive := fun _ => Res) (fun loc d h => evC tab n (.loop a) loc d h) Res.exit Res.ret Res.pan Res.fail (evC tab n a loc d h) : Res) = r
  rw [hn _ (Nat.le_refl _)]
  cases r <;> first | exact ho.elim | rfl
/-- a region, its calls answered by a table of its own -/
theorem does_ops {l : List AOper} {k : Nat → List AV → AH → CR} (hk : ∃ n, LeK k (evCall tab (evC tab n))) (hr : evOps k l loc l loc [] d h = r) (hg : r.good) : Does tab (.ops l) loc d h r := by
  obtain ⟨n, hn⟩ := hk
  refine ⟨hg, n + 1, ?_⟩
  show evOps (evCall tab (evC tab n)) l loc l loc [] d h = r
  rw [evOps_mono hn l loc [] d h (by rw [hr]; exact hg), hr]
/-- no calls -/
def noCall : Nat → List AV → AH → CR := fun _ _ _ => .fail [99]
theorem does_plain {l : List AOper} (hr : evOps noCall l loc l loc [] d h = r) (hg : r.good) : Does tab (.ops l) loc d h r := does_ops (k := noCall) ⟨0, fun _ _ _ hx => False.elim hx⟩ hr hg
end
end Go.Ev
