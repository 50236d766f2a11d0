/- What operations need of memory: nothing, what is there already, or a new place. Which operations look at memory. What makes: a new place, whatever else there is. An operation's text asks for its own operands alone; what stands ahead of what. -/
import Derived.Test.YtokophcpoecilaaGreatEvC
set_option linter.unusedSimpArgs false
set_option linter.unusedVariables false
namespace Go.Ev
open Go

/-- it does not look at memory -/
def PureF (f : AH → OR) : Prop := (∃ n, ∀ h, f h = .fail n) ∨ ∃ v, ∀ h, f h = .val v h
/-- more memory -/
def Ext (h h' : AH) : Prop := ∀ id o, h.mem.get id = some o → h'.mem.get id = some o
theorem Ext.refl (h : AH) : Ext h h := fun _ _ e => e
theorem Ext.trans {a b c : AH} (x : Ext a b) (y : Ext b c) : Ext a c := fun i o e => y i o (x i o e)
/-- it only reads -/
def ReadF (f : AH → OR) : Prop := ∀ h, (∃ n, f h = .fail n) ∨ ∃ v, f h = .val v h ∧ ∀ h2, Ext h h2 → f h2 = .val v h2
theorem PureF.read {f : AH → OR} (p : PureF f) : ReadF f := by
  intro h
  rcases p with ⟨n, hn⟩ | ⟨u, hu⟩
  · exact .inl ⟨n, hn h⟩
  · exact .inr ⟨u, hu h, fun h2 _ => hu h2⟩
theorem pF (n : Nat) : PureF fun _ => F n := .inl ⟨n, fun _ => rfl⟩
theorem pV (v : AV) : PureF fun h => OR.val v h := .inr ⟨v, fun _ => rfl⟩
theorem pBool (b : Bool) : PureF fun h => Ev.bool b h := .inr ⟨.bool b, fun h => bool_eq b h⟩
theorem pInt (k : IntKind) (n : Int) : PureF fun h => intV k n h := .inr ⟨_, fun h => intV_eq k n h⟩
theorem pNat (n : Nat) : PureF fun h => natV n h := .inr ⟨_, fun h => natV_eq n h⟩
section
variable {loc : T AV} {tmp : List AV}
theorem p_onBool {v : AV} {k : Bool → AH → OR} (hk : ∀ b, PureF (k b)) : PureF fun h => onBool v fun b => k b h := by cases v <;> first | exact hk _ | exact pF _
theorem p_onInt {v : AV} {k : IntKind → Int → AH → OR} (hk : ∀ a b, PureF (k a b)) : PureF fun h => onInt v fun a b => k a b h := by cases v <;> first | exact hk _ _ | exact pF _
theorem p_onStr {v : AV} {k : Nat → Nat → AH → OR} (hk : ∀ a b, PureF (k a b)) : PureF fun h => onStr v fun a b => k a b h := by cases v <;> first | exact hk _ _ | exact pF _
theorem p_onPtr {v : AV} {k : Nat → Nat → AH → OR} (hk : ∀ a b, PureF (k a b)) : PureF fun h => onPtr v fun a b => k a b h := by cases v <;> first | exact hk _ _ | exact pF _
theorem p_onAgg {v : AV} {k : List AV → AH → OR} (hk : ∀ a, PureF (k a)) : PureF fun h => onAgg v fun a => k a h := by cases v <;> first | exact hk _ | exact pF _
theorem p_onTup {v : AV} {k : List AV → AH → OR} (hk : ∀ a, PureF (k a)) : PureF fun h => onTup v fun a => k a h := by cases v <;> first | exact hk _ | exact pF _
theorem p_onSl {v : AV} {kn : AH → OR} {k : Nat → Nat → Nat → ACap → AH → OR} (hn : PureF kn) (hk : ∀ a b c d, PureF (k a b c d)) : PureF fun h => onSl v (kn h) fun a b c d => k a b c d h := by cases v <;> first | exact hk _ _ _ _ | exact hn | exact pF _
theorem p_onNat {n : Int} {k : Nat → AH → OR} (hk : ∀ a, PureF (k a)) : PureF fun h => onNat n fun a => k a h := by cases n <;> first | exact hk _ | exact pF _
theorem p_bi {b : Bool} {x y : AH → OR} (hx : PureF x) (hy : PureF y) : PureF fun h => bi b (x h) (y h) := by cases b <;> assumption
theorem p_obind {α : Type} {o : Option α} {n : Nat} {k : α → AH → OR} (hk : ∀ a, PureF (k a)) : PureF fun h => obind o (F n) fun a => k a h := by
  cases o with
  | none => exact pF n
  | some a => exact hk a
theorem p_move (x : Opd) : PureF fun h => oMove x loc tmp h := by
  unfold oMove
  cases ev loc tmp x <;> first | exact pV _ | exact pF _
theorem r_bi {b : Bool} {x y : AH → OR} (hx : ReadF x) (hy : ReadF y) : ReadF fun h => bi b (x h) (y h) := by cases b <;> assumption
theorem r_onPtr {v : AV} {k : Nat → Nat → AH → OR} (hk : ∀ a b, ReadF (k a b)) : ReadF fun h => onPtr v fun a b => k a b h := by cases v <;> first | exact hk _ _ | exact (pF _).read
theorem r_obind {α : Type} {o : Option α} {n : Nat} {k : α → AH → OR} (hk : ∀ a, ReadF (k a)) : ReadF fun h => obind o (F n) fun a => k a h := by
  cases o with
  | none => exact (pF n).read
  | some a => exact hk a
theorem r_cells {id : Nat} {k : T AV → Nat → Bool → Bool → AH → OR} (hk : ∀ a b c d, ReadF (k a b c d)) : ReadF fun h => onCells (AH.get h id) fun a b c d => k a b c d h := by
  intro h
  simp only [AH.get_eq]
  cases hg : h.mem.get id with
  | none => exact .inl ⟨_, rfl⟩
  | some o =>
    cases o with
    | cells a b c d =>
      rcases hk a b c d h with ⟨n, hn⟩ | ⟨v, h1, h2⟩
      · exact .inl ⟨n, hn⟩
      · refine .inr ⟨v, h1, fun h3 hx => ?_⟩
        rw [hx _ _ hg]
        exact h2 h3 hx
    | _ => exact .inl ⟨_, rfl⟩
theorem r_mapO {id : Nat} {k : List (AV × AV × Nat) → Nat → AH → OR} (hk : ∀ a b, ReadF (k a b)) : ReadF fun h => onMapO (AH.get h id) fun a b => k a b h := by
  intro h
  simp only [AH.get_eq]
  cases hg : h.mem.get id with
  | none => exact .inl ⟨_, rfl⟩
  | some o =>
    cases o with
    | map a b =>
      rcases hk a b h with ⟨n, hn⟩ | ⟨v, h1, h2⟩
      · exact .inl ⟨n, hn⟩
      · refine .inr ⟨v, h1, fun h3 hx => ?_⟩
        rw [hx _ _ hg]
        exact h2 h3 hx
    | _ => exact .inl ⟨_, rfl⟩
end
end Go.Ev

namespace Go.Ev
open Go
section
variable {loc : T AV} {tmp : List AV}
theorem p_opt {o : Option Opd} {d : Nat} {k : Nat → AH → OR} (hk : ∀ n, PureF (k n)) : PureF fun h => optNat loc tmp o d fun n => k n h := by
  cases o with
  | none => exact hk d
  | some x => exact p_onInt fun _ n => p_onNat fun n => hk n
theorem p_fN {n : Nat} {k : Nat → AH → OR} (hk : ∀ n, PureF (k n)) : PureF fun h => fN n fun n => k n h := by
  simp only [fN_eq]; exact hk n
theorem p_intBin (op : ABin) (k : IntKind) (x y : Int) : PureF fun h => intBin op k x y h := by
  cases op
  case add => exact pInt _ _
  case sub => exact pInt _ _
  case mul => exact pInt _ _
  case quo => exact p_bi (x := fun _ => F 22) (pF 22) (pInt _ _)
  case rem => exact p_bi (x := fun _ => F 22) (pF 22) (by show PureF fun h => fI _ fun n => OR.val (AV.int k n) h; simp only [fI_eq]; exact pV _)
  case shl => exact pF 24
  case shr => exact pF 24
  case andNot => exact pF 23
  case lss => exact pBool _
  case leq => exact pBool _
  case gtr => exact pBool _
  case geq => exact pBool _
  all_goals
    refine p_bi (y := fun _ => F 23) (p_bi (y := fun _ => F 23) ?_ (pF 23)) (pF 23)
    cases x <;> try (exact pF 23)
    cases y <;> try (exact pF 23)
    exact p_fN fun n => p_bi (y := fun _ => F 23) (pV _) (pF 23)
theorem p_shiftBin (op : ABin) (k : IntKind) (x y : Int) : PureF fun h => shiftBin op k x y h := by
  unfold shiftBin
  refine p_onNat fun n => ?_
  cases op
  case shl => exact p_bi (pInt _ _) (pV _)
  case shr => exact p_onNat fun m => p_bi (y := fun _ => F 26) (p_fN fun m => pV _) (pF 26)
  all_goals exact pF 25
theorem p_strBin (op : ABin) (l b l' b' : Nat) : PureF fun h => strBin op l b l' b' h := by
  cases op
  case add => exact p_bi (y := fun _ => F 27) (p_fN fun n => p_fN fun m => pV _) (pF 27)
  all_goals exact pF 27
theorem p_bin (op : ABin) (x y : Opd) : PureF fun h => oBin op x y loc tmp h := by
  unfold oBin
  cases ev loc tmp x
  case int k m => exact p_onInt fun k' n => p_bi (p_shiftBin _ _ _ _) (p_bi (y := fun _ => F 28) (p_intBin _ _ _ _) (pF 28))
  case str l b => exact p_onStr fun l' b' => p_strBin _ _ _ _ _
  all_goals exact pF 28
theorem p_part (off n : Nat) (g : Bool) (l : List AV) : PureF fun h => oPart off n g l h := by
  refine p_bi (pV _) ?_
  cases nth l off <;> first | exact pV _ | exact pF 39
theorem p_mkIfc (t : Nat) (x : Opd) : PureF fun h => oMkIfc t x loc tmp h := by
  unfold oMkIfc oMove
  cases ev loc tmp x <;> first | exact pV _ | exact pF _
theorem p_extract (i : Nat) (x : Opd) : PureF fun h => oExtract i x loc tmp h := by
  refine p_onTup fun l => ?_
  cases nth l i <;> first | exact pV _ | exact pF 44
theorem p_assert (t : Nat) (ok : Bool) (z : AV) (x : Opd) : PureF fun h => oAssert t ok z x loc tmp h := by
  unfold oAssert
  cases ev loc tmp x
  case ifc t' v => exact p_bi (p_bi (pV _) (pV _)) (p_bi (y := fun _ => F 58) (pV _) (pF 58))
  case nili => exact p_bi (y := fun _ => F 58) (pV _) (pF 58)
  all_goals exact pF 58
theorem r_opt {o : Option Opd} {d : Nat} {k : Nat → AH → OR} (hk : ∀ n, ReadF (k n)) : ReadF fun h => optNat loc tmp o d fun n => k n h := by
  cases o with
  | none => exact hk d
  | some x =>
    show ReadF fun h => onInt (ev loc tmp x) fun _ n => onNat n fun n => k n h
    cases ev loc tmp x <;> try (exact (pF _).read)
    rename_i a n
    cases n <;> first | exact hk _ | exact (pF _).read
theorem r_eq (neg : Bool) (t : EqT) (x y : Opd) : ReadF fun h => oEq neg t x y loc tmp h := by
  intro h
  show (∃ n, obind (eqBy t h (ev loc tmp x) (ev loc tmp y)) (F 29) (fun q => Ev.bool (bi neg (bi q false true) q) h) = .fail n) ∨ _
  cases hq : eqBy t h (ev loc tmp x) (ev loc tmp y) with
  | none => exact .inl ⟨_, rfl⟩
  | some q =>
    refine .inr ⟨.bool (bi neg (bi q false true) q), ?_, fun h2 hx => ?_⟩
    · show obind (eqBy t h (ev loc tmp x) (ev loc tmp y)) (F 29) (fun q => Ev.bool (bi neg (bi q false true) q) h) = _
      rw [hq]
      show Ev.bool (bi neg (bi q false true) q) h = _
      rw [bool_eq]
    have : eqBy t h2 (ev loc tmp x) (ev loc tmp y) = some q := by
      cases t
      case ptr =>
        have hq : eqPtr h (ev loc tmp x) (ev loc tmp y) = some q := hq
        show eqPtr h2 (ev loc tmp x) (ev loc tmp y) = some q
        cases hx' : ev loc tmp x <;> rw [hx'] at hq <;> try (cases hq; done)
        all_goals
          cases hy' : ev loc tmp y <;> rw [hy'] at hq <;> try (cases hq; done)
        all_goals try exact hq
        rename_i i o i' o'
        obtain ⟨KK, hKK⟩ : ∃ KK : AObj → AObj → Option Bool, ∀ h, eqPtr h (.ptr i o) (.ptr i' o') = bi (Nat.beq i i') (some (Nat.beq o o')) (obind (AH.get h i) none fun p => obind (AH.get h i') none fun q => KK p q) := ⟨_, fun h => rfl⟩
        rw [hKK] at hq ⊢
        cases hb : Nat.beq i i' with
        | true => rw [hb] at hq; exact hq
        | false =>
          rw [hb] at hq
          have hq : obind (AH.get h i) none (fun p => obind (AH.get h i') none fun q => KK p q) = some q := hq
          show obind (AH.get h2 i) none (fun p => obind (AH.get h2 i') none fun q => KK p q) = some q
          rw [AH.get_eq, AH.get_eq] at hq ⊢
          cases h1 : h.mem.get i with
          | none => rw [h1] at hq; cases hq
          | some p1 =>
            rw [h1] at hq
            have hq : obind (h.mem.get i') none (fun q => KK p1 q) = some q := hq
            cases h3 : h.mem.get i' with
            | none => rw [h3] at hq; cases hq
            | some p2 =>
              rw [h3] at hq
              rw [hx _ _ h1, hx _ _ h3]
              exact hq
      all_goals exact hq
    show obind (eqBy t h2 (ev loc tmp x) (ev loc tmp y)) (F 29) (fun q => Ev.bool (bi neg (bi q false true) q) h2) = _
    rw [this]
    show Ev.bool (bi neg (bi q false true) q) h2 = _
    rw [bool_eq]
theorem r_lenM (x : Opd) : ReadF fun h => lenM x loc tmp h := by
  unfold lenM
  cases ev loc tmp x
  case mp id => exact r_mapO fun es _ => (pNat _).read
  case nilm => exact (pNat 0).read
  all_goals exact (pF 45).read
theorem r_lookup (kt : KT) (z : AV) (ok : Bool) (m k : Opd) : ReadF fun h => oLookup kt z ok m k loc tmp h := by
  have hres : ∀ r : Option AV, ReadF fun h => (Option.rec (motive := fun _ => OR) (bi ok (OR.val (AV.tup [z, AV.bool false]) h) (OR.val z h)) (fun v => bi ok (OR.val (AV.tup [v, AV.bool true]) h) (OR.val v h)) r : OR) := by
    intro r
    cases r with
    | none => exact r_bi (pV _).read (pV _).read
    | some v => exact r_bi (pV _).read (pV _).read
  unfold oLookup
  cases ev loc tmp m
  case mp id => exact r_mapO fun es _ => r_obind fun _ => r_obind fun r => hres r
  case nilm => exact r_obind fun _ => hres none
  all_goals exact (pF 55).read
theorem r_onSl {v : AV} {kn : AH → OR} {k : Nat → Nat → Nat → ACap → AH → OR} (hn : ReadF kn) (hk : ∀ a b c d, ReadF (k a b c d)) : ReadF fun h => onSl v (kn h) fun a b c d => k a b c d h := by cases v <;> first | exact hk _ _ _ _ | exact hn | exact (pF _).read
theorem r_sliceV (es : Nat) (x : Opd) (lo hi mx : Option Opd) : ReadF fun h => oSliceV false es x lo hi mx loc tmp h := by
  unfold oSliceV
  have rb : ∀ {b : Bool} {n : Nat} {x : AH → OR}, ReadF x → ReadF fun h => bi b (x h) (F n) := fun {b n x} hx => r_bi (y := fun _ => F n) hx (pF n).read
  have rN : ∀ {n : Nat} {k : Nat → AH → OR}, (∀ n, ReadF (k n)) → ReadF fun h => fN n fun n => k n h := fun {n k} hk => by simp only [fN_eq]; exact hk n
  refine r_onSl (r_opt fun mx => r_opt fun hi => r_opt fun lo => rb (rb (rb (pV _).read))) fun id off len cap => ?_
  cases cap with
  | known c => exact r_opt fun mx => rb (r_opt fun hi => rb (r_opt fun lo => rb (rN fun n => rN fun m => r_bi (pV _).read (rN fun off => (pV _).read))))
  | rest es' =>
    refine rb (rb (r_cells fun _ s _ r => ?_))
    cases mx with
    | none =>
      refine r_opt fun hi => rb (r_opt fun lo => rb (r_bi (pV _).read (rN fun n => r_bi ?_ (rN fun off => (pV _).read))))
      exact (pV _).read
    | some mx =>
      refine r_opt (o := some mx) (d := 0) fun mx => rb (r_opt fun hi => rb (r_opt fun lo => rb (rN fun n => rN fun m => r_bi (pV _).read (rN fun off => (pV _).read))))
variable {P : Program} {cx : Operand → Option Opd}
theorem pure_op {op : Op} {ao : AOp} (hc : cOp P cx false op = some ao) (h0 : clsO op = 0) : PureF fun h => evOp ao loc tmp h := by
  cases op <;> try (cases h0; done)
  case move x => obtain ⟨y, hy, rfl⟩ := mapS hc; exact p_move y
  case assign x => obtain ⟨y, hy, rfl⟩ := mapS hc; exact p_move y
  case pick c x y =>
    obtain ⟨c', h1, hc⟩ := bindS hc
    obtain ⟨x', h2, hc⟩ := bindS hc
    obtain ⟨y', h3, hc⟩ := bindS hc
    injection hc with hc; subst hc
    exact p_onBool fun q => p_bi (p_move _) (p_move _)
  case build t parts =>
    obtain ⟨zv, h1, hc⟩ := bindS hc
    obtain ⟨z, h2, hc⟩ := bindS hc
    split at hc
    · obtain ⟨pr, h3, hc⟩ := bindS hc
      split at hc
      · injection hc with hc; subst hc; exact p_obind fun l => pV _
      · cases hc
    · obtain ⟨n, hn, hc⟩ := bindS hc
      obtain ⟨pr, h3, hc⟩ := bindS hc
      split at hc
      · injection hc with hc; subst hc; exact p_obind fun l => pV _
      · cases hc
    · cases hc
  case nilCheck x => obtain ⟨y, hy, rfl⟩ := mapS hc; exact p_onPtr fun i o => pV _
  case binOp op t x y u =>
    unfold cOp at hc
    simp only at hc
    split at hc
    · cases h0
    · cases h0
    · obtain ⟨b, hb, hc⟩ := bindS hc
      obtain ⟨x', h1, hc⟩ := bindS hc
      obtain ⟨y', h2, hc⟩ := bindS hc
      injection hc with hc; subst hc
      exact p_bin _ _ _
  case unOp op t x =>
    cases op with
    | neg => obtain ⟨y, hy, rfl⟩ := mapS hc; exact p_onInt fun k n => pInt _ _
    | not => obtain ⟨y, hy, rfl⟩ := mapS hc; exact p_onBool fun b => pBool _
    | xor => obtain ⟨y, hy, rfl⟩ := mapS hc; exact pF 30
    | _ => cases hc
  case convert s t x =>
    unfold cOp at hc
    simp only at hc
    split at hc
    · obtain ⟨y, hy, rfl⟩ := mapS hc; exact p_onInt fun k n => pInt _ _
    · obtain ⟨y, hy, rfl⟩ := mapS hc; exact p_onStr fun l b => pV _
    · cases hc
    · cases hc
  case makeInterface t x =>
    unfold cOp at hc
    simp only at hc
    split at hc
    · cases hc
    · obtain ⟨y, hy, rfl⟩ := mapS hc; exact p_mkIfc _ _
    · cases hc
  case makeFunc fn first caps =>
    cases fn with
    | func f =>
      obtain ⟨l, h1, hc⟩ := bindS hc
      obtain ⟨l', h2, hc⟩ := bindS hc
      injection hc with hc; subst hc
      exact pV _
    | _ => cases hc
  case fieldAddr s x f =>
    unfold cOp at hc
    simp only at hc
    split at hc
    · obtain ⟨fl, hf, hc⟩ := bindS hc
      split at hc
      · obtain ⟨y, hy, hc⟩ := bindS hc
        injection hc with hc; subst hc
        exact p_onPtr fun i o => p_fN fun n => pV _
      · cases hc
    · cases hc
  case field s x f =>
    unfold cOp at hc
    simp only at hc
    split at hc
    · obtain ⟨fl, hf, hc⟩ := bindS hc
      obtain ⟨n, hn, hc⟩ := bindS hc
      obtain ⟨g, hg, hc⟩ := bindS hc
      obtain ⟨y, hy, hc⟩ := bindS hc
      injection hc with hc; subst hc
      exact p_onAgg fun l => p_part _ _ _ _
    · cases hc
  case indexAddr t x i =>
    unfold cOp at hc
    simp only at hc
    split at hc
    · obtain ⟨n, hn, hc⟩ := bindS hc
      obtain ⟨x', h1, hc⟩ := bindS hc
      obtain ⟨y', h2, hc⟩ := bindS hc
      injection hc with hc; subst hc
      exact p_onInt fun _ i => p_onNat fun i => p_onSl (kn := fun _ => F 40) (pF 40) fun _ _ _ _ => p_bi (y := fun _ => F 40) (p_fN fun o => pV _) (pF 40)
    · obtain ⟨n, hn, hc⟩ := bindS hc
      obtain ⟨x', h1, hc⟩ := bindS hc
      obtain ⟨y', h2, hc⟩ := bindS hc
      injection hc with hc; subst hc
      exact p_onInt fun _ i => p_onNat fun i => p_onPtr fun _ _ => p_bi (y := fun _ => F 41) (p_fN fun o => pV _) (pF 41)
    · cases hc
  case index t x i =>
    unfold cOp at hc
    simp only at hc
    split at hc
    · obtain ⟨x', h1, hc⟩ := bindS hc
      obtain ⟨y', h2, hc⟩ := bindS hc
      injection hc with hc; subst hc
      exact p_onInt fun _ i => p_onNat fun i => p_onStr fun _ _ => p_bi (y := fun _ => F 42) (p_fN fun o => pV _) (pF 42)
    · obtain ⟨n, hn, hc⟩ := bindS hc
      obtain ⟨g, hg, hc⟩ := bindS hc
      obtain ⟨x', h1, hc⟩ := bindS hc
      obtain ⟨y', h2, hc⟩ := bindS hc
      injection hc with hc; subst hc
      exact p_onInt fun _ i => p_onNat fun i => p_bi (y := fun _ => F 43) (p_onAgg fun _ => p_fN fun o => p_part _ _ _ _) (pF 43)
    · cases hc
  case extract x i => obtain ⟨y, hy, rfl⟩ := mapS hc; exact p_extract _ _
  case typeAssert x st t ok =>
    unfold cOp at hc
    simp only at hc
    split at hc
    · cases hc
    · obtain ⟨zv, h1, hc⟩ := bindS hc
      obtain ⟨z, h2, hc⟩ := bindS hc
      obtain ⟨y, hy, hc⟩ := bindS hc
      injection hc with hc; subst hc
      exact p_assert _ _ _ _
    · cases hc
  case call c =>
    obtain ⟨cal, args, ats⟩ := c
    cases cal with
    | builtin b =>
      cases b <;> try (cases h0; done)
      case cap =>
        unfold cOp at hc
        simp only at hc
        split at hc
        all_goals try (cases hc; done)
        all_goals rename_i hb hl
        all_goals try (cases hb; done)
        split at hc
        · obtain ⟨y, hy, rfl⟩ := mapS hc
          refine p_onSl (pNat 0) fun _ _ _ c => ?_
          cases c <;> first | exact pNat _ | exact pF 46
        · cases hc
      case max =>
        unfold cOp at hc
        simp only at hc
        split at hc
        all_goals try (cases hc; done)
        all_goals rename_i hb hl
        all_goals try (cases hb; done)
        obtain ⟨s', hs', hc⟩ := bindS hc
        obtain ⟨x', hx', hc⟩ := bindS hc
        injection hc with hc; subst hc
        exact p_onInt fun k m => p_onInt fun _ n => p_bi (pV _) (pV _)
      case min =>
        unfold cOp at hc
        simp only at hc
        split at hc
        all_goals try (cases hc; done)
        all_goals rename_i hb hl
        all_goals try (cases hb; done)
        obtain ⟨s', hs', hc⟩ := bindS hc
        obtain ⟨x', hx', hc⟩ := bindS hc
        injection hc with hc; subst hc
        exact p_onInt fun k m => p_onInt fun _ n => p_bi (pV _) (pV _)
    | _ => cases h0
theorem read_op {op : Op} {ao : AOp} (hc : cOp P cx false op = some ao) (h0 : clsO op = 1) : ReadF fun h => evOp ao loc tmp h := by
  cases op <;> try (cases h0; done)
  case load t x =>
    obtain ⟨g, hg, hc⟩ := bindS hc
    cases g with
    | true =>
      obtain ⟨n, hn, hc⟩ := bindS hc
      obtain ⟨y, hy, hc⟩ := bindS hc
      injection hc with hc; subst hc
      exact r_onPtr fun id off => r_cells fun c _ _ _ => r_obind fun l => (pV _).read
    | false =>
      obtain ⟨y, hy, hc⟩ := bindS hc
      injection hc with hc; subst hc
      exact r_onPtr fun id off => r_cells fun c _ _ _ => r_obind fun l => (pV _).read
  case binOp op t x y u =>
    unfold cOp at hc
    simp only at hc
    split at hc
    · obtain ⟨et, het, hc⟩ := bindS hc
      obtain ⟨x', h1, hc⟩ := bindS hc
      obtain ⟨y', h2, hc⟩ := bindS hc
      injection hc with hc; subst hc
      exact r_eq _ _ _ _
    · obtain ⟨et, het, hc⟩ := bindS hc
      obtain ⟨x', h1, hc⟩ := bindS hc
      obtain ⟨y', h2, hc⟩ := bindS hc
      injection hc with hc; subst hc
      exact r_eq _ _ _ _
    · obtain ⟨b, hb, hc⟩ := bindS hc
      obtain ⟨x', h1, hc⟩ := bindS hc
      obtain ⟨y', h2, hc⟩ := bindS hc
      injection hc with hc; subst hc
      exact (p_bin _ _ _).read
  case lookup t m k ok =>
    unfold cOp at hc
    simp only at hc
    split at hc
    · obtain ⟨kt, h0, hc⟩ := bindS hc
      obtain ⟨zv, h1, hc⟩ := bindS hc
      obtain ⟨z, h2, hc⟩ := bindS hc
      obtain ⟨m', h3, hc⟩ := bindS hc
      obtain ⟨k', h4, hc⟩ := bindS hc
      injection hc with hc; subst hc
      exact r_lookup _ _ _ _ _
    · cases hc
  case slice t x lo hi mx =>
    unfold cOp at hc
    simp only at hc
    cases hu : P.underlying t with
    | none => rw [hu] at hc; cases hc
    | some dt =>
      rw [hu] at hc
      cases dt with
      | string =>
        cases mx with
        | some _ => cases hc
        | none =>
          obtain ⟨y, hy, hc⟩ := bindS hc
          obtain ⟨lo', h1, hc⟩ := bindS hc
          obtain ⟨hi', h2, hc⟩ := bindS hc
          injection hc with hc; subst hc
          exact (p_onStr fun len b => p_opt fun hi => p_opt fun lo => p_bi (y := fun _ => F 33) (p_bi (y := fun _ => F 33) (p_fN fun n => p_fN fun m => pV _) (pF 33)) (pF 33)).read
      | slice e =>
        have hc : (if mx.isSome && !hi.isSome then none else (do some (AOp.sliceV false (← tySize P e) (← cx x) (← (match lo with | none => some none | some y => (cx y).map some)) (← (match hi with | none => some none | some y => (cx y).map some)) (← (match mx with | none => some none | some y => (cx y).map some))))) = some ao := hc
        split at hc
        · cases hc
        · obtain ⟨n, hn, hc⟩ := bindS hc
          obtain ⟨y, hy, hc⟩ := bindS hc
          obtain ⟨lo', h1, hc⟩ := bindS hc
          obtain ⟨hi', h2, hc⟩ := bindS hc
          obtain ⟨mx', h3, hc⟩ := bindS hc
          injection hc with hc; subst hc
          exact r_sliceV _ _ _ _ _
      | _ => cases hc
  case call c =>
    obtain ⟨cal, args, ats⟩ := c
    cases cal with
    | builtin b =>
      cases b <;> try (cases h0; done)
      case len =>
        unfold cOp at hc
        simp only at hc
        split at hc
        all_goals try (cases hc; done)
        all_goals rename_i hb hl
        all_goals try (cases hb; done)
        split at hc
        · obtain ⟨y, hy, rfl⟩ := mapS hc; exact (p_onStr fun l _ => pNat _).read
        · obtain ⟨y, hy, rfl⟩ := mapS hc; exact (p_onSl (pNat 0) fun _ _ l _ => pNat _).read
        · obtain ⟨y, hy, rfl⟩ := mapS hc; exact r_lenM _
        · injection hc with hc; subst hc; exact (show ReadF fun h => oMove (.c (.int .i64 _)) loc tmp h from (p_move _).read)
        · cases hc
    | _ => cases h0
end
end Go.Ev

namespace Go.Ev
open Go
section
variable {P : Program} {ρ : Rho} {h : AH} {w : World} {loc : T AV} {tmp : List AV}
def MakeF (P : Program) (ρ : Rho) (w : World) (s : Sem Next) (f : AH → OR) : Prop :=
  (∃ n, ∀ h, f h = .fail n) ∨ ∃ (V : Nat → AV) (o : AObj) (x : Obj) (sz : Nat) (w' : World) (v' : Value), (∀ h, f h = .val (V h.next) (h.add o)) ∧ ObjR ρ o x 0 sz ∧ w'.heap = w.heap.push x ∧ Same w w' ∧ s.run P w = .ok (.value v') w' ∧
    ∀ (ρ' : Rho) (id : Nat), ρ' id = some (w.heap.size, 0, sz) → VR ρ' (V id) v'
theorem mk_row {l : List AV} {cs : Array Value} {e : TypeId} {s : Sem Next} {f : AH → OR} (hl : VCs ρ l cs.toList) (V : Nat → AV) (v' : Value) (hf : ∀ h, f h = .val (V h.next) (h.add (.cells (ofList l) l.length false false)))
    (hs : s.run P w = .ok (.value v') { w with heap := w.heap.push (.cells cs e) }) (hv : ∀ (ρ' : Rho) (id : Nat), ρ' id = some (w.heap.size, 0, l.length) → VR ρ' (V id) v') : MakeF P ρ w s f := by
  have := ObjR.ofCells (e := e) (opn := false) (ro := false) hl
  rw [Array.toArray_toList] at this
  exact .inr ⟨V, _, _, _, { w with heap := w.heap.push (.cells cs e) }, v', hf, this, rfl, ⟨rfl, rfl, rfl⟩, hs, hv⟩
theorem mk_fail {s : Sem Next} (n : Nat) : MakeF P ρ w s fun _ => F n := .inl ⟨n, fun _ => rfl⟩
theorem mk_obind {α : Type} {o : Option α} {n : Nat} {s : Sem Next} {k : α → AH → OR} (hk : ∀ a, o = some a → MakeF P ρ w s (k a)) : MakeF P ρ w s fun h => obind o (F n) fun a => k a h := by
  cases o with
  | none => exact mk_fail n
  | some a => exact hk a rfl
theorem mk_int {v : AV} {s : Sem Next} {k : IntKind → Int → AH → OR} (hk : ∀ a b, v = .int a b → MakeF P ρ w s (k a b)) : MakeF P ρ w s fun h => onInt v fun a b => k a b h := by cases v <;> first | exact hk _ _ rfl | exact mk_fail _
theorem mk_nat {n : Int} {s : Sem Next} {k : Nat → AH → OR} (hk : ∀ m : Nat, n = m → MakeF P ρ w s (k m)) : MakeF P ρ w s fun h => onNat n fun a => k a h := by cases n <;> first | exact hk _ rfl | exact mk_fail _
theorem mk_bi {b : Bool} {n : Nat} {s : Sem Next} {x : AH → OR} (hx : b = true → MakeF P ρ w s x) : MakeF P ρ w s fun h => bi b (x h) (F n) := by
  cases b
  · exact mk_fail n
  · exact hx rfl
theorem m_alloc {z : List AV} {e : TypeId} {zv : Value} (h1 : tyZero P e = some zv) (h2 : cvCells zv = some z) :
    MakeF P ρ w (vv (Instr.alloc e true (.tuple #[]))) (fun h => oAlloc z loc tmp h) := by
  have hz : VCs ρ z zv.cells.toList := cvCells_rel h2
  refine mk_row (e := e) hz (fun id => .ptr id 0) (.pointer (some ⟨w.heap.size, 0, none⟩)) (fun h => by unfold oAlloc; rw [AH.new_eq, llen_eq]) (vv_run ?_) (fun ρ' id e => .ptr e rfl)
  simp [Instr.alloc, run_tyZero h1, newVar, newRow_run]
theorem m_box {x : Opd} {e : TypeId} {v : Value} (hv : VR ρ (ev loc tmp x) v) : MakeF P ρ w (vv (Instr.box e v)) (fun h => oBox x loc tmp h) := by
  have key : ∀ l : List AV, VCs ρ l v.cells.toList → MakeF P ρ w (vv (Instr.box e v)) (fun h => AH.new h (AObj.cells (ofList l) l.length false false) fun id h => OR.val (AV.ptr id (nat_lit 0)) h) := by
    intro l hl
    refine mk_row (e := e) hl (fun id => .ptr id 0) (.pointer (some ⟨w.heap.size, 0, none⟩)) (fun h => by rw [AH.new_eq]) (vv_run ?_) (fun ρ' id e => .ptr e rfl)
    simp [Instr.box, newVar, newRow_run]
  have one : ∀ a : AV, ev loc tmp x = a → a.isCell = true → VCs ρ [a] v.cells.toList := by
    intro a e hc
    rw [e] at hv
    have h1 := hv.oneCell hc
    have : v.cells = #[v] := by cases v <;> first | rfl | (simp [Value.oneCell'] at h1)
    rw [this]
    exact .cons hc hv .nil
  unfold oBox
  cases hx : ev loc tmp x with
  | bad => exact mk_fail 14
  | tup l => exact mk_fail 14
  | agg l =>
    rw [hx] at hv
    cases hv with
    | agg hl e => subst e; have := key l (by simpa [Value.cells] using hl); rw [← llen_eq] at this; exact this
  | _ => exact key _ (one _ hx rfl)
theorem m_mkMap {t : TypeId} : MakeF P ρ w (vv (Instr.makeMap t none)) (fun h => oMkMap loc tmp h) :=
  .inr ⟨fun id => .mp id, .map [] 0, .map #[] 0, 0, { w with heap := w.heap.push (.map #[] 0) }, .map (some w.heap.size), fun h => by show AH.new h _ _ = _; rw [AH.new_eq], .map .nil, rfl, ⟨rfl, rfl, rfl⟩, vv_run (by simp [Instr.makeMap]), fun ρ' id e => .mp e⟩
theorem m_bslice {t e : TypeId} {z : List AV} {ps : List Part} {vs : Array (Nat × Value)} {zv : Value} {len n : Nat} (hu : P.underlying t = some (.slice e)) (hn : tySize P e = some n) (hz : tyZero P e = some zv) (hzc : cvCells zv = some z) (hzn : z.length = n) (hb : len * n ≤ 2 ^ 24)
    (hp : PRs ρ loc tmp (fun i => some (i * n, n)) ps vs.toList) :
    MakeF P ρ w (vv (Instr.buildSlice t len vs)) (fun h => oBslice (List.replicate len z).flatten len ps loc tmp h) := by
  refine mk_obind fun l hl => ?_
  have hz0 := cvCells_rel (ρ := ρ) hzc
  have hsz : zv.cells.size = n := by have := hz0.length; simp at this; omega
  obtain ⟨zc, hzce⟩ : ∃ zc, zc = (if len * n = 0 then #[] else zv.cells) := ⟨_, rfl⟩
  have hrep : VCs ρ (List.replicate len z).flatten ((Array.range (len * n)).map (zc[· % zc.size]!)).toList := by
    by_cases h0 : len * n = 0
    · have : (List.replicate len z).flatten = [] := List.eq_nil_of_length_eq_zero (by rw [flat_len, hzn, h0])
      rw [this, h0]; simp; exact .nil
    · rw [if_neg h0] at hzce
      subst hzce
      have := repeat_rel (n := len) hz0
      rw [show len * n = len * zv.cells.size by rw [hsz]]
      exact this
  obtain ⟨cs', g1, g2, g3⟩ := fill_rel hp hrep (by rw [← fillQ_eq]; exact hl)
  refine mk_row (e := e) g2 (fun id => .sl id 0 len (.known len)) (.slice (some ⟨w.heap.size, 0, none⟩) len len) (fun h => by rw [AH.new_eq, llen_eq, ← g3]) (vv_run ?_) (fun ρ' id e => .sl e rfl (.known (Nat.le_refl _)))
  have hb' : ¬ 16777216 < len * n := by omega
  by_cases h0 : len * n = 0
  · rw [if_pos h0] at hzce; subst hzce
    simp only [Instr.buildSlice, Sem.run_bind, run_underlying hu, Result.andThen_ok, run_tySize hn]
    rw [if_neg (by simpa using hb'), if_pos h0]
    simp only [Sem.run_bind, Sem.run_pure, Result.andThen_ok]
    rw [g1]
    simp [newRow_run]
  · rw [if_neg h0] at hzce; subst hzce
    simp only [Instr.buildSlice, Sem.run_bind, run_underlying hu, Result.andThen_ok, run_tySize hn]
    rw [if_neg (by simpa using hb'), if_neg h0]
    simp only [Sem.run_bind, Sem.run_pure, Result.andThen_ok, run_tyZero hz]
    rw [g1]
    simp [newRow_run]

theorem m_mkSlice {t e : TypeId} {z : List AV} {l c : Opd} {vl vc zv : Value} {n b : Nat} (hu : P.underlying t = some (.slice e)) (hn : tySize P e = some n) (hb : tyBytes P e = some b) (hz : tyZero P e = some zv) (hzc : cvCells zv = some z) (hzn : z.length = n)
    (hl : VR ρ (ev loc tmp l) vl) (hc : VR ρ (ev loc tmp c) vc) : MakeF P ρ w (vv (Instr.makeSlice t vl vc)) (fun h => oMkSlice z b l c loc tmp h) := by
  refine mk_int fun k q e1 => mk_nat fun m hm => mk_int fun k' q' e2 => mk_nat fun m' hm' => mk_bi fun h1 => mk_bi fun h2 => mk_bi fun h3 => ?_
  rw [e1] at hl; rw [e2] at hc
  cases hl; cases hc
  subst hm; subst hm'
  have h1 : m ≤ m' := Nat.le_of_ble_eq_true h1
  have h2 : m' * b ≤ 1099511627776 := Nat.le_of_ble_eq_true h2
  have h3 : m' ≤ 1099511627776 := Nat.le_of_ble_eq_true h3
  show MakeF P ρ w _ (fun h => AH.new h (AObj.cells (ofList (lrep z m')) (Nat.mul m' (llen z)) false false) fun id h => OR.val (AV.sl id 0 m (ACap.known m')) h)
  have hz0 := cvCells_rel (ρ := ρ) hzc
  have hsz : zv.cells.size = n := by have := hz0.length; simp at this; omega
  obtain ⟨zc, hzce⟩ : ∃ zc, zc = (if m' * n = 0 then #[] else zv.cells) := ⟨_, rfl⟩
  have hrep : VCs ρ (lrep z m') ((Array.range (m' * n)).map (zc[· % zc.size]!)).toList := by
    rw [lrep_eq]
    by_cases h0 : m' * n = 0
    · have : (List.replicate m' z).flatten = [] := List.eq_nil_of_length_eq_zero (by rw [flat_len, hzn, h0])
      rw [this, h0]; simp; exact .nil
    · rw [if_neg h0] at hzce
      subst hzce
      have := repeat_rel (n := m') hz0
      rw [show m' * n = m' * zv.cells.size by rw [hsz]]
      exact this
  have hlen : Nat.mul m' (llen z) = (lrep z m').length := by rw [llen_eq, lrep_eq, flat_len]; rfl
  rw [hlen]
  refine mk_row (e := e) hrep (fun id => .sl id 0 m (.known m')) (.slice (some ⟨w.heap.size, 0, none⟩) m m') (fun h => by rw [AH.new_eq]) (vv_run ?_) (fun ρ' id e => .sl e rfl (.known h1))
  have hinfo : ∃ i, P.info? e = some i ∧ i.bytes = b := by
    unfold tyBytes at hb
    cases hi : P.info? e with
    | none => rw [hi] at hb; cases hb
    | some i => rw [hi] at hb; injection hb with hb; exact ⟨i, rfl, hb⟩
  obtain ⟨i, hi, hib⟩ := hinfo
  have hti : (typeInfo e).run P w = .ok i w := by simp [typeInfo, hi]
  have w1 : IntKind.i64.wrap (m : Int) = m := i64_wrap_nat (by omega)
  have w2 : IntKind.i64.wrap (m' : Int) = m' := i64_wrap_nat h3
  have hbig : ¬ (2 : Int) ^ 48 < (i.bytes : Int) * (m' : Int) := by
    rw [hib]
    have : (b : Int) * (m' : Int) = ((m' * b : Nat) : Int) := by rw [Int.mul_comm, Int.natCast_mul]
    have e : (2 : Int) ^ 48 = 281474976710656 := by decide
    omega
  have e1 : ¬ (m' : Int) < 0 := by omega
  have e2 : ¬ (m : Int) < 0 := by omega
  have e3 : ¬ (m' : Int) < (m : Int) := by omega
  simp only [Instr.makeSlice, Sem.run_bind, run_underlying hu, Result.andThen_ok, asInt, asIntOf_run, Sem.run_pure, hti, w1, w2]
  by_cases h0 : m' * n = 0
  · rw [if_pos h0] at hzce; subst hzce
    simp [hbig, e1, e2, e3, run_tySize hn, h0, newRow_run]
    intro hc; exfalso; apply hbig; have e : (2 : Int) ^ 48 = 281474976710656 := by decide
    omega
  · rw [if_neg h0] at hzce; subst hzce
    simp [hbig, e1, e2, e3, run_tySize hn, h0, run_tyZero hz, newRow_run]
    intro hc; exfalso; apply hbig; have e : (2 : Int) ^ 48 = 281474976710656 := by decide
    omega


variable {cx : Operand → Option Opd} {a : Operand → Value}
theorem make_op {o : Oper} {ao : AOp} (hx : OpdsR ρ loc tmp cx a) (hc : cOp P cx false o.op = some ao) (h0 : clsO o.op = 2) : MakeF P ρ w (execOp a o) fun h => evOp ao loc tmp h := by
  obtain ⟨d, op, ty, ps, af, g⟩ := o
  have hc : cOp P cx false op = some ao := hc
  have h0 : clsO op = 2 := h0
  cases op with
  | alloc e =>
    obtain ⟨zv, h1, hc⟩ := bindS hc
    obtain ⟨z, h2, hc⟩ := bindS hc
    injection hc with hc; subst hc
    exact m_alloc (loc := loc) (tmp := tmp) h1 h2
  | box e x => obtain ⟨y, hy, rfl⟩ := mapS hc; exact m_box (hx _ _ hy)
  | buildSlice t len parts =>
    unfold cOp at hc
    simp only at hc
    split at hc
    · rename_i e hu
      obtain ⟨n, hn, hc⟩ := bindS hc
      obtain ⟨zv, h1, hc⟩ := bindS hc
      obtain ⟨z, h2, hc⟩ := bindS hc
      obtain ⟨pr, h3, hc⟩ := bindS hc
      split at hc
      · rename_i hsz
        injection hc with hc; subst hc
        refine m_bslice hu hn h1 h2 hsz.1 hsz.2 ?_
        rw [Array.toList_map]
        refine parts_rel hx (fun i x p hp => ?_) h3
        obtain ⟨y, hy, hp⟩ := bindS hp
        injection hp with hp; subst hp
        exact ⟨rfl, hy⟩
      · cases hc
    · cases hc
  | binOp op _ _ _ _ => cases op <;> cases h0
  | makeMap t r =>
    cases r with
    | none => injection hc with hc; subst hc; exact m_mkMap (loc := loc) (tmp := tmp)
    | some _ => cases hc
  | makeSlice t l c =>
    unfold cOp at hc
    simp only at hc
    split at hc
    · rename_i e hu
      obtain ⟨n, hn, hc⟩ := bindS hc
      obtain ⟨zv, h1, hc⟩ := bindS hc
      obtain ⟨z, h2, hc⟩ := bindS hc
      split at hc
      · rename_i hsz
        obtain ⟨b, hb, hc⟩ := bindS hc
        obtain ⟨l', h3, hc⟩ := bindS hc
        obtain ⟨c', h4, hc⟩ := bindS hc
        injection hc with hc; subst hc
        exact m_mkSlice hu hn hb h1 h2 hsz (hx _ _ h3) (hx _ _ h4)
      · cases hc
    · cases hc
  | call c =>
    obtain ⟨cal, args, ats⟩ := c
    cases cal with
    | builtin b => cases b <;> cases h0
    | _ => cases h0
  | _ => cases h0
/-- the same, with nothing told of the model -/
def MakeA (f : AH → OR) : Prop := (∃ n, ∀ h, f h = .fail n) ∨ ∃ (V : Nat → AV) (o : AObj), ∀ h, f h = .val (V h.next) (h.add o)
theorem a_fail (n : Nat) : MakeA fun _ => F n := .inl ⟨n, fun _ => rfl⟩
theorem a_new (V : Nat → AV) (o : AObj) : MakeA fun h => AH.new h o fun id h => OR.val (V id) h := .inr ⟨V, o, fun h => AH.new_eq _ _ _⟩
theorem a_obind {α : Type} {o : Option α} {n : Nat} {k : α → AH → OR} (hk : ∀ a, MakeA (k a)) : MakeA fun h => obind o (F n) fun a => k a h := by
  cases o with
  | none => exact a_fail n
  | some a => exact hk a
theorem a_int {v : AV} {k : IntKind → Int → AH → OR} (hk : ∀ a b, MakeA (k a b)) : MakeA fun h => onInt v fun a b => k a b h := by cases v <;> first | exact hk _ _ | exact a_fail _
theorem a_nat {n : Int} {k : Nat → AH → OR} (hk : ∀ m : Nat, MakeA (k m)) : MakeA fun h => onNat n fun a => k a h := by cases n <;> first | exact hk _ | exact a_fail _
theorem a_bi {b : Bool} {n : Nat} {x : AH → OR} (hx : MakeA x) : MakeA fun h => bi b (x h) (F n) := by
  cases b
  · exact a_fail n
  · exact hx
theorem a_box (x : Opd) : MakeA fun h => oBox x loc tmp h := by
  unfold oBox
  cases ev loc tmp x <;> first | exact a_fail 14 | exact a_new (fun id => .ptr id 0) _
theorem makeA_op {op : Op} {ao : AOp} (hc : cOp P cx false op = some ao) (h0 : clsO op = 2) : MakeA fun h => evOp ao loc tmp h := by
  cases op with
  | alloc e =>
    obtain ⟨zv, h1, hc⟩ := bindS hc
    obtain ⟨z, h2, hc⟩ := bindS hc
    injection hc with hc; subst hc
    exact a_new (fun id => .ptr id 0) _
  | box e x => obtain ⟨y, hy, rfl⟩ := mapS hc; exact a_box _
  | buildSlice t len parts =>
    unfold cOp at hc
    simp only at hc
    split at hc
    · obtain ⟨n, hn, hc⟩ := bindS hc
      obtain ⟨zv, h1, hc⟩ := bindS hc
      obtain ⟨z, h2, hc⟩ := bindS hc
      obtain ⟨pr, h3, hc⟩ := bindS hc
      split at hc
      · injection hc with hc; subst hc
        exact a_obind fun l => a_new (fun id => .sl id 0 len (.known len)) _
      · cases hc
    · cases hc
  | binOp op _ _ _ _ => cases op <;> cases h0
  | makeMap t r =>
    cases r with
    | none => injection hc with hc; subst hc; exact a_new (fun id => .mp id) _
    | some _ => cases hc
  | makeSlice t l c =>
    unfold cOp at hc
    simp only at hc
    split at hc
    · obtain ⟨n, hn, hc⟩ := bindS hc
      obtain ⟨zv, h1, hc⟩ := bindS hc
      obtain ⟨z, h2, hc⟩ := bindS hc
      split at hc
      · obtain ⟨b, hb, hc⟩ := bindS hc
        obtain ⟨l', h3, hc⟩ := bindS hc
        obtain ⟨c', h4, hc⟩ := bindS hc
        injection hc with hc; subst hc
        exact a_int fun _ l => a_nat fun l => a_int fun _ c => a_nat fun c => a_bi (a_bi (a_bi (a_new (fun id => .sl id 0 l (.known c)) _)))
      · cases hc
    · cases hc
  | call c =>
    obtain ⟨cal, args, ats⟩ := c
    cases cal with
    | builtin b => cases b <;> cases h0
    | _ => cases h0
  | _ => cases h0
end
end Go.Ev

namespace Go.Ev
open Go
theorem mapM_congr {α β : Type} {f g : α → Option β} : ∀ {l : List α}, (∀ x ∈ l, f x = g x) → l.mapM f = l.mapM g
  | [], _ => rfl
  | x :: l, h => by rw [List.mapM_cons, List.mapM_cons, h x (by simp), mapM_congr fun y hy => h y (by simp [hy])]
theorem cOp_congr {P : Program} {cx cx' : Operand → Option Opd} {kill : Bool} {op : Op} (h : ∀ x ∈ op.operands, cx x = cx' x) : cOp P cx kill op = cOp P cx' kill op := by
  have parts : ∀ (ps : Array (Nat × Operand)) (f : (Operand → Option Opd) → Nat × Operand → Option Part), (∀ i x, cx x = cx' x → f cx (i, x) = f cx' (i, x)) → (∀ x ∈ (ps.toList.map (·.2)).toArray, cx x = cx' x) → ps.toList.mapM (f cx) = ps.toList.mapM (f cx') := by
    intro ps f hf hp
    refine mapM_congr fun p hm => ?_
    obtain ⟨i, x⟩ := p
    exact hf i x (hp x (by simp; exact ⟨i, by simpa using hm⟩))
  have args : ∀ (l : Array Operand), (∀ x ∈ l, cx x = cx' x) → l.toList.mapM cx = l.toList.mapM cx' := fun l hl => mapM_congr fun x hx => hl x (by simpa using hx)
  cases op <;> simp only [Op.operands] at h <;> simp only [cOp]
  case build t ps =>
    congr 1; funext zv; congr 1; funext z
    split
    · rename_i fs hu
      have := parts ps (fun cx p => do let f ← fs[p.1]?; some { off := f.offset, size := ← tySize P f.type, x := ← cx p.2 : Part }) (fun i x e => by simp only [e]) h
      have this : (ps.toList.mapM fun (i, x) => do let f ← fs[i]?; some { off := f.offset, size := ← tySize P f.type, x := ← cx x : Part }) = (ps.toList.mapM fun (i, x) => do let f ← fs[i]?; some { off := f.offset, size := ← tySize P f.type, x := ← cx' x : Part }) := this
      rw [this]
    · rename_i len e hu
      congr 1; funext n
      have := parts ps (fun cx p => do some { off := p.1 * n, size := n, x := ← cx p.2 : Part }) (fun i x e => by simp only [e]) h
      have this : (ps.toList.mapM fun (i, x) => do some { off := i * n, size := n, x := ← cx x : Part }) = (ps.toList.mapM fun (i, x) => do some { off := i * n, size := n, x := ← cx' x : Part }) := this
      rw [this]
    · rfl
  case buildSlice t len ps =>
    split
    · congr 1; funext n; congr 1; funext zv; congr 1; funext z
      have := parts ps (fun cx p => do some { off := p.1 * n, size := n, x := ← cx p.2 : Part }) (fun i x e => by simp only [e]) h
      have this : (ps.toList.mapM fun (i, x) => do some { off := i * n, size := n, x := ← cx x : Part }) = (ps.toList.mapM fun (i, x) => do some { off := i * n, size := n, x := ← cx' x : Part }) := this
      rw [this]
    · rfl
  case makeFunc fn first caps =>
    have h1 := args first fun x hx => h x (by simp [hx])
    have h2 := args caps fun x hx => h x (by simp [hx])
    cases fn with
    | func f =>
      show (do some (AOp.mkFn f (← first.toList.mapM cx) (← caps.toList.mapM cx))) = (do some (AOp.mkFn f (← first.toList.mapM cx') (← caps.toList.mapM cx')))
      rw [h1, h2]
    | _ => rfl
  case slice t x lo hi mx =>
    have ex : cx x = cx' x := h x (by simp)
    cases P.underlying t with
    | none => rfl
    | some d =>
      cases d with
      | string =>
        cases lo <;> cases hi <;> cases mx <;> first | rfl | (simp_all; done)
      | slice e =>
        cases lo <;> cases hi <;> cases mx <;> first | rfl | (simp_all; done)
      | _ => rfl
  case call c =>
    obtain ⟨cal, as, ats⟩ := c
    cases cal with
    | value f =>
      simp only [Call.operands] at h
      have h1 := args as fun x hx => h x (by simp [hx])
      have h2 := h f (by simp)
      cases f with
      | func g =>
        show (if callable P g then (do some (AOp.callF g (← as.toList.mapM cx))) else none) = (if callable P g then (do some (AOp.callF g (← as.toList.mapM cx'))) else none)
        rw [h1]
      | tmp t =>
        show (do some (AOp.callV (← cx (.tmp t)) (← as.toList.mapM cx))) = (do some (AOp.callV (← cx' (.tmp t)) (← as.toList.mapM cx')))
        rw [h1, h2]
      | const v =>
        show (do some (AOp.callV (← cx (.const v)) (← as.toList.mapM cx))) = (do some (AOp.callV (← cx' (.const v)) (← as.toList.mapM cx')))
        rw [h1, h2]
      | global g =>
        show (do some (AOp.callV (← cx (.global g)) (← as.toList.mapM cx))) = (do some (AOp.callV (← cx' (.global g)) (← as.toList.mapM cx')))
        rw [h1, h2]
    | invoke r n => rfl
    | builtin b =>
      obtain ⟨l⟩ := as
      have h1 : ∀ x ∈ l, cx x = cx' x := fun x hx => h x (by simp [Call.operands, hx])
      match l, h1 with
      | [], _ => cases b <;> rfl
      | [x], h1 =>
        have e := h1 x (by simp)
        cases b <;> first | rfl | (simp only [e]; done) | (simp only [cOp, e]; done)
      | [x, y], h1 =>
        have e := h1 x (by simp)
        have e2 := h1 y (by simp)
        cases b <;> first | rfl | (simp only [e, e2]; done) | (simp only [cOp, e, e2]; done)
      | x :: y :: z :: l, _ => cases b <;> rfl
  case defer c =>
    obtain ⟨cal, as, ats⟩ := c
    cases cal with
    | value f =>
      simp only [Call.operands] at h
      have h2 := h f (by simp)
      show (if as.isEmpty then (cx f).map AOp.dfr else none) = (if as.isEmpty then (cx' f).map AOp.dfr else none)
      rw [h2]
    | _ => rfl
  case unOp op t x =>
    have e := h x (by simp)
    cases op <;> first | rfl | (simp only [cOp, e]; done)
  case next it st =>
    have e := h it (by simp)
    cases st <;> first | rfl | (simp only [cOp, e]; done)
  case makeMap t r => cases r <;> rfl
  all_goals (first | rfl | (simp_all; done))
end Go.Ev
