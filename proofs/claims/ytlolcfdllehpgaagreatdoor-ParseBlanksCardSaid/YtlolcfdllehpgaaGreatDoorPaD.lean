/- EvO13 EvO14 EvT EvT2 EvT3 EvT4 EvU1 EvU2 EvU3 EvU4 EvU5 EvU6 -/
import Derived.Test.YtlolcfdllehpgaaGreatDoorPaC
import Derived.Orders
set_option linter.unusedSimpArgs false
set_option linter.unusedVariables false
set_option linter.unusedSectionVars false
set_option linter.defProp false
set_option maxRecDepth 100000
set_option maxHeartbeats 4000000
namespace Go.Ev
open Go
variable [Glob]
section
variable {P : Program} {ρ : Rho} {h : AH} {w : World} {loc : T AV} {tmp : List AV} {cx : Operand → Option Opd} {a : Operand → Value}
theorem zF6 {t : TypeId} {z : List AV} {zv : Value} (h1 : zB5 P t = some zv) (h2 : zB4 zv = some z) : zv.cells.size = z.length := by
 have := (zBv (ρ := fun _ => none) h2).length
 simpa using this.symm
theorem good_builtin {kill : Bool} {b : Builtin} {args : Array Operand} {ats : Array TypeId} {ty : TypeId} {ao : AOp} (W : WR ρ h w) (hx : OpdsR ρ loc tmp cx a) (hk : ∀ v, a (.const v) = v)
  (hc : cOp P cx kill (.call { callee := .builtin b, args, argTypes := ats }) = some ao) {d : Option Tmp} {ps : String} {af : Array Edge} {g : Option (Nat × Bool)} :
  Good P ρ h w (execOp a { dst := d, op := .call { callee := .builtin b, args, argTypes := ats }, type := ty, pos := ps, after := af, guard := g }) (evOp ao loc tmp h) := by
 have hres : ∀ s : Sem Next, (∀ cs, builtin b ats ty cs (args.map a) = s) → Good P ρ h w s (evOp ao loc tmp h) →
   Good P ρ h w (execOp a { dst := d, op := .call { callee := .builtin b, args, argTypes := ats }, type := ty, pos := ps, after := af, guard := g }) (evOp ao loc tmp h) := by
  intro s hs hg
  have : execOp a { dst := d, op := .call { callee := .builtin b, args, argTypes := ats }, type := ty, pos := ps, after := af, guard := g } = s := by
   simp only [execOp, resolve, pure_bind, invoke]
   exact hs _
  rw [this]; exact hg
 unfold cOp at hc
 simp only at hc
 split at hc
 ·
  rename_i x hargs
  obtain rfl := zL0 hargs
  split at hc
  ·rename_i hu
   obtain ⟨t, ht, hu⟩ := Option.bind_eq_some_iff.1 hu
   obtain ⟨y, hy, rfl⟩ := mapS hc
   exact hres (vv (Builtin.len_ ats ty #[a x])) (fun _ => by simp only [List.map_toArray, List.map_cons, List.map_nil]; rfl) (s_lenS W ht hu (hx _ _ hy))
  ·rename_i hu
   obtain ⟨t, ht, hu⟩ := Option.bind_eq_some_iff.1 hu
   obtain ⟨y, hy, rfl⟩ := mapS hc
   exact hres (vv (Builtin.len_ ats ty #[a x])) (fun _ => by simp only [List.map_toArray, List.map_cons, List.map_nil]; rfl) (s_lenV W ht hu (hx _ _ hy))
  ·rename_i hu
   obtain ⟨t, ht, hu⟩ := Option.bind_eq_some_iff.1 hu
   obtain ⟨y, hy, rfl⟩ := mapS hc
   exact hres (vv (Builtin.len_ ats ty #[a x])) (fun _ => by simp only [List.map_toArray, List.map_cons, List.map_nil]; rfl) (s_lenM W ht hu (hx _ _ hy))
  ·rename_i n e hu
   obtain ⟨t, ht, hu⟩ := Option.bind_eq_some_iff.1 hu
   injection hc with hc; subst hc
   refine hres (vv (Builtin.len_ ats ty #[a x])) (fun _ => by simp only [List.map_toArray, List.map_cons, List.map_nil]; rfl) (.same W (v' := .int .i64 n) (zAn ?_) (.int _ _))
   simp [Builtin.len_, ht, run_underlying hu, goInt]
  ·cases hc
 ·rename_i x hargs
  obtain rfl := zL0 hargs
  split at hc
  ·rename_i hu
   obtain ⟨t, ht, hu⟩ := Option.bind_eq_some_iff.1 hu
   obtain ⟨y, hy, rfl⟩ := mapS hc
   exact hres (vv (Builtin.cap_ ats ty #[a x])) (fun _ => by simp only [List.map_toArray, List.map_cons, List.map_nil]; rfl) (s_cap W ht hu (hx _ _ hy))
  ·cases hc
 ·rename_i s x hargs
  obtain rfl := zH1 hargs
  split at hc
  ·rename_i h0 h1
   obtain ⟨t0, ht0, h0⟩ := Option.bind_eq_some_iff.1 h0
   obtain ⟨t1, ht1, h1⟩ := Option.bind_eq_some_iff.1 h1
   obtain ⟨zv, hzv, hc⟩ := bindS hc
   obtain ⟨z, hz, hc⟩ := bindS hc
   split at hc
   ·rename_i hsz
    obtain ⟨bt, hbt, hc⟩ := bindS hc
    obtain ⟨s', hs', hc⟩ := bindS hc
    obtain ⟨x', hx', hc⟩ := bindS hc
    injection hc with hc; subst hc
    exact hres (vv (Builtin.append_ ats ty #[a s, a x])) (fun _ => by simp only [List.map_toArray, List.map_cons, List.map_nil]; rfl) (s_append W ⟨⟨_, _, ht0, ht1, h0, .inl ⟨_, h1⟩⟩, hsz, hbt, ⟨zv, hzv, rfl⟩, zF6 hzv hz⟩ (fun _ h => by cases h) (hx _ _ hs') (hx _ _ hx'))
   ·cases hc
  ·rename_i h0 h1
   obtain ⟨t0, ht0, h0⟩ := Option.bind_eq_some_iff.1 h0
   obtain ⟨t1, ht1, h1⟩ := Option.bind_eq_some_iff.1 h1
   obtain ⟨zv, hzv, hc⟩ := bindS hc
   obtain ⟨z, hz, hc⟩ := bindS hc
   split at hc
   ·rename_i hsz
    obtain ⟨bt, hbt, hc⟩ := bindS hc
    obtain ⟨s', hs', hc⟩ := bindS hc
    obtain ⟨x', hx', hc⟩ := bindS hc
    injection hc with hc; subst hc
    exact hres (vv (Builtin.append_ ats ty #[a s, a x])) (fun _ => by simp only [List.map_toArray, List.map_cons, List.map_nil]; rfl) (s_append W ⟨⟨_, _, ht0, ht1, h0, .inr h1⟩, hsz.1, hbt, ⟨zv, hzv, rfl⟩, zF6 hzv hz⟩ (fun _ h => by cases h) (hx _ _ hs') (hx _ _ hx'))
   ·cases hc
  ·rename_i h0 h1
   obtain ⟨t0, ht0, h0⟩ := Option.bind_eq_some_iff.1 h0
   obtain ⟨t1, ht1, h1⟩ := Option.bind_eq_some_iff.1 h1
   obtain ⟨zv, hzv, hc⟩ := bindS hc
   obtain ⟨z, hz, hc⟩ := bindS hc
   split at hc
   ·rename_i hsz
    obtain ⟨bt, hbt, hc⟩ := bindS hc
    obtain ⟨s', hs', hc⟩ := bindS hc
    obtain ⟨x', hx', hc⟩ := bindS hc
    injection hc with hc; subst hc
    exact hres (vv (Builtin.append_ ats ty #[a s, a x])) (fun _ => by simp only [List.map_toArray, List.map_cons, List.map_nil]; rfl) (s_appendZ W ⟨⟨_, _, _, ht0, ht1, h0, h1⟩, hsz, hbt, hzv, zF6 hzv hz⟩ hz (hx _ _ hs') (hx _ _ hx'))
   ·cases hc
  ·cases hc
 ·rename_i x y hargs
  obtain rfl := zH1 hargs
  split at hc
  ·rename_i hu
   obtain ⟨t, ht, hu⟩ := Option.bind_eq_some_iff.1 hu
   obtain ⟨n, hn, hc⟩ := bindS hc
   obtain ⟨s', hs', hc⟩ := bindS hc
   obtain ⟨x', hx', hc⟩ := bindS hc
   injection hc with hc; subst hc
   exact hres (vv (Builtin.copy_ ats ty #[a x, a y])) (fun _ => by simp only [List.map_toArray, List.map_cons, List.map_nil]; rfl) (s_copy W ht hu hn (hx _ _ hs') (hx _ _ hx'))
  ·cases hc
 ·rename_i x hargs
  obtain rfl := zL0 hargs
  split at hc
  ·rename_i hu
   obtain ⟨t, ht, hu⟩ := Option.bind_eq_some_iff.1 hu
   obtain ⟨zv, hzv, hc⟩ := bindS hc
   obtain ⟨z, hz, hc⟩ := bindS hc
   split at hc
   ·obtain ⟨x', hx', hc⟩ := bindS hc
    injection hc with hc; subst hc
    exact hres (vv (Builtin.clear_ ats ty #[a x])) (fun _ => by simp only [List.map_toArray, List.map_cons, List.map_nil]; rfl) (s_clear W ht hu hzv hz (hx _ _ hx'))
   ·cases hc
  ·cases hc
 ·rename_i x y hargs
  obtain rfl := zH1 hargs
  split at hc
  ·rename_i hu
   obtain ⟨t, ht, hu⟩ := Option.bind_eq_some_iff.1 hu
   obtain ⟨n, hn, hc⟩ := bindS hc
   obtain ⟨s', hs', hc⟩ := bindS hc
   obtain ⟨x', hx', hc⟩ := bindS hc
   injection hc with hc; subst hc
   exact hres (vv (Builtin.delete_ ats ty #[a x, a y])) (fun _ => by simp only [List.map_toArray, List.map_cons, List.map_nil]; rfl) (s_delete W ht hu hn (hx _ _ hs') (hx _ _ hx'))
  ·cases hc
 ·rename_i x y hargs
  obtain rfl := zH1 hargs
  obtain ⟨s', hs', hc⟩ := bindS hc
  obtain ⟨x', hx', hc⟩ := bindS hc
  injection hc with hc; subst hc
  exact hres (vv (Builtin.max_ ats ty #[a x, a y])) (fun _ => by simp only [List.map_toArray, List.map_cons, List.map_nil]; rfl) (s_max W (hx _ _ hs') (hx _ _ hx'))
 ·rename_i x y hargs
  obtain rfl := zH1 hargs
  obtain ⟨s', hs', hc⟩ := bindS hc
  obtain ⟨x', hx', hc⟩ := bindS hc
  injection hc with hc; subst hc
  exact hres (vv (Builtin.min_ ats ty #[a x, a y])) (fun _ => by simp only [List.map_toArray, List.map_cons, List.map_nil]; rfl) (s_min W (hx _ _ hs') (hx _ _ hx'))
 ·cases hc
end
end Go.Ev
namespace Go.Ev
open Go
variable [Glob]
section
variable {P : Program} {ρ : Rho} {h : AH} {w : World} {loc : T AV} {tmp : List AV} {cx : Operand → Option Opd} {a : Operand → Value}
theorem good_op {kill : Bool} {o : Oper} {ao : AOp} (W : WR ρ h w) (hx : OpdsR ρ loc tmp cx a) (hk : ∀ v, a (.const v) = v) (hfn : ∀ f, a (.func f) = .func (.func f) #[] #[])
  (hc : cOp P cx kill o.op = some ao) : Good P ρ h w (execOp a o) (evOp ao loc tmp h) := by
 obtain ⟨d, op, ty, ps, af, g⟩ := o
 have hc : cOp P cx kill op = some ao := hc
 cases op with
 | move x => obtain ⟨y, hy, rfl⟩ := mapS hc; exact s_move W (hx _ _ hy)
 | assign x => obtain ⟨y, hy, rfl⟩ := mapS hc; exact s_move W (hx _ _ hy)
 | pick c x y =>
  obtain ⟨c', h1, hc⟩ := bindS hc
  obtain ⟨x', h2, hc⟩ := bindS hc
  obtain ⟨y', h3, hc⟩ := bindS hc
  injection hc with hc; subst hc
  exact s_pick W (hx _ _ h1) (hx _ _ h2) (hx _ _ h3)
 | alloc e =>
  obtain ⟨zv, h1, hc⟩ := bindS hc
  obtain ⟨z, h2, hc⟩ := bindS hc
  injection hc with hc; subst hc
  exact s_alloc (loc := loc) (tmp := tmp) W h1 h2
 | box e x => obtain ⟨y, hy, rfl⟩ := mapS hc; exact s_box W (hx _ _ hy)
 | build t parts =>
  obtain ⟨zv, h1, hc⟩ := bindS hc
  obtain ⟨z, h2, hc⟩ := bindS hc
  split at hc
  ·rename_i fs hu
   obtain ⟨pr, h3, hc⟩ := bindS hc
   split at hc
   ·rename_i hsz
    injection hc with hc; subst hc
    have hall : ∀ f ∈ fs.toList, (zA2 P f.type).isSome = true := fun f hf => List.all_eq_true.1 hsz.2 f hf
    have hpl := places_run (P := P) hall w
    have hpl2 : (fs.mapM fun f => do pure (f.offset, ← sizeOf f.type) : Sem (Array (Nat × Nat))).run P w = .ok (fs.toList.map fun f => (f.offset, (zA2 P f.type).getD 0)).toArray w := by
     rw [Array.mapM_eq_mapM_toList]
     simp only [Sem.run_map, hpl]
     rfl
    refine s_build W h1 h2 hu hpl2 ?_
    rw [Array.toList_map]
    refine zGa hx (fun i x p hp => ?_) h3
    obtain ⟨f, hf, hp⟩ := bindS hp
    obtain ⟨n, hn, hp⟩ := bindS hp
    obtain ⟨y, hy, hp⟩ := bindS hp
    injection hp with hp; subst hp
    refine ⟨?_, hy⟩
    have hf' : fs.toList[i]? = some f := by simpa using hf
    simp [hf, hn]
   ·cases hc
  ·rename_i len e hu
   obtain ⟨n, hn, hc⟩ := bindS hc
   obtain ⟨pr, h3, hc⟩ := bindS hc
   split at hc
   ·injection hc with hc; subst hc
    refine s_buildA W h1 h2 hu hn ?_
    rw [Array.toList_map]
    refine zGa hx (fun i x p hp => ?_) h3
    obtain ⟨y, hy, hp⟩ := bindS hp
    injection hp with hp; subst hp
    exact ⟨rfl, hy⟩
   ·cases hc
  ·cases hc
 | buildSlice t len parts =>
  unfold cOp at hc
  simp only at hc
  split at hc
  ·rename_i e hu
   obtain ⟨n, hn, hc⟩ := bindS hc
   obtain ⟨zv, h1, hc⟩ := bindS hc
   obtain ⟨z, h2, hc⟩ := bindS hc
   obtain ⟨pr, h3, hc⟩ := bindS hc
   split at hc
   ·rename_i hsz
    injection hc with hc; subst hc
    refine s_bslice W hu hn h1 h2 hsz.1 hsz.2 ?_
    rw [Array.toList_map]
    refine zGa hx (fun i x p hp => ?_) h3
    obtain ⟨y, hy, hp⟩ := bindS hp
    injection hp with hp; subst hp
    exact ⟨rfl, hy⟩
   ·cases hc
  ·cases hc
 | load t x =>
  obtain ⟨g, hg, hc⟩ := bindS hc
  cases g with
  | true =>
   obtain ⟨n, hn, hc⟩ := bindS hc
   obtain ⟨y, hy, hc⟩ := bindS hc
   injection hc with hc; subst hc
   exact s_loadN W hg hn (hx _ _ hy)
  | false =>
   obtain ⟨y, hy, hc⟩ := bindS hc
   injection hc with hc; subst hc
   exact s_load W hg (hx _ _ hy)
 | store t x y =>
  obtain ⟨n, hn, hc⟩ := bindS hc
  obtain ⟨x', h1, hc⟩ := bindS hc
  obtain ⟨y', h2, hc⟩ := bindS hc
  injection hc with hc; subst hc
  exact s_store W hn (hx _ _ h1) (hx _ _ h2)
 | nilCheck x => obtain ⟨y, hy, rfl⟩ := mapS hc; exact s_nil (v := a x) W (hx _ _ hy)
 | binOp op t x y _ =>
  unfold cOp at hc
  simp only at hc
  split at hc
  ·obtain ⟨et, het, hc⟩ := bindS hc
   obtain ⟨x', h1, hc⟩ := bindS hc
   obtain ⟨y', h2, hc⟩ := bindS hc
   injection hc with hc; subst hc
   exact good_eq (kill := kill) (c := true) (u := t) (ao := .cap (.t 0)) W hx hk rfl het h1 h2
  ·obtain ⟨et, het, hc⟩ := bindS hc
   obtain ⟨x', h1, hc⟩ := bindS hc
   obtain ⟨y', h2, hc⟩ := bindS hc
   injection hc with hc; subst hc
   exact good_eq (kill := kill) (c := true) (u := t) (ao := .cap (.t 0)) (neg := true) W hx hk rfl het h1 h2
  ·obtain ⟨b, hb, hc⟩ := bindS hc
   obtain ⟨x', h1, hc⟩ := bindS hc
   obtain ⟨y', h2, hc⟩ := bindS hc
   injection hc with hc; subst hc
   exact s_bin W hb (hx _ _ h1) (hx _ _ h2)
 | unOp op t x =>
  cases op with
  | neg => obtain ⟨y, hy, rfl⟩ := mapS hc; exact s_neg W (hx _ _ hy)
  | not => obtain ⟨y, hy, rfl⟩ := mapS hc; exact s_not W (hx _ _ hy)
  | xor => obtain ⟨y, hy, rfl⟩ := mapS hc; trivial
  | _ => cases hc
 | convert s t x =>
  unfold cOp at hc
  simp only at hc
  split at hc
  ·rename_i h1 h2; obtain ⟨y, hy, rfl⟩ := mapS hc; exact s_convI W h1 h2 (hx _ _ hy)
  ·rename_i h1 h2; obtain ⟨y, hy, rfl⟩ := mapS hc; exact s_convS W h1 h2 (hx _ _ hy)
  ·rename_i h1 h2
   split at hc
   ·rename_i h3
    rw [Bool.and_eq_true] at h3
    obtain ⟨y, hy, rfl⟩ := mapS hc
    exact s_bytesOf W h1 h2 (isU8_eq h3.2) (hx _ _ hy)
   ·cases hc
  ·cases hc
 | makeInterface t x =>
  unfold cOp at hc
  simp only at hc
  split at hc
  ·cases hc
  ·rename_i hne hu
   obtain ⟨y, hy, rfl⟩ := mapS hc
   exact s_mkIfc W hu (fun ms e => hne ms (by rw [e])) (hx _ _ hy)
  ·cases hc
 | makeFunc fn first caps =>
  cases fn with
  | func f =>
   obtain ⟨l, h1, hc⟩ := bindS hc
   obtain ⟨l', h2, hc⟩ := bindS hc
   injection hc with hc; subst hc
   exact s_mkFn W (by rw [Array.toList_map]; exact zJv hx h1) (by rw [Array.toList_map]; exact zJv hx h2)
  | _ => cases hc
 | makeMap t r =>
  cases r with
  | none => injection hc with hc; subst hc; exact s_mkMap (loc := loc) (tmp := tmp) W
  | some _ => cases hc
 | makeSlice t l c =>
  unfold cOp at hc
  simp only at hc
  split at hc
  ·rename_i e hu
   obtain ⟨n, hn, hc⟩ := bindS hc
   obtain ⟨zv, h1, hc⟩ := bindS hc
   obtain ⟨z, h2, hc⟩ := bindS hc
   split at hc
   ·rename_i hsz
    obtain ⟨b, hb, hc⟩ := bindS hc
    obtain ⟨l', h3, hc⟩ := bindS hc
    obtain ⟨c', h4, hc⟩ := bindS hc
    injection hc with hc; subst hc
    exact s_mkSlice W hu hn hb h1 h2 hsz (hx _ _ h3) (hx _ _ h4)
   ·cases hc
  ·cases hc
 | slice t x lo hi mx =>
  unfold cOp at hc
  simp only at hc
  cases hu : P.underlying t with
  | none => rw [hu] at hc; cases hc
  | some dt =>
   rw [hu] at hc
   cases dt with
   | string =>
    cases mx with
    | some _ => cases hc
    | none =>
     obtain ⟨y, hy, hc⟩ := bindS hc
     obtain ⟨lo', h1, hc⟩ := bindS hc
     obtain ⟨hi', h2, hc⟩ := bindS hc
     injection hc with hc; subst hc
     exact s_sliceS W hu (hx _ _ hy) (zJf hx h1) (zJf hx h2)
   | slice e =>
    have hc : (if mx.isSome && !hi.isSome then none else (do some (AOp.sliceV kill (← zA2 P e) (← cx x) (← (match lo with | none => some none | some y => (cx y).map some)) (← (match hi with | none => some none | some y => (cx y).map some)) (← (match mx with | none => some none | some y => (cx y).map some))))) = some ao := hc
    split at hc
    ·cases hc
    ·rename_i hmx
     obtain ⟨n, hn, hc⟩ := bindS hc
     obtain ⟨y, hy, hc⟩ := bindS hc
     obtain ⟨lo', h1, hc⟩ := bindS hc
     obtain ⟨hi', h2, hc⟩ := bindS hc
     obtain ⟨mx', h3, hc⟩ := bindS hc
     injection hc with hc; subst hc
     refine s_sliceV W hu hn (hx _ _ hy) (zJf hx h1) (zJf hx h2) (zJf hx h3) (fun he => ?_)
     cases mx with
     | none => injection h3 with h3; subst h3; cases he
     | some m =>
      cases hi with
      | none => exact absurd rfl hmx
      | some h =>
       obtain ⟨z, hz, e⟩ := mapS h2
       subst e; rfl
   | _ => cases hc
 | fieldAddr s x f =>
  unfold cOp at hc
  simp only at hc
  split at hc
  ·rename_i fs hu
   obtain ⟨fl, hf, hc⟩ := bindS hc
   split at hc
   ·rename_i n hn
    obtain ⟨y, hy, hc⟩ := bindS hc
    injection hc with hc; subst hc
    exact s_fieldAddr W hu hf hn (hx _ _ hy)
   ·cases hc
  ·cases hc
 | field s x f =>
  unfold cOp at hc
  simp only at hc
  split at hc
  ·rename_i fs hu
   obtain ⟨fl, hf, hc⟩ := bindS hc
   obtain ⟨n, hn, hc⟩ := bindS hc
   obtain ⟨g, hg, hc⟩ := bindS hc
   obtain ⟨y, hy, hc⟩ := bindS hc
   injection hc with hc; subst hc
   exact s_field W hu hf hn hg (hx _ _ hy)
  ·cases hc
 | indexAddr t x i =>
  unfold cOp at hc
  simp only at hc
  split at hc
  ·rename_i hu
   obtain ⟨n, hn, hc⟩ := bindS hc
   obtain ⟨x', h1, hc⟩ := bindS hc
   obtain ⟨y', h2, hc⟩ := bindS hc
   injection hc with hc; subst hc
   exact s_idxAddr W hu hn (hx _ _ h1) (hx _ _ h2)
  ·rename_i hu
   obtain ⟨n, hn, hc⟩ := bindS hc
   obtain ⟨x', h1, hc⟩ := bindS hc
   obtain ⟨y', h2, hc⟩ := bindS hc
   injection hc with hc; subst hc
   exact s_idxAddrA W hu hn (hx _ _ h1) (hx _ _ h2)
  ·cases hc
 | index t x i =>
  unfold cOp at hc
  simp only at hc
  split at hc
  ·rename_i hu
   obtain ⟨x', h1, hc⟩ := bindS hc
   obtain ⟨y', h2, hc⟩ := bindS hc
   injection hc with hc; subst hc
   exact s_idxS W hu (hx _ _ h1) (hx _ _ h2)
  ·rename_i hu
   obtain ⟨n, hn, hc⟩ := bindS hc
   obtain ⟨g, hg, hc⟩ := bindS hc
   obtain ⟨x', h1, hc⟩ := bindS hc
   obtain ⟨y', h2, hc⟩ := bindS hc
   injection hc with hc; subst hc
   exact s_idxA W hu hn hg (hx _ _ h1) (hx _ _ h2)
  ·cases hc
 | extract x i => obtain ⟨y, hy, rfl⟩ := mapS hc; exact s_extract W (hx _ _ hy)
 | call c =>
  obtain ⟨cal, args, ats⟩ := c
  cases cal with
  | builtin b => exact good_builtin W hx hk hc
  | invoke _ _ => cases hc
  | value x =>
   cases x with
   | func f =>
    have hc : (if zBn P f then (do some (.callF f (← args.toList.mapM cx))) else none) = some ao := hc
    split at hc
    ·obtain ⟨l, h1, hc⟩ := bindS hc
     injection hc with hc; subst hc
     exact good_callF (hfn f) (zJv hx h1)
    ·cases hc
   | _ =>
    obtain ⟨y, hy, hc⟩ := bindS hc
    obtain ⟨l, h1, hc⟩ := bindS hc
    injection hc with hc; subst hc
    exact good_callV W (hx _ _ hy) (zJv hx h1)
 | typeAssert x st t ok =>
  unfold cOp at hc
  simp only at hc
  split at hc
  ·cases hc
  ·rename_i hne hu
   obtain ⟨zv, h1, hc⟩ := bindS hc
   obtain ⟨z, h2, hc⟩ := bindS hc
   obtain ⟨y, hy, hc⟩ := bindS hc
   injection hc with hc; subst hc
   exact s_assert W hu (fun ms e => hne ms (by rw [e])) h1 h2 (hx _ _ hy)
  ·cases hc
 | lookup t m k ok =>
  unfold cOp at hc
  simp only at hc
  split at hc
  ·rename_i hu
   obtain ⟨kt, h0, hc⟩ := bindS hc
   obtain ⟨zv, h1, hc⟩ := bindS hc
   obtain ⟨z, h2, hc⟩ := bindS hc
   obtain ⟨m', h3, hc⟩ := bindS hc
   obtain ⟨k', h4, hc⟩ := bindS hc
   injection hc with hc; subst hc
   exact s_lookup W hu h0 h1 h2 (hx _ _ h3) (hx _ _ h4)
  ·cases hc
 | mapUpdate t m k x =>
  unfold cOp at hc
  simp only at hc
  split at hc
  ·rename_i hu
   obtain ⟨kt, h0, hc⟩ := bindS hc
   obtain ⟨m', h3, hc⟩ := bindS hc
   obtain ⟨k', h4, hc⟩ := bindS hc
   obtain ⟨x', h5, hc⟩ := bindS hc
   injection hc with hc; subst hc
   exact s_mapUpd W hu h0 (hx _ _ h3) (hx _ _ h4) (hx _ _ h5)
  ·cases hc
 | insert t m k x =>
  unfold cOp at hc
  simp only at hc
  split at hc
  ·rename_i hu
   obtain ⟨kt, h0, hc⟩ := bindS hc
   obtain ⟨m', h3, hc⟩ := bindS hc
   obtain ⟨k', h4, hc⟩ := bindS hc
   obtain ⟨x', h5, hc⟩ := bindS hc
   injection hc with hc; subst hc
   exact s_mapUpd W hu h0 (hx _ _ h3) (hx _ _ h4) (hx _ _ h5)
  ·cases hc
 | mapEntry t m k =>
  unfold cOp at hc
  simp only at hc
  split at hc
  ·rename_i hu
   obtain ⟨kt, h0, hc⟩ := bindS hc
   obtain ⟨zv, h1, hc⟩ := bindS hc
   obtain ⟨z, h2, hc⟩ := bindS hc
   obtain ⟨m', h3, hc⟩ := bindS hc
   obtain ⟨k', h4, hc⟩ := bindS hc
   injection hc with hc; subst hc
   exact s_mapEntry W hu h0 h1 h2 (hx _ _ h3) (hx _ _ h4)
  ·cases hc
 | entryStore t m s x =>
  obtain ⟨m', h3, hc⟩ := bindS hc
  obtain ⟨k', h4, hc⟩ := bindS hc
  obtain ⟨x', h5, hc⟩ := bindS hc
  injection hc with hc; subst hc
  exact s_entryStore W (hx _ _ h3) (hx _ _ h4) (hx _ _ h5)
 | panic x => obtain ⟨y, hy, rfl⟩ := mapS hc; exact s_panic W (hx _ _ hy)
 | defer c =>
  obtain ⟨cal, args, ats⟩ := c
  cases cal with
  | value x =>
   have hc : (if args.isEmpty then (cx x).map AOp.dfr else none) = some ao := hc
   split at hc
   ·obtain ⟨y, hy, rfl⟩ := mapS hc
    exact good_dfr ‹_› (hx _ _ hy)
   ·cases hc
  | _ => cases hc
 | range t x =>
  unfold cOp at hc
  simp only at hc
  split at hc
  ·rename_i hu
   obtain ⟨y, hy, rfl⟩ := mapS hc
   exact s_range W hu (hx _ _ hy)
  ·cases hc
 | next it s =>
  cases s with
  | true => cases hc
  | false => obtain ⟨y, hy, rfl⟩ := mapS hc; exact s_next W (hx _ _ hy)
 | entry it => obtain ⟨y, hy, rfl⟩ := mapS hc; exact s_entry W (hx _ _ hy)
 | _ => cases hc
end
end Go.Ev
namespace Go.Ev
open Go
variable [Glob]
def PureF (f : AH → OR) : Prop := (∃ n, ∀ h, f h = .fail n) ∨ ∃ v, ∀ h, f h = .val v h
def Ext (h h' : AH) : Prop := ∀ id o, h.mem.get id = some o → h'.mem.get id = some o
theorem Ext.refl (h : AH) : Ext h h := fun _ _ e => e
theorem Ext.trans {a b c : AH} (x : Ext a b) (y : Ext b c) : Ext a c := fun i o e => y i o (x i o e)
def ReadF (f : AH → OR) : Prop := ∀ h, (∃ n, f h = .fail n) ∨ ∃ v, f h = .val v h ∧ ∀ h2, Ext h h2 → f h2 = .val v h2
theorem PureF.read {f : AH → OR} (p : PureF f) : ReadF f := by
 intro h
 rcases p with ⟨n, hn⟩ | ⟨u, hu⟩
 ·exact .inl ⟨n, hn h⟩
 ·exact .inr ⟨u, hu h, fun h2 _ => hu h2⟩
theorem pF (n : Nat) : PureF fun _ => F n := .inl ⟨n, fun _ => rfl⟩
theorem pV (v : AV) : PureF fun h => OR.val v h := .inr ⟨v, fun _ => rfl⟩
theorem pBool (b : Bool) : PureF fun h => Ev.bool b h := .inr ⟨.bool b, fun h => zC5 b h⟩
theorem pInt (k : IntKind) (n : Int) : PureF fun h => intV k n h := .inr ⟨_, fun h => zDo k n h⟩
theorem pNat (n : Nat) : PureF fun h => natV n h := .inr ⟨_, fun h => zDm n h⟩
section
variable {loc : T AV} {tmp : List AV}
theorem p_onBool {v : AV} {k : Bool → AH → OR} (hk : ∀ b, PureF (k b)) : PureF fun h => onBool v fun b => k b h := by cases v <;> first | exact hk _ | exact pF _
theorem zD2 {v : AV} {k : IntKind → Int → AH → OR} (hk : ∀ a b, PureF (k a b)) : PureF fun h => onInt v fun a b => k a b h := by cases v <;> first | exact hk _ _ | exact pF _
theorem zJe {v : AV} {k : Nat → Nat → AH → OR} (hk : ∀ a b, PureF (k a b)) : PureF fun h => onStr v fun a b => k a b h := by cases v <;> first | exact hk _ _ | exact pF _
theorem p_onPtr {v : AV} {k : Nat → Nat → AH → OR} (hk : ∀ a b, PureF (k a b)) : PureF fun h => onPtr v fun a b => k a b h := by cases v <;> first | exact hk _ _ | exact pF _
theorem p_onAgg {v : AV} {k : List AV → AH → OR} (hk : ∀ a, PureF (k a)) : PureF fun h => onAgg v fun a => k a h := by cases v <;> first | exact hk _ | exact pF _
theorem p_onTup {v : AV} {k : List AV → AH → OR} (hk : ∀ a, PureF (k a)) : PureF fun h => onTup v fun a => k a h := by cases v <;> first | exact hk _ | exact pF _
theorem p_onSl {v : AV} {kn : AH → OR} {k : Nat → Nat → Nat → ACap → AH → OR} (hn : PureF kn) (hk : ∀ a b c d, PureF (k a b c d)) : PureF fun h => onSl v (kn h) fun a b c d => k a b c d h := by cases v <;> first | exact hk _ _ _ _ | exact hn | exact pF _
theorem zG8 {n : Int} {k : Nat → AH → OR} (hk : ∀ a, PureF (k a)) : PureF fun h => onNat n fun a => k a h := by cases n <;> first | exact hk _ | exact pF _
theorem p_bi {b : Bool} {x y : AH → OR} (hx : PureF x) (hy : PureF y) : PureF fun h => bi b (x h) (y h) := by cases b <;> assumption
theorem p_obind {α : Type} {o : Option α} {n : Nat} {k : α → AH → OR} (hk : ∀ a, PureF (k a)) : PureF fun h => obind o (F n) fun a => k a h := by
 cases o with
 | none => exact pF n
 | some a => exact hk a
theorem p_move (x : Opd) : PureF fun h => oMove x loc tmp h := by
 unfold oMove
 cases ev loc tmp x <;> first | exact pV _ | exact pF _
theorem r_bi {b : Bool} {x y : AH → OR} (hx : ReadF x) (hy : ReadF y) : ReadF fun h => bi b (x h) (y h) := by cases b <;> assumption
theorem r_onPtr {v : AV} {k : Nat → Nat → AH → OR} (hk : ∀ a b, ReadF (k a b)) : ReadF fun h => onPtr v fun a b => k a b h := by cases v <;> first | exact hk _ _ | exact (pF _).read
theorem zJa {α : Type} {o : Option α} {n : Nat} {k : α → AH → OR} (hk : ∀ a, ReadF (k a)) : ReadF fun h => obind o (F n) fun a => k a h := by
 cases o with
 | none => exact (pF n).read
 | some a => exact hk a
theorem r_cells {id : Nat} {k : T AV → Nat → Option Nat → Bool → AH → OR} (hk : ∀ a b c d, ReadF (k a b c d)) : ReadF fun h => zBx (AH.get h id) fun a b c d => k a b c d h := by
 intro h
 simp only [AH.get_eq]
 cases hg : h.mem.get id with
 | none => exact .inl ⟨_, rfl⟩
 | some o =>
  cases o with
  | cells a b c d =>
   rcases hk a b c d h with ⟨n, hn⟩ | ⟨v, h1, h2⟩
   ·exact .inl ⟨n, hn⟩
   ·refine .inr ⟨v, h1, fun h3 hx => ?_⟩
    rw [hx _ _ hg]
    exact h2 h3 hx
  | _ => exact .inl ⟨_, rfl⟩
theorem r_mapO {id : Nat} {k : List (AV × AV × Nat) → Nat → AH → OR} (hk : ∀ a b, ReadF (k a b)) : ReadF fun h => zGd (AH.get h id) fun a b => k a b h := by
 intro h
 simp only [AH.get_eq]
 cases hg : h.mem.get id with
 | none => exact .inl ⟨_, rfl⟩
 | some o =>
  cases o with
  | map a b =>
   rcases hk a b h with ⟨n, hn⟩ | ⟨v, h1, h2⟩
   ·exact .inl ⟨n, hn⟩
   ·refine .inr ⟨v, h1, fun h3 hx => ?_⟩
    rw [hx _ _ hg]
    exact h2 h3 hx
  | _ => exact .inl ⟨_, rfl⟩
end
end Go.Ev
namespace Go.Ev
open Go
variable [Glob]
section
variable {loc : T AV} {tmp : List AV}
theorem p_opt {o : Option Opd} {d : Nat} {k : Nat → AH → OR} (hk : ∀ n, PureF (k n)) : PureF fun h => zD9 loc tmp o d fun n => k n h := by
 cases o with
 | none => exact hk d
 | some x => exact zD2 fun _ n => zG8 fun n => hk n
theorem p_fN {n : Nat} {k : Nat → AH → OR} (hk : ∀ n, PureF (k n)) : PureF fun h => fN n fun n => k n h := by
 simp only [fN_eq]; exact hk n
theorem p_intBin (op : ABin) (k : IntKind) (x y : Int) : PureF fun h => intBin op k x y h := by
 cases op
 case add => exact pInt _ _
 case sub => exact pInt _ _
 case mul => exact pInt _ _
 case quo => exact p_bi (x := fun _ => F 22) (pF 22) (pInt _ _)
 case rem => exact p_bi (x := fun _ => F 22) (pF 22) (by show PureF fun h => fI _ fun n => OR.val (AV.int k n) h; simp only [fI_eq]; exact pV _)
 case shl => exact pF 24
 case shr => exact pF 24
 case andNot => exact pF 23
 case lss => exact pBool _
 case leq => exact pBool _
 case gtr => exact pBool _
 case geq => exact pBool _
 all_goals
  refine p_bi (y := fun _ => F 23) (p_bi (y := fun _ => F 23) ?_ (pF 23)) (pF 23)
  cases x <;> try (exact pF 23)
  cases y <;> try (exact pF 23)
  exact p_fN fun n => p_bi (y := fun _ => F 23) (pV _) (pF 23)
theorem p_shiftBin (op : ABin) (k : IntKind) (x y : Int) : PureF fun h => zIt op k x y h := by
 unfold zIt
 refine zG8 fun n => ?_
 cases op
 case shl => exact p_bi (pInt _ _) (pV _)
 case shr => exact zG8 fun m => p_bi (y := fun _ => F 26) (p_fN fun m => pV _) (pF 26)
 all_goals exact pF 25
theorem p_strBin (op : ABin) (l b l' b' : Nat) : PureF fun h => strBin op l b l' b' h := by
 cases op
 case add => exact p_bi (y := fun _ => F 27) (p_fN fun n => p_fN fun m => pV _) (pF 27)
 all_goals exact pF 27
theorem p_bin (op : ABin) (x y : Opd) : PureF fun h => oBin op x y loc tmp h := by
 unfold oBin
 cases ev loc tmp x
 case int k m => exact zD2 fun k' n => p_bi (p_shiftBin _ _ _ _) (p_bi (y := fun _ => F 28) (p_intBin _ _ _ _) (pF 28))
 case str l b => exact zJe fun l' b' => p_strBin _ _ _ _ _
 all_goals exact pF 28
theorem p_part (off n : Nat) (g : Bool) (l : List AV) : PureF fun h => oPart off n g l h := by
 refine p_bi (pV _) ?_
 cases nth l off <;> first | exact pV _ | exact pF 39
theorem p_mkIfc (t : Nat) (x : Opd) : PureF fun h => zIh t x loc tmp h := by
 unfold zIh oMove
 cases ev loc tmp x <;> first | exact pV _ | exact pF _
theorem p_extract (i : Nat) (x : Opd) : PureF fun h => zDr i x loc tmp h := by
 refine p_onTup fun l => ?_
 cases nth l i <;> first | exact pV _ | exact pF 44
theorem p_assert (t : Nat) (ok : Bool) (z : AV) (x : Opd) : PureF fun h => zJi t ok z x loc tmp h := by
 unfold zJi
 cases ev loc tmp x
 case ifc t' v => exact p_bi (p_bi (pV _) (pV _)) (p_bi (y := fun _ => F 58) (pV _) (pF 58))
 case nili => exact p_bi (y := fun _ => F 58) (pV _) (pF 58)
 all_goals exact pF 58
theorem r_opt {o : Option Opd} {d : Nat} {k : Nat → AH → OR} (hk : ∀ n, ReadF (k n)) : ReadF fun h => zD9 loc tmp o d fun n => k n h := by
 cases o with
 | none => exact hk d
 | some x =>
  show ReadF fun h => onInt (ev loc tmp x) fun _ n => onNat n fun n => k n h
  cases ev loc tmp x <;> try (exact (pF _).read)
  rename_i a n
  cases n <;> first | exact hk _ | exact (pF _).read
theorem r_eq (neg : Bool) (t : EqT) (x y : Opd) : ReadF fun h => oEq neg t x y loc tmp h := by
 intro h
 show (∃ n, obind (eqBy t h (ev loc tmp x) (ev loc tmp y)) (F 29) (fun q => Ev.bool (bi neg (bi q false true) q) h) = .fail n) ∨ _
 cases hq : eqBy t h (ev loc tmp x) (ev loc tmp y) with
 | none => exact .inl ⟨_, rfl⟩
 | some q =>
  refine .inr ⟨.bool (bi neg (bi q false true) q), ?_, fun h2 hx => ?_⟩
  ·show obind (eqBy t h (ev loc tmp x) (ev loc tmp y)) (F 29) (fun q => Ev.bool (bi neg (bi q false true) q) h) = _
   rw [hq]
   show Ev.bool (bi neg (bi q false true) q) h = _
   rw [zC5]
  have : eqBy t h2 (ev loc tmp x) (ev loc tmp y) = some q := by
   cases t
   case ptr =>
    have hq : eqPtr h (ev loc tmp x) (ev loc tmp y) = some q := hq
    show eqPtr h2 (ev loc tmp x) (ev loc tmp y) = some q
    cases hx' : ev loc tmp x <;> rw [hx'] at hq <;> try (cases hq; done)
    all_goals
     cases hy' : ev loc tmp y <;> rw [hy'] at hq <;> try (cases hq; done)
    all_goals try exact hq
    rename_i i o i' o'
    obtain ⟨KK, hKK⟩ : ∃ KK : AObj → AObj → Option Bool, ∀ h, eqPtr h (.ptr i o) (.ptr i' o') = bi (Nat.beq i i') (some (Nat.beq o o')) (obind (AH.get h i) none fun p => obind (AH.get h i') none fun q => KK p q) := ⟨_, fun h => rfl⟩
    rw [hKK] at hq ⊢
    cases hb : Nat.beq i i' with
    | true => rw [hb] at hq; exact hq
    | false =>
     rw [hb] at hq
     have hq : obind (AH.get h i) none (fun p => obind (AH.get h i') none fun q => KK p q) = some q := hq
     show obind (AH.get h2 i) none (fun p => obind (AH.get h2 i') none fun q => KK p q) = some q
     rw [AH.get_eq, AH.get_eq] at hq ⊢
     cases h1 : h.mem.get i with
     | none => rw [h1] at hq; cases hq
     | some p1 =>
      rw [h1] at hq
      have hq : obind (h.mem.get i') none (fun q => KK p1 q) = some q := hq
      cases h3 : h.mem.get i' with
      | none => rw [h3] at hq; cases hq
      | some p2 =>
       rw [h3] at hq
       rw [hx _ _ h1, hx _ _ h3]
       exact hq
   all_goals exact hq
  show obind (eqBy t h2 (ev loc tmp x) (ev loc tmp y)) (F 29) (fun q => Ev.bool (bi neg (bi q false true) q) h2) = _
  rw [this]
  show Ev.bool (bi neg (bi q false true) q) h2 = _
  rw [zC5]
theorem r_lenM (x : Opd) : ReadF fun h => lenM x loc tmp h := by
 unfold lenM
 cases ev loc tmp x
 case mp id => exact r_mapO fun es _ => (pNat _).read
 case nilm => exact (pNat 0).read
 all_goals exact (pF 45).read
theorem r_lookup (kt : KT) (z : AV) (ok : Bool) (m k : Opd) : ReadF fun h => zJh kt z ok m k loc tmp h := by
 have hres : ∀ r : Option AV, ReadF fun h => (Option.rec (motive := fun _ => OR) (bi ok (OR.val (AV.tup [z, AV.bool false]) h) (OR.val z h)) (fun v => bi ok (OR.val (AV.tup [v, AV.bool true]) h) (OR.val v h)) r : OR) := by
  intro r
  cases r with
  | none => exact r_bi (pV _).read (pV _).read
  | some v => exact r_bi (pV _).read (pV _).read
 unfold zJh
 cases ev loc tmp m
 case mp id => exact r_mapO fun es _ => zJa fun _ => zJa fun r => hres r
 case nilm => exact zJa fun _ => hres none
 all_goals exact (pF 55).read
theorem r_onSl {v : AV} {kn : AH → OR} {k : Nat → Nat → Nat → ACap → AH → OR} (hn : ReadF kn) (hk : ∀ a b c d, ReadF (k a b c d)) : ReadF fun h => onSl v (kn h) fun a b c d => k a b c d h := by cases v <;> first | exact hk _ _ _ _ | exact hn | exact (pF _).read
theorem r_sliceV (es : Nat) (x : Opd) (lo hi mx : Option Opd) : ReadF fun h => zFn false es x lo hi mx loc tmp h := by
 unfold zFn
 have rb : ∀ {b : Bool} {n : Nat} {x : AH → OR}, ReadF x → ReadF fun h => bi b (x h) (F n) := fun {b n x} hx => r_bi (y := fun _ => F n) hx (pF n).read
 have rN : ∀ {n : Nat} {k : Nat → AH → OR}, (∀ n, ReadF (k n)) → ReadF fun h => fN n fun n => k n h := fun {n k} hk => by simp only [fN_eq]; exact hk n
 refine r_onSl (r_opt fun mx => r_opt fun hi => r_opt fun lo => rb (rb (rb (pV _).read))) fun id off len cap => ?_
 cases cap with
 | known c => exact r_opt fun mx => rb (r_opt fun hi => rb (r_opt fun lo => rb (rN fun n => rN fun m => r_bi (pV _).read (rN fun off => (pV _).read))))
 | rest es' =>
  refine rb (rb (r_cells fun _ s _ r => ?_))
  cases mx with
  | none =>
   refine r_opt fun hi => rb (r_opt fun lo => rb (r_bi (pV _).read (rN fun n => r_bi ?_ (rN fun off => (pV _).read))))
   exact (pV _).read
  | some mx =>
   refine r_opt (o := some mx) (d := 0) fun mx => rb (r_opt fun hi => rb (r_opt fun lo => rb (rN fun n => rN fun m => r_bi (pV _).read (rN fun off => (pV _).read))))
variable {P : Program} {cx : Operand → Option Opd}
theorem zLc {op : Op} {ao : AOp} (hc : cOp P cx false op = some ao) (h0 : clsO op = 0) : PureF fun h => evOp ao loc tmp h := by
 cases op <;> try (cases h0; done)
 case move x => obtain ⟨y, hy, rfl⟩ := mapS hc; exact p_move y
 case assign x => obtain ⟨y, hy, rfl⟩ := mapS hc; exact p_move y
 case pick c x y =>
  obtain ⟨c', h1, hc⟩ := bindS hc
  obtain ⟨x', h2, hc⟩ := bindS hc
  obtain ⟨y', h3, hc⟩ := bindS hc
  injection hc with hc; subst hc
  exact p_onBool fun q => p_bi (p_move _) (p_move _)
 case build t parts =>
  obtain ⟨zv, h1, hc⟩ := bindS hc
  obtain ⟨z, h2, hc⟩ := bindS hc
  split at hc
  ·obtain ⟨pr, h3, hc⟩ := bindS hc
   split at hc
   ·injection hc with hc; subst hc; exact p_obind fun l => pV _
   ·cases hc
  ·obtain ⟨n, hn, hc⟩ := bindS hc
   obtain ⟨pr, h3, hc⟩ := bindS hc
   split at hc
   ·injection hc with hc; subst hc; exact p_obind fun l => pV _
   ·cases hc
  ·cases hc
 case nilCheck x => obtain ⟨y, hy, rfl⟩ := mapS hc; exact p_onPtr fun i o => pV _
 case binOp op t x y u =>
  unfold cOp at hc
  simp only at hc
  split at hc
  ·cases h0
  ·cases h0
  ·obtain ⟨b, hb, hc⟩ := bindS hc
   obtain ⟨x', h1, hc⟩ := bindS hc
   obtain ⟨y', h2, hc⟩ := bindS hc
   injection hc with hc; subst hc
   exact p_bin _ _ _
 case unOp op t x =>
  cases op with
  | neg => obtain ⟨y, hy, rfl⟩ := mapS hc; exact zD2 fun k n => pInt _ _
  | not => obtain ⟨y, hy, rfl⟩ := mapS hc; exact p_onBool fun b => pBool _
  | xor => obtain ⟨y, hy, rfl⟩ := mapS hc; exact pF 30
  | _ => cases hc
 case convert s t x =>
  unfold cOp at hc
  simp only at hc
  split at hc
  ·obtain ⟨y, hy, rfl⟩ := mapS hc; exact zD2 fun k n => pInt _ _
  ·obtain ⟨y, hy, rfl⟩ := mapS hc; exact zJe fun l b => pV _
  ·cases hc
  ·cases hc
 case makeInterface t x =>
  unfold cOp at hc
  simp only at hc
  split at hc
  ·cases hc
  ·obtain ⟨y, hy, rfl⟩ := mapS hc; exact p_mkIfc _ _
  ·cases hc
 case makeFunc fn first caps =>
  cases fn with
  | func f =>
   obtain ⟨l, h1, hc⟩ := bindS hc
   obtain ⟨l', h2, hc⟩ := bindS hc
   injection hc with hc; subst hc
   exact pV _
  | _ => cases hc
 case fieldAddr s x f =>
  unfold cOp at hc
  simp only at hc
  split at hc
  ·obtain ⟨fl, hf, hc⟩ := bindS hc
   split at hc
   ·obtain ⟨y, hy, hc⟩ := bindS hc
    injection hc with hc; subst hc
    exact p_onPtr fun i o => p_fN fun n => pV _
   ·cases hc
  ·cases hc
 case field s x f =>
  unfold cOp at hc
  simp only at hc
  split at hc
  ·obtain ⟨fl, hf, hc⟩ := bindS hc
   obtain ⟨n, hn, hc⟩ := bindS hc
   obtain ⟨g, hg, hc⟩ := bindS hc
   obtain ⟨y, hy, hc⟩ := bindS hc
   injection hc with hc; subst hc
   exact p_onAgg fun l => p_part _ _ _ _
  ·cases hc
 case indexAddr t x i =>
  unfold cOp at hc
  simp only at hc
  split at hc
  ·obtain ⟨n, hn, hc⟩ := bindS hc
   obtain ⟨x', h1, hc⟩ := bindS hc
   obtain ⟨y', h2, hc⟩ := bindS hc
   injection hc with hc; subst hc
   exact zD2 fun _ i => zG8 fun i => p_onSl (kn := fun _ => F 40) (pF 40) fun _ _ _ _ => p_bi (y := fun _ => F 40) (p_fN fun o => pV _) (pF 40)
  ·obtain ⟨n, hn, hc⟩ := bindS hc
   obtain ⟨x', h1, hc⟩ := bindS hc
   obtain ⟨y', h2, hc⟩ := bindS hc
   injection hc with hc; subst hc
   exact zD2 fun _ i => zG8 fun i => p_onPtr fun _ _ => p_bi (y := fun _ => F 41) (p_fN fun o => pV _) (pF 41)
  ·cases hc
 case index t x i =>
  unfold cOp at hc
  simp only at hc
  split at hc
  ·obtain ⟨x', h1, hc⟩ := bindS hc
   obtain ⟨y', h2, hc⟩ := bindS hc
   injection hc with hc; subst hc
   exact zD2 fun _ i => zG8 fun i => zJe fun _ _ => p_bi (y := fun _ => F 42) (p_fN fun o => pV _) (pF 42)
  ·obtain ⟨n, hn, hc⟩ := bindS hc
   obtain ⟨g, hg, hc⟩ := bindS hc
   obtain ⟨x', h1, hc⟩ := bindS hc
   obtain ⟨y', h2, hc⟩ := bindS hc
   injection hc with hc; subst hc
   exact zD2 fun _ i => zG8 fun i => p_bi (y := fun _ => F 43) (p_onAgg fun _ => p_fN fun o => p_part _ _ _ _) (pF 43)
  ·cases hc
 case extract x i => obtain ⟨y, hy, rfl⟩ := mapS hc; exact p_extract _ _
 case typeAssert x st t ok =>
  unfold cOp at hc
  simp only at hc
  split at hc
  ·cases hc
  ·obtain ⟨zv, h1, hc⟩ := bindS hc
   obtain ⟨z, h2, hc⟩ := bindS hc
   obtain ⟨y, hy, hc⟩ := bindS hc
   injection hc with hc; subst hc
   exact p_assert _ _ _ _
  ·cases hc
 case call c =>
  obtain ⟨cal, args, ats⟩ := c
  cases cal with
  | builtin b =>
   cases b <;> try (cases h0; done)
   case cap =>
    unfold cOp at hc
    simp only at hc
    split at hc
    all_goals try (cases hc; done)
    all_goals rename_i hb hl
    all_goals try (cases hb; done)
    split at hc
    ·obtain ⟨y, hy, rfl⟩ := mapS hc
     refine p_onSl (pNat 0) fun _ _ _ c => ?_
     cases c <;> first | exact pNat _ | exact pF 46
    ·cases hc
   case max =>
    unfold cOp at hc
    simp only at hc
    split at hc
    all_goals try (cases hc; done)
    all_goals rename_i hb hl
    all_goals try (cases hb; done)
    obtain ⟨s', hs', hc⟩ := bindS hc
    obtain ⟨x', hx', hc⟩ := bindS hc
    injection hc with hc; subst hc
    exact zD2 fun k m => zD2 fun _ n => p_bi (pV _) (pV _)
   case min =>
    unfold cOp at hc
    simp only at hc
    split at hc
    all_goals try (cases hc; done)
    all_goals rename_i hb hl
    all_goals try (cases hb; done)
    obtain ⟨s', hs', hc⟩ := bindS hc
    obtain ⟨x', hx', hc⟩ := bindS hc
    injection hc with hc; subst hc
    exact zD2 fun k m => zD2 fun _ n => p_bi (pV _) (pV _)
  | _ => cases h0
theorem read_op {op : Op} {ao : AOp} (hc : cOp P cx false op = some ao) (h0 : clsO op = 1) : ReadF fun h => evOp ao loc tmp h := by
 cases op <;> try (cases h0; done)
 case load t x =>
  obtain ⟨g, hg, hc⟩ := bindS hc
  cases g with
  | true =>
   obtain ⟨n, hn, hc⟩ := bindS hc
   obtain ⟨y, hy, hc⟩ := bindS hc
   injection hc with hc; subst hc
   exact r_onPtr fun id off => r_cells fun c _ _ _ => zJa fun l => (pV _).read
  | false =>
   obtain ⟨y, hy, hc⟩ := bindS hc
   injection hc with hc; subst hc
   exact r_onPtr fun id off => r_cells fun c _ _ _ => zJa fun l => (pV _).read
 case binOp op t x y u =>
  unfold cOp at hc
  simp only at hc
  split at hc
  ·obtain ⟨et, het, hc⟩ := bindS hc
   obtain ⟨x', h1, hc⟩ := bindS hc
   obtain ⟨y', h2, hc⟩ := bindS hc
   injection hc with hc; subst hc
   exact r_eq _ _ _ _
  ·obtain ⟨et, het, hc⟩ := bindS hc
   obtain ⟨x', h1, hc⟩ := bindS hc
   obtain ⟨y', h2, hc⟩ := bindS hc
   injection hc with hc; subst hc
   exact r_eq _ _ _ _
  ·obtain ⟨b, hb, hc⟩ := bindS hc
   obtain ⟨x', h1, hc⟩ := bindS hc
   obtain ⟨y', h2, hc⟩ := bindS hc
   injection hc with hc; subst hc
   exact (p_bin _ _ _).read
 case lookup t m k ok =>
  unfold cOp at hc
  simp only at hc
  split at hc
  ·obtain ⟨kt, h0, hc⟩ := bindS hc
   obtain ⟨zv, h1, hc⟩ := bindS hc
   obtain ⟨z, h2, hc⟩ := bindS hc
   obtain ⟨m', h3, hc⟩ := bindS hc
   obtain ⟨k', h4, hc⟩ := bindS hc
   injection hc with hc; subst hc
   exact r_lookup _ _ _ _ _
  ·cases hc
 case slice t x lo hi mx =>
  unfold cOp at hc
  simp only at hc
  cases hu : P.underlying t with
  | none => rw [hu] at hc; cases hc
  | some dt =>
   rw [hu] at hc
   cases dt with
   | string =>
    cases mx with
    | some _ => cases hc
    | none =>
     obtain ⟨y, hy, hc⟩ := bindS hc
     obtain ⟨lo', h1, hc⟩ := bindS hc
     obtain ⟨hi', h2, hc⟩ := bindS hc
     injection hc with hc; subst hc
     exact (zJe fun len b => p_opt fun hi => p_opt fun lo => p_bi (y := fun _ => F 33) (p_bi (y := fun _ => F 33) (p_fN fun n => p_fN fun m => pV _) (pF 33)) (pF 33)).read
   | slice e =>
    have hc : (if mx.isSome && !hi.isSome then none else (do some (AOp.sliceV false (← zA2 P e) (← cx x) (← (match lo with | none => some none | some y => (cx y).map some)) (← (match hi with | none => some none | some y => (cx y).map some)) (← (match mx with | none => some none | some y => (cx y).map some))))) = some ao := hc
    split at hc
    ·cases hc
    ·obtain ⟨n, hn, hc⟩ := bindS hc
     obtain ⟨y, hy, hc⟩ := bindS hc
     obtain ⟨lo', h1, hc⟩ := bindS hc
     obtain ⟨hi', h2, hc⟩ := bindS hc
     obtain ⟨mx', h3, hc⟩ := bindS hc
     injection hc with hc; subst hc
     exact r_sliceV _ _ _ _ _
   | _ => cases hc
 case call c =>
  obtain ⟨cal, args, ats⟩ := c
  cases cal with
  | builtin b =>
   cases b <;> try (cases h0; done)
   case len =>
    unfold cOp at hc
    simp only at hc
    split at hc
    all_goals try (cases hc; done)
    all_goals rename_i hb hl
    all_goals try (cases hb; done)
    split at hc
    ·obtain ⟨y, hy, rfl⟩ := mapS hc; exact (zJe fun l _ => pNat _).read
    ·obtain ⟨y, hy, rfl⟩ := mapS hc; exact (p_onSl (pNat 0) fun _ _ l _ => pNat _).read
    ·obtain ⟨y, hy, rfl⟩ := mapS hc; exact r_lenM _
    ·injection hc with hc; subst hc; exact (show ReadF fun h => oMove (.c (.int .i64 _)) loc tmp h from (p_move _).read)
    ·cases hc
  | _ => cases h0
end
end Go.Ev
namespace Go.Ev
open Go
variable [Glob]
section
variable {P : Program} {ρ : Rho} {h : AH} {w : World} {loc : T AV} {tmp : List AV}
def MakeF (P : Program) (ρ : Rho) (w : World) (s : Sem Next) (f : AH → OR) : Prop :=
 (∃ n, ∀ h, f h = .fail n) ∨ ∃ (V : Nat → AV) (o : AObj) (x : Obj) (sz : Nat) (w' : World) (v' : Value), (∀ h, f h = .val (V h.next) (h.add o)) ∧ ObjR ρ o x 0 sz ∧ w'.heap = w.heap.push x ∧ Same w w' ∧ s.run P w = .ok (.value v') w' ∧
  ∀ (ρ' : Rho) (id : Nat), ρ' id = some (w.heap.size, 0, sz) → VR ρ' (V id) v'
theorem mk_row {l : List AV} {cs : Array Value} {e : TypeId} {s : Sem Next} {f : AH → OR} (hl : VCs ρ l cs.toList) (V : Nat → AV) (v' : Value) (hf : ∀ h, f h = .val (V h.next) (h.add (.cells (zAc l) l.length none false)))
  (hs : s.run P w = .ok (.value v') { w with heap := w.heap.push (.cells cs e) }) (hv : ∀ (ρ' : Rho) (id : Nat), ρ' id = some (w.heap.size, 0, l.length) → VR ρ' (V id) v') : MakeF P ρ w s f := by
 have := ObjR.ofCells (e := e) (opn := none) (ro := false) hl (fun _ h => by cases h)
 rw [Array.toArray_toList] at this
 exact .inr ⟨V, _, _, _, { w with heap := w.heap.push (.cells cs e) }, v', hf, this, rfl, ⟨rfl, rfl, rfl⟩, hs, hv⟩
theorem zH6 {s : Sem Next} (n : Nat) : MakeF P ρ w s fun _ => F n := .inl ⟨n, fun _ => rfl⟩
theorem mk_obind {α : Type} {o : Option α} {n : Nat} {s : Sem Next} {k : α → AH → OR} (hk : ∀ a, o = some a → MakeF P ρ w s (k a)) : MakeF P ρ w s fun h => obind o (F n) fun a => k a h := by
 cases o with
 | none => exact zH6 n
 | some a => exact hk a rfl
theorem mk_int {v : AV} {s : Sem Next} {k : IntKind → Int → AH → OR} (hk : ∀ a b, v = .int a b → MakeF P ρ w s (k a b)) : MakeF P ρ w s fun h => onInt v fun a b => k a b h := by cases v <;> first | exact hk _ _ rfl | exact zH6 _
theorem mk_nat {n : Int} {s : Sem Next} {k : Nat → AH → OR} (hk : ∀ m : Nat, n = m → MakeF P ρ w s (k m)) : MakeF P ρ w s fun h => onNat n fun a => k a h := by cases n <;> first | exact hk _ rfl | exact zH6 _
theorem mk_bi {b : Bool} {n : Nat} {s : Sem Next} {x : AH → OR} (hx : b = true → MakeF P ρ w s x) : MakeF P ρ w s fun h => bi b (x h) (F n) := by
 cases b
 ·exact zH6 n
 ·exact hx rfl
theorem m_alloc {z : List AV} {e : TypeId} {zv : Value} (h1 : zB5 P e = some zv) (h2 : zB4 zv = some z) :
  MakeF P ρ w (vv (Instr.alloc e true (.tuple #[]))) (fun h => oAlloc z loc tmp h) := by
 have hz : VCs ρ z zv.cells.toList := zBv h2
 refine mk_row (e := e) hz (fun id => .ptr id 0) (.pointer (some ⟨w.heap.size, 0, none⟩)) (fun h => by unfold oAlloc; rw [AH.new_eq, zBt]) (zAn ?_) (fun ρ' id e => .ptr e rfl)
 simp [Instr.alloc, zBf h1, newVar, zBl]
theorem m_box {x : Opd} {e : TypeId} {v : Value} (hv : VR ρ (ev loc tmp x) v) : MakeF P ρ w (vv (Instr.box e v)) (fun h => oBox x loc tmp h) := by
 have key : ∀ l : List AV, VCs ρ l v.cells.toList → MakeF P ρ w (vv (Instr.box e v)) (fun h => AH.new h (AObj.cells (zAc l) l.length none false) fun id h => OR.val (AV.ptr id (nat_lit 0)) h) := by
  intro l hl
  refine mk_row (e := e) hl (fun id => .ptr id 0) (.pointer (some ⟨w.heap.size, 0, none⟩)) (fun h => by rw [AH.new_eq]) (zAn ?_) (fun ρ' id e => .ptr e rfl)
  simp [Instr.box, newVar, zBl]
 have one : ∀ a : AV, ev loc tmp x = a → a.isCell = true → VCs ρ [a] v.cells.toList := by
  intro a e hc
  rw [e] at hv
  have h1 := hv.oneCell hc
  have : v.cells = #[v] := by cases v <;> first | rfl | (simp [Value.oneCell'] at h1)
  rw [this]
  exact .cons hc hv .nil
 unfold oBox
 cases hx : ev loc tmp x with
 | bad => exact zH6 14
 | tup l => exact zH6 14
 | agg l =>
  rw [hx] at hv
  cases hv with
  | agg hl e => subst e; have := key l (by simpa [Value.cells] using hl); rw [← zBt] at this; exact this
 | _ => exact key _ (one _ hx rfl)
theorem m_mkMap {t : TypeId} : MakeF P ρ w (vv (Instr.makeMap t none)) (fun h => oMkMap loc tmp h) :=
 .inr ⟨fun id => .mp id, .map [] 0, .map #[] 0, 0, { w with heap := w.heap.push (.map #[] 0) }, .map (some w.heap.size), fun h => by show AH.new h _ _ = _; rw [AH.new_eq], .map .nil, rfl, ⟨rfl, rfl, rfl⟩, zAn (by simp [Instr.makeMap]), fun ρ' id e => .mp e⟩
theorem m_bslice {t e : TypeId} {z : List AV} {ps : List Part} {vs : Array (Nat × Value)} {zv : Value} {len n : Nat} (hu : P.underlying t = some (.slice e)) (hn : zA2 P e = some n) (hz : zB5 P e = some zv) (hzc : zB4 zv = some z) (hzn : z.length = n) (hb : len * n ≤ 2 ^ 24)
  (hp : PRs ρ loc tmp (fun i => some (i * n, n)) ps vs.toList) :
  MakeF P ρ w (vv (Instr.buildSlice t len vs)) (fun h => oBslice (List.replicate len z).flatten len ps loc tmp h) := by
 refine mk_obind fun l hl => ?_
 have hz0 := zBv (ρ := ρ) hzc
 have hsz : zv.cells.size = n := by have := hz0.length; simp at this; omega
 obtain ⟨zc, hzce⟩ : ∃ zc, zc = (if len * n = 0 then #[] else zv.cells) := ⟨_, rfl⟩
 have hrep : VCs ρ (List.replicate len z).flatten ((Array.range (len * n)).map (zc[· % zc.size]!)).toList := by
  by_cases h0 : len * n = 0
  ·have : (List.replicate len z).flatten = [] := List.eq_nil_of_length_eq_zero (by rw [zEe, hzn, h0])
   rw [this, h0]; simp; exact .nil
  ·rw [if_neg h0] at hzce
   subst hzce
   have := zEk (n := len) hz0
   rw [show len * n = len * zv.cells.size by rw [hsz]]
   exact this
 obtain ⟨cs', g1, g2, g3⟩ := zHv hp hrep (by rw [← zGw]; exact hl)
 refine mk_row (e := e) g2 (fun id => .sl id 0 len (.known len)) (.slice (some ⟨w.heap.size, 0, none⟩) len len) (fun h => by rw [AH.new_eq, zBt, ← g3]) (zAn ?_) (fun ρ' id e => .sl e rfl (.known (Nat.le_refl _)))
 have hb' : ¬ 16777216 < len * n := by omega
 by_cases h0 : len * n = 0
 ·rw [if_pos h0] at hzce; subst hzce
  simp only [Instr.buildSlice, Sem.run_bind, run_underlying hu, Result.andThen_ok, zAw hn]
  rw [if_neg (by simpa using hb'), if_pos h0]
  simp only [Sem.run_bind, Sem.run_pure, Result.andThen_ok]
  rw [g1]
  simp [zBl]
 ·rw [if_neg h0] at hzce; subst hzce
  simp only [Instr.buildSlice, Sem.run_bind, run_underlying hu, Result.andThen_ok, zAw hn]
  rw [if_neg (by simpa using hb'), if_neg h0]
  simp only [Sem.run_bind, Sem.run_pure, Result.andThen_ok, zBf hz]
  rw [g1]
  simp [zBl]
theorem m_mkSlice {t e : TypeId} {z : List AV} {l c : Opd} {vl vc zv : Value} {n b : Nat} (hu : P.underlying t = some (.slice e)) (hn : zA2 P e = some n) (hb : zD0 P e = some b) (hz : zB5 P e = some zv) (hzc : zB4 zv = some z) (hzn : z.length = n)
  (hl : VR ρ (ev loc tmp l) vl) (hc : VR ρ (ev loc tmp c) vc) : MakeF P ρ w (vv (Instr.makeSlice t vl vc)) (fun h => zLj z b l c loc tmp h) := by
 refine mk_int fun k q e1 => mk_nat fun m hm => mk_int fun k' q' e2 => mk_nat fun m' hm' => mk_bi fun h1 => mk_bi fun h2 => mk_bi fun h3 => ?_
 rw [e1] at hl; rw [e2] at hc
 cases hl; cases hc
 subst hm; subst hm'
 have h1 : m ≤ m' := Nat.le_of_ble_eq_true h1
 have h2 : m' * b ≤ 1099511627776 := Nat.le_of_ble_eq_true h2
 have h3 : m' ≤ 1099511627776 := Nat.le_of_ble_eq_true h3
 show MakeF P ρ w _ (fun h => AH.new h (AObj.cells (zAc (lrep z m')) (Nat.mul m' (llen z)) none false) fun id h => OR.val (AV.sl id 0 m (ACap.known m')) h)
 have hz0 := zBv (ρ := ρ) hzc
 have hsz : zv.cells.size = n := by have := hz0.length; simp at this; omega
 obtain ⟨zc, hzce⟩ : ∃ zc, zc = (if m' * n = 0 then #[] else zv.cells) := ⟨_, rfl⟩
 have hrep : VCs ρ (lrep z m') ((Array.range (m' * n)).map (zc[· % zc.size]!)).toList := by
  rw [zHa]
  by_cases h0 : m' * n = 0
  ·have : (List.replicate m' z).flatten = [] := List.eq_nil_of_length_eq_zero (by rw [zEe, hzn, h0])
   rw [this, h0]; simp; exact .nil
  ·rw [if_neg h0] at hzce
   subst hzce
   have := zEk (n := m') hz0
   rw [show m' * n = m' * zv.cells.size by rw [hsz]]
   exact this
 have hlen : Nat.mul m' (llen z) = (lrep z m').length := by rw [zBt, zHa, zEe]; rfl
 rw [hlen]
 refine mk_row (e := e) hrep (fun id => .sl id 0 m (.known m')) (.slice (some ⟨w.heap.size, 0, none⟩) m m') (fun h => by rw [AH.new_eq]) (zAn ?_) (fun ρ' id e => .sl e rfl (.known h1))
 have hinfo : ∃ i, P.info? e = some i ∧ i.bytes = b := by
  unfold zD0 at hb
  cases hi : P.info? e with
  | none => rw [hi] at hb; cases hb
  | some i => rw [hi] at hb; injection hb with hb; exact ⟨i, rfl, hb⟩
 obtain ⟨i, hi, hib⟩ := hinfo
 have hti : (typeInfo e).run P w = .ok i w := by simp [typeInfo, hi]
 have w1 : IntKind.i64.wrap (m : Int) = m := zDx (by omega)
 have w2 : IntKind.i64.wrap (m' : Int) = m' := zDx h3
 have hbig : ¬ (2 : Int) ^ 48 < (i.bytes : Int) * (m' : Int) := by
  rw [hib]
  have : (b : Int) * (m' : Int) = ((m' * b : Nat) : Int) := by rw [Int.mul_comm, Int.natCast_mul]
  have e : (2 : Int) ^ 48 = 281474976710656 := by decide
  omega
 have e1 : ¬ (m' : Int) < 0 := by omega
 have e2 : ¬ (m : Int) < 0 := by omega
 have e3 : ¬ (m' : Int) < (m : Int) := by omega
 simp only [Instr.makeSlice, Sem.run_bind, run_underlying hu, Result.andThen_ok, asInt, zCp, Sem.run_pure, hti, w1, w2]
 by_cases h0 : m' * n = 0
 ·rw [if_pos h0] at hzce; subst hzce
  simp [hbig, e1, e2, e3, zAw hn, h0, zBl]
  intro hc; exfalso; apply hbig; have e : (2 : Int) ^ 48 = 281474976710656 := by decide
  omega
 ·rw [if_neg h0] at hzce; subst hzce
  simp [hbig, e1, e2, e3, zAw hn, h0, zBf hz, zBl]
  intro hc; exfalso; apply hbig; have e : (2 : Int) ^ 48 = 281474976710656 := by decide
  omega
variable {cx : Operand → Option Opd} {a : Operand → Value}
theorem make_op {o : Oper} {ao : AOp} (hx : OpdsR ρ loc tmp cx a) (hc : cOp P cx false o.op = some ao) (h0 : clsO o.op = 2) : MakeF P ρ w (execOp a o) fun h => evOp ao loc tmp h := by
 obtain ⟨d, op, ty, ps, af, g⟩ := o
 have hc : cOp P cx false op = some ao := hc
 have h0 : clsO op = 2 := h0
 cases op with
 | alloc e =>
  obtain ⟨zv, h1, hc⟩ := bindS hc
  obtain ⟨z, h2, hc⟩ := bindS hc
  injection hc with hc; subst hc
  exact m_alloc (loc := loc) (tmp := tmp) h1 h2
 | box e x => obtain ⟨y, hy, rfl⟩ := mapS hc; exact m_box (hx _ _ hy)
 | buildSlice t len parts =>
  unfold cOp at hc
  simp only at hc
  split at hc
  ·rename_i e hu
   obtain ⟨n, hn, hc⟩ := bindS hc
   obtain ⟨zv, h1, hc⟩ := bindS hc
   obtain ⟨z, h2, hc⟩ := bindS hc
   obtain ⟨pr, h3, hc⟩ := bindS hc
   split at hc
   ·rename_i hsz
    injection hc with hc; subst hc
    refine m_bslice hu hn h1 h2 hsz.1 hsz.2 ?_
    rw [Array.toList_map]
    refine zGa hx (fun i x p hp => ?_) h3
    obtain ⟨y, hy, hp⟩ := bindS hp
    injection hp with hp; subst hp
    exact ⟨rfl, hy⟩
   ·cases hc
  ·cases hc
 | binOp op _ _ _ _ => cases op <;> cases h0
 | makeMap t r =>
  cases r with
  | none => injection hc with hc; subst hc; exact m_mkMap (loc := loc) (tmp := tmp)
  | some _ => cases hc
 | makeSlice t l c =>
  unfold cOp at hc
  simp only at hc
  split at hc
  ·rename_i e hu
   obtain ⟨n, hn, hc⟩ := bindS hc
   obtain ⟨zv, h1, hc⟩ := bindS hc
   obtain ⟨z, h2, hc⟩ := bindS hc
   split at hc
   ·rename_i hsz
    obtain ⟨b, hb, hc⟩ := bindS hc
    obtain ⟨l', h3, hc⟩ := bindS hc
    obtain ⟨c', h4, hc⟩ := bindS hc
    injection hc with hc; subst hc
    exact m_mkSlice hu hn hb h1 h2 hsz (hx _ _ h3) (hx _ _ h4)
   ·cases hc
  ·cases hc
 | call c =>
  obtain ⟨cal, args, ats⟩ := c
  cases cal with
  | builtin b => cases b <;> cases h0
  | _ => cases h0
 | _ => cases h0
def MakeA (f : AH → OR) : Prop := (∃ n, ∀ h, f h = .fail n) ∨ ∃ (V : Nat → AV) (o : AObj), ∀ h, f h = .val (V h.next) (h.add o)
theorem a_fail (n : Nat) : MakeA fun _ => F n := .inl ⟨n, fun _ => rfl⟩
theorem a_new (V : Nat → AV) (o : AObj) : MakeA fun h => AH.new h o fun id h => OR.val (V id) h := .inr ⟨V, o, fun h => AH.new_eq _ _ _⟩
theorem a_obind {α : Type} {o : Option α} {n : Nat} {k : α → AH → OR} (hk : ∀ a, MakeA (k a)) : MakeA fun h => obind o (F n) fun a => k a h := by
 cases o with
 | none => exact a_fail n
 | some a => exact hk a
theorem a_int {v : AV} {k : IntKind → Int → AH → OR} (hk : ∀ a b, MakeA (k a b)) : MakeA fun h => onInt v fun a b => k a b h := by cases v <;> first | exact hk _ _ | exact a_fail _
theorem a_nat {n : Int} {k : Nat → AH → OR} (hk : ∀ m : Nat, MakeA (k m)) : MakeA fun h => onNat n fun a => k a h := by cases n <;> first | exact hk _ | exact a_fail _
theorem a_bi {b : Bool} {n : Nat} {x : AH → OR} (hx : MakeA x) : MakeA fun h => bi b (x h) (F n) := by
 cases b
 ·exact a_fail n
 ·exact hx
theorem a_box (x : Opd) : MakeA fun h => oBox x loc tmp h := by
 unfold oBox
 cases ev loc tmp x <;> first | exact a_fail 14 | exact a_new (fun id => .ptr id 0) _
theorem makeA_op {op : Op} {ao : AOp} (hc : cOp P cx false op = some ao) (h0 : clsO op = 2) : MakeA fun h => evOp ao loc tmp h := by
 cases op with
 | alloc e =>
  obtain ⟨zv, h1, hc⟩ := bindS hc
  obtain ⟨z, h2, hc⟩ := bindS hc
  injection hc with hc; subst hc
  exact a_new (fun id => .ptr id 0) _
 | box e x => obtain ⟨y, hy, rfl⟩ := mapS hc; exact a_box _
 | buildSlice t len parts =>
  unfold cOp at hc
  simp only at hc
  split at hc
  ·obtain ⟨n, hn, hc⟩ := bindS hc
   obtain ⟨zv, h1, hc⟩ := bindS hc
   obtain ⟨z, h2, hc⟩ := bindS hc
   obtain ⟨pr, h3, hc⟩ := bindS hc
   split at hc
   ·injection hc with hc; subst hc
    exact a_obind fun l => a_new (fun id => .sl id 0 len (.known len)) _
   ·cases hc
  ·cases hc
 | binOp op _ _ _ _ => cases op <;> cases h0
 | makeMap t r =>
  cases r with
  | none => injection hc with hc; subst hc; exact a_new (fun id => .mp id) _
  | some _ => cases hc
 | makeSlice t l c =>
  unfold cOp at hc
  simp only at hc
  split at hc
  ·obtain ⟨n, hn, hc⟩ := bindS hc
   obtain ⟨zv, h1, hc⟩ := bindS hc
   obtain ⟨z, h2, hc⟩ := bindS hc
   split at hc
   ·obtain ⟨b, hb, hc⟩ := bindS hc
    obtain ⟨l', h3, hc⟩ := bindS hc
    obtain ⟨c', h4, hc⟩ := bindS hc
    injection hc with hc; subst hc
    exact a_int fun _ l => a_nat fun l => a_int fun _ c => a_nat fun c => a_bi (a_bi (a_bi (a_new (fun id => .sl id 0 l (.known c)) _)))
   ·cases hc
  ·cases hc
 | call c =>
  obtain ⟨cal, args, ats⟩ := c
  cases cal with
  | builtin b => cases b <;> cases h0
  | _ => cases h0
 | _ => cases h0
end
end Go.Ev
namespace Go.Ev
open Go
variable [Glob]
theorem zH7 {α β : Type} {f g : α → Option β} : ∀ {l : List α}, (∀ x ∈ l, f x = g x) → l.mapM f = l.mapM g
 | [], _ => rfl
 | x :: l, h => by rw [List.mapM_cons, List.mapM_cons, h x (by simp), zH7 fun y hy => h y (by simp [hy])]
theorem cOp_congr {P : Program} {cx cx' : Operand → Option Opd} {kill : Bool} {op : Op} (h : ∀ x ∈ op.operands, cx x = cx' x) : cOp P cx kill op = cOp P cx' kill op := by
 have parts : ∀ (ps : Array (Nat × Operand)) (f : (Operand → Option Opd) → Nat × Operand → Option Part), (∀ i x, cx x = cx' x → f cx (i, x) = f cx' (i, x)) → (∀ x ∈ (ps.toList.map (·.2)).toArray, cx x = cx' x) → ps.toList.mapM (f cx) = ps.toList.mapM (f cx') := by
  intro ps f hf hp
  refine zH7 fun p hm => ?_
  obtain ⟨i, x⟩ := p
  exact hf i x (hp x (by simp; exact ⟨i, by simpa using hm⟩))
 have args : ∀ (l : Array Operand), (∀ x ∈ l, cx x = cx' x) → l.toList.mapM cx = l.toList.mapM cx' := fun l hl => zH7 fun x hx => hl x (by simpa using hx)
 cases op <;> simp only [Op.operands] at h <;> simp only [cOp]
 case build t ps =>
  congr 1; funext zv; congr 1; funext z
  split
  ·rename_i fs hu
   have := parts ps (fun cx p => do let f ← fs[p.1]?; some { off := f.offset, size := ← zA2 P f.type, x := ← cx p.2 : Part }) (fun i x e => by simp only [e]) h
   have this : (ps.toList.mapM fun (i, x) => do let f ← fs[i]?; some { off := f.offset, size := ← zA2 P f.type, x := ← cx x : Part }) = (ps.toList.mapM fun (i, x) => do let f ← fs[i]?; some { off := f.offset, size := ← zA2 P f.type, x := ← cx' x : Part }) := this
   rw [this]
  ·rename_i len e hu
   congr 1; funext n
   have := parts ps (fun cx p => do some { off := p.1 * n, size := n, x := ← cx p.2 : Part }) (fun i x e => by simp only [e]) h
   have this : (ps.toList.mapM fun (i, x) => do some { off := i * n, size := n, x := ← cx x : Part }) = (ps.toList.mapM fun (i, x) => do some { off := i * n, size := n, x := ← cx' x : Part }) := this
   rw [this]
  ·rfl
 case buildSlice t len ps =>
  split
  ·congr 1; funext n; congr 1; funext zv; congr 1; funext z
   have := parts ps (fun cx p => do some { off := p.1 * n, size := n, x := ← cx p.2 : Part }) (fun i x e => by simp only [e]) h
   have this : (ps.toList.mapM fun (i, x) => do some { off := i * n, size := n, x := ← cx x : Part }) = (ps.toList.mapM fun (i, x) => do some { off := i * n, size := n, x := ← cx' x : Part }) := this
   rw [this]
  ·rfl
 case makeFunc fn first caps =>
  have h1 := args first fun x hx => h x (by simp [hx])
  have h2 := args caps fun x hx => h x (by simp [hx])
  cases fn with
  | func f =>
   show (do some (AOp.mkFn f (← first.toList.mapM cx) (← caps.toList.mapM cx))) = (do some (AOp.mkFn f (← first.toList.mapM cx') (← caps.toList.mapM cx')))
   rw [h1, h2]
  | _ => rfl
 case slice t x lo hi mx =>
  have ex : cx x = cx' x := h x (by simp)
  cases P.underlying t with
  | none => rfl
  | some d =>
   cases d with
   | string =>
    cases lo <;> cases hi <;> cases mx <;> first | rfl | (simp_all; done)
   | slice e =>
    cases lo <;> cases hi <;> cases mx <;> first | rfl | (simp_all; done)
   | _ => rfl
 case call c =>
  obtain ⟨cal, as, ats⟩ := c
  cases cal with
  | value f =>
   simp only [Call.operands] at h
   have h1 := args as fun x hx => h x (by simp [hx])
   have h2 := h f (by simp)
   cases f with
   | func g =>
    show (if zBn P g then (do some (AOp.callF g (← as.toList.mapM cx))) else none) = (if zBn P g then (do some (AOp.callF g (← as.toList.mapM cx'))) else none)
    rw [h1]
   | tmp t =>
    show (do some (AOp.callV (← cx (.tmp t)) (← as.toList.mapM cx))) = (do some (AOp.callV (← cx' (.tmp t)) (← as.toList.mapM cx')))
    rw [h1, h2]
   | const v =>
    show (do some (AOp.callV (← cx (.const v)) (← as.toList.mapM cx))) = (do some (AOp.callV (← cx' (.const v)) (← as.toList.mapM cx')))
    rw [h1, h2]
   | global g =>
    show (do some (AOp.callV (← cx (.global g)) (← as.toList.mapM cx))) = (do some (AOp.callV (← cx' (.global g)) (← as.toList.mapM cx')))
    rw [h1, h2]
  | invoke r n => rfl
  | builtin b =>
   obtain ⟨l⟩ := as
   have h1 : ∀ x ∈ l, cx x = cx' x := fun x hx => h x (by simp [Call.operands, hx])
   match l, h1 with
   | [], _ => cases b <;> rfl
   | [x], h1 =>
    have e := h1 x (by simp)
    cases b <;> first | rfl | (simp only [e]; done) | (simp only [cOp, e]; done)
   | [x, y], h1 =>
    have e := h1 x (by simp)
    have e2 := h1 y (by simp)
    cases b <;> first | rfl | (simp only [e, e2]; done) | (simp only [cOp, e, e2]; done)
   | x :: y :: z :: l, _ => cases b <;> rfl
 case defer c =>
  obtain ⟨cal, as, ats⟩ := c
  cases cal with
  | value f =>
   simp only [Call.operands] at h
   have h2 := h f (by simp)
   show (if as.isEmpty then (cx f).map AOp.dfr else none) = (if as.isEmpty then (cx' f).map AOp.dfr else none)
   rw [h2]
  | _ => rfl
 case unOp op t x =>
  have e := h x (by simp)
  cases op <;> first | rfl | (simp only [cOp, e]; done)
 case next it st =>
  have e := h it (by simp)
  cases st <;> first | rfl | (simp only [cOp, e]; done)
 case makeMap t r => cases r <;> rfl
 all_goals (first | rfl | (simp_all; done))
end Go.Ev
namespace Go.Ev
open Go
variable [Glob]
noncomputable def slot (loc : T AV) (k : Nat) : AV := obind (T.get loc k) AV.bad fun v => v
theorem zIs (v : AV) (loc : T AV) (k k' : Nat) : slot (T.put (some v) loc k) k' = if k = k' then v else slot loc k' := by
 unfold slot
 rw [T.get_put]
 split <;> rfl
theorem ev_l (loc : T AV) (tmp : List AV) (k : Nat) : ev loc tmp (.l k) = slot loc k := rfl
theorem ev_t (loc : T AV) (tmp : List AV) (k : Nat) : ev loc tmp (.t k) = nth tmp k := rfl
theorem ev_c (loc : T AV) (tmp : List AV) (v : AV) : ev loc tmp (.c v) = v := rfl
theorem zGk {m : List Nat} {t k : Nat} (h : zA0 m t = some k) : m[k]? = some t := by
 unfold zA0 at h
 obtain ⟨hlt, h1, _⟩ := List.findIdx?_eq_some_iff_getElem.1 h
 rw [List.getElem?_eq_getElem hlt]
 congr 1
 exact eq_of_beq h1
theorem zGj {m : List Nat} {t t' k : Nat} (h : zA0 m t = some k) (h' : zA0 m t' = some k) : t = t' := by
 have := zGk h
 rw [zGk h'] at this
 exact (Option.some.inj this).symm
theorem zJs (x : Option Nat) (ts : List (Option Nat)) (t : Nat) : zG1 (x :: ts) t = if x = some t then some 0 else (zG1 ts t).map (· + 1) := by
 unfold zG1
 rw [List.findIdx?_cons]
 by_cases h : x = some t
 ·subst h; simp
 ·rw [if_neg h]
  have : (x == some t) = false := by simpa using h
  rw [this]; rfl
def LocR (ρ : Rho) (m : List Nat) (loc : T AV) (a : Act) : Prop := ∀ t k, zA0 m t = some k → VR ρ (slot loc k) (a.tmps.getD t undef)
def TmpR (ρ : Rho) (ts : List (Option Nat)) (tmp : List AV) (a : Act) : Prop := ∀ t i, zG1 ts t = some i → VR ρ (nth tmp i) (a.tmps.getD t undef)
theorem LocR.mono {ρ ρ' : Rho} {m : List Nat} {loc : T AV} {a : Act} (h : ρ.le ρ') (l : LocR ρ m loc a) : LocR ρ' m loc a := fun t k e => (l t k e).mono h
theorem TmpR.mono {ρ ρ' : Rho} {ts : List (Option Nat)} {tmp : List AV} {a : Act} (h : ρ.le ρ') (l : TmpR ρ ts tmp a) : TmpR ρ' ts tmp a := fun t k e => (l t k e).mono h
theorem zFk {a : Act} {d : Option Tmp} {v : Value} (hd : ∀ x, d = some x → x < a.tmps.size) (t : Nat) : (a.put d v).tmps.getD t undef = if d = some t then v else a.tmps.getD t undef := by
 cases d with
 | none => simp [Act.put]
 | some x =>
  have := hd x rfl
  by_cases h : x = t
  ·subst h; simp [Act.put, this]
  ·rw [if_neg (by simpa using h)]
   simp [Act.put, Array.getElem?_setIfInBounds_ne h]
theorem zGq {a : Act} {d : Option Tmp} {v : Value} : (a.put d v).tmps.size = a.tmps.size := by cases d <;> simp [Act.put]
theorem LocR.put {ρ : Rho} {m : List Nat} {loc : T AV} {a : Act} {d : Option Tmp} {v : AV} {v' : Value} (hd : ∀ x, d = some x → x < a.tmps.size) (hv : VR ρ v v') (l : LocR ρ m loc a) : LocR ρ m (zAo (d.bind (zA0 m)) v loc) (a.put d v') := by
 intro t k e
 rw [zFk hd]
 cases d with
 | none => exact l t k e
 | some x =>
  show VR ρ (slot (zAo (zA0 m x) v loc) k) _
  by_cases hx : x = t
  ·subst hx
   rw [e, if_pos rfl]
   show VR ρ (slot (T.put (some v) loc k) k) _
   rw [zIs, if_pos rfl]; exact hv
  ·rw [if_neg (by simpa using hx)]
   cases hs : zA0 m x with
   | none => exact l t k e
   | some k' =>
    show VR ρ (slot (T.put (some v) loc k') k) _
    rw [zIs, if_neg (fun h => hx (zGj (by rw [hs, h]) e))]
    exact l t k e
theorem TmpR.put {ρ : Rho} {ts : List (Option Nat)} {tmp : List AV} {a : Act} {d : Option Tmp} {v : AV} {v' : Value} (hd : ∀ x, d = some x → x < a.tmps.size) (hv : VR ρ v v') (l : TmpR ρ ts tmp a) : TmpR ρ (d :: ts) (v :: tmp) (a.put d v') := by
 intro t i e
 rw [zFk hd]
 rw [zJs] at e
 split at e
 ·rename_i h
  injection e with e; subst e
  rw [if_pos h]; exact hv
 ·rename_i h
  rw [if_neg h]
  obtain ⟨j, hj, e⟩ := mapS e
  subst e
  exact l t j hj
inductive DefsR (ρ : Rho) : List AV → List Deferred → Prop
 | nil : DefsR ρ [] []
 | cons {a : AV} {d : Deferred} {l : List AV} {l' : List Deferred} : Defs ρ a d → DefsR ρ l l' → DefsR ρ (a :: l) (d :: l')
theorem Defs.mono {ρ ρ' : Rho} (h : ρ.le ρ') {a : AV} {d : Deferred} (k : Defs ρ a d) : Defs ρ' a d := by
 obtain ⟨f, l, c, l', c', e1, e2, h1, h2⟩ := k
 exact ⟨f, l, c, l', c', e1, e2, h1.mono h, h2.mono h⟩
theorem DefsR.mono {ρ ρ' : Rho} (h : ρ.le ρ') {l : List AV} {l' : List Deferred} (k : DefsR ρ l l') : DefsR ρ' l l' := by
 induction k with
 | nil => exact .nil
 | cons a _ ih => exact .cons (a.mono h) ih
def CallsR (P : Program) (ρ : Rho) (h : AH) (w : World) (f : Nat) (args' : List Value) : CR → Prop
 | .ret v h' => Calls P f args'.toArray w fun e w' => ∃ ρ' v', e = .returned v' ∧ VR ρ' v v' ∧ WR ρ' h' w' ∧ Step ρ h w ρ' h' w'
 | .pan v h' => Calls P f args'.toArray w fun e w' => ∃ ρ' v', e = .panicked [{ v := v', recovered := false }] ∧ VR ρ' v v' ∧ WR ρ' h' w' ∧ Step ρ h w ρ' h' w'
 | .fail _ => True
structure zIp (P : Program) (call : Nat → List AV → AH → CR) : Prop where
 cb : ∀ {f : Nat} {args : List AV} {h : AH}, (∀ ns, call f args h ≠ .fail ns) → zBn P f = true
 ok : ∀ {f : Nat} {args : List AV} {h : AH} {ρ : Rho} {w : World} {args' : List Value}, VRs ρ args args' → WR ρ h w → CallsR P ρ h w f args' (call f args h)
section
variable (call : Nat → List AV → AH → CR) (loc : T AV) (tmp : List AV) (d : List AV) (h : AH) (ao : AOp) (g : Option (Opd × Bool)) (re : List ARe)
inductive StepA : AV → List AV → AH → Prop
 | skip : zBh loc tmp g = some false → StepA (.tup []) d h
 | val {v : AV} {h' : AH} : zBh loc tmp g = some true → evOp ao loc tmp h = .val v h' → reads loc tmp h' re = true → StepA v d h'
 | enter {f : Nat} {args : List AV} {v : AV} {h' : AH} : zBh loc tmp g = some true → evOp ao loc tmp h = .enter f args → call f args h = .ret v h' → reads loc tmp h' re = true → StepA v d h'
 | dfr {v : AV} : zBh loc tmp g = some true → evOp ao loc tmp h = .dfr v → StepA (.tup []) (v :: d) h
inductive PanA : AV → AH → Prop
 | enter {f : Nat} {args : List AV} {v : AV} {h' : AH} : zBh loc tmp g = some true → evOp ao loc tmp h = .enter f args → call f args h = .pan v h' → PanA v h'
 | pan {v : AV} : zBh loc tmp g = some true → evOp ao loc tmp h = .pan v → PanA v h
end
theorem zKs {call : Nat → List AV → AH → CR} {whole : List AOper} {loc0 : T AV} {op : AOp} {g : Option (Opd × Bool)} {out : Option Nat} {re : List ARe} {l : List AOper} {loc : T AV} {tmp d : List AV} {h : AH} {r : Res}
  (e : evOps call whole loc0 (⟨op, g, out, re⟩ :: l) loc tmp d h = r) : (∃ ns, r = .fail ns) ∨ (∃ v d' h', StepA call loc tmp d h op g re v d' h' ∧ evOps call whole loc0 l (zAo out v loc) (v :: tmp) d' h' = r) ∨
   ∃ v h', PanA call loc tmp h op g v h' ∧ r = .pan v (forget whole loc0) d h' := by
 have e : obind (zBh loc tmp g) (Res.fail [70]) (fun q => bi q
   (OR.rec (motive := fun _ => Res)
    (fun v h => bi (reads loc tmp h re) (evOps call whole loc0 l (zAo out v loc) (v :: tmp) d h) (Res.fail [71]))
    (fun f args => CR.rec (motive := fun _ => Res) (fun v h => bi (reads loc tmp h re) (evOps call whole loc0 l (zAo out v loc) (v :: tmp) d h) (Res.fail [71])) (fun v h => Res.pan v (forget whole loc0) d h) (fun l => Res.fail l) (call f args h))
    (fun v => Res.pan v (forget whole loc0) d h)
    (fun v => evOps call whole loc0 l (zAo out (AV.tup []) loc) (AV.tup [] :: tmp) (v :: d) h)
    (fun n => Res.fail [n]) (evOp op loc tmp h)) (evOps call whole loc0 l (zAo out (AV.tup []) loc) (AV.tup [] :: tmp) d h)) = r := e
 cases hg : zBh loc tmp g with
 | none => rw [hg] at e; exact .inl ⟨_, e.symm⟩
 | some q =>
  rw [hg] at e
  cases q with
  | false => exact .inr (.inl ⟨_, _, _, .skip hg, e⟩)
  | true =>
   have e : (OR.rec (motive := fun _ => Res)
    (fun v h => bi (reads loc tmp h re) (evOps call whole loc0 l (zAo out v loc) (v :: tmp) d h) (Res.fail [71]))
    (fun f args => CR.rec (motive := fun _ => Res) (fun v h => bi (reads loc tmp h re) (evOps call whole loc0 l (zAo out v loc) (v :: tmp) d h) (Res.fail [71])) (fun v h => Res.pan v (forget whole loc0) d h) (fun l => Res.fail l) (call f args h))
    (fun v => Res.pan v (forget whole loc0) d h)
    (fun v => evOps call whole loc0 l (zAo out (AV.tup []) loc) (AV.tup [] :: tmp) (v :: d) h)
    (fun n => Res.fail [n]) (evOp op loc tmp h)) = r := e
   cases ho : evOp op loc tmp h with
   | val v h' =>
    rw [ho] at e
    have e : bi (reads loc tmp h' re) (evOps call whole loc0 l (zAo out v loc) (v :: tmp) d h') (Res.fail [71]) = r := e
    cases hr : reads loc tmp h' re with
    | false => rw [hr] at e; exact .inl ⟨_, e.symm⟩
    | true => rw [hr] at e; exact .inr (.inl ⟨_, _, _, .val hg ho hr, e⟩)
   | enter f args =>
    rw [ho] at e
    have e : (CR.rec (motive := fun _ => Res) (fun v h => bi (reads loc tmp h re) (evOps call whole loc0 l (zAo out v loc) (v :: tmp) d h) (Res.fail [71])) (fun v h => Res.pan v (forget whole loc0) d h) (fun l => Res.fail l) (call f args h)) = r := e
    cases hcl : call f args h with
    | ret v h' =>
     rw [hcl] at e
     have e : bi (reads loc tmp h' re) (evOps call whole loc0 l (zAo out v loc) (v :: tmp) d h') (Res.fail [71]) = r := e
     cases hr : reads loc tmp h' re with
     | false => rw [hr] at e; exact .inl ⟨_, e.symm⟩
     | true => rw [hr] at e; exact .inr (.inl ⟨_, _, _, .enter hg ho hcl hr, e⟩)
    | pan v h' => rw [hcl] at e; exact .inr (.inr ⟨_, _, .enter hg ho hcl, e.symm⟩)
    | fail l => rw [hcl] at e; exact .inl ⟨_, e.symm⟩
   | pan v => rw [ho] at e; exact .inr (.inr ⟨_, _, .pan hg ho, e.symm⟩)
   | dfr v => rw [ho] at e; exact .inr (.inl ⟨_, _, _, .dfr hg ho, e⟩)
   | fail n => rw [ho] at e; exact .inl ⟨_, e.symm⟩
section
variable {P : Program} {ρ : Rho} {h h' : AH} {w : World} {loc : T AV} {tmp d d' : List AV} {cx : Operand → Option Opd} {kill : Bool} {a : Act} {o : Oper} {ao : AOp} {g : Option (Opd × Bool)} {re : List ARe} {v : AV}
 {call : Nat → List AV → AH → CR} {next : Act → World → Prop} {Q : Exit → Act → World → Prop}
theorem step_wp (hcall : zIp P call) (hs : StepA call loc tmp d h ao g re v d' h') (hg : zBh loc tmp g = some true) (W : WR ρ h w) (hx : OpdsR ρ loc tmp cx a.eval) (hc : cOp P cx kill o.op = some ao) (hd : DefsR ρ d a.defers)
  (hn : ∀ ρ' v' w' ds', VR ρ' v v' → WR ρ' h' w' → Step ρ h w ρ' h' w' → DefsR ρ' d' ds' → next (({ a with defers := ds' } : Act).put o.dst v') w') : o.wp P a w next Q := by
 have G := good_op (P := P) (ρ := ρ) (h := h) (w := w) (loc := loc) (tmp := tmp) W hx (fun _ => rfl) (fun _ => rfl) hc
 unfold Oper.wp
 cases hs with
 | skip h1 => rw [h1] at hg; cases hg
 | val _ he _ =>
  rw [he] at G
  obtain ⟨ρ', v', w', hrun, hv, W', S'⟩ := G
  have := hn ρ' v' w' a.defers hv W' S' (hd.mono S'.le)
  rcases hrun with hrun | ⟨hrun, rfl⟩
  ·rw [hrun]; exact this
  ·rw [hrun]; exact this
 | enter hg1 he hcl hr1 =>
  rename_i f args
  rw [he] at G
  have hcb : zBn P f = true := hcall.cb fun ns e => by rw [hcl] at e; cases e
  obtain ⟨args', hrun, ha⟩ := G hcb
  have hC := hcall.ok (f := f) (h := h) ha W
  rw [hcl] at hC
  rw [hrun]
  refine Calls.mono hC fun e w' he => ?_
  obtain ⟨ρ', v', rfl, hv, W', S'⟩ := he
  exact hn ρ' v' w' a.defers hv W' S' (hd.mono S'.le)
 | dfr _ he =>
  rw [he] at G
  obtain ⟨dd, hrun, hdd⟩ := G
  rw [hrun]
  exact hn ρ undef w (dd :: a.defers) (.tup .nil rfl) W (.refl _ _ _) (.cons hdd hd)
theorem pan_wp (hcall : zIp P call) (hs : PanA call loc tmp h ao g v h') (W : WR ρ h w) (hx : OpdsR ρ loc tmp cx a.eval) (hc : cOp P cx kill o.op = some ao)
  (hq : ∀ ρ' v' w', VR ρ' v v' → WR ρ' h' w' → Step ρ h w ρ' h' w' → Q (.panic [{ v := v', recovered := false }]) a w') : o.wp P a w next Q := by
 have G := good_op (P := P) (ρ := ρ) (h := h) (w := w) (loc := loc) (tmp := tmp) W hx (fun _ => rfl) (fun _ => rfl) hc
 unfold Oper.wp
 cases hs with
 | enter hg1 he hcl =>
  rename_i f args
  rw [he] at G
  have hcb : zBn P f = true := hcall.cb fun ns e => by rw [hcl] at e; cases e
  obtain ⟨args', hrun, ha⟩ := G hcb
  have hC := hcall.ok (f := f) (h := h) ha W
  rw [hcl] at hC
  rw [hrun]
  refine Calls.mono hC fun e w' he => ?_
  obtain ⟨ρ', v', rfl, hv, W', S'⟩ := he
  exact hq ρ' v' w' hv W' S'
 | pan _ he =>
  rw [he] at G
  obtain ⟨v', hrun, hv⟩ := G
  rw [hrun]
  exact hq ρ v' w hv W (.refl _ _ _)
end
end Go.Ev
namespace Go.Ev
open Go
variable [Glob]
def Post (ρ0 : Rho) (h0 : AH) (w0 : World) (m : List Nat) (n : Nat) (loc : T AV) (d : List AV) (h : AH) (a : Act) (w : World) : Prop :=
 ∃ ρ, LocR ρ m loc a ∧ DefsR ρ d a.defers ∧ WR ρ h w ∧ Step ρ0 h0 w0 ρ h w ∧ a.tmps.size = n
def PostP (ρ0 : Rho) (h0 : AH) (w0 : World) (m : List Nat) (n : Nat) (v : AV) (loc : T AV) (d : List AV) (h : AH) (ch : List PanicEntry) (a : Act) (w : World) : Prop :=
 ∃ ρ v', ch = [{ v := v', recovered := false }] ∧ VR ρ v v' ∧ LocR ρ m loc a ∧ DefsR ρ d a.defers ∧ WR ρ h w ∧ Step ρ0 h0 w0 ρ h w ∧ a.tmps.size = n
def QRes (ρ0 : Rho) (h0 : AH) (w0 : World) (m : List Nat) (n : Nat) : Res → Exit → Act → World → Prop
 | .norm loc d h, .normal, a, w => Post ρ0 h0 w0 m n loc d h a w
 | .exit id loc d h, .exit id', a, w => id = id' ∧ Post ρ0 h0 w0 m n loc d h a w
 | .ret loc d h, .ret, a, w => Post ρ0 h0 w0 m n loc d h a w
 | .pan v loc d h, .panic ch, a, w => PostP ρ0 h0 w0 m n v loc d h ch a w
 | _, _, _, _ => False
def Res.good : Res → Prop
 | .fail _ => False
 | _ => True
def outs (l : List AOper) : List Nat := l.filterMap (·.out)
theorem zFr : ∀ (l : List AOper) (loc : T AV) (k : Nat), slot (forget l loc) k = if k ∈ outs l then AV.bad else slot loc k
 | [], loc, k => by simp [outs]; rfl
 | ⟨op, g, none, re⟩ :: l, loc, k => by
  show slot (forget l loc) k = _
  rw [zFr l loc k]
  simp [outs]
 | ⟨op, g, some x, re⟩ :: l, loc, k => by
  show slot (forget l (T.put (some AV.bad) loc x)) k = _
  rw [zFr l _ k, zIs]
  have : outs (⟨op, g, some x, re⟩ :: l) = x :: outs l := rfl
  rw [this]
  by_cases h : k ∈ outs l
  ·rw [if_pos h, if_pos (List.mem_cons_of_mem _ h)]
  ·rw [if_neg h]
   by_cases hx : x = k
   ·subst hx; rw [if_pos rfl, if_pos (List.mem_cons_self ..)]
   ·rw [if_neg hx, if_neg (by simp [h, Ne.symm hx])]
theorem zI5 (out : Option Nat) (v : AV) (loc : T AV) (k : Nat) : slot (zAo out v loc) k = if out = some k then v else slot loc k := by
 cases out with
 | none => rfl
 | some x =>
  show slot (T.put (some v) loc x) k = _
  rw [zIs]
  by_cases h : x = k
  ·rw [if_pos h, if_pos (by rw [h])]
  ·rw [if_neg h, if_neg (by simpa using h)]
theorem LocR.forget {ρ : Rho} {m : List Nat} {loc loc0 : T AV} {a : Act} {l : List AOper} (L : LocR ρ m loc a) (h : ∀ k, k ∉ outs l → slot loc k = slot loc0 k) : LocR ρ m (forget l loc0) a := by
 intro t k e
 rw [zFr]
 split
 ·exact .bad _
 ·rw [← h k ‹_›]; exact L t k e
section
variable {P : Program} {ρ : Rho} {loc : T AV} {tmp : List AV} {m : List Nat} {ops : Array Oper} {ts : List (Option Nat)} {a : Act}
theorem zLg (L : LocR ρ m loc a) (T : TmpR ρ ts tmp a) : OpdsR ρ loc tmp (cOpd m ts) a.eval := by
 intro x y e
 cases x with
 | tmp t =>
  unfold cOpd at e
  simp only at e
  split at e
  ·rename_i i hi
   injection e with e; subst e
   exact T t i hi
  ·obtain ⟨k, hk, e⟩ := mapS e
   subst e
   exact L t k hk
 | const v => obtain ⟨z, hz, e⟩ := mapS e; subst e; exact zCx hz
 | func f => injection e with e; subst e; exact .fn .nil .nil rfl rfl
 | global _ => injection e with e; subst e; exact .bad _
theorem zHs {o : Oper} {g : Option (Opd × Bool)} {q : Bool} (hgc : zF3 m ops ts o = some g) (hx : ∀ gi want d y, o.guard = some (gi, want) → (ops[gi]?).bind (·.dst) = some d → cOpd m ts (.tmp d) = some y → VR ρ (ev loc tmp y) (a.tmps.getD d undef))
  (hq : zBh loc tmp g = some q) : Region.wanted o (yielded ops a.tmps) = q := by
 unfold zF3 at hgc
 unfold Region.wanted
 cases hg : o.guard with
 | none =>
  rw [hg] at hgc
  injection hgc with hgc; subst hgc
  injection hq
 | some p =>
  obtain ⟨gi, want⟩ := p
  rw [hg] at hgc
  have hgc : (do some (some (← cOpd m ts (.tmp (← (← ops[gi]?).dst)), want)) : Option (Option (Opd × Bool))) = some g := hgc
  obtain ⟨og, h1, hgc⟩ := bindS hgc
  obtain ⟨dd, h2, hgc⟩ := bindS hgc
  obtain ⟨y, h3, hgc⟩ := bindS hgc
  injection hgc with hgc; subst hgc
  have hd : (ops[gi]?).bind (·.dst) = some dd := by rw [h1]; exact h2
  have hv := hx gi want dd y hg hd h3
  simp only [yielded, hd, Option.bind_some]
  have hq : AV.on (β := Option Bool) none (fun b => some (bi want b (bi b false true))) (fun _ _ => some false) (fun _ _ => some false) (fun _ _ => some false) none (fun _ _ _ _ => none) none (fun _ => none) none (fun _ _ _ => none) none (fun _ _ => none) none (fun _ => none) (fun _ => some false) (ev loc tmp y) = some q := hq
  rw [Array.getD_eq_getD_getElem?] at hv
  generalize hav : ev loc tmp y = av at hv hq
  cases hu : a.tmps[dd]? with
  | none =>
   rw [hu] at hv
   cases hv with
   | bad => cases hq
   | tup _ _ => injection hq
  | some u =>
   rw [hu] at hv
   have hv : VR ρ av u := hv
   cases hv <;> first | (cases hq; done) | skip
   case bool b =>
    injection hq with hq
    rw [← hq]
    cases b <;> cases want <;> rfl
   all_goals first | (injection hq; done) | (injection hq with hq; rw [← hq]; rfl)
end
section
variable {P : Program} {m : List Nat} {ops : Array Oper} {call : Nat → List AV → AH → CR} {whole : List AOper} {loc0 : T AV} {ρ0 : Rho} {h0 : AH} {w0 : World} {n : Nat}
theorem zJd (hcall : zIp P call) (hdst : ∀ o ∈ ops, ∀ x, o.dst = some x → x < n) : ∀ (rest : List Oper) (k : Nat) (ts : List (Option Nat)) (aos : List AOper) (loc : T AV) (tmp d : List AV) (h : AH) (ρ : Rho) (a : Act) (w : World) (r : Res),
  ops.toList.drop k = rest → zKy P m ops rest ts = some aos → evOps call whole loc0 aos loc tmp d h = r → r.good → LocR ρ m loc a → TmpR ρ ts tmp a → WR ρ h w → DefsR ρ d a.defers → Step ρ0 h0 w0 ρ h w → a.tmps.size = n →
  (∀ o ∈ aos, ∀ k, o.out = some k → k ∈ outs whole) → (∀ k, k ∉ outs whole → slot loc k = slot loc0 k) → wpOps P ops (QRes ρ0 h0 w0 m n r) (List.range' k rest.length) a w
 | [], k, ts, aos, loc, tmp, d, h, ρ, a, w, r, hrest, hc, hr, hgood, L, T, W, D, S, hn, ho, hs => by
  injection hc with hc; subst hc
  subst hr
  exact ⟨ρ, L, D, W, S, hn⟩
 | o :: rest, k, ts, aos, loc, tmp, d, h, ρ, a, w, r, hrest, hc, hr, hgood, L, T, W, D, S, hn, ho, hs => by
  obtain ⟨ao, hao, hc⟩ := bindS hc
  obtain ⟨aos', haos, hc⟩ := bindS hc
  injection hc with hc; subst hc
  obtain ⟨op, hop, hao⟩ := bindS hao
  obtain ⟨g, hg, hao⟩ := bindS hao
  injection hao with hao; subst hao
  have hk : ops[k]? = some o := by
   have : ops.toList[k]? = some o := by rw [← List.head?_drop, hrest]; rfl
   simpa using this
  have hmem : o ∈ ops := Array.mem_of_getElem? hk
  have hdo : ∀ x, o.dst = some x → x < a.tmps.size := fun x hx => by rw [hn]; exact hdst o hmem x hx
  have hrest' : ops.toList.drop (k + 1) = rest := by rw [← List.drop_drop, hrest]; rfl
  have X := zLg L T
  have hout : ∀ k', (o.dst.bind (zA0 m)) = some k' → k' ∈ outs whole := fun k' hk' => ho _ (List.mem_cons_self ..) k' hk'
  have hslots : ∀ v k', k' ∉ outs whole → slot (zAo (o.dst.bind (zA0 m)) v loc) k' = slot loc0 k' := by
   intro v k' hk'
   rw [zI5, if_neg (fun e => hk' (hout _ e))]
   exact hs k' hk'
  have gx : ∀ gi want dd y, o.guard = some (gi, want) → (ops[gi]?).bind (·.dst) = some dd → cOpd m ts (.tmp dd) = some y → VR ρ (ev loc tmp y) (a.tmps.getD dd undef) := fun gi want dd y _ _ h3 => X _ _ h3
  rw [List.length_cons, List.range'_succ]
  unfold wpOps
  rw [hk]
  simp only
  rcases zKs hr with ⟨ns, rfl⟩ | ⟨v, d', h', hst, hr'⟩ | ⟨v, h', hpan, rfl⟩
  ·exact hgood.elim
  ·by_cases hgt : zBh loc tmp g = some true
   ·rw [if_pos (zHs hg gx hgt)]
    left
    refine step_wp hcall hst hgt W X hop D ?_
    intro ρ' v' w' ds' hv W' S' D'
    have hp : ∀ {a2 : Act}, a2 = { a with defers := ds' } → LocR ρ' m (zAo (o.dst.bind (zA0 m)) v loc) (a2.put o.dst v') ∧ TmpR ρ' (o.dst :: ts) (v :: tmp) (a2.put o.dst v') := by
     intro a2 e
     subst e
     exact ⟨LocR.put hdo hv (L.mono S'.le), TmpR.put hdo hv (T.mono S'.le)⟩
    have hp := hp rfl
    have hdf : (({ a with defers := ds' } : Act).put o.dst v').defers = ds' := by cases o.dst <;> rfl
    exact zJd hcall hdst rest (k + 1) (o.dst :: ts) aos' _ _ d' h' ρ' _ w' r hrest' haos hr' hgood hp.1 hp.2 W' (by rw [hdf]; exact D') (S.trans S') (by rw [zGq]; exact hn) (fun o' ho' => ho o' (List.mem_cons_of_mem _ ho')) (hslots v)
   ·cases hst with
    | skip hgf =>
     rw [if_neg (by rw [zHs hg gx hgf]; simp)]
     have hv : VR ρ (.tup []) undef := .tup .nil rfl
     have hdf : (a.put o.dst undef).defers = a.defers := by cases o.dst <;> rfl
     exact zJd hcall hdst rest (k + 1) (o.dst :: ts) aos' _ _ d h ρ _ w r hrest' haos hr' hgood (LocR.put hdo hv L) (TmpR.put hdo hv T) W (by rw [hdf]; exact D) S (by rw [zGq]; exact hn) (fun o' ho' => ho o' (List.mem_cons_of_mem _ ho')) (hslots _)
    | val h1 _ _ => exact absurd h1 hgt
    | enter h1 _ _ _ => exact absurd h1 hgt
    | dfr h1 _ => exact absurd h1 hgt
  ·have hgt : zBh loc tmp g = some true := by cases hpan <;> assumption
   rw [if_pos (zHs hg gx hgt)]
   left
   refine pan_wp hcall hpan W X hop ?_
   intro ρ' v' w' hv W' S'
   exact ⟨ρ', v', rfl, hv, (L.mono S'.le).forget hs, D.mono S'.le, W', S.trans S', hn⟩
theorem plain_region {id : Nat} {aos : List AOper} {loc : T AV} {d : List AV} {h : AH} {ρ : Rho} {a : Act} {w : World} {r : Res} (hcall : zIp P call) (hdst : ∀ o ∈ ops, ∀ x, o.dst = some x → x < n)
  (hc : zKy P m ops ops.toList [] = some aos) (hr : evOps call aos loc aos loc [] d h = r) (hgood : r.good) (L : LocR ρ m loc a) (W : WR ρ h w) (D : DefsR ρ d a.defers) (hn : a.tmps.size = n) :
  (Code.region id ops false).wp P (QRes ρ h w m n r) a w := by
 refine wp_region ?_
 rw [List.range_eq_range']
 have := zJd (whole := aos) (loc0 := loc) (ρ0 := ρ) (h0 := h) (w0 := w) hcall hdst ops.toList 0 [] aos loc [] d h ρ a w r rfl hc hr hgood L (fun t i e => by cases e) W D (.refl _ _ _) hn
  (fun o ho k hk => List.mem_filterMap.2 ⟨o, ho, hk⟩) (fun _ _ => rfl)
 simpa using this
end
end Go.Ev
namespace Go.Ev
open Go
variable [Glob]
mutual
theorem same_eq : ∀ {a b : AV}, same a b = true → a = b
 | .bad, b, h => by cases h
 | .bool p, b, h => by
  cases b <;> try (cases h; done)
  rename_i q
  have h : bi p q (bi q false true) = true := h
  cases p <;> cases q <;> first | rfl | cases h
 | .int k m, b, h => by
  cases b <;> try (cases h; done)
  rename_i k' n
  have h : bi (eqK k k') (eqI m n) false = true := h
  rw [bi_eq] at h
  split at h
  ·rename_i hk
   rw [zF0] at h
   rw [zIb hk, of_decide_eq_true h]
  ·cases h
 | .str l s, b, h => by
  cases b <;> try (cases h; done)
  rename_i l' s'
  have h : bi (Nat.beq l l') (Nat.beq s s') false = true := h
  rw [bi_eq] at h
  split at h
  ·rename_i hx
   rw [Nat.eq_of_beq_eq_true hx, Nat.eq_of_beq_eq_true h]
  ·cases h
 | .ptr i o, b, h => by
  cases b <;> try (cases h; done)
  rename_i i' o'
  have h : bi (Nat.beq i i') (Nat.beq o o') false = true := h
  rw [bi_eq] at h
  split at h
  ·rename_i hx
   rw [Nat.eq_of_beq_eq_true hx, Nat.eq_of_beq_eq_true h]
  ·cases h
 | .nilp, b, h => by cases b <;> first | rfl | cases h
 | .sl i o l c, b, h => by
  cases b <;> try (cases h; done)
  rename_i i' o' l' c'
  have h : bi (Nat.beq i i') (bi (Nat.beq o o') (bi (Nat.beq l l') (ACap.rec (motive := fun _ => Bool) (fun x => ACap.rec (motive := fun _ => Bool) (fun y => Nat.beq x y) (fun _ => false) c') (fun x => ACap.rec (motive := fun _ => Bool) (fun _ => false) (fun y => Nat.beq x y) c') c) false) false) false = true := h
  simp only [bi_eq] at h
  split at h
  ·rename_i h1
   split at h
   ·rename_i h2
    split at h
    ·rename_i h3
     rw [Nat.eq_of_beq_eq_true h1, Nat.eq_of_beq_eq_true h2, Nat.eq_of_beq_eq_true h3]
     cases c <;> cases c' <;> first | (rw [Nat.eq_of_beq_eq_true h]) | cases h
    ·cases h
   ·cases h
  ·cases h
 | .nils, b, h => by cases b <;> first | rfl | cases h
 | .mp i, b, h => by
  cases b <;> try (cases h; done)
  rename_i i'
  have h : Nat.beq i i' = true := h
  rw [Nat.eq_of_beq_eq_true h]
 | .nilm, b, h => by cases b <;> first | rfl | cases h
 | .fn f l l2, b, h => by
  cases b <;> try (cases h; done)
  rename_i f' l' l2'
  have h : bi (Nat.beq f f') (bi (same (.tup l) (.tup l')) (same (.tup l2) (.tup l2')) false) false = true := h
  simp only [bi_eq] at h
  split at h
  ·rename_i h1
   split at h
   ·rename_i h2
    rw [Nat.eq_of_beq_eq_true h1, zGr h2, zGr h]
   ·cases h
  ·cases h
 | .nilf, b, h => by cases b <;> first | rfl | cases h
 | .ifc t v, b, h => by
  cases b <;> try (cases h; done)
  rename_i t' v'
  have h : bi (Nat.beq t t') (same v v') false = true := h
  rw [bi_eq] at h
  split at h
  ·rename_i hx
   rw [Nat.eq_of_beq_eq_true hx, same_eq h]
  ·cases h
 | .nili, b, h => by cases b <;> first | rfl | cases h
 | .agg l, b, h => by
  cases b <;> try (cases h; done)
  rename_i l'
  have h : same (.tup l) (.tup l') = true := h
  rw [zGr h]
 | .tup l, b, h => by
  cases b <;> try (cases h; done)
  rename_i l'
  rw [zGr h]
theorem zGr : ∀ {l l' : List AV}, same (.tup l) (.tup l') = true → l = l'
 | [], l', h => by cases l' <;> first | rfl | cases h
 | v :: l, l', h => by
  cases l' with
  | nil => cases h
  | cons w ws =>
   have h : bi (same v w) (same (.tup l) (.tup ws)) false = true := h
   rw [bi_eq] at h
   split at h
   ·rename_i hx
    rw [same_eq hx, zGr h]
   ·cases h
end
def bef (anc : List Nat) (j i : Nat) : Bool := (anc.getD i 0).testBit j
theorem or_fold (acc : List Nat) : ∀ (l : List Edge) (s j : Nat), (l.foldl (fun s e => if Region.binds .any e then s ||| 2 ^ e.on ||| acc.getD e.on 0 else s) s).testBit j = true →
  s.testBit j = true ∨ ∃ e ∈ l, Region.binds .any e = true ∧ (e.on = j ∨ (acc.getD e.on 0).testBit j = true)
 | [], s, j, h => .inl h
 | e :: l, s, j, h => by
  rw [List.foldl_cons] at h
  rcases or_fold acc l _ j h with h1 | ⟨e', he, hb, hc⟩
  ·split at h1
   ·rename_i hb
    rw [Nat.testBit_or, Nat.testBit_or, Bool.or_eq_true, Bool.or_eq_true] at h1
    rcases h1 with (h1 | h1) | h1
    ·exact .inl h1
    ·rw [Nat.testBit_two_pow] at h1
     exact .inr ⟨e, by simp, hb, .inl (of_decide_eq_true h1)⟩
    ·exact .inr ⟨e, by simp, hb, .inr h1⟩
   ·exact .inl h1
  ·exact .inr ⟨e', by simp [he], hb, hc⟩
def zDi (acc : List Nat) (o : Oper) : List Nat := acc ++ [o.after.toList.foldl (fun s e => if Region.binds .any e then s ||| 2 ^ e.on ||| acc.getD e.on 0 else s) 0]
theorem zIe : ∀ (l : List Oper) (acc : List Nat) (i : Nat), i < acc.length → (l.foldl zDi acc).getD i 0 = acc.getD i 0
 | [], acc, i, h => rfl
 | o :: l, acc, i, h => by
  rw [List.foldl_cons, zIe l _ i (by simp [zDi]; omega)]
  simp [zDi, List.getElem?_append_left h]
theorem anc_spec : ∀ (l : List Oper) (acc : List Nat) (i j : Nat), acc.length ≤ i → ((l.foldl zDi acc).getD i 0).testBit j = true →
  ∃ o e, l[i - acc.length]? = some o ∧ e ∈ o.after ∧ Region.binds .any e = true ∧ (e.on = j ∨ ((l.foldl zDi acc).getD e.on 0).testBit j = true)
 | [], acc, i, j, hi, h => by
  rw [List.foldl_nil, List.getD_eq_getElem?_getD, List.getElem?_eq_none hi] at h
  simp at h
 | o :: l, acc, i, j, hi, h => by
  rw [List.foldl_cons] at h ⊢
  by_cases he : i = acc.length
  ·subst he
   rw [zIe l _ _ (by simp [zDi])] at h
   have : (zDi acc o).getD acc.length 0 = o.after.toList.foldl (fun s e => if Region.binds .any e then s ||| 2 ^ e.on ||| acc.getD e.on 0 else s) 0 := by simp [zDi]
   rw [this] at h
   rcases or_fold acc _ _ _ h with h1 | ⟨e, he, hb, hc⟩
   ·simp at h1
   ·refine ⟨o, e, by simp, by simpa using he, hb, ?_⟩
    rcases hc with hc | hc
    ·exact .inl hc
    ·right
     have hlt : e.on < acc.length := by
      rcases Nat.lt_or_ge e.on acc.length with hh | hh
      ·exact hh
      ·rw [List.getD_eq_getElem?_getD, List.getElem?_eq_none hh] at hc; simp at hc
     rw [zIe l _ _ (by simp [zDi]; omega)]
     simp only [zDi, List.getD_eq_getElem?_getD, List.getElem?_append_left hlt] at hc ⊢
     exact hc
  ·obtain ⟨o', e, h1, h2, h3, h4⟩ := anc_spec l (zDi acc o) i j (by simp [zDi]; omega) h
   refine ⟨o', e, ?_, h2, h3, h4⟩
   have hlen : (zDi acc o).length = acc.length + 1 := by simp [zDi]
   rw [hlen] at h1
   obtain ⟨k, hk⟩ : ∃ k, i - acc.length = k + 1 := ⟨i - acc.length - 1, by omega⟩
   rw [hk, List.getElem?_cons_succ, show k = i - (acc.length + 1) by omega]
   exact h1
theorem bef_edge {ops : Array Oper} {i j : Nat} (h : bef (ancs ops) j i = true) : ∃ o e, ops[i]? = some o ∧ e ∈ o.after ∧ Region.binds .any e = true ∧ (e.on = j ∨ bef (ancs ops) j e.on = true) := by
 obtain ⟨o, e, h1, h2, h3, h4⟩ := anc_spec ops.toList [] i j (Nat.zero_le _) h
 exact ⟨o, e, by simpa using h1, h2, h3, h4⟩
structure DrawOk (ops : Array Oper) (anc ord : List Nat) : Prop where
 cover : ∀ {i : Nat}, i < ops.size → i ∈ ord
 back : ∀ {i : Nat} {o : Oper}, ops[i]? = some o → ∀ e ∈ o.after, Region.binds .any e = true → e.on < i
 dst : ∀ {i p : Nat} {o q : Oper} {d : Nat}, ops[i]? = some o → ops[p]? = some q → i ≠ p → q.dst = some d → o.dst ≠ some d ∧ (d ∈ zE1 ops o → bef anc p i = true ∨ bef anc i p = true)
 pair : ∀ {a b i j : Nat}, ord[a]? = some i → ord[b]? = some j → b < a → i ≠ j ∧ bef anc i j = false ∧ ∃ oi oj, ops[i]? = some oi ∧ ops[j]? = some oj ∧ (clsO oj.op = 3 → bef anc j i = true)
theorem drawOk_spec {ops : Array Oper} {anc ord : List Nat} (h : drawOk ops anc ord = true) : DrawOk ops anc ord := by
 unfold drawOk at h
 simp only [Bool.and_eq_true, List.all_eq_true] at h
 obtain ⟨h1, h2⟩ := h
 have lt : ∀ {i : Nat} {o : Oper}, ops[i]? = some o → i < ops.size := fun h => (Array.getElem?_eq_some_iff.1 h).1
 refine ⟨?_, ?_, ?_, ?_⟩
 ·intro i hi
  have := (h1 i (by simpa using hi)).1
  simpa using this
 ·intro i o ho e he hb
  have := (h1 i (by simpa using lt ho)).2
  rw [ho] at this
  simp only [Bool.and_eq_true] at this
  have h3 := Array.all_eq_true_iff_forall_mem.1 this.1 e he
  simpa [hb] using h3
 ·intro i p o q d ho hq hne hd
  have := (h1 i (by simpa using lt ho)).2
  rw [ho] at this
  simp only [Bool.and_eq_true, List.all_eq_true] at this
  have h3 := this.2 p (by simpa using lt hq)
  rw [hq] at h3
  simp only [hd] at h3
  have hne' : (i == p) = false := by simpa using hne
  rw [hne', Bool.false_or, Bool.and_eq_true] at h3
  refine ⟨by simpa using h3.1, fun hm => ?_⟩
  have h4 := h3.2
  have hc : (zE1 ops o).contains d = true := by simpa using hm
  rw [hc, Bool.not_true, Bool.false_or, Bool.or_eq_true] at h4
  exact h4
 ·intro a b i j ha hb hlt
  have h3 := h2 (i, a) (List.mem_zipIdx_iff_getElem?.2 ha) (j, b) (List.mem_zipIdx_iff_getElem?.2 hb)
  have hd : decide (b < a) = true := by simpa using hlt
  simp only [hd, Bool.not_true, Bool.false_or, Bool.and_eq_true] at h3
  obtain ⟨⟨h4, h5⟩, h6⟩ := h3
  refine ⟨by simpa using h4, by simpa [bef] using h5, ?_⟩
  split at h6
  ·rename_i oi oj e1 e2
   refine ⟨oi, oj, e1, e2, fun h3 => ?_⟩
   rw [Bool.or_eq_true] at h6
   rcases h6 with h6 | h6
   ·simp [h3] at h6
   ·exact h6
  ·cases h6
end Go.Ev
namespace Go.Ev
open Go
variable [Glob]
def TS (ops : Array Oper) (ord : List Nat) (p : Nat) : List (Option Nat) := ((ord.take p).map fun i => (ops[i]?).bind (·.dst)).reverse
def DN (ord : List Nat) (p : Nat) : List Nat := (ord.take p).reverse
theorem TS_succ {ops : Array Oper} {ord : List Nat} {p i : Nat} (h : ord[p]? = some i) : TS ops ord (p + 1) = (ops[i]?).bind (·.dst) :: TS ops ord p := by
 simp [TS, List.take_add_one, h]
theorem DN_succ {ord : List Nat} {p i : Nat} (h : ord[p]? = some i) : DN ord (p + 1) = i :: DN ord p := by
 simp [DN, List.take_add_one, h]
section
variable (P : Program) (m : List Nat) (ops : Array Oper) (anc ord : List Nat) (call : Nat → List AV → AH → CR)
structure Runs where
 L : Nat → T AV
 X : Nat → List AV
 D : Nat → List AV
 H : Nat → AH
 V : Nat → AV
variable (R : Runs)
structure StepAt (p i : Nat) (o : Oper) (ao : AOp) (g : Option (Opd × Bool)) (re : List ARe) : Prop where
 oi : ord[p]? = some i
 oo : ops[i]? = some o
 co : cOp P (cOpd m (TS ops ord p)) false o.op = some ao
 cg : zF3 m ops (TS ops ord p) o = some g
 cr : clsO o.op = 3 → zKx P m ops anc (DN ord p) (TS ops ord p) i = some re
 st : StepA call (R.L p) (R.X p) (R.D p) (R.H p) ao g re (R.V p) (R.D (p + 1)) (R.H (p + 1))
 lo : R.L (p + 1) = zAo (o.dst.bind (zA0 m)) (R.V p) (R.L p)
 tm : R.X (p + 1) = R.V p :: R.X p
structure PanAt (p : Nat) (v : AV) (h' : AH) : Prop where
 ex : ∃ i o ao g, ord[p]? = some i ∧ ops[i]? = some o ∧ cOp P (cOpd m (TS ops ord p)) false o.op = some ao ∧ zF3 m ops (TS ops ord p) o = some g ∧ PanA call (R.L p) (R.X p) (R.H p) ao g v h'
end
section
variable {P : Program} {m : List Nat} {ops : Array Oper} {anc ord : List Nat} {call : Nat → List AV → AH → CR}
theorem zK0 {j : Nat} {rest dn : List Nat} {ts : List (Option Nat)} {aos : List AOper} (hc : cDraw P m ops anc (j :: rest) dn ts = some aos) : ∃ o re op g aos', ops[j]? = some o ∧ (clsO o.op = 3 → zKx P m ops anc dn ts j = some re) ∧ cOp P (cOpd m ts) false o.op = some op ∧ zF3 m ops ts o = some g ∧
  cDraw P m ops anc rest (j :: dn) (o.dst :: ts) = some aos' ∧ aos = ⟨op, g, o.dst.bind (zA0 m), re⟩ :: aos' := by
 obtain ⟨o, ho, hc⟩ := bindS hc
 have key : ∀ re, (do let a ← cOper P m ops false ts o re; some (a :: (← cDraw P m ops anc rest (j :: dn) (o.dst :: ts)))) = some aos → ∃ op g aos', cOp P (cOpd m ts) false o.op = some op ∧ zF3 m ops ts o = some g ∧
   cDraw P m ops anc rest (j :: dn) (o.dst :: ts) = some aos' ∧ aos = ⟨op, g, o.dst.bind (zA0 m), re⟩ :: aos' := by
  intro re hc
  obtain ⟨ao, hao, hc⟩ := bindS hc
  obtain ⟨aos', haos, hc⟩ := bindS hc
  injection hc with hc; subst hc
  obtain ⟨op, hop, hao⟩ := bindS hao
  obtain ⟨g, hg, hao⟩ := bindS hao
  injection hao with hao; subst hao
  exact ⟨op, g, aos', hop, hg, haos, rfl⟩
 by_cases h3 : clsO o.op = 3
 ·have hc : (if clsO o.op = 3 then (zKx P m ops anc dn ts j >>= fun re => do let a ← cOper P m ops false ts o re; some (a :: (← cDraw P m ops anc rest (j :: dn) (o.dst :: ts)))) else (do let a ← cOper P m ops false ts o []; some (a :: (← cDraw P m ops anc rest (j :: dn) (o.dst :: ts))))) = some aos := hc
  rw [if_pos h3] at hc
  obtain ⟨re, hre, hc⟩ := bindS hc
  obtain ⟨op, g, aos', h1, h2, h4, h5⟩ := key re hc
  exact ⟨o, re, op, g, aos', ho, fun _ => hre, h1, h2, h4, h5⟩
 ·have hc : (if clsO o.op = 3 then (zKx P m ops anc dn ts j >>= fun re => do let a ← cOper P m ops false ts o re; some (a :: (← cDraw P m ops anc rest (j :: dn) (o.dst :: ts)))) else (do let a ← cOper P m ops false ts o []; some (a :: (← cDraw P m ops anc rest (j :: dn) (o.dst :: ts))))) = some aos := hc
  rw [if_neg h3] at hc
  obtain ⟨op, g, aos', h1, h2, h4, h5⟩ := key [] hc
  exact ⟨o, [], op, g, aos', ho, fun e => absurd e h3, h1, h2, h4, h5⟩
theorem trace_ex {whole : List AOper} {loc0 : T AV} : ∀ (rest : List Nat) (s : Nat) (aos : List AOper) (loc : T AV) (tmp d : List AV) (h : AH) (r : Res), s ≤ ord.length → ord.drop s = rest → cDraw P m ops anc rest (DN ord s) (TS ops ord s) = some aos →
  evOps call whole loc0 aos loc tmp d h = r → r.good → ∃ (R : Runs) (q : Nat), s ≤ q ∧ q ≤ ord.length ∧ R.L s = loc ∧ R.X s = tmp ∧ R.D s = d ∧ R.H s = h ∧ (∀ p, s ≤ p → p < q → ∃ i o ao g re, StepAt P m ops anc ord call R p i o ao g re) ∧
   ((q = ord.length ∧ r = .norm (R.L q) (R.D q) (R.H q)) ∨ ∃ v h', PanAt P m ops ord call R q v h' ∧ r = .pan v (forget whole loc0) (R.D q) h')
 | [], s, aos, loc, tmp, d, h, r, hs, hrest, hc, hr, hgood => by
  have hlen : s = ord.length := by
   have := congrArg List.length hrest
   simp at this; omega
  injection hc with hc; subst hc
  exact ⟨⟨fun _ => loc, fun _ => tmp, fun _ => d, fun _ => h, fun _ => .bad⟩, s, Nat.le_refl _, hs, rfl, rfl, rfl, rfl, fun p h1 h2 => by omega, .inl ⟨hlen, hr.symm⟩⟩
 | j :: rest, s, aos, loc, tmp, d, h, r, hs, hrest, hc, hr, hgood => by
  obtain ⟨o, re, op, g, aos', ho, hcr, hop, hg, haos, rfl⟩ := zK0 hc
  have hj : ord[s]? = some j := by rw [← List.head?_drop, hrest]; rfl
  have hlt : s < ord.length := by
   rcases Nat.lt_or_ge s ord.length with h | h
   ·exact h
   ·rw [List.getElem?_eq_none h] at hj; cases hj
  have hrest' : ord.drop (s + 1) = rest := by rw [← List.drop_drop, hrest]; rfl
  rcases zKs hr with ⟨ns, rfl⟩ | ⟨v, d', h', hst, hr'⟩ | ⟨v, h', hpan, rfl⟩
  ·exact hgood.elim
  ·have hdst : (ops[j]?).bind (·.dst) = o.dst := by rw [ho]; rfl
   have haos2 : cDraw P m ops anc rest (DN ord (s + 1)) (TS ops ord (s + 1)) = some aos' := by rw [DN_succ hj, TS_succ hj, hdst]; exact haos
   obtain ⟨R, q, h1, h2, e1, e2, e3, e4, hall, hend⟩ := trace_ex rest (s + 1) aos' _ _ d' h' r hlt hrest' haos2 hr' hgood
   let R' : Runs := ⟨fun p => if p = s then loc else R.L p, fun p => if p = s then tmp else R.X p, fun p => if p = s then d else R.D p, fun p => if p = s then h else R.H p, fun p => if p = s then v else R.V p⟩
   have r1 : ∀ p, s < p → R'.L p = R.L p ∧ R'.X p = R.X p ∧ R'.D p = R.D p ∧ R'.H p = R.H p ∧ R'.V p = R.V p := fun p hp => by
    have : ¬ p = s := by omega
    simp [R', this]
   have r0 : R'.L s = loc ∧ R'.X s = tmp ∧ R'.D s = d ∧ R'.H s = h ∧ R'.V s = v := by simp [R']
   refine ⟨R', q, by omega, h2, r0.1, r0.2.1, r0.2.2.1, r0.2.2.2.1, fun p hp1 hp2 => ?_, ?_⟩
   ·by_cases hps : p = s
    ·subst hps
     refine ⟨j, o, op, g, re, hj, ho, hop, hg, hcr, ?_, ?_, ?_⟩
     ·rw [(r1 (p + 1) (by omega)).2.2.1, (r1 (p + 1) (by omega)).2.2.2.1, r0.1, r0.2.1, r0.2.2.1, r0.2.2.2.1, r0.2.2.2.2, e3, e4]; exact hst
     ·rw [(r1 (p + 1) (by omega)).1, e1, r0.1, r0.2.2.2.2]
     ·rw [(r1 (p + 1) (by omega)).2.1, e2, r0.2.1, r0.2.2.2.2]
    ·obtain ⟨i, o2, ao2, g2, re2, S⟩ := hall p (by omega) hp2
     have q1 := r1 p (by omega)
     have q2 := r1 (p + 1) (by omega)
     refine ⟨i, o2, ao2, g2, re2, S.oi, S.oo, S.co, S.cg, S.cr, ?_, ?_, ?_⟩
     ·rw [q2.2.2.1, q2.2.2.2.1, q1.1, q1.2.1, q1.2.2.1, q1.2.2.2.1, q1.2.2.2.2]; exact S.st
     ·rw [q2.1, q1.1, q1.2.2.2.2]; exact S.lo
     ·rw [q2.2.1, q1.2.1, q1.2.2.2.2]; exact S.tm
   ·have q1 := r1 q (by omega)
    rcases hend with ⟨he, hr2⟩ | ⟨v2, h2, hp, hr2⟩
    ·left; refine ⟨he, ?_⟩
     rw [q1.1, q1.2.2.1, q1.2.2.2.1]; exact hr2
    ·right
     refine ⟨v2, h2, ?_, by rw [q1.2.2.1]; exact hr2⟩
     obtain ⟨i, o2, ao2, g2, a1, a2, a3, a4, a5⟩ := hp.ex
     refine ⟨i, o2, ao2, g2, a1, a2, a3, a4, ?_⟩
     rw [q1.1, q1.2.1, q1.2.2.2.1]; exact a5
  ·refine ⟨⟨fun _ => loc, fun _ => tmp, fun _ => d, fun _ => h, fun _ => .bad⟩, s, Nat.le_refl _, hs, rfl, rfl, rfl, rfl, fun p h1 h2 => by omega, .inr ⟨v, h', ⟨j, o, op, g, hj, ho, hop, hg, hpan⟩, rfl⟩⟩
theorem ts_val {R : Runs} (h0 : R.X 0 = []) {q : Nat} (hst : ∀ p, p < q → ∃ i o ao g re, StepAt P m ops anc ord call R p i o ao g re) : ∀ (p : Nat), p ≤ q → ∀ t, match zG1 (TS ops ord p) t with
  | some k => ∃ b i o, b < p ∧ ord[b]? = some i ∧ ops[i]? = some o ∧ o.dst = some t ∧ nth (R.X p) k = R.V b
  | none => ∀ b i o, b < p → ord[b]? = some i → ops[i]? = some o → o.dst ≠ some t
 | 0, hp, t => by
  have : zG1 (TS ops ord 0) t = none := by simp [TS, zG1]
  rw [this]
  intro b i o hb; omega
 | p + 1, hp, t => by
  obtain ⟨i, o, ao, g, re, S⟩ := hst p (by omega)
  have ih := ts_val h0 hst p (by omega) t
  have hdst : (ops[i]?).bind (·.dst) = o.dst := by rw [S.oo]; rfl
  rw [TS_succ S.oi, hdst, zJs]
  by_cases hd : o.dst = some t
  ·rw [if_pos hd]
   exact ⟨p, i, o, by omega, S.oi, S.oo, hd, by rw [S.tm]; rfl⟩
  ·rw [if_neg hd]
   cases hf : zG1 (TS ops ord p) t with
   | none =>
    rw [hf] at ih
    intro b i' o' hb h1 h2
    by_cases hbp : b = p
    ·subst hbp
     rw [S.oi] at h1; injection h1 with h1; subst h1
     rw [S.oo] at h2; injection h2 with h2; subst h2
     exact hd
    ·exact ih b i' o' (by omega) h1 h2
   | some k =>
    rw [hf] at ih
    obtain ⟨b, i', o', h1, h2, h3, h4, h5⟩ := ih
    exact ⟨b, i', o', by omega, h2, h3, h4, by rw [S.tm]; exact h5⟩
theorem zK5 {R : Runs} {q : Nat} (hst : ∀ p, p < q → ∃ i o ao g re, StepAt P m ops anc ord call R p i o ao g re) (k : Nat) : ∀ (p : Nat), p ≤ q →
  (slot (R.L p) k = slot (R.L 0) k ∧ ∀ b i o, b < p → ord[b]? = some i → ops[i]? = some o → o.dst.bind (zA0 m) ≠ some k) ∨
  ∃ b i o, b < p ∧ ord[b]? = some i ∧ ops[i]? = some o ∧ o.dst.bind (zA0 m) = some k ∧ slot (R.L p) k = R.V b
 | 0, _ => .inl ⟨rfl, fun b i o hb => by omega⟩
 | p + 1, hp => by
  obtain ⟨i, o, ao, g, re, S⟩ := hst p (by omega)
  rw [S.lo, zI5]
  by_cases hd : o.dst.bind (zA0 m) = some k
  ·rw [if_pos hd]
   exact .inr ⟨p, i, o, by omega, S.oi, S.oo, hd, rfl⟩
  ·rw [if_neg hd]
   rcases zK5 hst k p (by omega) with ⟨h1, h2⟩ | ⟨b, i', o', h1, h2, h3, h4, h5⟩
   ·refine .inl ⟨h1, fun b i' o' hb e1 e2 => ?_⟩
    by_cases hbp : b = p
    ·subst hbp
     rw [S.oi] at e1; injection e1 with e1; subst e1
     rw [S.oo] at e2; injection e2 with e2; subst e2
     exact hd
    ·exact h2 b i' o' (by omega) e1 e2
   ·exact .inr ⟨b, i', o', by omega, h2, h3, h4, h5⟩
theorem outs_draw : ∀ {l : List Nat} {dn : List Nat} {ts : List (Option Nat)} {aos : List AOper}, cDraw P m ops anc l dn ts = some aos → ∀ i o k, i ∈ l → ops[i]? = some o → o.dst.bind (zA0 m) = some k → k ∈ outs aos
 | [], _, _, _, _, i, o, k, hi, _, _ => by simp at hi
 | j :: l, dn, ts, aos, hc, i, o, k, hi, ho, hk => by
  obtain ⟨o1, re, op, g, aos', ho1, _, hop, hg, haos, rfl⟩ := zK0 hc
  rcases List.mem_cons.1 hi with rfl | hi
  ·rw [ho1] at ho; injection ho with ho; subst ho
   exact List.mem_filterMap.2 ⟨_, List.mem_cons_self .., hk⟩
  ·have := outs_draw haos i o k hi ho hk
   obtain ⟨x, hx, he⟩ := List.mem_filterMap.1 this
   exact List.mem_filterMap.2 ⟨x, List.mem_cons_of_mem _ hx, he⟩
theorem reads_draw {j : Nat} {ts : List (Option Nat)} {re : List ARe} {done : List Nat} (hc : zKx P m ops anc done ts j = some re) : ∀ pos i, done[pos]? = some i → ∀ o, ops[i]? = some o → clsO o.op = 1 → bef anc i j = false →
  ∃ x ∈ re, x.pos = pos ∧ cOp P (cOpd m ts) false o.op = some x.op ∧ zF3 m ops ts o = some x.guard ∧ ∀ k i' o' t, k ≤ pos → done[k]? = some i' → ops[i']? = some o' → o'.dst = some t → t ∉ zE1 ops o := by
 have gen : ∀ (l : List (Nat × Nat)) (re : List ARe), l.foldr (fun (x : Nat × Nat) (acc : Option (List ARe)) => do
   let acc ← acc
   let o ← ops[x.1]?
   if clsO o.op = 1 ∧ (anc.getD j 0).testBit x.1 = false then
    if (done.take (x.2 + 1)).all fun p => match (ops[p]?).bind (·.dst) with | some d => !(zE1 ops o).contains d | none => true then
     some (({ op := ← cOp P (cOpd m ts) false o.op, pos := x.2, guard := ← zF3 m ops ts o } : ARe) :: acc)
    else none
   else some acc) (some []) = some re → ∀ i pos, (i, pos) ∈ l → ∀ o, ops[i]? = some o → clsO o.op = 1 → bef anc i j = false →
   ∃ x ∈ re, x.pos = pos ∧ cOp P (cOpd m ts) false o.op = some x.op ∧ zF3 m ops ts o = some x.guard ∧ ((done.take (pos + 1)).all fun p => match (ops[p]?).bind (·.dst) with | some d => !(zE1 ops o).contains d | none => true) = true := by
  intro l
  induction l with
  | nil => intro re _ i pos hm; simp at hm
  | cons y l ih =>
   intro re hre i pos hm o ho h1 hb
   rw [List.foldr_cons] at hre
   obtain ⟨acc, hacc, hre⟩ := bindS hre
   obtain ⟨o1, ho1, hre⟩ := bindS hre
   by_cases hcond : clsO o1.op = 1 ∧ (anc.getD j 0).testBit y.1 = false
   ·rw [if_pos hcond] at hre
    split at hre
    ·rename_i hall
     obtain ⟨op, hop, hre⟩ := bindS hre
     obtain ⟨g, hg, hre⟩ := bindS hre
     injection hre with hre; subst hre
     rcases List.mem_cons.1 hm with e | hm
     ·subst e
      rw [ho] at ho1; injection ho1 with ho1; subst ho1
      exact ⟨_, List.mem_cons_self .., rfl, hop, hg, hall⟩
     ·obtain ⟨x, hx, hr⟩ := ih acc hacc i pos hm o ho h1 hb
      exact ⟨x, List.mem_cons_of_mem _ hx, hr⟩
    ·cases hre
   ·rw [if_neg hcond] at hre
    injection hre with hre; subst hre
    rcases List.mem_cons.1 hm with e | hm
    ·subst e
     rw [ho] at ho1; injection ho1 with ho1; subst ho1
     exact absurd ⟨h1, hb⟩ hcond
    ·exact ih _ hacc i pos hm o ho h1 hb
 intro pos i hpos o ho h1 hb
 obtain ⟨x, hx, e1, e2, e3, e4⟩ := gen _ re hc i pos (List.mem_zipIdx_iff_getElem?.2 hpos) o ho h1 hb
 refine ⟨x, hx, e1, e2, e3, fun k i' o' t hk hi' ho' ht hmem => ?_⟩
 have hin : i' ∈ done.take (pos + 1) := by
  have : (done.take (pos + 1))[k]? = some i' := by rw [List.getElem?_take, if_pos (by omega)]; exact hi'
  exact List.mem_of_getElem? this
 have := List.all_eq_true.1 e4 i' hin
 have hd : (ops[i']?).bind (·.dst) = some t := by rw [ho']; exact ht
 rw [hd] at this
 simp [hmem] at this
theorem zH4 {loc : T AV} {tmp : List AV} {h : AH} : ∀ {re : List ARe}, reads loc tmp h re = true → ∀ x ∈ re, ∃ q, zBh loc tmp x.guard = some q ∧ (q = true → ∃ v h', evOp x.op loc tmp h = .val v h' ∧ v = nth tmp x.pos)
 | [], _, x, hx => by simp at hx
 | ⟨op, i, g⟩ :: l, h1, x, hx => by
  have h1 : obind (zBh loc tmp g) false (fun q => bi q (OR.rec (motive := fun _ => Bool) (fun v _ => bi (same v (nth tmp i)) (reads loc tmp h l) false) (fun _ _ => false) (fun _ => false) (fun _ => false) (fun _ => false) (evOp op loc tmp h)) (reads loc tmp h l)) = true := h1
  cases hg : zBh loc tmp g with
  | none => rw [hg] at h1; cases h1
  | some q =>
   rw [hg] at h1
   cases q with
   | false =>
    have h1 : reads loc tmp h l = true := h1
    rcases List.mem_cons.1 hx with rfl | hx
    ·exact ⟨false, hg, fun e => by cases e⟩
    ·exact zH4 h1 x hx
   | true =>
    have h1 : (OR.rec (motive := fun _ => Bool) (fun v _ => bi (same v (nth tmp i)) (reads loc tmp h l) false) (fun _ _ => false) (fun _ => false) (fun _ => false) (fun _ => false) (evOp op loc tmp h)) = true := h1
    cases ho : evOp op loc tmp h with
    | val v h' =>
     rw [ho] at h1
     have h1 : bi (same v (nth tmp i)) (reads loc tmp h l) false = true := h1
     rw [bi_eq] at h1
     split at h1
     ·rename_i hs
      rcases List.mem_cons.1 hx with rfl | hx
      ·exact ⟨true, hg, fun _ => ⟨v, h', ho, same_eq hs⟩⟩
      ·exact zH4 h1 x hx
     ·cases h1
    | _ => rw [ho] at h1; cases h1
end
end Go.Ev
namespace Go.Ev
open Go
variable [Glob]
theorem clsO_le (op : Op) : clsO op ≤ 3 := by
 unfold clsO
 repeat' split
 all_goals omega
section
variable {P : Program} {cx : Operand → Option Opd} {loc : T AV} {tmp : List AV}
theorem zLb {op : Op} {ao : AOp} (hc : cOp P cx false op = some ao) (h3 : clsO op ≠ 3) (h : AH) : (∃ n, evOp ao loc tmp h = .fail n) ∨ ∃ v h', evOp ao loc tmp h = .val v h' := by
 have := clsO_le op
 by_cases h0 : clsO op = 0
 ·rcases zLc (loc := loc) (tmp := tmp) hc h0 with ⟨n, hn⟩ | ⟨v, hv⟩
  ·exact .inl ⟨n, hn h⟩
  ·exact .inr ⟨v, h, hv h⟩
 ·by_cases h1 : clsO op = 1
  ·rcases read_op (loc := loc) (tmp := tmp) hc h1 h with ⟨n, hn⟩ | ⟨v, hv, _⟩
   ·exact .inl ⟨n, hn⟩
   ·exact .inr ⟨v, h, hv⟩
  ·rcases makeA_op (loc := loc) (tmp := tmp) hc (by omega) with ⟨n, hn⟩ | ⟨V, o, hv⟩
   ·exact .inl ⟨n, hn h⟩
   ·exact .inr ⟨_, _, hv h⟩
end
def WF (h : AH) : Prop := ∀ id, h.next ≤ id → h.mem.get id = none
structure Grows (h h' : AH) : Prop where
 le : h.next ≤ h'.next
 old : ∀ {id}, id < h.next → h'.mem.get id = h.mem.get id
 wf : WF h → WF h'
theorem Grows.refl (h : AH) : Grows h h := ⟨Nat.le_refl _, fun _ => rfl, id⟩
theorem Grows.trans {a b c : AH} (x : Grows a b) (y : Grows b c) : Grows a c := ⟨Nat.le_trans x.le y.le, fun h => by rw [y.old (Nat.lt_of_lt_of_le h x.le), x.old h], fun h => y.wf (x.wf h)⟩
theorem AH.add_get (h : AH) (o : AObj) (id : Nat) : (h.add o).mem.get id = if h.next = id then some o else h.mem.get id := T.get_put _ _ _ _
theorem AH.add_next (h : AH) (o : AObj) : (h.add o).next = h.next + 1 := rfl
theorem Grows.add (h : AH) (o : AObj) : Grows h (h.add o) := by
 refine ⟨Nat.le_succ _, fun hi => ?_, fun hw id hi => ?_⟩
 ·rw [AH.add_get, if_neg (by omega)]
 ·rw [AH.add_next] at hi
  rw [AH.add_get, if_neg (by omega)]
  exact hw id (by omega)
theorem Grows.ext {h h' : AH} (g : Grows h h') (hw : WF h) : Ext h h' := by
 intro id o e
 rcases Nat.lt_or_ge id h.next with hl | hl
 ·rw [g.old hl]; exact e
 ·rw [hw id hl] at e; cases e
theorem WR.wf {ρ : Rho} {h : AH} {w : World} (W : WR ρ h w) : WF h := fun _ hi => W.fresh hi
theorem WR.grow {ρ : Rho} {h h' : AH} {w : World} (W : WR ρ h w) (g : Grows h h') : WR ρ h' w ∧ Step ρ h w ρ h' w := by
 have hold : ∀ {id x}, ρ id = some x → h'.mem.get id = h.mem.get id := fun e => g.old (W.dom e).1
 refine W.step ⟨⟨fun hg he => ?_, fun h1 h2 hne e1 e2 => ?_, fun he => ⟨Nat.lt_of_lt_of_le (W.dom he).1 g.le, (W.dom he).2⟩, fun hi => g.wf W.wf _ hi⟩, ⟨ρ.le_refl, ?_, fun _ _ => rfl, Nat.le_refl _, rfl, rfl, rfl, g.le, fun hi _ => g.old hi, fun a b => absurd a b⟩⟩
 ·rw [hold he] at hg; exact W.obj hg he
 ·rw [hold e1] at h1; rw [hold e2] at h2; exact W.inj h1 h2 hne e1 e2
 ·rintro k _ ⟨id, o, p, s, h1, h2, h3⟩
  exact ⟨id, o, p, s, by rw [← hold h3]; exact h1, h2, h3⟩
section
variable {P : Program} {cx : Operand → Option Opd} {loc : T AV} {tmp d d' : List AV} {h h' : AH} {call : Nat → List AV → AH → CR} {g : Option (Opd × Bool)} {re : List ARe} {v : AV} {op : Op} {ao : AOp}
theorem zEr (hs : StepA call loc tmp d h ao g re v d' h') (hc : cOp P cx false op = some ao) (h3 : clsO op ≠ 3) : d' = d ∧ Grows h h' ∧ (clsO op < 2 → h' = h) ∧ (zBh loc tmp g = some false ∧ v = .tup [] ∧ h' = h ∨ zBh loc tmp g = some true ∧ evOp ao loc tmp h = .val v h') := by
 cases hs with
 | skip hg => exact ⟨rfl, .refl _, fun _ => rfl, .inl ⟨hg, rfl, rfl⟩⟩
 | val hg he hr =>
  have hle := clsO_le op
  have hsm : clsO op < 2 → h' = h := by
   intro hl
   by_cases h0 : clsO op = 0
   ·rcases zLc (loc := loc) (tmp := tmp) hc h0 with ⟨n, hn⟩ | ⟨u, hu⟩
    ·cases he.symm.trans (hn h)
    ·have e := he.symm.trans (hu h); injection e with _ e
   ·rcases read_op (loc := loc) (tmp := tmp) hc (by omega) h with ⟨n, hn⟩ | ⟨u, hu, _⟩
    ·cases he.symm.trans hn
    ·have e := he.symm.trans hu; injection e with _ e
  refine ⟨rfl, ?_, hsm, .inr ⟨hg, he⟩⟩
  by_cases hl : clsO op < 2
  ·rw [hsm hl]; exact .refl _
  ·rcases makeA_op (loc := loc) (tmp := tmp) hc (by omega) with ⟨n, hn⟩ | ⟨V, o, hv⟩
   ·cases he.symm.trans (hn h)
   ·have e := he.symm.trans (hv h); injection e with _ e; rw [e]; exact .add _ _
 | enter hg he _ _ => rcases zLb (loc := loc) (tmp := tmp) hc h3 h with ⟨n, hn⟩ | ⟨u, h2, hu⟩ <;> simp_all
 | dfr hg he => rcases zLb (loc := loc) (tmp := tmp) hc h3 h with ⟨n, hn⟩ | ⟨u, h2, hu⟩ <;> simp_all
end
structure Dr (P : Program) (m : List Nat) (ops : Array Oper) (ord : List Nat) (call : Nat → List AV → AH → CR) (n : Nat) (R : Runs) (q : Nat) : Prop where
 hcall : zIp P call
 ok : DrawOk ops (ancs ops) ord
 x0 : R.X 0 = []
 ql : q ≤ ord.length
 st : ∀ p, p < q → ∃ i o ao g re, StepAt P m ops (ancs ops) ord call R p i o ao g re
 en : q = ord.length ∨ ∃ i o, ord[q]? = some i ∧ ops[i]? = some o ∧ clsO o.op = 3
 dst : ∀ {i : Nat} {o : Oper} {x : Nat}, ops[i]? = some o → o.dst = some x → x < n
structure Inv (ops : Array Oper) (ord : List Nat) (n : Nat) (R : Runs) (q : Nat) (ρ0 : Rho) (a0 : Act) (w0 : World) (listed : Array Bool) (a : Act) (w : World) (ρ : Rho) (ps : Nat) : Prop where
 sz : listed.size = ops.size
 le : ps ≤ q
 act : ps = ord.length ∨ ∃ i o, ord[ps]? = some i ∧ ops[i]? = some o ∧ clsO o.op = 3
 low : ∀ {p i : Nat} {o : Oper}, p < ps → ord[p]? = some i → ops[i]? = some o → clsO o.op = 3 → listed.getD i false = true
 high : ∀ {p i : Nat}, ps ≤ p → ord[p]? = some i → listed.getD i false = false
 dc : ∀ {i j : Nat}, listed.getD i false = true → bef (ancs ops) j i = true → listed.getD j false = true
 W : WR ρ (R.H ps) w
 S : Step ρ0 (R.H 0) w0 ρ (R.H ps) w
 wf : ∀ p, p ≤ ps → WF (R.H p)
 nx : ∀ {p p' : Nat}, p ≤ p' → p' ≤ ps → (R.H p).next ≤ (R.H p').next
 fl : ∀ {p i : Nat} {ob : AObj}, p < ps → ord[p]? = some i → listed.getD i false = false → R.H (p + 1) = (R.H p).add ob → ρ (R.H p).next = none ∧ (R.H ps).mem.get (R.H p).next = some ob
 T : ∀ {p i : Nat} {o : Oper} {t : Nat}, p < ps → ord[p]? = some i → ops[i]? = some o → listed.getD i false = true → o.dst = some t → VR ρ (R.V p) (a.tmps.getD t undef)
 U : ∀ {t : Nat}, (∀ i o, ops[i]? = some o → listed.getD i false = true → o.dst ≠ some t) → a.tmps.getD t undef = a0.tmps.getD t undef
 N : a.tmps.size = n
 Df : DefsR ρ (R.D ps) a.defers
section
variable {P : Program} {m : List Nat} {ops : Array Oper} {ord : List Nat} {call : Nat → List AV → AH → CR} {n : Nat} {R : Runs} {q : Nat} {ρ0 : Rho} {a0 : Act} {w0 : World} {listed : Array Bool} {a : Act} {w : World} {ρ : Rho} {ps : Nat}
def Calm (ops : Array Oper) (ord : List Nat) (o : Oper) (p e : Nat) : Prop := ∀ b i' o' t, p ≤ b → b < e → ord[b]? = some i' → ops[i']? = some o' → o'.dst = some t → t ∉ zE1 ops o
theorem look_at (K : Dr P m ops ord call n R q) (L0 : LocR ρ0 m (R.L 0) a0) (I : Inv ops ord n R q ρ0 a0 w0 listed a w ρ ps) {p i e : Nat} {o : Oper} (hp : ord[p]? = some i) (ho : ops[i]? = some o) (hun : listed.getD i false = false)
  (hanc : ∀ j, bef (ancs ops) j i = true → listed.getD j false = true) (hpe : p ≤ e) (hes : e ≤ ps) (calm : Calm ops ord o p e) {t : Nat} (ht : t ∈ zE1 ops o) {y : Opd} (hy : cOpd m (TS ops ord e) (.tmp t) = some y) :
  VR ρ (ev (R.L e) (R.X e) y) (a.tmps.getD t undef) := by
 have heq : e ≤ q := Nat.le_trans hes I.le
 have tv := ts_val K.x0 K.st e heq t
 unfold cOpd at hy
 simp only at hy
 cases hf : zG1 (TS ops ord e) t with
 | some k =>
  rw [hf] at hy tv
  injection hy with hy; subst hy
  obtain ⟨b, i', o', hb, h1, h2, h3, h4⟩ := tv
  rw [ev_t, h4]
  have hbp : b < p := by
   rcases Nat.lt_or_ge b p with h | h
   ·exact h
   ·exact absurd ht (calm b i' o' t h hb h1 h2 h3)
  obtain ⟨hne, hnb, _⟩ := K.ok.pair hp h1 hbp
  have hl : listed.getD i' false = true := by
   rcases (K.ok.dst ho h2 hne h3).2 ht with h | h
   ·exact hanc _ h
   ·rw [hnb] at h; cases h
  exact I.T (by omega) h1 h2 hl h3
 | none =>
  rw [hf] at hy tv
  obtain ⟨k, hk, e1⟩ := mapS hy
  subst e1
  rw [ev_l]
  have hs : slot (R.L e) k = slot (R.L 0) k := by
   rcases zK5 K.st k e heq with ⟨h, _⟩ | ⟨b, i', o', hb, h1, h2, h3, _⟩
   ·exact h
   ·exfalso
    cases hd : o'.dst with
    | none => rw [hd] at h3; cases h3
    | some t' =>
     rw [hd] at h3
     have : t' = t := zGj h3 hk
     subst this
     exact tv b i' o' hb h1 h2 hd
  rw [hs, I.U (t := t) ?_]
  ·exact (L0 t k hk).mono I.S.le
  ·intro i2 o2 h2 hl hd
   have hne : i ≠ i2 := by intro e; subst e; rw [hun] at hl; cases hl
   rcases (K.ok.dst ho h2 hne hd).2 ht with h | h
   ·obtain ⟨b, hb, hbe⟩ := List.getElem_of_mem (K.ok.cover (Array.getElem?_eq_some_iff.1 h2).1)
    have hb2 : ord[b]? = some i2 := by rw [List.getElem?_eq_getElem hb, hbe]
    rcases Nat.lt_or_ge b e with hlt | hge
    ·exact tv b i2 o2 hlt hb2 h2 hd
    ·have hbp : p < b := by
      rcases Nat.lt_or_ge p b with h | h
      ·exact h
      ·have : b = p := by omega
       subst this
       rw [hp] at hb2; injection hb2 with hb2; exact absurd hb2 hne
     obtain ⟨_, hnb, _⟩ := K.ok.pair hb2 hp hbp
     rw [hnb] at h; cases h
   ·have := I.dc hl h
    rw [hun] at this; cases this
def own (ops : Array Oper) (o : Oper) (cx : Operand → Option Opd) : Operand → Option Opd
 | .tmp t => if t ∈ zE1 ops o then cx (.tmp t) else none
 | x => cx x
theorem own_op {o : Oper} {cx : Operand → Option Opd} {ao : AOp} (h : cOp P cx false o.op = some ao) : cOp P (own ops o cx) false o.op = some ao := by
 rw [← h]
 refine cOp_congr fun x hx => ?_
 cases x with
 | tmp t =>
  have : t ∈ zE1 ops o := List.mem_append_left _ (List.mem_filterMap.2 ⟨.tmp t, by simpa using hx, rfl⟩)
  simp [own, this]
 | _ => rfl
theorem opds_at (K : Dr P m ops ord call n R q) (L0 : LocR ρ0 m (R.L 0) a0) (I : Inv ops ord n R q ρ0 a0 w0 listed a w ρ ps) {p i e : Nat} {o : Oper} (hp : ord[p]? = some i) (ho : ops[i]? = some o) (hun : listed.getD i false = false)
  (hanc : ∀ j, bef (ancs ops) j i = true → listed.getD j false = true) (hpe : p ≤ e) (hes : e ≤ ps) (calm : Calm ops ord o p e) : OpdsR ρ (R.L e) (R.X e) (own ops o (cOpd m (TS ops ord e))) a.eval := by
 intro x y hxy
 cases x with
 | tmp t =>
  have hxy : (if t ∈ zE1 ops o then cOpd m (TS ops ord e) (.tmp t) else none) = some y := hxy
  split at hxy
  ·exact look_at K L0 I hp ho hun hanc hpe hes calm ‹_› hxy
  ·cases hxy
 | const v => obtain ⟨z, hz, e⟩ := mapS hxy; subst e; exact zCx hz
 | func f => injection hxy with e; subst e; exact .fn .nil .nil rfl rfl
 | global _ => injection hxy with e; subst e; exact .bad _
theorem zFq (K : Dr P m ops ord call n R q) (L0 : LocR ρ0 m (R.L 0) a0) (I : Inv ops ord n R q ρ0 a0 w0 listed a w ρ ps) {p i e : Nat} {o : Oper} (hp : ord[p]? = some i) (ho : ops[i]? = some o) (hun : listed.getD i false = false)
  (hanc : ∀ j, bef (ancs ops) j i = true → listed.getD j false = true) (hpe : p ≤ e) (hes : e ≤ ps) (calm : Calm ops ord o p e) {g : Option (Opd × Bool)} (hg : zF3 m ops (TS ops ord e) o = some g) {b : Bool} (hb : zBh (R.L e) (R.X e) g = some b) :
  Region.wanted o (yielded ops a.tmps) = b := by
 refine zHs (ρ := ρ) hg (fun gi want d y h1 h2 h3 => ?_) hb
 refine look_at K L0 I hp ho hun hanc hpe hes calm (List.mem_append_right _ ?_) h3
 rw [h1]
 simp [h2]
end
end Go.Ev
namespace Go.Ev
open Go
variable [Glob]
section
variable {P : Program} {m : List Nat} {ops : Array Oper} {ord : List Nat} {call : Nat → List AV → AH → CR} {n : Nat} {R : Runs} {q : Nat} {ρ0 : Rho} {a0 : Act} {w0 : World} {listed : Array Bool} {a : Act} {w : World} {ρ : Rho} {ps : Nat}
theorem lt_ord {p i : Nat} (h : ord[p]? = some i) : p < ord.length := by
 rcases Nat.lt_or_ge p ord.length with h1 | h1
 ·exact h1
 ·rw [List.getElem?_eq_none h1] at h; cases h
theorem Dr.grow (K : Dr P m ops ord call n R q) : ∀ {s r : Nat}, s ≤ r → r ≤ q → (∀ p i o, s ≤ p → p < r → ord[p]? = some i → ops[i]? = some o → clsO o.op ≠ 3) → Grows (R.H s) (R.H r) ∧ R.D r = R.D s := by
 intro s r hsr
 induction r with
 | zero =>
  intro _ _
  have h0 : s = 0 := by omega
  rw [h0]; exact ⟨.refl _, rfl⟩
 | succ r ih =>
  intro hq hcl
  by_cases hs : s = r + 1
  ·subst hs; exact ⟨.refl _, rfl⟩
  ·obtain ⟨g1, d1⟩ := ih (by omega) (by omega) (fun p i o h1 h2 => hcl p i o h1 (by omega))
   obtain ⟨i, o, ao, g, re, S⟩ := K.st r (by omega)
   obtain ⟨d2, g2, _⟩ := zEr S.st S.co (hcl r i o (by omega) (by omega) S.oi S.oo)
   exact ⟨g1.trans g2, by rw [d2, d1]⟩
theorem stable (K : Dr P m ops ord call n R q) (L0 : LocR ρ0 m (R.L 0) a0) (I : Inv ops ord n R q ρ0 a0 w0 listed a w ρ ps) {p i : Nat} {o : Oper} {ao : AOp} {g : Option (Opd × Bool)} {re : List ARe} (S : StepAt P m ops (ancs ops) ord call R p i o ao g re)
  (hun : listed.getD i false = false) (hanc : ∀ j, bef (ancs ops) j i = true → listed.getD j false = true) (hcl : clsO o.op < 2) (hg : zBh (R.L p) (R.X p) g = some true) :
  ∀ r, p ≤ r → r ≤ ps → ∃ e ao', p ≤ e ∧ e ≤ r ∧ Calm ops ord o p e ∧ cOp P (cOpd m (TS ops ord e)) false o.op = some ao' ∧ evOp ao' (R.L e) (R.X e) (R.H r) = .val (R.V p) (R.H r) := by
 have hrd : ∀ {ao' : AOp} {e : Nat}, cOp P (cOpd m (TS ops ord e)) false o.op = some ao' → ReadF fun h => evOp ao' (R.L e) (R.X e) h := by
  intro ao' e hc
  by_cases h0 : clsO o.op = 0
  ·exact (zLc hc h0).read
  ·exact read_op hc (by omega)
 intro r hpr
 induction r with
 | zero =>
  intro _
  obtain rfl : p = 0 := by omega
  obtain ⟨_, _, hsm, hv⟩ := zEr S.st S.co (by omega)
  rcases hv with ⟨h1, _⟩ | ⟨_, he⟩
  ·rw [hg] at h1; cases h1
  ·rw [hsm hcl] at he
   exact ⟨0, ao, Nat.le_refl _, Nat.le_refl _, fun b _ _ _ h1 h2 => by omega, S.co, he⟩
 | succ r ih =>
  intro hps
  by_cases hs : p = r + 1
  ·subst hs
   obtain ⟨_, _, hsm, hv⟩ := zEr S.st S.co (by omega)
   rcases hv with ⟨h1, _⟩ | ⟨_, he⟩
   ·rw [hg] at h1; cases h1
   ·rw [hsm hcl] at he
    exact ⟨r + 1, ao, Nat.le_refl _, Nat.le_refl _, fun b _ _ _ h1 h2 => by omega, S.co, he⟩
  ·obtain ⟨e, ao', h1, h2, h3, h4, h5⟩ := ih (by omega) (by omega)
   obtain ⟨i2, o2, ao2, g2, re2, S2⟩ := K.st r (by have := I.le; omega)
   by_cases hc3 : clsO o2.op = 3
   ·by_cases h0 : clsO o.op = 0
    ·refine ⟨e, ao', h1, by omega, h3, h4, ?_⟩
     rcases zLc (loc := R.L e) (tmp := R.X e) h4 h0 with ⟨k, hk⟩ | ⟨v, hv⟩
     ·cases h5.symm.trans (hk _)
     ·have e1 := h5.symm.trans (hv (R.H r))
      injection e1 with e1 _
      rw [e1]; exact hv _
    ·have hl2 : listed.getD i2 false = true := I.low (by omega) S2.oi S2.oo hc3
     have hnb : bef (ancs ops) i i2 = false := by
      cases hb : bef (ancs ops) i i2 with
      | false => rfl
      | true => have := I.dc hl2 hb; rw [hun] at this; cases this
     have hpr2 : p < r := by
      rcases Nat.lt_or_ge p r with h | h
      ·exact h
      ·have : p = r := by omega
       subst this
       have := S.oi.symm.trans S2.oi; injection this with this; subst this
       rw [hun] at hl2; cases hl2
     have hdone : (DN ord r)[r - 1 - p]? = some i := by
      have hlen : (ord.take r).length = r := by rw [List.length_take]; have := lt_ord S2.oi; omega
      unfold DN
      rw [List.getElem?_reverse (by omega), hlen, show r - 1 - (r - 1 - p) = p by omega, List.getElem?_take, if_pos hpr2]
      exact S.oi
     obtain ⟨x, hx, x1, x2, x3, x4⟩ := reads_draw (S2.cr hc3) (r - 1 - p) i hdone o S.oo (by omega) hnb
     have hcalm : Calm ops ord o p r := by
      intro b i' o' t hb1 hb2 hi' ho' ht
      refine x4 (r - 1 - b) i' o' t (by omega) ?_ ho' ht
      have hlen : (ord.take r).length = r := by rw [List.length_take]; have := lt_ord S2.oi; omega
      unfold DN
      rw [List.getElem?_reverse (by omega), hlen, show r - 1 - (r - 1 - b) = b by omega, List.getElem?_take, if_pos hb2]
      exact hi'
     have hsame : R.H (r + 1) = R.H r ∨ reads (R.L r) (R.X r) (R.H (r + 1)) re2 = true := by
      have hstr := S2.st
      generalize R.H (r + 1) = h' at hstr
      generalize R.V r = v' at hstr
      generalize R.D (r + 1) = d' at hstr
      cases hstr with
      | skip hgf => exact .inl rfl
      | val _ _ hr => exact .inr hr
      | enter _ _ _ hr => exact .inr hr
      | dfr hgt he => exact .inl rfl
     rcases hsame with hsame | hr
     ·exact ⟨e, ao', h1, by omega, h3, h4, by rw [hsame]; exact h5⟩
     have hrt : ∃ ao', cOp P (cOpd m (TS ops ord r)) false o.op = some ao' ∧ evOp ao' (R.L r) (R.X r) (R.H (r + 1)) = .val (R.V p) (R.H (r + 1)) := by
      obtain ⟨b, hb, hbt⟩ := zH4 hr x hx
      have w1 := zFq K L0 I S.oi S.oo hun hanc (Nat.le_refl _) (by omega) (fun b _ _ _ h1 h2 => by omega) S.cg hg
      have w2 := zFq K L0 I S.oi S.oo hun hanc (by omega) (by omega) hcalm x3 hb
      rw [w1] at w2
      obtain ⟨v, h2, hv, hve⟩ := hbt w2.symm
      have hval : v = R.V p := by
       rw [hve, x1]
       have : ∀ k, k ≤ q → ∀ b, b < k → nth (R.X k) (k - 1 - b) = R.V b := by
        intro k
        induction k with
        | zero => intro _ b hb; omega
        | succ k ihk =>
         intro hk b hb
         obtain ⟨_, _, _, _, _, S3⟩ := K.st k (by omega)
         rw [S3.tm]
         by_cases hbk : b = k
         ·subst hbk; rw [show b + 1 - 1 - b = 0 by omega]; rfl
         ·rw [show k + 1 - 1 - b = (k - 1 - b) + 1 by omega]
          exact ihk (by omega) b (by omega)
       exact this r (by have := I.le; omega) p hpr2
      refine ⟨x.op, x2, ?_⟩
      rcases hrd x2 (R.H (r + 1)) with ⟨k, hk⟩ | ⟨u, hu, _⟩
      ·cases hv.symm.trans hk
      ·have e1 := hv.symm.trans hu
       injection e1 with e1 _
       rw [← hval, e1]; exact hu
     obtain ⟨ao3, c1, c2⟩ := hrt
     exact ⟨r, ao3, by omega, by omega, hcalm, c1, c2⟩
   ·obtain ⟨_, gr, _, _⟩ := zEr S2.st S2.co hc3
    refine ⟨e, ao', h1, by omega, h3, h4, ?_⟩
    rcases hrd h4 (R.H r) with ⟨k, hk⟩ | ⟨u, hu, hx⟩
    ·cases h5.symm.trans hk
    ·have e1 := h5.symm.trans hu
     injection e1 with e1 _
     rw [e1]
     exact hx _ (gr.ext (I.wf r (by omega)))
end
end Go.Ev
