/- Of every two rows of points the law WatchRows returns true, and leaves its arguments as they were. No condition beyond the given statement's own. -/
import Derived.Test.YtgopidgphmkmlaaGreatRows
import Derived.ProofKit
import Derived.Test.YtgopidgphmkmlaaGreatLaA
import Derived.Test.YtgopidgphmkmlaaGreatAnc
set_option linter.unusedSimpArgs false
set_option linter.unusedVariables false
namespace Go.Proofs.YtgopidgphmkmlaaGreat
open Go.ChangeShapes Go.WideShapes Go.ChangeAt Go.RowKit Go.Ev
set_option linter.unusedVariables false
theorem ownR : ownKnob Tryz.prog.godebug = none := by kernel_rfl
theorem laidR : laidOutB Tryz.prog = true := by kernel_rfl
theorem yes6 : SaysTrue Tryz.prog 6 := ⟨by kernel_rfl, awake_true⟩
noncomputable def tabL (f : Nat) : Option AFunc := if f = 6 then some yesF else tab f
theorem tabL_ok : TabOK Tryz.prog tabL := by
  intro f af h
  unfold tabL at h
  split at h
  · rename_i hf
    injection h with h
    subst hf
    exact .inr ⟨h.symm, yes6⟩
  · exact htab f af h
theorem rows_law (ah : AH) (l : List AV) (h : RdVs Tryz.prog ah [30, 30] l) : GP tabL 4 l ah fun v _ => v = .bool true := by
  cases h with
  | cons ha h =>
    cases h with
    | cons hb h =>
      cases h
      obtain ⟨n, f, ida, oa, c, s, p, r, pa⟩ := pts_of (by kernel_rfl) (by kernel_rfl) (ha.asSlice Tryz.underlying30)
      obtain ⟨m, g, idb, ob, c', s', p', r', pb⟩ := pts_of (by kernel_rfl) (by kernel_rfl) (hb.asSlice Tryz.underlying30)
      exact rows_gp rfl rfl rfl rfl pa pb
set_option maxRecDepth 100000 in
theorem lifted (os : Os) (started : os.Started) (H : Type) (enc : TypeId × Value → H) :
    ReturnsInHanded {} Tryz.checked os 4 .any (Rows.watchRowsSpec.pre6 enc Tryz.prog Tryz.f4 Rows.watchRowsRow.domain false) (Rows.watchRowsSpec.post enc Tryz.prog Tryz.f4 false true false false) := by
  refine returnsInHanded_of_change (C := Tryz.checked) ownR started (by kernel_rfl) Tryz.func4
    (ChangeSpec.witness6 (enc := enc) (C := Tryz.checked) false ⟨#[], #[.slice none 0 0, .slice none 0 0], []⟩ 8 (by kernel_rfl) (by kernel_rfl) (by kernel_rfl) (by kernel_rfl)) ?_
  intro W base args ds gs before hval0 hW hcnd _
  have hval : ∀ (j : Nat) t v, Tryz.f4.params[j]? = some t → args[j]? = some v → Value.okWide Tryz.prog W .any base t v := hval0
  have hW' := hW
  obtain ⟨p, q, hA0, hV, rfl, hfz, hnd⟩ := hW
  have hA : DataW.TrodAll enc Tryz.prog W 0 (fun _ => true) true Tryz.f4.params.toList args.toList ds p := hA0
  rw [Tryz.params4] at hA hval
  obtain ⟨rfl, rfl⟩ := trodVars_none hV
  have hA2 := hA
  obtain ⟨v0, v1, d0, d1, p0, p1, rfl, rfl, rfl, h0, h1⟩ := trodAll_two hA
  have hlt : ∀ x ∈ p0 ++ p1, x.block < W.heap.size := fun x hx => by simpa using hW'.lt x (by simpa using hx)
  clear hA0 hval0
  have key := law_calls (base := base) (by kernel_rfl) tabL_ok (f := 4) (ts := [30, 30]) (by intro t ht; simp at ht; subst ht; kernel_rfl) hA2 (fun j t v h1 h2 => hval j t v (by simpa using h1) (by simpa using h2)) rows_law
  refine key.mono fun e W' ⟨he, bel⟩ => ?_
  subst he
  exact ⟨_, rfl, _, _, _, [], _, [], hW', trodAll_mk1 (shut_bool Tryz.underlying4 _), trodAll_below laidR bel (by intro t ht; simp at ht; subst ht; exact ⟨by kernel_rfl, of_decide_eq_true (by kernel_rfl)⟩) hA2 hlt, rfl, bel.frame _, fun h => by cases h⟩
theorem watchRows_holds : Rows.WatchRowsSaid :=
  OpenClaim.holds_of_wide 4 Tryz.f4 rfl rfl rfl rfl rfl rfl rfl ⟨rfl, rfl, rfl, rfl, rfl⟩ rfl rfl rfl rfl rfl (by kernel_rfl) Tryz.func4 (by kernel_rfl)
    (of_decide_eq_true (by kernel_rfl)) (by unfold Func.isWrapper; rw [if_neg (of_decide_eq_false (by kernel_rfl))]; exact ⟨rfl, rfl⟩)
    (fun os started H enc _ => lifted os started H enc)
end Go.Proofs.YtgopidgphmkmlaaGreat
