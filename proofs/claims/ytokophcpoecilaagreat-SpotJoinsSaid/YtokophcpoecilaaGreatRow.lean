/- Of every two rows of what was seen the law SpotJoins returns true, and leaves its arguments as they were. No condition beyond the given statement's own. -/
import Derived.Test.YtokophcpoecilaaGreatRows
import Derived.ProofKit
import Derived.Test.YtokophcpoecilaaGreatEvH
import Derived.Test.YtokophcpoecilaaGreatFac
import Derived.Test.YtokophcpoecilaaGreatLaA
import Derived.Test.YtokophcpoecilaaGreatAnc
set_option linter.unusedSimpArgs false
set_option linter.unusedVariables false
set_option linter.unusedSimpArgs false
set_option linter.unusedVariables false
namespace Go.Proofs.YtokophcpoecilaaGreat
open Go.ChangeShapes Go.WideShapes Go.ChangeAt Go.RowKit Go.Ev
set_option linter.unusedVariables false
theorem ownR : ownKnob Tryz.prog.godebug = none := by kernel_rfl
theorem laidR : laidOutB Tryz.prog = true := by kernel_rfl
def sSeen : Sh := .struct [.struct [.int .i64, .int .i64], .int .i64, .int .i64]
theorem seen_in {h : AH} {cs : List AV} (x : ShR h sSeen cs) : ∃ r, isRw cs r := by
  obtain ⟨a, b, rfl, ha, x1, y1⟩ := x
  obtain ⟨a1, a2, rfl, h1, x2, a3, a4, rfl, h2, x3, e3⟩ := x1
  obtain ⟨n1, e1, _⟩ := x2
  obtain ⟨n2, e2, _⟩ := x3
  obtain ⟨c1, c2, rfl, h4, ⟨n3, e4, _⟩, d1, d2, rfl, h5, ⟨n4, e5, _⟩, e6⟩ := y1
  subst e1; subst e2; subst e3; subst e4; subst e5; subst e6
  exact ⟨⟨n1, n2, n3, n4⟩, rfl⟩
theorem joins_law (ah : AH) (l : List AV) (h : RdAs Tryz.prog ah [22, 22] l) : GP tabL 3 l ah fun v _ => v = .bool true := by
  cases h with
  | cons ha h =>
    cases h with
    | cons hb h =>
      cases h
      cases ha with
      | agg _ hu => rw [Tryz.underlying22] at hu; cases hu
      | one ha _ =>
        cases hb with
        | agg _ hu => rw [Tryz.underlying22] at hu; cases hu
        | one hb _ =>
          obtain ⟨A, sa⟩ := SlD.of (s := sSeen) (fun _ => seen_in) (shape_rd (s := .slice sSeen) (by kernel_rfl) ha)
          obtain ⟨B, sb⟩ := SlD.of (s := sSeen) (fun _ => seen_in) (shape_rd (s := .slice sSeen) (by kernel_rfl) hb)
          exact spotjoins_gp rfl rfl rfl rfl rfl rfl rfl ⟨⟨rfl, rfl, rfl, rfl⟩, rfl, rfl, rfl, rfl, rfl, rfl, rfl, rfl, rfl, rfl, rfl, rfl, rfl, rfl, rfl, rfl, rfl, rfl⟩ sa sb
set_option maxRecDepth 100000 in
theorem lifted (os : Os) (started : os.Started) (H : Type) (enc : TypeId × Value → H) :
    ReturnsInHanded {} Tryz.checked os 3 .any (Rows.spotJoinsSpec.pre6 enc Tryz.prog Tryz.f3 Rows.spotJoinsRow.domain false) (Rows.spotJoinsSpec.post enc Tryz.prog Tryz.f3 false true false false) := by
  refine returnsInHanded_of_change (C := Tryz.checked) ownR started (by kernel_rfl) Tryz.func3
    (ChangeSpec.witness6 (enc := enc) (C := Tryz.checked) false ⟨#[], #[.slice none 0 0, .slice none 0 0], []⟩ 8 (by kernel_rfl) (by kernel_rfl) (by kernel_rfl) (by kernel_rfl)) ?_
  intro W base args ds gs before hval0 hW hcnd _
  have hval : ∀ (j : Nat) t v, Tryz.f3.params[j]? = some t → args[j]? = some v → Value.okWide Tryz.prog W .any base t v := hval0
  have hW' := hW
  obtain ⟨p, q, hA0, hV, rfl, hfz, hnd⟩ := hW
  have hA : DataW.TrodAll enc Tryz.prog W 0 (fun _ => true) true Tryz.f3.params.toList args.toList ds p := hA0
  rw [Tryz.params3] at hA hval
  obtain ⟨rfl, rfl⟩ := trodVars_none hV
  have hA2 := hA
  obtain ⟨v0, v1, d0, d1, p0, p1, rfl, rfl, rfl, h0, h1⟩ := trodAll_two hA
  have hlt : ∀ x ∈ p0 ++ p1, x.block < W.heap.size := fun x hx => by simpa using hW'.lt x (by simpa using hx)
  clear hA0 hval0
  have key := lawD_calls (base := base) (by kernel_rfl) tabL_ok (f := 3) (ts := [22, 22]) (by intro t ht; simp at ht; subst ht; kernel_rfl) hA2 (fun j t v h1 h2 => hval j t v (by simpa using h1) (by simpa using h2)) joins_law
  refine key.mono fun e W' ⟨he, bel⟩ => ?_
  subst he
  exact ⟨_, rfl, _, _, _, [], _, [], hW', trodAll_mk1 (shut_bool Tryz.underlying4 _), trodAll_below laidR bel (by intro t ht; simp at ht; subst ht; exact ⟨by kernel_rfl, of_decide_eq_true (by kernel_rfl)⟩) hA2 hlt, rfl, bel.frame _, fun h => by cases h⟩
theorem spotJoins_holds : Rows.SpotJoinsSaid :=
  OpenClaim.holds_of_wide 3 Tryz.f3 rfl rfl rfl rfl rfl rfl rfl ⟨rfl, rfl, rfl, rfl, rfl⟩ rfl rfl rfl rfl rfl (by kernel_rfl) Tryz.func3 closedF
    (of_decide_eq_true (by kernel_rfl)) (by unfold Func.isWrapper; rw [if_neg (of_decide_eq_false (by kernel_rfl))]; exact ⟨rfl, rfl⟩)
    (fun os started H enc _ => lifted os started H enc)
end Go.Proofs.YtokophcpoecilaaGreat
