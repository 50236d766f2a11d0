/- Of every program and number the law LowerSites returns true, and leaves its arguments as they were. The listed package-level variables are tied to the program's text by the given card; the proof asks nothing of what they hold. -/
import Derived.Test.YtokophcpoecilaaGreatDoorRows
import Derived.Test.YtokophcpoecilaaGreatDoorTie
import Derived.Test.YtokophcpoecilaaGreatDoorCards
import Derived.ProofKit
import Derived.Lay
import Derived.LaidMore
import Derived.SevenTiedAt
import Derived.Test.YtokophcpoecilaaGreatDoorEvH
import Derived.Test.YtokophcpoecilaaGreatDoorFac
import Derived.Test.YtokophcpoecilaaGreatDoorLaA
import Derived.Test.YtokophcpoecilaaGreatDoorAnc
set_option linter.unusedSimpArgs false
set_option linter.unusedVariables false
set_option linter.unusedSimpArgs false
set_option linter.unusedVariables false
namespace Go.Proofs.YtokophcpoecilaaGreatDoor
open Go.ChangeShapes Go.WideShapes Go.ChangeAt Go.RowKit Go.Ev
set_option linter.unusedVariables false
theorem ownR : ownKnob Tryz.prog.godebug = none := by kernel_rfl
theorem laidR : laidOutB Tryz.prog = true := by kernel_rfl
theorem sites_law (ah : AH) (l : List AV) (h : RdAs Tryz.prog ah [26, 3] l) : GP tabL 3 l ah fun v _ => v = .bool true := by
  cases h with
  | cons ha h =>
    cases h with
    | cons hb h =>
      cases h
      cases ha with
      | one _ hn => exact absurd Tryz.underlying26 (hn _)
      | agg ha _ =>
        obtain ⟨p, hp⟩ := prog_in (shape_rd (s := sProg) (by kernel_rfl) ha)
        cases hb with
        | agg _ hu => rw [show Tryz.prog.underlying 3 = some (.int .i64) by kernel_rfl] at hu; cases hu
        | one hb _ =>
          obtain ⟨n, e, _⟩ := int_in (shape_rd (s := sInt) (by kernel_rfl) hb)
          injection e with e
          subst e
          exact lowersites_gp rfl rfl rfl rfl rfl rfl rfl ⟨rfl, rfl, rfl, rfl, rfl, rfl, rfl, rfl, rfl, rfl, rfl, rfl, rfl, rfl, rfl, rfl, rfl, rfl, rfl, rfl⟩ rfl hp
set_option maxRecDepth 100000 in
theorem lifted (os : Os) (started : os.Started) (H : Type) (enc : TypeId × Value → H) :
    ReturnsInHanded {} Tryz.checked os 3 .any (fun w args => (Rows.lowerSitesSpec.pre enc Tryz.prog Tryz.f3 [] false w args ∧ laidMetH Tryz.prog Rows.lowerSitesRow.laid w) ∧ sizedMet enc Tryz.prog Tryz.f3 (OpenSpec.ofChange Rows.lowerSitesSpec) false w args)
      (Rows.lowerSitesSpec.post enc Tryz.prog Tryz.f3 false true false false) := by
  refine returnsInHanded_of_change_and (C := Tryz.checked) (X := fun w _ => laidMetH Tryz.prog Rows.lowerSitesRow.laid w) (fun _ _ _ hh h => h.of_heap hh) ownR started (by kernel_rfl) Tryz.func3
    (ChangeSpec.witness_shaped (enc := enc) (C := Tryz.checked) (os := os) (X := fun w _ => laidMetH Tryz.prog Rows.lowerSitesRow.laid w) false (World.laidAll Tryz.prog os Rows.lowerSitesRow.laid) #[.agg #[.slice none 0 0, .slice none 0 0, .slice none 0 0], .int .i64 0] 8 (World.laidAll_os _ _ _)
      (World.shaped_of_ZipB (by kernel_rfl) (by kernel_rfl)) (by kernel_rfl) (by kernel_rfl) (by kernel_rfl)
      (by rw [MakeChecks.laidMetH_plain _ _ _ (by kernel_rfl)]; exact laidMet_laidAll _ (by kernel_rfl) (by kernel_rfl))) ?_
  intro W base args ds gs before hval0 hW _ _ hL _
  have hval : ∀ (j : Nat) t v, Tryz.f3.params[j]? = some t → args[j]? = some v → Value.okWide Tryz.prog W .any base t v := hval0
  have hW' := hW
  obtain ⟨p, q, hA0, hV, rfl, hfz, hnd⟩ := hW
  have hA : DataW.TrodAll enc Tryz.prog W 0 (fun _ => true) true Tryz.f3.params.toList args.toList ds p := hA0
  rw [Tryz.params3] at hA hval
  obtain ⟨rfl, rfl⟩ := trodVars_none hV
  have hA2 := hA
  obtain ⟨v0, v1, d0, d1, p0, p1, rfl, rfl, rfl, h0, h1⟩ := trodAll_two hA
  have hlt : ∀ x ∈ p0 ++ p1, x.block < W.heap.size := fun x hx => by simpa using hW'.lt x (by simpa using hx)
  clear hA0 hval0
  have key := lawD_calls (base := base) (by kernel_rfl) tabL_ok (f := 3) (ts := [26, 3]) (by intro t ht; simp at ht; rcases ht with rfl | rfl <;> kernel_rfl) hA2 (fun j t v h1 h2 => hval j t v (by simpa using h1) (by simpa using h2)) sites_law
  refine key.mono fun e W' ⟨he, bel⟩ => ?_
  subst he
  exact ⟨_, rfl, _, _, _, [], _, [], hW', trodAll_mk1 (shut_bool Tryz.underlying4 _), trodAll_below laidR bel (by intro t ht; simp at ht; rcases ht with rfl | rfl <;> exact ⟨by kernel_rfl, of_decide_eq_true (by kernel_rfl)⟩) hA2 hlt, rfl, bel.frame _, fun h => by cases h⟩
theorem lowerSites_holds : Rows.LowerSitesSaid :=
  OpenClaim.holds_of_wide 3 Tryz.f3 rfl rfl rfl rfl rfl rfl rfl ⟨rfl, rfl, rfl, rfl, rfl⟩ rfl rfl rfl rfl rfl (by kernel_rfl) Tryz.func3 closedF
    (of_decide_eq_true (by kernel_rfl)) (by unfold Func.isWrapper; rw [if_neg (of_decide_eq_false (by kernel_rfl))]; exact ⟨rfl, rfl⟩)
    (fun os started H enc _ => lifted os started H enc)
theorem lowerSites_card : Rows.LowerSitesCardSaid :=
  Claim7.holds_tied_plain_at .later [] [.data, .data, .data, .data, .sentinel, .sentinel, .pinned] true (true, "5bc0abb8a72baa341370df0b755791615af069781b6980fcc65cb9a8582c7a7d") true lowerSites_holds (fun _ h => by cases h) (by kernel_rfl) (fun _ h => by cases h) lowerSites_row_tie rfl ⟨rfl, rfl⟩ (by kernel_rfl) rfl
    (fun f fn hf hfn => by
      obtain rfl : f = 3 := Option.some.inj ((show Tryz.prog.funcNamed "truant/truantlaw14.LowerSites" = some 3 by kernel_rfl).symm.trans hf) |>.symm
      obtain rfl : fn = Tryz.f3 := (Option.some.inj (Tryz.func3.symm.trans hfn)).symm
      exact ⟨by kernel_rfl, fun j t ht => by
        rw [Tryz.params3] at ht
        have hm : t ∈ [26, 3] := by simpa using Array.mem_of_getElem? ht
        have hall : ([26, 3].all fun u => !Tryz.prog.wantsStandIn u) = true := by kernel_rfl
        exact (show Tryz.prog.wantsStandIn t = false by simpa using List.all_eq_true.1 hall t hm)⟩)
    (by kernel_rfl)
end Go.Proofs.YtokophcpoecilaaGreatDoor
