/- RowE -/
import Derived.Test.YticonknioobdjaaGreatRows
import Derived.ProofKit
import Derived.SizedLaws
import Derived.Test.YticonknioobdjaaGreatPE
import Derived.Test.YticonknioobdjaaGreatPL
import Derived.Test.YticonknioobdjaaGreatPK
set_option linter.unusedSimpArgs false
set_option linter.unusedVariables false
set_option linter.unusedSectionVars false
set_option linter.defProp false
set_option maxRecDepth 100000
set_option maxHeartbeats 4000000
namespace Go.Proofs.YticonknioobdjaaGreat
open Go.ChangeShapes Go.WideShapes Go.ChangeAt Go.RowKit Go.Ev
theorem ownR : ownKnob Tryz.prog.godebug = none := by kernel_rfl
theorem laidR : laidOutB Tryz.prog = true := by kernel_rfl
theorem rd_prog {ah : AH} {a : AV} (h : RdA Tryz.prog ah 26 a) : ∃ l p, a = .agg l ∧ ProgV ah l p := by
  cases h with
  | one _ hn => exact absurd Tryz.underlying26 (hn _)
  | agg ha _ =>
    obtain ⟨p, hp⟩ := prog_in (zFu (s := sProg) (by kernel_rfl) ha)
    exact ⟨_, p, rfl, .of hp⟩
theorem rd_row {ah : AH} {a : AV} (h : RdA Tryz.prog ah 27 a) : ∃ L, InpK ah a L ∧ ∀ z ∈ L, I64 z := by
  cases h with
  | agg _ hu => rw [show Tryz.prog.underlying 27 = some (.slice 3) by kernel_rfl] at hu; cases hu
  | one hb _ =>
    obtain ⟨L, hL⟩ := SlD.of (fun cs => int_in) (zFu (s := .slice sInt) (by kernel_rfl) hb)
    exact ⟨L, SlD.inp hL⟩
theorem rd_int {ah : AH} {a : AV} (h : RdA Tryz.prog ah 3 a) : ∃ n, a = .int .i64 n ∧ I64 n := by
  cases h with
  | agg _ hu => rw [Tryz.underlying3] at hu; cases hu
  | one hb _ =>
    obtain ⟨n, e, hn⟩ := int_in (zFu (s := sInt) (by kernel_rfl) hb)
    injection e with e
    exact ⟨n, e, hn⟩
theorem law (ah : AH) (l : List AV) (h : RdAs Tryz.prog ah [26, 27, 3, 3] l) : GP tabL 4 l ah fun v _ => v = .bool true := by
  cases h with | cons h1 h =>
  cases h with | cons h2 h =>
  cases h with | cons h3 h =>
  cases h with | cons h4 h =>
  cases h
  obtain ⟨E, p, rfl, hp⟩ := rd_prog h1
  obtain ⟨L, ik, hL⟩ := rd_row h2
  obtain ⟨n, rfl, -⟩ := rd_int h3
  obtain ⟨m, rfl, -⟩ := rd_int h4
  exact execZeros_gp pvL (by kernel_rfl) (phis_ok pv0 (by kernel_rfl)) hp hL ik
set_option maxRecDepth 100000 in
theorem lifted (os : Os) (started : os.Started) (H : Type) (enc : TypeId × Value → H) :
    ReturnsInHanded {} Tryz.checked os 4 .any (Rows.execZerosSpec.pre6 enc Tryz.prog Tryz.f4 Rows.execZerosRow.domain false) (Rows.execZerosSpec.post enc Tryz.prog Tryz.f4 false true false false) := by
  refine returnsInHanded_of_change_sized (C := Tryz.checked) ownR started (by kernel_rfl) Tryz.func4
    (ChangeSpec.witness6 (enc := enc) (C := Tryz.checked) false ⟨#[], #[.agg #[.slice none 0 0, .slice none 0 0, .slice none 0 0], .slice none 0 0, .int .i64 0, .int .i64 0], []⟩ 8 (by kernel_rfl) (by kernel_rfl) (by kernel_rfl) (by kernel_rfl)) ?_
  intro W base args ds gs before hval0 hW hcnd hsz _
  have hval : ∀ (j : Nat) t v, Tryz.f4.params[j]? = some t → args[j]? = some v → Value.okWide Tryz.prog W .any base t v := hval0
  have hW' := hW
  obtain ⟨p, q, hA0, hV, rfl, hfz, hnd⟩ := hW
  have hA : DataW.TrodAll enc Tryz.prog W 0 (fun _ => true) true Tryz.f4.params.toList args.toList ds p := hA0
  rw [Tryz.params4] at hA hval hsz
  obtain ⟨rfl, rfl⟩ := trodVars_none hV
  have hA2 := hA
  have hlt : ∀ x ∈ p, x.block < W.heap.size := fun x hx => by simpa using hW'.lt x (by simpa using hx)
  clear hA0 hval0
  have hz : (DataW.weightsEach Tryz.prog [26, 27, 3, 3] ds).all (· ≤ reachBytes) = true := by rw [List.append_nil] at hsz; exact hsz
  letI : Glob := ⟨0, fun _ => none⟩
  have key := lawD_calls (base := base) (fun k hk => absurd hk (Nat.not_lt_zero k)) mixed tabL_ok (f := 4) (ts := [26, 27, 3, 3]) (vs := args.toList) (okW.each hz) (by intro t ht; simp at ht; rcases ht with rfl | rfl | rfl <;> kernel_rfl) hA2 (fun j t v h1 h2 => hval j t v (by simpa using h1) (by simpa using h2)) law
  rw [Array.toArray_toList] at key
  obtain ⟨_, _, d0, _, _, _, _, rfl, rfl, _, r0⟩ := trodAll_cons hA
  obtain ⟨_, _, d1, _, _, _, _, rfl, rfl, _, r1⟩ := trodAll_cons r0
  obtain ⟨_, _, d2, _, _, _, _, rfl, rfl, _, r2⟩ := trodAll_cons r1
  obtain ⟨_, _, d3, _, _, _, _, rfl, rfl, _, r3⟩ := trodAll_cons r2
  obtain ⟨_, rfl, rfl⟩ := trodAll_nil r3
  refine key.mono fun e W' ⟨he, bel⟩ => ?_
  subst he
  exact ⟨_, rfl, _, _, _, [], _, [], hW', trodAll_mk1 (shut_bool Tryz.underlying4 _), zGn laidR bel (by intro t ht; simp at ht; rcases ht with rfl | rfl | rfl <;> exact ⟨by kernel_rfl, of_decide_eq_true (by kernel_rfl)⟩) hA2 hlt, rfl, bel.frame _, fun h => by cases h⟩
theorem execZeros_holds : Rows.ExecZerosSaid :=
  OpenClaim.holds_of_wide 4 Tryz.f4 rfl rfl rfl rfl rfl rfl rfl ⟨rfl, rfl, rfl, rfl, rfl⟩ rfl rfl rfl rfl rfl (by kernel_rfl) Tryz.func4 (by kernel_rfl)
    (of_decide_eq_true (by kernel_rfl)) (by unfold Func.isWrapper; rw [if_neg (of_decide_eq_false (by kernel_rfl))]; exact ⟨rfl, rfl⟩)
    (fun os started H enc _ => lifted os started H enc)
end Go.Proofs.YticonknioobdjaaGreat
