/- RowB -/
import Derived.Test.YtlolcfdllehpgaaGreatDoorRows
import Derived.Test.YtlolcfdllehpgaaGreatDoorTie
import Derived.Test.YtlolcfdllehpgaaGreatDoorCards
import Derived.ProofKit
import Derived.Lay
import Derived.LaidMore
import Derived.LaidSub
import Derived.Lib.LaidTab
import Derived.SevenTiedAt
import Derived.ChangeMaps5
import Derived.Test.YtlolcfdllehpgaaGreatDoorPaF
import Derived.Test.YtlolcfdllehpgaaGreatDoorPaH
import Derived.Test.YtlolcfdllehpgaaGreatDoorPaL
set_option linter.unusedSimpArgs false
set_option linter.unusedVariables false
set_option linter.unusedSectionVars false
set_option linter.defProp false
set_option maxRecDepth 100000
set_option maxHeartbeats 4000000
namespace Go.Proofs.YtlolcfdllehpgaaGreatDoor
open Go.ChangeShapes Go.WideShapes Go.ChangeAt Go.RowKit Go.Ev
theorem ownR : ownKnob Tryz.prog.godebug = none := by kernel_rfl
theorem laidR : laidOutB Tryz.prog = true := by kernel_rfl
theorem tab_laid {W : World} (h : laidMet Tryz.prog Rows.parseBlanksRow.laid W) : Go.Lib.TabIs Tryz.prog W "internal/strconv.uint64pow10" .u64 Go.Lib.pow10Tab :=
  Go.Lib.tabIs_of_head (rest := []) (g := 3) (t := 172) (e := 105) (n := 20) (by kernel_rfl) (by kernel_rfl) (by kernel_rfl) (by kernel_rfl) (by kernel_rfl) (by kernel_rfl) (h.filter fun x => x.1 == "internal/strconv.uint64pow10")
theorem err_laid {W : World} (h : laidMet Tryz.prog Rows.parseBlanksRow.laid W) : ∃ ev, W.cell? ⟨2, 0, none⟩ = some ev ∧ (ev = .nilIface ∨ ∃ te pe, ev = .iface te pe) := by
  obtain ⟨ps, ⟨g, t, cs, fuel, p, q, hg, ht, hvar, hd, _⟩, _⟩ := (h.filter fun x => x.1 == "strconv.ErrRange")
  obtain rfl : 2 = g := Option.some.inj ((show Tryz.prog.globalNamed "strconv.ErrRange" = some 2 by kernel_rfl).symm.trans hg)
  obtain rfl : 100 = t := Option.some.inj ((show (Tryz.prog.globals[2]?).map (·.type) = some 100 by kernel_rfl).symm.trans ht)
  obtain ⟨fuel', u, v, hcs, _⟩ := iface_of_trod Tryz.underlying100 hd
  refine ⟨.iface u v, ?_, .inr ⟨u, v, rfl⟩⟩
  rw [World.var?_cell (show Tryz.prog.globalNamed "strconv.ErrRange" = some 2 by kernel_rfl) hvar 0]
  have : cs = #[.iface u v] := by
    apply Array.toList_inj.mp
    rw [hcs]
  rw [this]; rfl
set_option maxRecDepth 100000 in
theorem lifted (os : Os) (started : os.Started) (H : Type) (enc : TypeId × Value → H) :
    ReturnsInHanded {} Tryz.checked os 7 .any (fun w args => (Rows.parseBlanksSpec.pre enc Tryz.prog Tryz.f7 [] false w args ∧ laidMetH Tryz.prog Rows.parseBlanksRow.laid w) ∧ sizedMet enc Tryz.prog Tryz.f7 (OpenSpec.ofChange Rows.parseBlanksSpec) false w args)
      (Rows.parseBlanksSpec.post enc Tryz.prog Tryz.f7 false true false false) := by
  refine returnsInHanded_of_change_and (C := Tryz.checked) (X := fun w _ => laidMetH Tryz.prog Rows.parseBlanksRow.laid w) (fun _ _ _ hh h => h.of_heap hh) ownR started (by kernel_rfl) Tryz.func7
    (ChangeSpec.witness_shaped (enc := enc) (C := Tryz.checked) (os := os) (X := fun w _ => laidMetH Tryz.prog Rows.parseBlanksRow.laid w) false (World.laidAll Tryz.prog os Rows.parseBlanksRow.laid) #[.string ⟨#[]⟩] 8 (World.laidAll_os _ _ _)
      (World.shaped_of_ZipB (by kernel_rfl) (by kernel_rfl)) (by kernel_rfl) (by kernel_rfl) (by kernel_rfl)
      (by rw [MakeChecks.laidMetH_plain _ _ _ (by kernel_rfl)]; exact laidMet_laidAll _ (by kernel_rfl) (by kernel_rfl))) ?_
  intro W base args ds gs before hval0 hW _ _ hL _
  have hval : ∀ (j : Nat) t v, Tryz.f7.params[j]? = some t → args[j]? = some v → Value.okWide Tryz.prog W .any base t v := hval0
  have hW' := hW
  obtain ⟨p, q, hA0, hV, rfl, hfz, hnd⟩ := hW
  have hA : DataW.TrodAll enc Tryz.prog W 0 (fun _ => true) true Tryz.f7.params.toList args.toList ds p := hA0
  rw [Tryz.params7] at hA hval
  obtain ⟨rfl, rfl⟩ := trodVars_none hV
  have hA2 := hA
  obtain ⟨v0, d0, rfl, rfl, h0⟩ := trodAll_one hA
  have hlt : ∀ x ∈ p, x.block < W.heap.size := fun x hx => by simpa using hW'.lt x (by simpa using hx)
  clear hA0 hval0
  have hM : laidMet Tryz.prog Rows.parseBlanksRow.laid W := by rw [← MakeChecks.laidMetH_plain _ _ _ (by kernel_rfl)]; exact hL
  have hT := tab_laid hM
  have hE := err_laid hM
  have h3 : 3 < W.heap.size := by
    have := hT.cell (g := 3) (by kernel_rfl) 0 (by decide)
    rcases Nat.lt_or_ge 3 W.heap.size with h | h
    · exact h
    · rw [World.cell?, Array.getElem?_eq_none h] at this; cases this
  letI : Glob := ⟨4, fun k => W.heap[k]?⟩
  have hG : ∀ k, k < Glob.n → k < W.heap.size ∧ W.heap[k]? = Glob.g k := fun k hk => ⟨by have : k < 4 := hk; omega, rfl⟩
  have same : ∀ (w : World), zK1 w → ∀ k, k < 4 → w.heap[k]? = W.heap[k]? := fun w ag k hk => (ag k hk).2
  have hok := tabL_ok natOK36 (natOK118 fun w ag => by
      obtain ⟨ev, h1, h2⟩ := hE
      exact ⟨ev, by rw [← h1]; simp only [World.cell?]; rw [same w ag 2 (by decide)], h2⟩)
    (natOK127 fun w ag => by
      have h1 : W.var? Tryz.prog "internal/strconv.uint64pow10" = _ := hT
      show w.var? Tryz.prog "internal/strconv.uint64pow10" = _
      rw [← h1]
      simp only [World.var?]
      rw [show Tryz.prog.globalNamed "internal/strconv.uint64pow10" = some 3 by kernel_rfl]
      simp only [Option.bind_some]
      rw [same w ag 3 (by decide)]) natOK130
  obtain ⟨s0, rfl, rfl, rfl, _⟩ := Go.ChangeMaps.open_string Tryz.underlying9 (hval 0 9 v0 rfl rfl) h0
  have key := lawS_calls hG (by kernel_rfl) hok (f := 7) [s0] fun ah => zJ9 ptL
  refine key.mono fun e W' ⟨he, bel⟩ => ?_
  subst he
  exact ⟨_, rfl, _, _, _, [], _, [], hW', trodAll_mk1 (shut_bool Tryz.underlying4 _), zHg laidR bel (by intro t ht; simp at ht; subst ht; exact ⟨by kernel_rfl, of_decide_eq_true (by kernel_rfl)⟩) hA2 hlt, rfl, bel.frame _, fun h => by cases h⟩
theorem parseBlanks_holds : Rows.ParseBlanksSaid :=
  OpenClaim.holds_of_wide 7 Tryz.f7 rfl rfl rfl rfl rfl rfl rfl ⟨rfl, rfl, rfl, rfl, rfl⟩ rfl rfl rfl rfl rfl (by kernel_rfl) Tryz.func7 (by kernel_rfl)
    (of_decide_eq_true (by kernel_rfl)) (by unfold Func.isWrapper; rw [if_neg (of_decide_eq_false (by kernel_rfl))]; exact ⟨rfl, rfl⟩)
    (fun os started H enc _ => lifted os started H enc)
theorem parseBlanks_card : Rows.ParseBlanksCardSaid :=
  Claim7.holds_tied_plain_at .later [] [.data, .data, .data, .data, .sentinel, .sentinel, .pinned] true (true, "26c2c426393b33113cb34186aa6ba6bab0829adb80c5357782a1237c071229a9") true parseBlanks_holds (fun _ h => by cases h) (by kernel_rfl) (fun _ h => by cases h) parseBlanks_row_tie rfl ⟨rfl, rfl⟩ (by kernel_rfl) rfl
    (fun f fn hf hfn => by
      obtain rfl : f = 7 := Option.some.inj ((show Tryz.prog.funcNamed "truant/truantlaw04.ParseBlanks" = some 7 by kernel_rfl).symm.trans hf) |>.symm
      obtain rfl : fn = Tryz.f7 := (Option.some.inj (Tryz.func7.symm.trans hfn)).symm
      exact ⟨by kernel_rfl, fun j t ht => by
        rw [Tryz.params7] at ht
        have hm : t ∈ [9] := by simpa using Array.mem_of_getElem? ht
        have hall : ([9].all fun u => !Tryz.prog.wantsStandIn u) = true := by kernel_rfl
        exact (show Tryz.prog.wantsStandIn t = false by simpa using List.all_eq_true.1 hall t hm)⟩)
    (by kernel_rfl)
end Go.Proofs.YtlolcfdllehpgaaGreatDoor
