/- LxW1 LxW2 LxW3 LxW4 LxW5 LxW6 LxW7 LxW8 PaW23 PaF PaW24 -/
import Derived.Test.YtlolcfdllehpgaaGreatDoorPaK
import Derived.Test.YtlolcfdllehpgaaGreatDoorPaJ
import Derived.Test.YtlolcfdllehpgaaGreatDoorPaI
set_option linter.unusedSimpArgs false
set_option linter.unusedVariables false
set_option linter.unusedSectionVars false
namespace Go.Ev
open Go Go.Pa
set_option linter.unusedSimpArgs false
set_option linter.unusedVariables false
set_option maxRecDepth 100000
set_option maxHeartbeats 4000000
section
variable {tab : Nat → Option AFunc} {h : AH} (H : PT tab)
abbrev byteV (c : UInt8) : AV := .int .u8 (c.toNat : Int)
include H in
theorem blank_gp {c : UInt8} : GP tab 62 [byteV c] h fun v h1 => v = .bool (zA6 c) ∧ h1 = h := by
 have i0 : zAh [byteV c] = zAd [byteV c] := rfl
 refine GE.gp (ge_of H.t62 rfl ?_) (E := fun _ _ => False) fun _ _ hh => hh
 refine zAc (zAb fun Q1 hQ => ?_)
 simp (disch := omega) only [EL, ↓K3, ↓K1, reduceIte, Nat.reduceEqDiff, Nat.reduceAdd, Nat.reduceLeDiff, i0]
 refine hQ _ ?_
 clear hQ Q1
 refine zAc (zAb fun Q1 hQ => ?_)
 by_cases a1 : c.toNat = 32
 ·have e : zA6 c = true := by simp [zA6, a1]
  simp (disch := omega) only [EL, ↓K3, ↓K1, reduceIte, Nat.reduceEqDiff, Nat.reduceAdd, Nat.reduceLeDiff, i0, a1]
  refine hQ _ ?_
  simp only [zAa]
  refine zAk ?_
  simp (disch := omega) only [EL, ↓K3, ↓K1, reduceIte, Nat.reduceEqDiff, Nat.reduceAdd, Nat.reduceLeDiff, e]
 by_cases a2 : c.toNat = 9
 ·have e : zA6 c = true := by simp [zA6, a2]
  simp (disch := omega) only [EL, ↓K3, ↓K1, reduceIte, Nat.reduceEqDiff, Nat.reduceAdd, Nat.reduceLeDiff, i0, a2]
  refine hQ _ ?_
  simp only [zAa]
  refine zAk ?_
  simp (disch := omega) only [EL, ↓K3, ↓K1, reduceIte, Nat.reduceEqDiff, Nat.reduceAdd, Nat.reduceLeDiff, e]
 by_cases a3 : c.toNat = 10
 ·have e : zA6 c = true := by simp [zA6, a3]
  simp (disch := omega) only [EL, ↓K3, ↓K1, reduceIte, Nat.reduceEqDiff, Nat.reduceAdd, Nat.reduceLeDiff, i0, a3]
  refine hQ _ ?_
  simp only [zAa]
  refine zAk ?_
  simp (disch := omega) only [EL, ↓K3, ↓K1, reduceIte, Nat.reduceEqDiff, Nat.reduceAdd, Nat.reduceLeDiff, e]
 by_cases a4 : c.toNat = 13
 ·have e : zA6 c = true := by simp [zA6, a4]
  simp (disch := omega) only [EL, ↓K3, ↓K1, reduceIte, Nat.reduceEqDiff, Nat.reduceAdd, Nat.reduceLeDiff, i0, a4]
  refine hQ _ ?_
  simp only [zAa]
  refine zAk ?_
  simp (disch := omega) only [EL, ↓K3, ↓K1, reduceIte, Nat.reduceEqDiff, Nat.reduceAdd, Nat.reduceLeDiff, e]
 ·have e : zA6 c = false := by simp [zA6, a1, a2, a3, a4]
  simp (disch := omega) only [EL, ↓K3, ↓K1, reduceIte, Nat.reduceEqDiff, Nat.reduceAdd, Nat.reduceLeDiff, i0, a1, a2, a3, a4]
  refine hQ _ ?_
  simp only [zAa]
  refine zAk ?_
  simp (disch := omega) only [EL, ↓K3, ↓K1, reduceIte, Nat.reduceEqDiff, Nat.reduceAdd, Nat.reduceLeDiff, e]
include H in
theorem skip1_gp {c : UInt8} : GP tab 64 [byteV c] h fun v h1 => v = .bool (notNl c) ∧ h1 = h := by
 have i0 : zAh [byteV c] = zAd [byteV c] := rfl
 refine GE.gp (ge_of H.t64 rfl ?_) (E := fun _ _ => False) fun _ _ hh => hh
 refine zAc (zAb fun Q1 hQ => ?_)
 simp (disch := omega) only [EL, ↓K3, ↓K1, reduceIte, Nat.reduceEqDiff, Nat.reduceAdd, Nat.reduceLeDiff, i0]
 refine hQ _ ?_
 clear hQ Q1
 refine zAc (zAb fun Q1 hQ => ?_)
 by_cases a1 : c.toNat = 10
 ·have e : notNl c = false := by simp [notNl, a1]
  simp (disch := omega) only [EL, ↓K3, ↓K1, reduceIte, Nat.reduceEqDiff, Nat.reduceAdd, Nat.reduceLeDiff, i0, a1]
  refine hQ _ ?_
  simp only [zAa]
  refine zAk ?_
  simp (disch := omega) only [EL, ↓K3, ↓K1, reduceIte, Nat.reduceEqDiff, Nat.reduceAdd, Nat.reduceLeDiff, e]
 ·have e : notNl c = true := by simp [notNl, a1]
  simp (disch := omega) only [EL, ↓K3, ↓K1, reduceIte, Nat.reduceEqDiff, Nat.reduceAdd, Nat.reduceLeDiff, i0, a1]
  refine hQ _ ?_
  simp only [zAa]
  refine zAk ?_
  simp (disch := omega) only [EL, ↓K3, ↓K1, reduceIte, Nat.reduceEqDiff, Nat.reduceAdd, Nat.reduceLeDiff, e]
include H in
theorem zLu {c : UInt8} : GP tab 67 [byteV c] h fun v h1 => v = .bool (zBb c) ∧ h1 = h := by
 have i0 : zAh [byteV c] = zAd [byteV c] := rfl
 refine GE.gp (ge_of H.t67 rfl ?_) (E := fun _ _ => False) fun _ _ hh => hh
 refine zAc (zAb fun Q1 hQ => ?_)
 simp (disch := omega) only [EL, ↓K3, ↓K1, reduceIte, Nat.reduceEqDiff, Nat.reduceAdd, Nat.reduceLeDiff, i0]
 refine hQ _ ?_
 clear hQ Q1
 refine zAc (zAb fun Q1 hQ => ?_)
 by_cases a1 : 48 ≤ c.toNat
 ·by_cases a2 : c.toNat ≤ 57
  ·have e : zBb c = true := by simp [zBb, a1, a2]
   simp (disch := omega) only [EL, ↓K3, ↓K1, reduceIte, Nat.reduceEqDiff, Nat.reduceAdd, Nat.reduceLeDiff, i0, a1, a2]
   refine hQ _ ?_
   simp only [zAa]
   refine zAk ?_
   simp (disch := omega) only [EL, ↓K3, ↓K1, reduceIte, Nat.reduceEqDiff, Nat.reduceAdd, Nat.reduceLeDiff, e]
  ·have e : zBb c = false := by simp [zBb, a2]
   simp (disch := omega) only [EL, ↓K3, ↓K1, reduceIte, Nat.reduceEqDiff, Nat.reduceAdd, Nat.reduceLeDiff, i0, a1, a2]
   refine hQ _ ?_
   simp only [zAa]
   refine zAk ?_
   simp (disch := omega) only [EL, ↓K3, ↓K1, reduceIte, Nat.reduceEqDiff, Nat.reduceAdd, Nat.reduceLeDiff, e]
 ·have e : zBb c = false := by simp [zBb, a1]
  simp (disch := omega) only [EL, ↓K3, ↓K1, reduceIte, Nat.reduceEqDiff, Nat.reduceAdd, Nat.reduceLeDiff, i0, a1]
  refine hQ _ ?_
  simp only [zAa]
  refine zAk ?_
  simp (disch := omega) only [EL, ↓K3, ↓K1, reduceIte, Nat.reduceEqDiff, Nat.reduceAdd, Nat.reduceLeDiff, e]
include H in
theorem zHa {c : UInt8} : GP tab 65 [byteV c] h fun v h1 => v = .bool (zB8 c) ∧ h1 = h := by
 have i0 : zAh [byteV c] = zAd [byteV c] := rfl
 refine GE.gp (ge_of H.t65 rfl ?_) (E := fun _ _ => False) fun _ _ hh => hh
 refine zAc (zAb fun Q1 hQ => ?_)
 simp (disch := omega) only [EL, ↓K3, ↓K1, reduceIte, Nat.reduceEqDiff, Nat.reduceAdd, Nat.reduceLeDiff, i0]
 refine hQ _ ?_
 clear hQ Q1
 refine zAc (zAb fun Q1 hQ => ?_)
 by_cases a1 : 97 ≤ c.toNat
 ·by_cases a2 : c.toNat ≤ 122
  ·have e : zB8 c = true := by simp [zB8, a1, a2]
   simp (disch := omega) only [EL, ↓K3, ↓K1, reduceIte, Nat.reduceEqDiff, Nat.reduceAdd, Nat.reduceLeDiff, i0, a1, a2]
   refine hQ _ ?_
   simp only [zAa]
   refine zAk ?_
   simp (disch := omega) only [EL, ↓K3, ↓K1, reduceIte, Nat.reduceEqDiff, Nat.reduceAdd, Nat.reduceLeDiff, e]
  ·have e : zB8 c = false := by simp [zB8, a2]; omega
   have a3 : 65 ≤ c.toNat := by omega
   have a4 : ¬ c.toNat ≤ 90 := by omega
   have a5 : ¬ c.toNat = 95 := by omega
   simp (disch := omega) only [EL, ↓K3, ↓K1, reduceIte, Nat.reduceEqDiff, Nat.reduceAdd, Nat.reduceLeDiff, i0, a1, a2, a3, a4, a5]
   refine hQ _ ?_
   simp only [zAa]
   refine zAk ?_
   simp (disch := omega) only [EL, ↓K3, ↓K1, reduceIte, Nat.reduceEqDiff, Nat.reduceAdd, Nat.reduceLeDiff, e]
 by_cases a3 : 65 ≤ c.toNat
 ·by_cases a4 : c.toNat ≤ 90
  ·have e : zB8 c = true := by simp [zB8, a3, a4]
   simp (disch := omega) only [EL, ↓K3, ↓K1, reduceIte, Nat.reduceEqDiff, Nat.reduceAdd, Nat.reduceLeDiff, i0, a1, a3, a4]
   refine hQ _ ?_
   simp only [zAa]
   refine zAk ?_
   simp (disch := omega) only [EL, ↓K3, ↓K1, reduceIte, Nat.reduceEqDiff, Nat.reduceAdd, Nat.reduceLeDiff, e]
  by_cases a5 : c.toNat = 95
  ·have e : zB8 c = true := by simp [zB8, a5]
   simp (disch := omega) only [EL, ↓K3, ↓K1, reduceIte, Nat.reduceEqDiff, Nat.reduceAdd, Nat.reduceLeDiff, i0, a1, a3, a4, a5]
   refine hQ _ ?_
   simp only [zAa]
   refine zAk ?_
   simp (disch := omega) only [EL, ↓K3, ↓K1, reduceIte, Nat.reduceEqDiff, Nat.reduceAdd, Nat.reduceLeDiff, e]
  ·have e : zB8 c = false := by simp [zB8, a1, a4, a5]
   simp (disch := omega) only [EL, ↓K3, ↓K1, reduceIte, Nat.reduceEqDiff, Nat.reduceAdd, Nat.reduceLeDiff, i0, a1, a3, a4, a5]
   refine hQ _ ?_
   simp only [zAa]
   refine zAk ?_
   simp (disch := omega) only [EL, ↓K3, ↓K1, reduceIte, Nat.reduceEqDiff, Nat.reduceAdd, Nat.reduceLeDiff, e]
 ·have a5 : ¬ c.toNat = 95 := by omega
  have e : zB8 c = false := by simp [zB8, a1, a3, a5]
  simp (disch := omega) only [EL, ↓K3, ↓K1, reduceIte, Nat.reduceEqDiff, Nat.reduceAdd, Nat.reduceLeDiff, i0, a1, a3, a5]
  refine hQ _ ?_
  simp only [zAa]
  refine zAk ?_
  simp (disch := omega) only [EL, ↓K3, ↓K1, reduceIte, Nat.reduceEqDiff, Nat.reduceAdd, Nat.reduceLeDiff, e]
include H in
theorem word1_gp {c : UInt8} : GP tab 90 [byteV c] h fun v h1 => v = .bool (zDa c) ∧ h1 = h := by
 have i0 : zAh [byteV c] = zAd [byteV c] := rfl
 refine GE.gp (ge_of H.t90 rfl ?_) (E := fun _ _ => False) fun _ _ hh => hh
 refine zAc (zAb fun Q1 hQ => ?_)
 simp (disch := omega) only [EL, ↓K3, ↓K1, reduceIte, Nat.reduceEqDiff, Nat.reduceAdd, Nat.reduceLeDiff, i0]
 refine hQ _ ?_
 clear hQ Q1
 refine zAc (zAb fun Q1 hQ => ?_)
 simp (disch := omega) only [EL, ↓K3, ↓K1, reduceIte, Nat.reduceEqDiff, Nat.reduceAdd, Nat.reduceLeDiff, i0]
 rw [ge_rw (zHa H)]
 cases a1 : zB8 c with
 | true =>
  have e : zDa c = true := by simp [zDa, a1]
  simp (disch := omega) only [EL, ↓K3, ↓K1, reduceIte, Nat.reduceEqDiff, Nat.reduceAdd, Nat.reduceLeDiff, i0, a1]
  refine hQ _ ?_
  simp only [zAa]
  refine zAk ?_
  simp (disch := omega) only [EL, ↓K3, ↓K1, reduceIte, Nat.reduceEqDiff, Nat.reduceAdd, Nat.reduceLeDiff, e]
 | false =>
  simp (disch := omega) only [EL, ↓K3, ↓K1, reduceIte, Nat.reduceEqDiff, Nat.reduceAdd, Nat.reduceLeDiff, i0]
  rw [ge_rw (zLu H)]
  have e : zDa c = zBb c := by simp [zDa, a1]
  simp (disch := omega) only [EL, ↓K3, ↓K1, reduceIte, Nat.reduceEqDiff, Nat.reduceAdd, Nat.reduceLeDiff, i0, a1]
  refine hQ _ ?_
  simp only [zAa]
  refine zAk ?_
  simp (disch := omega) only [EL, ↓K3, ↓K1, reduceIte, Nat.reduceEqDiff, Nat.reduceAdd, Nat.reduceLeDiff, e]
end
end Go.Ev
namespace Go.Ev
open Go Go.Pa
set_option linter.unusedSimpArgs false
set_option linter.unusedVariables false
set_option maxRecDepth 100000
set_option maxHeartbeats 4000000
theorem zJ0 {p : UInt8 → Bool} : ∀ {s : Str} {k : Nat}, (∀ i, i < k → ∃ c, s[i]? = some c ∧ p c = true) → (∀ c, s[k]? = some c → p c = false) → aheadN p s = k
 | [], 0, _, _ => rfl
 | [], k + 1, h, _ => by obtain ⟨c, hc, _⟩ := h 0 (by omega); cases hc
 | c :: s, 0, _, h => by unfold aheadN; rw [List.takeWhile_cons, h c rfl]; rfl
 | c :: s, k + 1, h, h' => by
  obtain ⟨c', hc, hp⟩ := h 0 (by omega)
  injection hc with hc; subst hc
  unfold aheadN
  rw [List.takeWhile_cons, if_pos hp, List.length_cons]
  congr 1
  exact zJ0 (fun i hi => h (i + 1) (by omega)) h'
section
variable {tab : Nat → Option AFunc} {h : AH} (H : PT tab)
include H in
theorem run_gp {f : Nat} {p : UInt8 → Bool} {s : Str} (hs : s.length ≤ 1000000) (hp : ∀ c, GP tab f [byteV c] h fun v h1 => v = .bool (p c) ∧ h1 = h) : GP tab 61 [sv s, .fn f [] []] h fun v h1 => v = .int .i64 (aheadN p s : Int) ∧ h1 = h := by
 have i0 : zAh [sv s, .fn f [] []] = zAd [sv s, .fn f [] []] := rfl
 refine GE.gp (ge_of H.t61 rfl ?_) (E := fun _ _ => False) fun _ _ hh => hh
 refine zAc (zAb fun Q1 hQ => ?_)
 simp (disch := omega) only [EL, ↓K3, ↓K1, reduceIte, Nat.reduceEqDiff, Nat.reduceAdd, Nat.reduceLeDiff, i0]
 refine hQ _ ?_
 clear hQ Q1
 refine zAc (zAb fun Q1 hQ => ?_)
 simp (disch := omega) only [EL, ↓K3, ↓K1, reduceIte, Nat.reduceEqDiff, Nat.reduceAdd, Nat.reduceLeDiff, i0]
 refine hQ _ ?_
 clear hQ Q1
 refine zFn (fun l d1 h1 => d1 = [] ∧ h1 = h ∧ l.get 2 = some (.int .i64 (aheadN p s : Int))) ?_ ?_
 ·refine zAy ?_
  refine zB2 (fun m l d1 h1 => ∃ k, m = s.length - k ∧ k ≤ s.length ∧ d1 = [] ∧ h1 = h ∧ l.get 0 = some (sv s) ∧ l.get 1 = some (.fn f [] []) ∧ l.get 2 = some (.int .i64 (k : Int)) ∧ ∀ i, i < k → ∃ c, s[i]? = some c ∧ p c = true) ?_ (s.length - 0) ?_
  ·rintro m l d1 h1 ⟨k, rfl, hk, rfl, rfl, l0, l1, l2, hall⟩
   refine zAc ?_
   refine zAc (zAb fun Q1 hQ => ?_)
   by_cases hlt : k < s.length
   ·have ix : ∀ h' : AH, oIdxS (.c (sv s)) (.c (.int .i64 (k : Int))) .leaf [] h' = .val (byteV s[k]) h' := fun h' => idx_sv (List.getElem?_eq_getElem hlt)
    simp (disch := omega) only [EL, ↓K3, ↓K1, reduceIte, Nat.reduceEqDiff, Nat.reduceAdd, Nat.reduceLeDiff, l0, l1, l2, hlt, ix]
    rw [ge_rw (hp s[k])]
    cases hpk : p s[k] with
    | true =>
     simp (disch := omega) only [EL, ↓K3, ↓K1, reduceIte, Nat.reduceEqDiff, Nat.reduceAdd, Nat.reduceLeDiff]
     refine hQ _ ?_
     simp only [zAa]
     refine zAq (by simp (disch := omega) only [EL, ↓K3, ↓K1, reduceIte, Nat.reduceEqDiff, Nat.reduceAdd, Nat.reduceLeDiff]) ?_
     refine zAo ?_
     simp only [zAa]
     refine zAy ?_
     refine zAb fun Q1 hQ => ?_
     simp (disch := omega) only [EL, ↓K3, ↓K1, reduceIte, Nat.reduceEqDiff, Nat.reduceAdd, Nat.reduceLeDiff, l2]
     refine hQ _ ?_
     clear hQ Q1
     simp only [zAa, zAi]
     refine ⟨s.length - (k + 1), by omega, k + 1, rfl, hlt, trivial, trivial, by simp (disch := omega) only [EL, ↓K3, ↓K1, reduceIte, Nat.reduceEqDiff, Nat.reduceAdd, Nat.reduceLeDiff, l0], by simp (disch := omega) only [EL, ↓K3, ↓K1, reduceIte, Nat.reduceEqDiff, Nat.reduceAdd, Nat.reduceLeDiff, l1], by simp (disch := omega) only [EL, ↓K3, ↓K1, reduceIte, Nat.reduceEqDiff, Nat.reduceAdd, Nat.reduceLeDiff], fun i hi => ?_⟩
     by_cases e : i = k
     ·subst e; exact ⟨_, List.getElem?_eq_getElem hlt, hpk⟩
     ·exact hall i (by omega)
    | false =>
     simp (disch := omega) only [EL, ↓K3, ↓K1, reduceIte, Nat.reduceEqDiff, Nat.reduceAdd, Nat.reduceLeDiff]
     refine hQ _ ?_
     simp only [zAa]
     refine wc_no (by simp (disch := omega) only [EL, ↓K3, ↓K1, reduceIte, Nat.reduceEqDiff, Nat.reduceAdd, Nat.reduceLeDiff]) ?_
     refine zC5 ?_
     simp only [zA8, zA5, if_true, zAa]
     refine ⟨trivial, trivial, ?_⟩
     simp (disch := omega) only [EL, ↓K3, ↓K1, reduceIte, Nat.reduceEqDiff, Nat.reduceAdd, Nat.reduceLeDiff, l2]
     rw [zJ0 hall fun c hc => by rw [List.getElem?_eq_getElem hlt] at hc; injection hc with hc; subst hc; exact hpk]
   ·simp (disch := omega) only [EL, ↓K3, ↓K1, reduceIte, Nat.reduceEqDiff, Nat.reduceAdd, Nat.reduceLeDiff, l0, l1, l2, hlt]
    refine hQ _ ?_
    simp only [zAa]
    refine wc_no (by simp (disch := omega) only [EL, ↓K3, ↓K1, reduceIte, Nat.reduceEqDiff, Nat.reduceAdd, Nat.reduceLeDiff]) ?_
    refine zC5 ?_
    simp only [zA8, zA5, if_true, zAa]
    refine ⟨trivial, trivial, ?_⟩
    simp (disch := omega) only [EL, ↓K3, ↓K1, reduceIte, Nat.reduceEqDiff, Nat.reduceAdd, Nat.reduceLeDiff, l2]
    rw [zJ0 hall fun c hc => by rw [List.getElem?_eq_none (by omega)] at hc; cases hc]
  ·exact ⟨0, rfl, Nat.zero_le _, rfl, rfl, by simp (disch := omega) only [EL, ↓K3, ↓K1, reduceIte, Nat.reduceEqDiff, Nat.reduceAdd, Nat.reduceLeDiff, i0], by simp (disch := omega) only [EL, ↓K3, ↓K1, reduceIte, Nat.reduceEqDiff, Nat.reduceAdd, Nat.reduceLeDiff, i0], by simp (disch := omega) only [EL, ↓K3, ↓K1, reduceIte, Nat.reduceEqDiff, Nat.reduceAdd, Nat.reduceLeDiff, i0], fun i hi => by omega⟩
 ·rintro l d1 h1 ⟨rfl, rfl, l2⟩
  refine zAc (zAb fun Q1 hQ => ?_)
  simp (disch := omega) only [EL, ↓K3, ↓K1, reduceIte, Nat.reduceEqDiff, Nat.reduceAdd, Nat.reduceLeDiff, l2]
  refine hQ _ ?_
  clear hQ Q1
  refine zAk ?_
  simp (disch := omega) only [EL, ↓K3, ↓K1, reduceIte, Nat.reduceEqDiff, Nat.reduceAdd, Nat.reduceLeDiff]
end
end Go.Ev
namespace Go.Ev
open Go Go.Pa
set_option linter.unusedSimpArgs false
set_option linter.unusedVariables false
set_option maxRecDepth 100000
set_option maxHeartbeats 4000000
section
variable {tab : Nat → Option AFunc} {h : AH} (H : PT tab)
include H in
theorem prefix_gp {a b : Str} : GP tab 63 [sv a, sv b] h fun v h1 => v = .bool (decide (b.isPrefixOf a = true)) ∧ h1 = h := by
 have i0 : zAh [sv a, sv b] = zAd [sv a, sv b] := rfl
 refine GE.gp (ge_of H.t63 rfl ?_) (E := fun _ _ => False) fun _ _ hh => hh
 refine zAc (zAb fun Q1 hQ => ?_)
 simp (disch := omega) only [EL, ↓K3, ↓K1, reduceIte, Nat.reduceEqDiff, Nat.reduceAdd, Nat.reduceLeDiff, i0]
 refine hQ _ ?_
 clear hQ Q1
 refine zAc (zAb fun Q1 hQ => ?_)
 simp (disch := omega) only [EL, ↓K3, ↓K1, reduceIte, Nat.reduceEqDiff, Nat.reduceAdd, Nat.reduceLeDiff, i0]
 rw [ge_rw (zIe H)]
 simp (disch := omega) only [EL, ↓K3, ↓K1, reduceIte, Nat.reduceEqDiff, Nat.reduceAdd, Nat.reduceLeDiff, i0]
 refine hQ _ ?_
 simp only [zAa]
 refine zAk ?_
 simp (disch := omega) only [EL, ↓K3, ↓K1, reduceIte, Nat.reduceEqDiff, Nat.reduceAdd, Nat.reduceLeDiff]
include H in
theorem skip_gp {s : Str} (hs : s.length ≤ 1000000) : GP tab 37 [sv s] h fun v h1 => v = .int .i64 (skipS s : Int) ∧ h1 = h := by
 have i0 : zAh [sv s] = zAd [sv s] := rfl
 refine GE.gp (ge_of H.t37 rfl ?_) (E := fun _ _ => False) fun _ _ hh => hh
 refine zAc (zAb fun Q1 hQ => ?_)
 simp (disch := omega) only [EL, ↓K3, ↓K1, reduceIte, Nat.reduceEqDiff, Nat.reduceAdd, Nat.reduceLeDiff, i0]
 refine hQ _ ?_
 clear hQ Q1
 refine zAc (zAb fun Q1 hQ => ?_)
 simp (disch := omega) only [EL, ↓K3, ↓K1, reduceIte, Nat.reduceEqDiff, Nat.reduceAdd, Nat.reduceLeDiff, i0]
 refine hQ _ ?_
 clear hQ Q1
 refine zAy ?_
 refine zB2 (fun k l d1 h1 => ∃ n, n ≤ s.length ∧ s.length - n < k ∧ n + skipL k (s.drop n) = skipS s ∧ d1 = [] ∧ h1 = h ∧ l.get 0 = some (sv s) ∧ l.get 1 = some (.int .i64 (n : Int))) ?_ (s.length + 1) ?_
 ·rintro k l d1 h1 ⟨n, hn, hk, he, rfl, rfl, l0, l1⟩
  cases k with
  | zero => omega
  | succ k =>
   refine zAy ?_
   have a1 := zEf (p := zA6) (s := s.drop n)
   rw [List.length_drop] at a1
   have sl : ∀ h' : AH, zCz (.c (sv s)) (some (.c (.int .i64 (n : Int)))) none .leaf [] h' = .val (sv (s.drop n)) h' := fun h' => zG1 hn
   refine zAc (zAb fun Q1 hQ => ?_)
   simp (disch := omega) only [EL, ↓K3, ↓K1, reduceIte, Nat.reduceEqDiff, Nat.reduceAdd, Nat.reduceLeDiff, l0, l1, sl]
   rw [ge_rw (run_gp H (by rw [List.length_drop]; omega) fun c => blank_gp H)]
   have w1 : IntKind.i64.wrap ((n : Int) + (aheadN zA6 (s.drop n) : Int)) = ((n + aheadN zA6 (s.drop n) : Nat) : Int) := by rw [zIl (by omega) (by omega)]; omega
   simp (disch := omega) only [EL, ↓K3, ↓K1, reduceIte, Nat.reduceEqDiff, Nat.reduceAdd, Nat.reduceLeDiff, l0, l1, w1]
   refine hQ _ ?_
   clear hQ Q1
   simp only [zAa]
   unfold skipL at he
   have sl2 : ∀ h' : AH, zCz (.c (sv s)) (some (.c (.int .i64 ((n + aheadN zA6 (s.drop n) : Nat) : Int)))) none .leaf [] h' = .val (sv ((s.drop n).drop (aheadN zA6 (s.drop n)))) h' := fun h' => by rw [zG1 (by omega), List.drop_drop]
   obtain ⟨a, ha⟩ : ∃ a, a = aheadN zA6 (s.drop n) := ⟨_, rfl⟩
   rw [← ha] at sl2 he a1 ⊢
   clear ha w1
   refine zAc ?_
   refine zAc (zAb fun Q1 hQ => ?_)
   simp (disch := omega) only [EL, ↓K3, ↓K1, reduceIte, Nat.reduceEqDiff, Nat.reduceAdd, Nat.reduceLeDiff, l0, l1, sl2]
   rw [ge_rw (prefix_gp H)]
   by_cases hp : ([47, 47] : Str).isPrefixOf ((s.drop n).drop a) = true
   ·rw [if_pos hp] at he
    simp (disch := omega) only [EL, ↓K3, ↓K1, reduceIte, Nat.reduceEqDiff, Nat.reduceAdd, Nat.reduceLeDiff, hp]
    refine hQ _ ?_
    clear hQ Q1
    simp only [zAa]
    refine wc_no (by simp (disch := omega) only [EL, ↓K3, ↓K1, reduceIte, Nat.reduceEqDiff, Nat.reduceAdd, Nat.reduceLeDiff]) ?_
    refine zAo ?_
    simp only [zAa]
    refine zAb fun Q1 hQ => ?_
    simp (disch := omega) only [EL, ↓K3, ↓K1, reduceIte, Nat.reduceEqDiff, Nat.reduceAdd, Nat.reduceLeDiff, l0, l1, sl2]
    rw [ge_rw (run_gp H (by simp only [List.length_drop]; omega) fun c => skip1_gp H)]
    have b1 := zEf (p := notNl) (s := (s.drop n).drop a)
    have b2 : 1 ≤ aheadN notNl ((s.drop n).drop a) := by
     cases hd : (s.drop n).drop a with
     | nil => rw [hd] at hp; cases hp
     | cons c r =>
      rw [hd] at hp
      simp only [List.isPrefixOf, Bool.and_eq_true, beq_iff_eq] at hp
      obtain ⟨rfl, _⟩ := hp
      exact zCv (by decide)
    simp only [List.length_drop] at b1
    have w2 : IntKind.i64.wrap (((n + a : Nat) : Int) + (aheadN notNl ((s.drop n).drop a) : Int)) = ((n + a + aheadN notNl ((s.drop n).drop a) : Nat) : Int) := by rw [zIl (by omega) (by omega)]; omega
    simp (disch := omega) only [EL, ↓K3, ↓K1, reduceIte, Nat.reduceEqDiff, Nat.reduceAdd, Nat.reduceLeDiff, l0, l1, w2]
    refine hQ _ ?_
    clear hQ Q1
    simp only [zAa, zAi]
    refine ⟨k, by omega, n + a + aheadN notNl ((s.drop n).drop a), ?_, ?_, ?_, trivial, trivial, by simp (disch := omega) only [EL, ↓K3, ↓K1, reduceIte, Nat.reduceEqDiff, Nat.reduceAdd, Nat.reduceLeDiff, l0], by simp (disch := omega) only [EL, ↓K3, ↓K1, reduceIte, Nat.reduceEqDiff, Nat.reduceAdd, Nat.reduceLeDiff]⟩
    ·omega
    ·omega
    ·rw [← he]
     have : s.drop (n + a + aheadN notNl ((s.drop n).drop a)) = ((s.drop n).drop a).drop (aheadN notNl ((s.drop n).drop a)) := by simp only [List.drop_drop]
     rw [this]
     omega
   ·rw [if_neg hp] at he
    simp (disch := omega) only [EL, ↓K3, ↓K1, reduceIte, Nat.reduceEqDiff, Nat.reduceAdd, Nat.reduceLeDiff, hp]
    refine hQ _ ?_
    clear hQ Q1
    simp only [zAa]
    refine zAq (by simp (disch := omega) only [EL, ↓K3, ↓K1, reduceIte, Nat.reduceEqDiff, Nat.reduceAdd, Nat.reduceLeDiff]) ?_
    refine zAc (zAb fun Q1 hQ => ?_)
    simp (disch := omega) only [EL, ↓K3, ↓K1, reduceIte, Nat.reduceEqDiff, Nat.reduceAdd, Nat.reduceLeDiff, l1]
    refine hQ _ ?_
    clear hQ Q1
    refine zAk ?_
    try simp only [zAg, zAf]
    rw [he]
    simp (disch := omega) only [EL, ↓K3, ↓K1, reduceIte, Nat.reduceEqDiff, Nat.reduceAdd, Nat.reduceLeDiff]
 ·exact ⟨0, by omega, by omega, by simp [skipS], rfl, rfl, by simp (disch := omega) only [EL, ↓K3, ↓K1, reduceIte, Nat.reduceEqDiff, Nat.reduceAdd, Nat.reduceLeDiff, i0], by simp (disch := omega) only [EL, ↓K3, ↓K1, reduceIte, Nat.reduceEqDiff, Nat.reduceAdd, Nat.reduceLeDiff, i0]⟩
end
end Go.Ev
namespace Go.Ev
open Go Go.Pa
set_option linter.unusedSimpArgs false
set_option linter.unusedVariables false
set_option maxRecDepth 100000
set_option maxHeartbeats 4000000
theorem zHq {p : UInt8 → Bool} : ∀ {s : Str}, s.take (aheadN p s) = s.takeWhile p
 | [] => rfl
 | c :: s => by
  unfold aheadN
  rw [List.takeWhile_cons]
  split
  ·rw [List.length_cons, List.take_succ_cons]; congr 1; exact zHq
  ·rfl
section
variable {tab : Nat → Option AFunc} {h : AH} (H : PT tab)
include H in
theorem keys_gp : GP tab 115 [] h fun v h1 => v = .sl h.next 0 16 (.known 16) ∧ More h h1 ∧ ∃ c, h1.mem.get h.next = some (.cells c 16 none false) ∧ ∀ i (hi : i < lexKeys.length), c.get i = some (sv lexKeys[i]) := by
 have i0 : zAh [] = zAd [] := rfl
 refine GE.gp (ge_of H.t115 rfl ?_) (E := fun _ _ => False) fun _ _ => id
 refine zAc (zAb fun Q1 hQ => ?_)
 simp (disch := omega) only [EL, ↓K3, ↓K1, reduceIte, Nat.reduceEqDiff, Nat.reduceAdd, Nat.reduceLeDiff, i0]
 refine hQ _ ?_
 clear hQ Q1
 refine zAc (zAb fun Q1 hQ => ?_)
 simp (disch := omega) only [EL, ↓K3, ↓K1, reduceIte, Nat.reduceEqDiff, Nat.reduceAdd, Nat.reduceLeDiff, i0]
 refine hQ _ ?_
 clear hQ Q1
 refine zAk ?_
 try simp only [zAg, zAf]
 simp (disch := omega) only [EL, ↓K3, ↓K1, reduceIte, Nat.reduceEqDiff, Nat.reduceAdd, Nat.reduceLeDiff]
 refine ⟨More.add _ _, _, rfl, ?_⟩
 intro i hi
 rw [zAj]
 have e : ([sv [116, 121, 112, 101], sv [115, 116, 114, 117, 99, 116], sv [102, 117, 110, 99], sv [118, 97, 114], sv [105, 102], sv [101, 108, 115, 101], sv [102, 111, 114], sv [114, 101, 116, 117, 114, 110], sv [112, 114, 105, 110, 116], sv [110, 101, 119], sv [110, 105, 108], sv [116, 114, 117, 101], sv [102, 97, 108, 115, 101], sv [105, 110, 116], sv [98, 111, 111, 108], sv [114, 101, 97, 100]] : List AV) = lexKeys.map sv := rfl
 rw [e, List.getElem?_map, List.getElem?_eq_getElem hi]; rfl
include H in
theorem lsigns_gp : GP tab 94 [] h fun v h1 => v = .sl h.next 0 28 (.known 28) ∧ More h h1 ∧ ∃ c, h1.mem.get h.next = some (.cells c 28 none false) ∧ ∀ i (hi : i < lexSigns.length), c.get i = some (sv lexSigns[i]) := by
 have i0 : zAh [] = zAd [] := rfl
 refine GE.gp (ge_of H.t94 rfl ?_) (E := fun _ _ => False) fun _ _ => id
 refine zAc (zAb fun Q1 hQ => ?_)
 simp (disch := omega) only [EL, ↓K3, ↓K1, reduceIte, Nat.reduceEqDiff, Nat.reduceAdd, Nat.reduceLeDiff, i0]
 refine hQ _ ?_
 clear hQ Q1
 refine zAc (zAb fun Q1 hQ => ?_)
 simp (disch := omega) only [EL, ↓K3, ↓K1, reduceIte, Nat.reduceEqDiff, Nat.reduceAdd, Nat.reduceLeDiff, i0]
 refine hQ _ ?_
 clear hQ Q1
 refine zAk ?_
 try simp only [zAg, zAf]
 simp (disch := omega) only [EL, ↓K3, ↓K1, reduceIte, Nat.reduceEqDiff, Nat.reduceAdd, Nat.reduceLeDiff]
 refine ⟨More.add _ _, _, rfl, ?_⟩
 intro i hi
 rw [zAj]
 have e : ([sv [60, 60], sv [62, 62], sv [61, 61], sv [33, 61], sv [60, 61], sv [62, 61], sv [38, 38], sv [124, 124], sv [58, 61], sv [43], sv [45], sv [42], sv [47], sv [37], sv [38], sv [124], sv [94], sv [60], sv [62], sv [33], sv [61], sv [46], sv [44], sv [59], sv [40], sv [41], sv [123], sv [125]] : List AV) = lexSigns.map sv := rfl
 rw [e, List.getElem?_map, List.getElem?_eq_getElem hi]; rfl
include H in
theorem contains_gp {v : AV} {xs : List Str} {s : Str} (a : StrA h v xs) (hl : xs.length < 1000) : GP tab 114 [v, sv s] h fun w h1 => w = .bool (decide (s ∈ xs)) ∧ h1 = h := by
 have i0 : zAh [v, sv s] = zAd [v, sv s] := rfl
 have mv : ∀ h', oMove (.c v) .leaf [] h' = .val v h' := by
  obtain ⟨_, _, _, _, _, _, _, rfl, _⟩ := a
  intro h'; rfl
 refine GE.gp (ge_of H.t114 rfl ?_) (E := fun _ _ => False) fun _ _ => id
 refine zAc (zAb fun Q1 hQ => ?_)
 simp (disch := omega) only [EL, ↓K3, ↓K1, reduceIte, Nat.reduceEqDiff, Nat.reduceAdd, Nat.reduceLeDiff, i0]
 refine hQ _ ?_
 clear hQ Q1
 refine zAc (zAb fun Q1 hQ => ?_)
 simp (disch := omega) only [EL, ↓K3, ↓K1, reduceIte, Nat.reduceEqDiff, Nat.reduceAdd, Nat.reduceLeDiff, i0, mv]
 rw [ge_rw (zLm H a hl)]
 have hx : ((0 : Nat) : Int) ≤ zF2 xs s ↔ s ∈ xs := by
  unfold zF2
  split
  ·rename_i hm; exact ⟨fun _ => hm, fun _ => by omega⟩
  ·rename_i hm; exact ⟨fun e => by omega, fun e => absurd e hm⟩
 by_cases hm : s ∈ xs
 ·have h1 := hx.mpr hm
  simp (disch := omega) only [EL, ↓K3, ↓K1, reduceIte, Nat.reduceEqDiff, Nat.reduceAdd, Nat.reduceLeDiff, i0, h1]
  refine hQ _ ?_
  simp only [zAa]
  refine zAk ?_
  simp (disch := omega) only [EL, ↓K3, ↓K1, reduceIte, Nat.reduceEqDiff, Nat.reduceAdd, Nat.reduceLeDiff, hm]
 ·have h1 : ¬ ((0 : Nat) : Int) ≤ zF2 xs s := fun e => hm (hx.mp e)
  simp (disch := omega) only [EL, ↓K3, ↓K1, reduceIte, Nat.reduceEqDiff, Nat.reduceAdd, Nat.reduceLeDiff, i0, h1]
  refine hQ _ ?_
  simp only [zAa]
  refine zAk ?_
  simp (disch := omega) only [EL, ↓K3, ↓K1, reduceIte, Nat.reduceEqDiff, Nat.reduceAdd, Nat.reduceLeDiff, hm]
include H in
theorem isKey_gp {s : Str} : GP tab 91 [sv s] h fun v h1 => v = .bool (decide (s ∈ lexKeys)) ∧ More h h1 := by
 have i0 : zAh [sv s] = zAd [sv s] := rfl
 refine GE.gp (ge_of H.t91 rfl ?_) (E := fun _ _ => False) fun _ _ => id
 refine zAc (zAb fun Q1 hQ => ?_)
 simp (disch := omega) only [EL, ↓K3, ↓K1, reduceIte, Nat.reduceEqDiff, Nat.reduceAdd, Nat.reduceLeDiff, i0]
 refine hQ _ ?_
 clear hQ Q1
 refine zAc (zAb fun Q1 hQ => ?_)
 simp (disch := omega) only [EL, ↓K3, ↓K1, reduceIte, Nat.reduceEqDiff, Nat.reduceAdd, Nat.reduceLeDiff, i0]
 refine (keys_gp H).to fun v h1 q => ?_
 obtain ⟨rfl, m1, c, gc, ga⟩ := q
 simp (disch := omega) only [EL, ↓K3, ↓K1, reduceIte, Nat.reduceEqDiff, Nat.reduceAdd, Nat.reduceLeDiff, i0]
 have g : GP tab 114 [.sl h.next 0 16 (.known 16), sv s] h1 (fun w h2 => w = .bool (decide (s ∈ lexKeys)) ∧ h2 = h1) := contains_gp H (xs := lexKeys) ⟨_, 0, _, _, _, _, c, rfl, gc, fun i hi => by rw [Nat.zero_add]; exact ga i hi⟩ (by decide)
 rw [ge_rw g]
 simp (disch := omega) only [EL, ↓K3, ↓K1, reduceIte, Nat.reduceEqDiff, Nat.reduceAdd, Nat.reduceLeDiff, i0]
 refine hQ _ ?_
 simp only [zAa]
 refine zAk ?_
 simp (disch := omega) only [EL, ↓K3, ↓K1, reduceIte, Nat.reduceEqDiff, Nat.reduceAdd, Nat.reduceLeDiff]
 exact m1
include H in
theorem word_lex {s : Str} (hs : s.length ≤ 1000000) : GP tab 66 [sv s] h fun v h1 => v = .tup [.agg [.int .i64 ((wordT s).1 : Int), sv (wordT s).2.1, .int .i64 ((0 : Nat) : Int)], .int .i64 ((wordT s).2.2 : Int)] ∧ More h h1 := by
 have i0 : zAh [sv s] = zAd [sv s] := rfl
 refine GE.gp (ge_of H.t66 rfl ?_) (E := fun _ _ => False) fun _ _ => id
 refine zAc (zAb fun Q1 hQ => ?_)
 simp (disch := omega) only [EL, ↓K3, ↓K1, reduceIte, Nat.reduceEqDiff, Nat.reduceAdd, Nat.reduceLeDiff, i0]
 refine hQ _ ?_
 clear hQ Q1
 have m1 : More h (h.add (.cells (zAd [.int .i64 ((0 : Nat) : Int), sv [], .int .i64 ((0 : Nat) : Int)]) 3 none false)) := More.add _ _
 have g1 : (h.add (.cells (zAd [.int .i64 ((0 : Nat) : Int), sv [], .int .i64 ((0 : Nat) : Int)]) 3 none false)).mem.get h.next = some (.cells (zAd [.int .i64 ((0 : Nat) : Int), sv [], .int .i64 ((0 : Nat) : Int)]) 3 none false) := by rw [AH.add_mem, T.get_put_self]
 have n1 : (h.add (.cells (zAd [.int .i64 ((0 : Nat) : Int), sv [], .int .i64 ((0 : Nat) : Int)]) 3 none false)).next = h.next + 1 := rfl
 generalize h.add (.cells (zAd [.int .i64 ((0 : Nat) : Int), sv [], .int .i64 ((0 : Nat) : Int)]) 3 none false) = h1 at *
 simp only [zAa]
 have sl : ∀ h' : AH, zCz (.c (sv s)) none (some (.c (.int .i64 (aheadN zDa s : Int)))) .leaf [] h' = .val (sv (s.takeWhile zDa)) h' := fun h' => by rw [zI3 zEf, zHq]
 refine zAc (zAb fun Q1 hQ => ?_)
 simp (disch := omega) only [EL, ↓K3, ↓K1, reduceIte, Nat.reduceEqDiff, Nat.reduceAdd, Nat.reduceLeDiff, i0]
 rw [ge_rw (run_gp H hs fun c => word1_gp H)]
 simp (disch := omega) only [EL, ↓K3, ↓K1, reduceIte, Nat.reduceEqDiff, Nat.reduceAdd, Nat.reduceLeDiff, sl]
 refine hQ _ ?_
 clear hQ Q1
 refine zDc fun h2 n2 g2 m2 => ?_
 obtain ⟨ct, gt, k0, k1, k2⟩ := g2
 simp only [zAa]
 have g12 := (m2.keep h.next (by omega)).trans g1
 have m02 := m1.trans m2
 obtain ⟨w, hw⟩ : ∃ w, w = s.takeWhile zDa := ⟨_, rfl⟩
 rw [← hw] at k1
 have hwl : w.length ≤ s.length := by rw [hw]; exact zCw
 have hT : wordT s = (if w ∈ lexKeys then 2 else 1, w, if 12 < w.length then 4 else 0) := by rw [hw]; rfl
 rw [hT]
 clear hT
 refine zFn (fun l d1 h3 => d1 = [] ∧ l.get 1 = some (.ptr h1.next 0) ∧ l.get 4 = some (.ptr h.next 0) ∧ l.get 5 = some (.int .i64 ((0 : Nat) : Int)) ∧ More h h3 ∧ h2.next ≤ h3.next ∧ h3.mem.get h.next = some (.cells (zAd [.int .i64 ((0 : Nat) : Int), sv [], .int .i64 ((0 : Nat) : Int)]) 3 none false) ∧
  ∃ c, h3.mem.get h1.next = some (.cells c 3 none false) ∧ c.get 0 = some (.int .i64 ((if w ∈ lexKeys then 2 else 1 : Nat) : Int)) ∧ c.get 1 = some (sv w) ∧ c.get 2 = some (.int .i64 ((0 : Nat) : Int))) ?_ ?_
 ·refine zAc (zAb fun Q1 hQ => ?_)
  simp (disch := omega) only [EL, ↓K3, ↓K1, reduceIte, Nat.reduceEqDiff, Nat.reduceAdd, Nat.reduceLeDiff, gt, k1]
  refine (isKey_gp H).to fun v h3 q => ?_
  obtain ⟨rfl, m3⟩ := q
  have n3 := m3.next
  have g13 := (m3.keep h.next (by omega)).trans g12
  have gt3 := (m3.keep h1.next (by omega)).trans gt
  simp (disch := omega) only [EL, ↓K3, ↓K1, reduceIte, Nat.reduceEqDiff, Nat.reduceAdd, Nat.reduceLeDiff]
  refine hQ _ ?_
  clear hQ Q1
  simp only [zAa]
  by_cases hk : w ∈ lexKeys
  ·refine zAq (by simp (disch := omega) only [EL, ↓K3, ↓K1, reduceIte, Nat.reduceEqDiff, Nat.reduceAdd, Nat.reduceLeDiff, hk]) ?_
   refine zAb fun Q1 hQ => ?_
   simp (disch := omega) only [EL, ↓K3, ↓K1, reduceIte, Nat.reduceEqDiff, Nat.reduceAdd, Nat.reduceLeDiff, gt3, k0]
   refine hQ _ ?_
   clear hQ Q1
   have o4 : Only h1.next h3 (h3.set h1.next (.cells (T.put (some (.int .i64 ((2 : Nat) : Int))) ct 0) 3 none false)) := Only.set
   refine ⟨rfl, by simp (disch := omega) only [EL, ↓K3, ↓K1, reduceIte, Nat.reduceEqDiff, Nat.reduceAdd, Nat.reduceLeDiff], by simp (disch := omega) only [EL, ↓K3, ↓K1, reduceIte, Nat.reduceEqDiff, Nat.reduceAdd, Nat.reduceLeDiff, i0], by simp (disch := omega) only [EL, ↓K3, ↓K1, reduceIte, Nat.reduceEqDiff, Nat.reduceAdd, Nat.reduceLeDiff, i0], (m02.trans m3).set (by omega) _, by rw [o4.next]; omega, (o4.keep _ (by omega)).trans g13, _, AH.get_set, ?_, ?_, ?_⟩
   ·rw [if_pos hk]; exact T.get_put_self _ _ _
   ·rw [T.get_put_ne _ _ _ _ (by omega)]; exact k1
   ·rw [T.get_put_ne _ _ _ _ (by omega)]; exact k2
  ·refine wc_no (by simp (disch := omega) only [EL, ↓K3, ↓K1, reduceIte, Nat.reduceEqDiff, Nat.reduceAdd, Nat.reduceLeDiff, hk]) ?_
   refine zAo ?_
   refine ⟨rfl, by simp (disch := omega) only [EL, ↓K3, ↓K1, reduceIte, Nat.reduceEqDiff, Nat.reduceAdd, Nat.reduceLeDiff], by simp (disch := omega) only [EL, ↓K3, ↓K1, reduceIte, Nat.reduceEqDiff, Nat.reduceAdd, Nat.reduceLeDiff, i0], by simp (disch := omega) only [EL, ↓K3, ↓K1, reduceIte, Nat.reduceEqDiff, Nat.reduceAdd, Nat.reduceLeDiff, i0], m02.trans m3, by omega, g13, _, gt3, ?_, k1, k2⟩
   rw [if_neg hk]; exact k0
 ·rintro l d1 h3 ⟨rfl, l1, l4, l5, m3, n3, g13, c, gc, c0, c1, c2⟩
  generalize (if w ∈ lexKeys then 2 else 1 : Nat) = kind at *
  refine zAc ?_
  refine zAc (zAb fun Q1 hQ => ?_)
  simp (disch := omega) only [EL, ↓K3, ↓K1, reduceIte, Nat.reduceEqDiff, Nat.reduceAdd, Nat.reduceLeDiff, l1, gc, c1]
  refine hQ _ ?_
  clear hQ Q1
  by_cases hl : 12 < w.length
  ·rw [if_pos hl]
   refine zAq (by simp (disch := omega) only [EL, ↓K3, ↓K1, reduceIte, Nat.reduceEqDiff, Nat.reduceAdd, Nat.reduceLeDiff, hl]) ?_
   refine zAc (zAb fun Q1 hQ => ?_)
   simp (disch := omega) only [EL, ↓K3, ↓K1, reduceIte, Nat.reduceEqDiff, Nat.reduceAdd, Nat.reduceLeDiff, l1, l4, gc, c0, c1, c2, g13, zAe]
   refine hQ _ ?_
   clear hQ Q1
   refine zAk ?_
   try simp only [zAg, zAf]
   refine ⟨_, zBq (by simp (disch := omega) only [EL, ↓K3, ↓K1, reduceIte, Nat.reduceEqDiff, Nat.reduceAdd, Nat.reduceLeDiff, l4]) AH.get_set (lst := [.int .i64 (kind : Int), sv w, .int .i64 ((0 : Nat) : Int)]) (by simp (disch := omega) only [EL, ↓K3, ↓K1, reduceIte, Nat.reduceEqDiff, Nat.reduceAdd, Nat.reduceLeDiff, zAe]) (zA4 (v := .int .i64 ((4 : Nat) : Int)) (by simp (disch := omega) only [EL, ↓K3, ↓K1, reduceIte, Nat.reduceEqDiff, Nat.reduceAdd, Nat.reduceLeDiff]) zAl), ?_⟩
   exact ⟨rfl, m3.set (Nat.le_refl _) _⟩
  ·rw [if_neg hl]
   refine wc_no (by simp (disch := omega) only [EL, ↓K3, ↓K1, reduceIte, Nat.reduceEqDiff, Nat.reduceAdd, Nat.reduceLeDiff, hl]) ?_
   refine zAo ?_
   simp only [zAa]
   refine zAc (zAb fun Q1 hQ => ?_)
   simp (disch := omega) only [EL, ↓K3, ↓K1, reduceIte, Nat.reduceEqDiff, Nat.reduceAdd, Nat.reduceLeDiff, l1, l4, gc, c0, c1, c2, g13, zAe]
   refine hQ _ ?_
   clear hQ Q1
   refine zAk ?_
   try simp only [zAg, zAf]
   refine ⟨_, zBq (by simp (disch := omega) only [EL, ↓K3, ↓K1, reduceIte, Nat.reduceEqDiff, Nat.reduceAdd, Nat.reduceLeDiff, l4]) AH.get_set (lst := [.int .i64 (kind : Int), sv w, .int .i64 ((0 : Nat) : Int)]) (by simp (disch := omega) only [EL, ↓K3, ↓K1, reduceIte, Nat.reduceEqDiff, Nat.reduceAdd, Nat.reduceLeDiff, zAe]) (zA4 (v := .int .i64 ((0 : Nat) : Int)) (by simp (disch := omega) only [EL, ↓K3, ↓K1, reduceIte, Nat.reduceEqDiff, Nat.reduceAdd, Nat.reduceLeDiff]) zAl), ?_⟩
   exact ⟨rfl, m3.set (Nat.le_refl _) _⟩
end
end Go.Ev
namespace Go.Ev
open Go Go.Pa
set_option linter.unusedSimpArgs false
set_option linter.unusedVariables false
set_option maxRecDepth 100000
set_option maxHeartbeats 4000000
section
variable {tab : Nat → Option AFunc} {h : AH} (H : PT tab)
theorem digs_of {c : UInt8} {s : Str} (hc : zBb c = true) (hs : (c :: s).length ≤ 1000000) : Digs ((c :: s).takeWhile zBb) := by
 refine ⟨List.ne_nil_of_length_pos (zCv hc), ?_, Nat.le_trans zCw hs⟩
 intro x hx
 have hall := List.all_takeWhile (p := zBb) (l := c :: s)
 rw [List.all_eq_true] at hall
 simpa [zBb] using hall x hx
include H in
theorem number_lex {c : UInt8} {t : Str} (hc : zBb c = true) (hs : (c :: t).length ≤ 1000000) : GP tab 68 [sv (c :: t)] h fun v h1 => v = .tup [.agg [.int .i64 ((numT (c :: t)).1 : Int), sv (numT (c :: t)).2.1, .int .i64 ((0 : Nat) : Int)], .int .i64 ((numT (c :: t)).2.2 : Int)] ∧ More h h1 := by
 have dg := digs_of hc hs
 obtain ⟨s, hst⟩ : ∃ s, s = c :: t := ⟨_, rfl⟩
 rw [← hst] at dg hs ⊢
 have i0 : zAh [sv s] = zAd [sv s] := rfl
 refine GE.gp (ge_of H.t68 rfl ?_) (E := fun _ _ => False) fun _ _ => id
 refine zAc (zAb fun Q1 hQ => ?_)
 simp (disch := omega) only [EL, ↓K3, ↓K1, reduceIte, Nat.reduceEqDiff, Nat.reduceAdd, Nat.reduceLeDiff, i0]
 refine hQ _ ?_
 clear hQ Q1
 have m1 : More h (h.add (.cells (zAd [.int .i64 ((0 : Nat) : Int), sv [], .int .i64 ((0 : Nat) : Int)]) 3 none false)) := More.add _ _
 have g1 : (h.add (.cells (zAd [.int .i64 ((0 : Nat) : Int), sv [], .int .i64 ((0 : Nat) : Int)]) 3 none false)).mem.get h.next = some (.cells (zAd [.int .i64 ((0 : Nat) : Int), sv [], .int .i64 ((0 : Nat) : Int)]) 3 none false) := by rw [AH.add_mem, T.get_put_self]
 have n1 : (h.add (.cells (zAd [.int .i64 ((0 : Nat) : Int), sv [], .int .i64 ((0 : Nat) : Int)]) 3 none false)).next = h.next + 1 := rfl
 generalize h.add (.cells (zAd [.int .i64 ((0 : Nat) : Int), sv [], .int .i64 ((0 : Nat) : Int)]) 3 none false) = h1 at *
 simp only [zAa]
 have an := zEf (p := zBb) (s := s)
 have sl : ∀ h' : AH, zCz (.c (sv s)) none (some (.c (.int .i64 (aheadN zBb s : Int)))) .leaf [] h' = .val (sv (s.takeWhile zBb)) h' := fun h' => by rw [zI3 zEf, zHq]
 refine zAc (zAb fun Q1 hQ => ?_)
 simp (disch := omega) only [EL, ↓K3, ↓K1, reduceIte, Nat.reduceEqDiff, Nat.reduceAdd, Nat.reduceLeDiff, i0]
 rw [ge_rw (run_gp H hs fun c => zLu H)]
 simp (disch := omega) only [EL, ↓K3, ↓K1, reduceIte, Nat.reduceEqDiff, Nat.reduceAdd, Nat.reduceLeDiff]
 refine hQ _ ?_
 clear hQ Q1
 simp only [zAa]
 refine zAc (zAb fun Q1 hQ => ?_)
 simp (disch := omega) only [EL, ↓K3, ↓K1, reduceIte, Nat.reduceEqDiff, Nat.reduceAdd, Nat.reduceLeDiff, i0, sl]
 refine hQ _ ?_
 clear hQ Q1
 refine zDc fun h2 n2 g2 m2 => ?_
 obtain ⟨ct, gt, k0, k1, k2⟩ := g2
 simp only [zAa]
 have g12 := (m2.keep h.next (by omega)).trans g1
 have m02 := m1.trans m2
 have hx : ∀ err : Nat, err = (numT s).2.2 → numT s = (3, s.takeWhile zBb, err) := fun err e => by rw [e]; rfl
 have hnum : (∃ c r, s.drop (aheadN zBb s) = c :: r ∧ zB8 c = true ∧ (numT s).2.2 = 1) ∨ ((∀ c, s[aheadN zBb s]? = some c → zB8 c = false) ∧ (numT s).2.2 = (numP (s.takeWhile zBb)).2) := by
  unfold numT
  simp only
  cases hd : s.drop (aheadN zBb s) with
  | nil =>
   refine .inr ⟨fun c hc => ?_, rfl⟩
   have := List.length_drop (i := aheadN zBb s) (l := s)
   rw [hd] at this
   rw [List.getElem?_eq_none (by simp at this; omega)] at hc; cases hc
  | cons c r =>
   simp only
   cases hl : zB8 c with
   | true => exact .inl ⟨c, r, rfl, hl, by simp⟩
   | false =>
    refine .inr ⟨fun c' hc' => ?_, by simp⟩
    have : s[aheadN zBb s]? = some c := by
     have e := List.getElem?_drop (xs := s) (i := aheadN zBb s) (j := 0)
     rw [hd] at e; simpa using e.symm
    rw [this] at hc'; injection hc' with hc'; subst hc'; exact hl
 clear sl
 obtain ⟨w, hw⟩ : ∃ w, w = s.takeWhile zBb := ⟨_, rfl⟩
 obtain ⟨n, hn⟩ : ∃ n, n = aheadN zBb s := ⟨_, rfl⟩
 rw [← hw] at k1 dg hnum hx
 rw [← hn] at an hnum ⊢
 clear hn
 refine zAc ?_
 have bad : (numT s).2.2 = 1 → ∀ (l : T AV) (Q : Res → Prop), l.get 3 = some (.ptr h1.next 0) → l.get 4 = some (.ptr h.next 0) → (∀ l' h', zDw [.cellN 3 (.l 4), .val (.l 6)] (fun v h1 => v = .tup [.agg [.int .i64 ((numT s).1 : Int), sv (numT s).2.1, .int .i64 ((0 : Nat) : Int)], .int .i64 ((numT s).2.2 : Int)] ∧ More h h1) (fun _ _ => False) (.ret l' [] h') → Q (.ret l' [] h')) →
   WC tab (.seq (.ops [⟨.loadN 3 (.l 3), none, none, []⟩, ⟨.store 3 (.l 4) (.t 0), none, none, []⟩, ⟨.move (.c (.int .i64 (.ofNat 1))), none, some 6, []⟩]) .ret) l [] h2 Q := by
  intro e l Q l3 l4 hq
  refine zAc (zAb fun Q1 hQ => ?_)
  simp (disch := omega) only [EL, ↓K3, ↓K1, reduceIte, Nat.reduceEqDiff, Nat.reduceAdd, Nat.reduceLeDiff, l3, l4, gt, k0, k1, k2, g12, zAe]
  refine hQ _ ?_
  simp only [zAa]
  refine zAk (hq _ _ ?_)
  refine ⟨_, zBq (by simp (disch := omega) only [EL, ↓K3, ↓K1, reduceIte, Nat.reduceEqDiff, Nat.reduceAdd, Nat.reduceLeDiff, l4]) AH.get_set (lst := [.int .i64 ((3 : Nat) : Int), sv w, .int .i64 ((0 : Nat) : Int)]) (by simp (disch := omega) only [EL, ↓K3, ↓K1, reduceIte, Nat.reduceEqDiff, Nat.reduceAdd, Nat.reduceLeDiff, zAe]) (zA4 (v := .int .i64 ((1 : Nat) : Int)) (by simp (disch := omega) only [EL, ↓K3, ↓K1, reduceIte, Nat.reduceEqDiff, Nat.reduceAdd, Nat.reduceLeDiff]) zAl), ?_⟩
  rw [hx 1 e.symm]
  exact ⟨rfl, m02.set (Nat.le_refl _) _⟩
 refine zAc (zAb fun Q1 hQ => ?_)
 rcases hnum with ⟨c, r, hd, hl, he⟩ | ⟨hno, he⟩
 ·have hlt : n < s.length := by
   rcases Nat.lt_or_ge n s.length with e | e
   ·exact e
   ·rw [List.drop_eq_nil_of_le e] at hd; cases hd
  have ix : ∀ h' : AH, oIdxS (.c (sv s)) (.c (.int .i64 (n : Int))) .leaf [] h' = .val (byteV c) h' := fun h' => idx_sv (by
   have e := List.getElem?_drop (xs := s) (i := n) (j := 0)
   rw [hd] at e; simpa using e.symm)
  simp (disch := omega) only [EL, ↓K3, ↓K1, reduceIte, Nat.reduceEqDiff, Nat.reduceAdd, Nat.reduceLeDiff, i0, hlt, ix]
  rw [ge_rw (zHa H)]
  simp (disch := omega) only [EL, ↓K3, ↓K1, reduceIte, Nat.reduceEqDiff, Nat.reduceAdd, Nat.reduceLeDiff, hl]
  refine hQ _ ?_
  clear hQ Q1
  simp only [zAa]
  refine zAq (by simp (disch := omega) only [EL, ↓K3, ↓K1, reduceIte, Nat.reduceEqDiff, Nat.reduceAdd, Nat.reduceLeDiff]) ?_
  exact bad he _ _ (by simp (disch := omega) only [EL, ↓K3, ↓K1, reduceIte, Nat.reduceEqDiff, Nat.reduceAdd, Nat.reduceLeDiff]) (by simp (disch := omega) only [EL, ↓K3, ↓K1, reduceIte, Nat.reduceEqDiff, Nat.reduceAdd, Nat.reduceLeDiff, i0]) fun l' h' q => by try simp only [zAg, zAf]; exact q
 ·have hgo : ∀ l' : T AV, l'.get 2 = some (.bool false) → l'.get 3 = some (.ptr h1.next 0) → l'.get 4 = some (.ptr h.next 0) → Q1 (.norm l' [] h2) := by
   intro l e2 l3 l4
   refine hQ _ ?_
   clear hQ Q1
   simp only [zAa]
   refine wc_no (by simp (disch := omega) only [EL, ↓K3, ↓K1, reduceIte, Nat.reduceEqDiff, Nat.reduceAdd, Nat.reduceLeDiff, e2]) ?_
   refine zAo ?_
   simp only [zAa]
   refine zAc (zAb fun Q1 hQ => ?_)
   simp (disch := omega) only [EL, ↓K3, ↓K1, reduceIte, Nat.reduceEqDiff, Nat.reduceAdd, Nat.reduceLeDiff, l3, gt, k1]
   rw [ge_rw (zJf H dg)]
   simp (disch := omega) only [EL, ↓K3, ↓K1, reduceIte, Nat.reduceEqDiff, Nat.reduceAdd, Nat.reduceLeDiff]
   refine hQ _ ?_
   clear hQ Q1
   simp only [zAa]
   refine zAc (zAb fun Q1 hQ => ?_)
   simp (disch := omega) only [EL, ↓K3, ↓K1, reduceIte, Nat.reduceEqDiff, Nat.reduceAdd, Nat.reduceLeDiff, l3, l4, gt, k0, k1, k2, g12, zAe]
   refine hQ _ ?_
   clear hQ Q1
   refine zAk ?_
   try simp only [zAg, zAf]
   refine ⟨_, zBq (by simp (disch := omega) only [EL, ↓K3, ↓K1, reduceIte, Nat.reduceEqDiff, Nat.reduceAdd, Nat.reduceLeDiff, l4]) AH.get_set (lst := [.int .i64 ((3 : Nat) : Int), sv w, .int .i64 ((0 : Nat) : Int)]) (by simp (disch := omega) only [EL, ↓K3, ↓K1, reduceIte, Nat.reduceEqDiff, Nat.reduceAdd, Nat.reduceLeDiff, zAe]) (zA4 (v := .int .i64 ((numP w).2 : Int)) (by simp (disch := omega) only [EL, ↓K3, ↓K1, reduceIte, Nat.reduceEqDiff, Nat.reduceAdd, Nat.reduceLeDiff]) zAl), ?_⟩
   rw [hx _ he.symm]
   exact ⟨rfl, m02.set (Nat.le_refl _) _⟩
  by_cases hlt : n < s.length
  ·have hl := hno _ (List.getElem?_eq_getElem hlt)
   have ix : ∀ h' : AH, oIdxS (.c (sv s)) (.c (.int .i64 (n : Int))) .leaf [] h' = .val (byteV s[n]) h' := fun h' => idx_sv (List.getElem?_eq_getElem hlt)
   simp (disch := omega) only [EL, ↓K3, ↓K1, reduceIte, Nat.reduceEqDiff, Nat.reduceAdd, Nat.reduceLeDiff, i0, hlt, ix]
   rw [ge_rw (zHa H)]
   simp (disch := omega) only [EL, ↓K3, ↓K1, reduceIte, Nat.reduceEqDiff, Nat.reduceAdd, Nat.reduceLeDiff, hl]
   exact hgo _ (by simp (disch := omega) only [EL, ↓K3, ↓K1, reduceIte, Nat.reduceEqDiff, Nat.reduceAdd, Nat.reduceLeDiff]) (by simp (disch := omega) only [EL, ↓K3, ↓K1, reduceIte, Nat.reduceEqDiff, Nat.reduceAdd, Nat.reduceLeDiff]) (by simp (disch := omega) only [EL, ↓K3, ↓K1, reduceIte, Nat.reduceEqDiff, Nat.reduceAdd, Nat.reduceLeDiff, i0])
  ·simp (disch := omega) only [EL, ↓K3, ↓K1, reduceIte, Nat.reduceEqDiff, Nat.reduceAdd, Nat.reduceLeDiff, i0, hlt]
   exact hgo _ (by simp (disch := omega) only [EL, ↓K3, ↓K1, reduceIte, Nat.reduceEqDiff, Nat.reduceAdd, Nat.reduceLeDiff]) (by simp (disch := omega) only [EL, ↓K3, ↓K1, reduceIte, Nat.reduceEqDiff, Nat.reduceAdd, Nat.reduceLeDiff]) (by simp (disch := omega) only [EL, ↓K3, ↓K1, reduceIte, Nat.reduceEqDiff, Nat.reduceAdd, Nat.reduceLeDiff, i0])
end
end Go.Ev
namespace Go.Ev
open Go Go.Pa
set_option linter.unusedSimpArgs false
set_option linter.unusedVariables false
set_option maxRecDepth 100000
set_option maxHeartbeats 4000000
def idxF (xs : List Str) (q : Str → Bool) : Int := match xs.findIdx? q with | some i => (i : Int) | none => -1
theorem idxF_at {xs : List Str} {q : Str → Bool} {k : Nat} (hk : k < xs.length) (h : ∀ i, i < k → (hi : i < xs.length) → q xs[i] = false) (e : q xs[k] = true) : xs.findIdx? q = some k := by
 rw [List.findIdx?_eq_some_iff_getElem]
 exact ⟨hk, e, fun j hj => by rw [h j hj (by omega)]; simp⟩
section
variable {tab : Nat → Option AFunc} {h : AH} (H : PT tab)
include H in
theorem indexF_gp {v : AV} {xs : List Str} {f : Nat} {caps : List AV} {p : Str → Bool} (a : StrA h v xs) (hl : xs.length < 1000) (hq : ∀ x, GP tab f (sv x :: caps) h fun w h1 => w = .bool (p x) ∧ h1 = h) : GP tab 93 [v, .fn f [] caps] h fun w h1 => w = .int .i64 (idxF xs p) ∧ h1 = h := by
 obtain ⟨ia, off, cap, sz, pp, ro, c, rfl, gc, ga⟩ := a
 have i0 : zAh [.sl ia off xs.length cap, .fn f [] caps] = zAd [.sl ia off xs.length cap, .fn f [] caps] := rfl
 have la : ∀ x, lapp [] (lapp [sv x] caps) = sv x :: caps := fun x => rfl
 refine GE.gp (ge_of H.t93 rfl ?_) (E := fun _ _ => False) fun _ _ => id
 refine zAc (zAb fun Q1 hQ => ?_)
 simp (disch := omega) only [EL, ↓K3, ↓K1, reduceIte, Nat.reduceEqDiff, Nat.reduceAdd, Nat.reduceLeDiff, i0]
 refine hQ _ ?_
 clear hQ Q1
 refine zAc ?_
 refine zAc (zAb fun Q1 hQ => ?_)
 simp (disch := omega) only [EL, ↓K3, ↓K1, reduceIte, Nat.reduceEqDiff, Nat.reduceAdd, Nat.reduceLeDiff, i0]
 refine hQ _ ?_
 clear hQ Q1
 refine zAy ?_
 refine zB2 (fun m l d1 h1 => ∃ k, m = xs.length - k ∧ k ≤ xs.length ∧ d1 = [] ∧ h1 = h ∧ l.get 0 = some (.sl ia off xs.length cap) ∧ l.get 1 = some (.fn f [] caps) ∧ l.get 2 = some (.int .i64 (k : Int)) ∧ l.get 3 = some (.int .i64 (xs.length : Int)) ∧ ∀ i, i < k → (hi : i < xs.length) → p xs[i] = false) ?_ (xs.length - 0) ?_
 ·rintro m l d1 h1 ⟨k, rfl, hk, rfl, rfl, l0, l1, l2, l3, hall⟩
  refine zAc (zAb fun Q1 hQ => ?_)
  simp (disch := omega) only [EL, ↓K3, ↓K1, reduceIte, Nat.reduceEqDiff, Nat.reduceAdd, Nat.reduceLeDiff, l2, l3]
  refine hQ _ ?_
  clear hQ Q1
  refine zAc ?_
  refine wc_if (k < xs.length) (by simp (disch := omega) only [EL, ↓K3, ↓K1, reduceIte, Nat.reduceEqDiff, Nat.reduceAdd, Nat.reduceLeDiff]) (fun hlt => ?_) (fun hge => ?_)
  ·refine zAo ?_
   simp only [zAa]
   refine zAc ?_
   refine zAy ?_
   refine zAc (zAb fun Q1 hQ => ?_)
   simp (disch := omega) only [EL, ↓K3, ↓K1, reduceIte, Nat.reduceEqDiff, Nat.reduceAdd, Nat.reduceLeDiff, l2]
   refine hQ _ ?_
   clear hQ Q1
   have gk := ga k hlt
   refine zAc (zAb fun Q1 hQ => ?_)
   simp (disch := omega) only [EL, ↓K3, ↓K1, reduceIte, Nat.reduceEqDiff, Nat.reduceAdd, Nat.reduceLeDiff, l0, l1, l2, gc, gk, Nat.mul_one, la]
   rw [ge_rw (hq xs[k])]
   simp (disch := omega) only [EL, ↓K3, ↓K1, reduceIte, Nat.reduceEqDiff, Nat.reduceAdd, Nat.reduceLeDiff]
   refine hQ _ ?_
   clear hQ Q1
   simp only [zAa]
   cases he : p xs[k] with
   | true =>
    refine zAq (by simp (disch := omega) only [EL, ↓K3, ↓K1, reduceIte, Nat.reduceEqDiff, Nat.reduceAdd, Nat.reduceLeDiff]) ?_
    refine zAc (zAb fun Q1 hQ => ?_)
    simp (disch := omega) only [EL, ↓K3, ↓K1, reduceIte, Nat.reduceEqDiff, Nat.reduceAdd, Nat.reduceLeDiff, l2]
    refine hQ _ ?_
    clear hQ Q1
    refine zAk ?_
    try simp only [zAg, zAf]
    have e1 := idxF_at hlt hall he
    simp (disch := omega) only [EL, ↓K3, ↓K1, reduceIte, Nat.reduceEqDiff, Nat.reduceAdd, Nat.reduceLeDiff]
    unfold idxF
    rw [e1]
   | false =>
    refine wc_no (by simp (disch := omega) only [EL, ↓K3, ↓K1, reduceIte, Nat.reduceEqDiff, Nat.reduceAdd, Nat.reduceLeDiff]) ?_
    refine zAo ?_
    simp only [zAi, zAa]
    refine zAb fun Q1 hQ => ?_
    simp (disch := omega) only [EL, ↓K3, ↓K1, reduceIte, Nat.reduceEqDiff, Nat.reduceAdd, Nat.reduceLeDiff, l2]
    refine hQ _ ?_
    clear hQ Q1
    simp only [zAa]
    refine ⟨xs.length - (k + 1), by omega, k + 1, rfl, hlt, trivial, trivial, by simp (disch := omega) only [EL, ↓K3, ↓K1, reduceIte, Nat.reduceEqDiff, Nat.reduceAdd, Nat.reduceLeDiff, l0], by simp (disch := omega) only [EL, ↓K3, ↓K1, reduceIte, Nat.reduceEqDiff, Nat.reduceAdd, Nat.reduceLeDiff, l1], by simp (disch := omega) only [EL, ↓K3, ↓K1, reduceIte, Nat.reduceEqDiff, Nat.reduceAdd, Nat.reduceLeDiff], by simp (disch := omega) only [EL, ↓K3, ↓K1, reduceIte, Nat.reduceEqDiff, Nat.reduceAdd, Nat.reduceLeDiff, l3], fun i hi hi' => ?_⟩
    by_cases e : i = k
    ·subst e; exact he
    ·exact hall i (by omega) hi'
  ·refine zC5 ?_
   simp only [zA8, zA5, if_true, zAa]
   refine zAc (zAb fun Q1 hQ => ?_)
   simp (disch := omega) only [EL, ↓K3, ↓K1, reduceIte, Nat.reduceEqDiff, Nat.reduceAdd, Nat.reduceLeDiff]
   refine hQ _ ?_
   clear hQ Q1
   refine zAk ?_
   simp (disch := omega) only [EL, ↓K3, ↓K1, reduceIte, Nat.reduceEqDiff, Nat.reduceAdd, Nat.reduceLeDiff]
   unfold idxF
   have hn : xs.findIdx? p = none := by
    rw [List.findIdx?_eq_none_iff]
    intro x hx
    obtain ⟨j, hj, rfl⟩ := List.getElem_of_mem hx
    exact hall j (by omega) hj
   rw [hn]
   rfl
 ·exact ⟨0, rfl, Nat.zero_le _, rfl, rfl, by simp (disch := omega) only [EL, ↓K3, ↓K1, reduceIte, Nat.reduceEqDiff, Nat.reduceAdd, Nat.reduceLeDiff, i0], by simp (disch := omega) only [EL, ↓K3, ↓K1, reduceIte, Nat.reduceEqDiff, Nat.reduceAdd, Nat.reduceLeDiff, i0], by simp (disch := omega) only [EL, ↓K3, ↓K1, reduceIte, Nat.reduceEqDiff, Nat.reduceAdd, Nat.reduceLeDiff, i0], by simp (disch := omega) only [EL, ↓K3, ↓K1, reduceIte, Nat.reduceEqDiff, Nat.reduceAdd, Nat.reduceLeDiff, i0], fun i hi => by omega⟩
include H in
theorem sign1_gp {x s : Str} {bx : Nat} (gx : h.mem.get bx = some (.cells (cell1 (sv s)) 1 none false)) : GP tab 95 [sv x, .ptr bx 0] h fun v h1 => v = .bool (x.isPrefixOf s) ∧ h1 = h := by
 have i0 : zAh [sv x, .ptr bx 0] = zAd [sv x, .ptr bx 0] := rfl
 refine GE.gp (ge_of H.t95 rfl ?_) (E := fun _ _ => False) fun _ _ => id
 refine zAc (zAb fun Q1 hQ => ?_)
 simp (disch := omega) only [EL, ↓K3, ↓K1, reduceIte, Nat.reduceEqDiff, Nat.reduceAdd, Nat.reduceLeDiff, i0]
 refine hQ _ ?_
 clear hQ Q1
 refine zAc (zAb fun Q1 hQ => ?_)
 simp (disch := omega) only [EL, ↓K3, ↓K1, reduceIte, Nat.reduceEqDiff, Nat.reduceAdd, Nat.reduceLeDiff, i0, gx, zAz]
 rw [ge_rw (prefix_gp H)]
 simp (disch := omega) only [EL, ↓K3, ↓K1, reduceIte, Nat.reduceEqDiff, Nat.reduceAdd, Nat.reduceLeDiff, i0]
 refine hQ _ ?_
 simp only [zAa]
 refine zAk ?_
 simp (disch := omega) only [EL, ↓K3, ↓K1, reduceIte, Nat.reduceEqDiff, Nat.reduceAdd, Nat.reduceLeDiff]
 cases x.isPrefixOf s <;> rfl
include H in
theorem sign_lex {s : Str} : GP tab 69 [sv s] h fun v h1 => v = .tup [.agg [.int .i64 ((signT s).1 : Int), sv (signT s).2.1, .int .i64 ((0 : Nat) : Int)], .int .i64 ((signT s).2.2 : Int)] ∧ More h h1 := by
 have i0 : zAh [sv s] = zAd [sv s] := rfl
 refine GE.gp (ge_of H.t69 rfl ?_) (E := fun _ _ => False) fun _ _ => id
 refine zAc (zAb fun Q1 hQ => ?_)
 simp (disch := omega) only [EL, ↓K3, ↓K1, reduceIte, Nat.reduceEqDiff, Nat.reduceAdd, Nat.reduceLeDiff, i0]
 refine hQ _ ?_
 clear hQ Q1
 have m1 : More h ((h.add (.cells (.log 1 0 (some (sv s)) .leaf) 1 none false)).add (.cells (zAd [.int .i64 ((0 : Nat) : Int), sv [], .int .i64 ((0 : Nat) : Int)]) 3 none false)) := (More.add _ _).trans (More.add _ _)
 have n1 : ((h.add (.cells (.log 1 0 (some (sv s)) .leaf) 1 none false)).add (.cells (zAd [.int .i64 ((0 : Nat) : Int), sv [], .int .i64 ((0 : Nat) : Int)]) 3 none false)).next = h.next + 2 := rfl
 have g1 : ((h.add (.cells (.log 1 0 (some (sv s)) .leaf) 1 none false)).add (.cells (zAd [.int .i64 ((0 : Nat) : Int), sv [], .int .i64 ((0 : Nat) : Int)]) 3 none false)).mem.get h.next = some (.cells (cell1 (sv s)) 1 none false) := by
  rw [AH.add_mem, T.get_put_ne _ _ _ _ (by show h.next + 1 ≠ h.next; omega), AH.add_mem, T.get_put_self]; rfl
 have g2 : ((h.add (.cells (.log 1 0 (some (sv s)) .leaf) 1 none false)).add (.cells (zAd [.int .i64 ((0 : Nat) : Int), sv [], .int .i64 ((0 : Nat) : Int)]) 3 none false)).mem.get (h.next + 1) = some (.cells (zAd [.int .i64 ((0 : Nat) : Int), sv [], .int .i64 ((0 : Nat) : Int)]) 3 none false) := by
  rw [AH.add_mem]; exact T.get_put_self _ _ _
 generalize ((h.add (.cells (.log 1 0 (some (sv s)) .leaf) 1 none false)).add (.cells (zAd [.int .i64 ((0 : Nat) : Int), sv [], .int .i64 ((0 : Nat) : Int)]) 3 none false)) = h1 at *
 simp only [zAa]
 refine zAc (zAb fun Q1 hQ => ?_)
 simp (disch := omega) only [EL, ↓K3, ↓K1, reduceIte, Nat.reduceEqDiff, Nat.reduceAdd, Nat.reduceLeDiff, i0]
 refine (lsigns_gp H).to fun v h2 q => ?_
 obtain ⟨rfl, m2, c, gc, ga⟩ := q
 have n2 := m2.next
 have g12 := (m2.keep h.next (by omega)).trans g1
 have g22 := (m2.keep (h.next + 1) (by omega)).trans g2
 have e28 : lexSigns.length = 28 := rfl
 have g : GP tab 93 [.sl h1.next 0 28 (.known 28), .fn 95 [] [.ptr h.next 0]] h2 (fun w h3 => w = .int .i64 (idxF lexSigns (fun x => x.isPrefixOf s)) ∧ h3 = h2) := indexF_gp H (xs := lexSigns) ⟨_, 0, _, _, _, _, c, rfl, gc, fun i hi => by rw [Nat.zero_add]; exact ga i hi⟩ (by decide) fun x => sign1_gp H g12
 simp (disch := omega) only [EL, ↓K3, ↓K1, reduceIte, Nat.reduceEqDiff, Nat.reduceAdd, Nat.reduceLeDiff, i0]
 rw [ge_rw g]
 simp (disch := omega) only [EL, ↓K3, ↓K1, reduceIte, Nat.reduceEqDiff, Nat.reduceAdd, Nat.reduceLeDiff]
 refine hQ _ ?_
 clear hQ Q1
 simp only [zAa]
 refine zAc ?_
 refine zAc (zAb fun Q1 hQ => ?_)
 cases hf : lexSigns.findIdx? (fun x => x.isPrefixOf s) with
 | none =>
  have hi : idxF lexSigns (fun x => x.isPrefixOf s) = -1 := by unfold idxF; rw [hf]
  have hT : signT s = (0, [], 1) := by
   unfold signT
   have : lexSigns.find? (fun x => x.isPrefixOf s) = none := by
    rw [List.find?_eq_none]; intro x hx
    rw [List.findIdx?_eq_none_iff] at hf
    simp [hf x hx]
   rw [this]
  rw [hi]
  have lt0 : (-1 : Int) < ((0 : Nat) : Int) := by decide
  simp (disch := omega) only [EL, ↓K3, ↓K1, reduceIte, Nat.reduceEqDiff, Nat.reduceAdd, Nat.reduceLeDiff, lt0]
  refine hQ _ ?_
  clear hQ Q1
  simp only [zAa]
  refine zAq (by simp (disch := omega) only [EL, ↓K3, ↓K1, reduceIte, Nat.reduceEqDiff, Nat.reduceAdd, Nat.reduceLeDiff]) ?_
  refine zAc (zAb fun Q1 hQ => ?_)
  simp (disch := omega) only [EL, ↓K3, ↓K1, reduceIte, Nat.reduceEqDiff, Nat.reduceAdd, Nat.reduceLeDiff, g22]
  refine hQ _ ?_
  clear hQ Q1
  refine zAk ?_
  try simp only [zAg, zAf]
  refine ⟨_, zBq (by simp (disch := omega) only [EL, ↓K3, ↓K1, reduceIte, Nat.reduceEqDiff, Nat.reduceAdd, Nat.reduceLeDiff]) AH.get_set (lst := [.int .i64 ((0 : Nat) : Int), sv [], .int .i64 ((0 : Nat) : Int)]) (by simp (disch := omega) only [EL, ↓K3, ↓K1, reduceIte, Nat.reduceEqDiff, Nat.reduceAdd, Nat.reduceLeDiff, zAe]) (zA4 (v := .int .i64 ((1 : Nat) : Int)) (by simp (disch := omega) only [EL, ↓K3, ↓K1, reduceIte, Nat.reduceEqDiff, Nat.reduceAdd, Nat.reduceLeDiff]) zAl), ?_⟩
  rw [hT]
  exact ⟨rfl, (m1.trans m2).set (by omega) _⟩
 | some j =>
  have hi : idxF lexSigns (fun x => x.isPrefixOf s) = (j : Int) := by unfold idxF; rw [hf]
  rw [List.findIdx?_eq_some_iff_getElem] at hf
  obtain ⟨hj, hp, hall⟩ := hf
  have hT : signT s = (4, lexSigns[j], 0) := by
   unfold signT
   have : lexSigns.find? (fun x => x.isPrefixOf s) = some lexSigns[j] := by
    rw [List.find?_eq_some_iff_getElem]
    exact ⟨hp, j, hj, rfl, fun i hi => (Bool.not_eq_true' _).mpr (Bool.eq_false_iff.mpr (hall i hi))⟩
   rw [this]
  rw [hi]
  have lt0 : ¬ (j : Int) < ((0 : Nat) : Int) := by omega
  have hj2 : j < 28 := hj
  simp (disch := omega) only [EL, ↓K3, ↓K1, reduceIte, Nat.reduceEqDiff, Nat.reduceAdd, Nat.reduceLeDiff, lt0]
  refine hQ _ ?_
  clear hQ Q1
  simp only [zAa]
  refine wc_no (by simp (disch := omega) only [EL, ↓K3, ↓K1, reduceIte, Nat.reduceEqDiff, Nat.reduceAdd, Nat.reduceLeDiff]) ?_
  refine zAo ?_
  simp only [zAa]
  refine zAc (zAb fun Q1 hQ => ?_)
  simp (disch := omega) only [EL, ↓K3, ↓K1, reduceIte, Nat.reduceEqDiff, Nat.reduceAdd, Nat.reduceLeDiff, i0]
  refine (lsigns_gp H).to fun v h3 q => ?_
  obtain ⟨rfl, m3, c3, gc3, ga3⟩ := q
  have n3 := m3.next
  have g23 := (m3.keep (h.next + 1) (by omega)).trans g22
  have gj := ga3 j hj
  simp (disch := omega) only [EL, ↓K3, ↓K1, reduceIte, Nat.reduceEqDiff, Nat.reduceAdd, Nat.reduceLeDiff, gc3, gj, g23, hj2, Nat.mul_one]
  refine hQ _ ?_
  clear hQ Q1
  simp only [zAa]
  refine zAk ?_
  try simp only [zAg, zAf]
  refine ⟨_, zBq (by simp (disch := omega) only [EL, ↓K3, ↓K1, reduceIte, Nat.reduceEqDiff, Nat.reduceAdd, Nat.reduceLeDiff]) AH.get_set (lst := [.int .i64 ((4 : Nat) : Int), sv lexSigns[j], .int .i64 ((0 : Nat) : Int)]) (by simp (disch := omega) only [EL, ↓K3, ↓K1, reduceIte, Nat.reduceEqDiff, Nat.reduceAdd, Nat.reduceLeDiff, zAe]; rfl) (zA4 (v := .int .i64 ((0 : Nat) : Int)) (by simp (disch := omega) only [EL, ↓K3, ↓K1, reduceIte, Nat.reduceEqDiff, Nat.reduceAdd, Nat.reduceLeDiff]) zAl), ?_⟩
  rw [hT]
  exact ⟨rfl, ((m1.trans m2).trans m3).set (by omega) _⟩
end
end Go.Ev
namespace Go.Ev
open Go Go.Pa
set_option linter.unusedSimpArgs false
set_option linter.unusedVariables false
set_option maxRecDepth 100000
set_option maxHeartbeats 4000000
section
variable {tab : Nat → Option AFunc} {h : AH} (H : PT tab)
abbrev nextV (x : Nat × Str × Nat) : AV := .tup [.agg [.int .i64 (x.1 : Int), sv x.2.1, .int .i64 ((0 : Nat) : Int)], .int .i64 (x.2.2 : Int)]
include H in
theorem next_lex {s : Str} (h0 : s ≠ []) (hs : s.length ≤ 1000000) : GP tab 38 [sv s] h fun v h1 => v = nextV (nextT s) ∧ More h h1 := by
 obtain ⟨c, t, rfl⟩ : ∃ c t, s = c :: t := by
  cases s with
  | nil => exact absurd rfl h0
  | cons c t => exact ⟨c, t, rfl⟩
 have i0 : zAh [sv (c :: t)] = zAd [sv (c :: t)] := rfl
 have ix : ∀ h' : AH, oIdxS (.c (sv (c :: t))) (.c (.int .i64 ((0 : Nat) : Int))) .leaf [] h' = .val (byteV c) h' := fun h' => idx_sv (i := 0) rfl
 refine GE.gp (ge_of H.t38 rfl ?_) (E := fun _ _ => False) fun _ _ => id
 refine zAc (zAb fun Q1 hQ => ?_)
 simp (disch := omega) only [EL, ↓K3, ↓K1, reduceIte, Nat.reduceEqDiff, Nat.reduceAdd, Nat.reduceLeDiff, i0]
 refine hQ _ ?_
 clear hQ Q1
 have m1 : More h (h.add (.cells (zAd [.int .i64 ((0 : Nat) : Int), sv [], .int .i64 ((0 : Nat) : Int)]) 3 none false)) := More.add _ _
 have g1 : (h.add (.cells (zAd [.int .i64 ((0 : Nat) : Int), sv [], .int .i64 ((0 : Nat) : Int)]) 3 none false)).mem.get h.next = some (.cells (zAd [.int .i64 ((0 : Nat) : Int), sv [], .int .i64 ((0 : Nat) : Int)]) 3 none false) := by rw [AH.add_mem, T.get_put_self]
 have n1 : (h.add (.cells (zAd [.int .i64 ((0 : Nat) : Int), sv [], .int .i64 ((0 : Nat) : Int)]) 3 none false)).next = h.next + 1 := rfl
 generalize h.add (.cells (zAd [.int .i64 ((0 : Nat) : Int), sv [], .int .i64 ((0 : Nat) : Int)]) 3 none false) = h1 at *
 simp only [zAa]
 have fin : ∀ (x : Nat × Str × Nat) (l : T AV) (h2 : AH), l.get 2 = some (.ptr h.next 0) → More h1 h2 → zDw [.cellN 3 (.l 2), .val (.l 4)] (fun v h3 => v = nextV x ∧ More h h3) (fun _ _ => False)
   (.ret (T.put (some (.int .i64 (x.2.2 : Int))) l 4) [] (h2.set h.next (.cells (T.put (some (.int .i64 ((0 : Nat) : Int))) (T.put (some (sv x.2.1)) (T.put (some (.int .i64 (x.1 : Int))) (zAd [.int .i64 ((0 : Nat) : Int), sv [], .int .i64 ((0 : Nat) : Int)]) 0) 1) 2) 3 none false))) := by
  intro x l h2 l2 m2
  refine ⟨_, zBq (id := h.next) (by simp (disch := omega) only [EL, ↓K3, ↓K1, reduceIte, Nat.reduceEqDiff, Nat.reduceAdd, Nat.reduceLeDiff, l2]) AH.get_set (lst := [.int .i64 (x.1 : Int), sv x.2.1, .int .i64 ((0 : Nat) : Int)]) (by simp (disch := omega) only [EL, ↓K3, ↓K1, reduceIte, Nat.reduceEqDiff, Nat.reduceAdd, Nat.reduceLeDiff, zAe]) (zA4 (v := .int .i64 (x.2.2 : Int)) (by simp (disch := omega) only [EL, ↓K3, ↓K1, reduceIte, Nat.reduceEqDiff, Nat.reduceAdd, Nat.reduceLeDiff]) zAl), rfl, (m1.trans m2).set (Nat.le_refl _) _⟩
 refine zAc ?_
 refine zAy ?_
 refine zAc (zAb fun Q1 hQ => ?_)
 simp (disch := omega) only [EL, ↓K3, ↓K1, reduceIte, Nat.reduceEqDiff, Nat.reduceAdd, Nat.reduceLeDiff, i0, ix]
 rw [ge_rw (zHa H)]
 simp (disch := omega) only [EL, ↓K3, ↓K1, reduceIte, Nat.reduceEqDiff, Nat.reduceAdd, Nat.reduceLeDiff]
 refine hQ _ ?_
 clear hQ Q1
 simp only [zAa]
 have hT : nextT (c :: t) = if zB8 c then wordT (c :: t) else if zBb c then numT (c :: t) else signT (c :: t) := rfl
 rw [hT]
 clear hT
 cases hl : zB8 c with
 | true =>
  rw [if_pos rfl]
  refine zAq (by simp (disch := omega) only [EL, ↓K3, ↓K1, reduceIte, Nat.reduceEqDiff, Nat.reduceAdd, Nat.reduceLeDiff, hl]) ?_
  refine zAc (zAb fun Q1 hQ => ?_)
  simp (disch := omega) only [EL, ↓K3, ↓K1, reduceIte, Nat.reduceEqDiff, Nat.reduceAdd, Nat.reduceLeDiff, i0]
  refine (word_lex H hs).to fun v h2 q => ?_
  obtain ⟨rfl, m2⟩ := q
  have g12 := (m2.keep h.next (by omega)).trans g1
  simp (disch := omega) only [EL, ↓K3, ↓K1, reduceIte, Nat.reduceEqDiff, Nat.reduceAdd, Nat.reduceLeDiff, g12]
  refine hQ _ ?_
  clear hQ Q1
  simp only [zAa]
  refine zAk ?_
  try simp only [zAg, zAf]
  exact fin _ _ h2 (by simp (disch := omega) only [EL, ↓K3, ↓K1, reduceIte, Nat.reduceEqDiff, Nat.reduceAdd, Nat.reduceLeDiff]) m2
 | false =>
  rw [if_neg (by simp)]
  refine wc_no (by simp (disch := omega) only [EL, ↓K3, ↓K1, reduceIte, Nat.reduceEqDiff, Nat.reduceAdd, Nat.reduceLeDiff, hl]) ?_
  refine zAc (zAb fun Q1 hQ => ?_)
  simp (disch := omega) only [EL, ↓K3, ↓K1, reduceIte, Nat.reduceEqDiff, Nat.reduceAdd, Nat.reduceLeDiff, i0, ix]
  rw [ge_rw (zLu H)]
  simp (disch := omega) only [EL, ↓K3, ↓K1, reduceIte, Nat.reduceEqDiff, Nat.reduceAdd, Nat.reduceLeDiff]
  refine hQ _ ?_
  clear hQ Q1
  simp only [zAa]
  cases hd : zBb c with
  | true =>
   rw [if_pos rfl]
   refine zAq (by simp (disch := omega) only [EL, ↓K3, ↓K1, reduceIte, Nat.reduceEqDiff, Nat.reduceAdd, Nat.reduceLeDiff, hd]) ?_
   refine zAc (zAb fun Q1 hQ => ?_)
   simp (disch := omega) only [EL, ↓K3, ↓K1, reduceIte, Nat.reduceEqDiff, Nat.reduceAdd, Nat.reduceLeDiff, i0]
   refine (number_lex H hd hs).to fun v h2 q => ?_
   obtain ⟨rfl, m2⟩ := q
   have g12 := (m2.keep h.next (by omega)).trans g1
   simp (disch := omega) only [EL, ↓K3, ↓K1, reduceIte, Nat.reduceEqDiff, Nat.reduceAdd, Nat.reduceLeDiff, g12]
   refine hQ _ ?_
   clear hQ Q1
   simp only [zAa]
   refine zAk ?_
   try simp only [zAg, zAf]
   exact fin _ _ h2 (by simp (disch := omega) only [EL, ↓K3, ↓K1, reduceIte, Nat.reduceEqDiff, Nat.reduceAdd, Nat.reduceLeDiff]) m2
  | false =>
   rw [if_neg (by simp)]
   refine wc_no (by simp (disch := omega) only [EL, ↓K3, ↓K1, reduceIte, Nat.reduceEqDiff, Nat.reduceAdd, Nat.reduceLeDiff, hd]) ?_
   refine zAo ?_
   simp only [zAa, zAi]
   refine zAc (zAb fun Q1 hQ => ?_)
   simp (disch := omega) only [EL, ↓K3, ↓K1, reduceIte, Nat.reduceEqDiff, Nat.reduceAdd, Nat.reduceLeDiff, i0]
   refine (sign_lex H).to fun v h2 q => ?_
   obtain ⟨rfl, m2⟩ := q
   have g12 := (m2.keep h.next (by omega)).trans g1
   simp (disch := omega) only [EL, ↓K3, ↓K1, reduceIte, Nat.reduceEqDiff, Nat.reduceAdd, Nat.reduceLeDiff, g12]
   refine hQ _ ?_
   clear hQ Q1
   simp only [zAa]
   refine zAk ?_
   try simp only [zAg, zAf]
   exact fin _ _ h2 (by simp (disch := omega) only [EL, ↓K3, ↓K1, reduceIte, Nat.reduceEqDiff, Nat.reduceAdd, Nat.reduceLeDiff]) m2
end
end Go.Ev
namespace Go.Ev
open Go Go.Pa
set_option linter.unusedSimpArgs false
set_option linter.unusedVariables false
set_option maxRecDepth 100000
set_option maxHeartbeats 4000000
abbrev tokL (t : Tok) : List AV := [.int .i64 (t.kind : Int), sv t.text, .int .i64 (t.pos : Int)]
def scanV (y : LR) (lo : Nat) (v : AV) (h1 : AH) : Prop :=
 (∃ ts tl, y = .ok ts ∧ v = .tup [tl, .int .i64 ((0 : Nat) : Int), .int .i64 ((0 : Nat) : Int)] ∧ OwnL h1 lo 3 tl (ts.map tokL) ∧ (ts = [] → tl = .nils)) ∨
 (∃ p e, e ≠ 0 ∧ y = .err p e ∧ v = .tup [.nils, .int .i64 (p : Int), .int .i64 (e : Int)])
theorem OwnL.lt {h : AH} {b es : Nat} {v : AV} {xs : List (List AV)} (x : OwnL h b es v xs) {k o n e : Nat} (he : v = .sl k o n (.rest e)) : k < h.next := by
 cases x with
 | nils => cases he
 | emp => cases he
 | sl a1 a2 a3 => injection he with he; subst he; exact a3
section
variable {tab : Nat → Option AFunc} {h : AH} (H : PT tab)
include H in
theorem scan_lex {s : Str} (hs : s.length ≤ 1000000) : GP tab 21 [sv s] h fun v h1 => scanV (scanS s) h.next v h1 ∧ More h h1 := by
 have i0 : zAh [sv s] = zAd [sv s] := rfl
 refine GE.gp (ge_of H.t21 rfl ?_) (E := fun _ _ => False) fun _ _ => id
 refine zAc (zAb fun Q1 hQ => ?_)
 simp (disch := omega) only [EL, ↓K3, ↓K1, reduceIte, Nat.reduceEqDiff, Nat.reduceAdd, Nat.reduceLeDiff, i0]
 refine hQ _ ?_
 clear hQ Q1
 refine zAc ?_
 refine zAc (zAb fun Q1 hQ => ?_)
 simp (disch := omega) only [EL, ↓K3, ↓K1, reduceIte, Nat.reduceEqDiff, Nat.reduceAdd, Nat.reduceLeDiff, i0]
 refine hQ _ ?_
 clear hQ Q1
 by_cases hl : 4096 < s.length
 ·refine zAq (by simp (disch := omega) only [EL, ↓K3, ↓K1, reduceIte, Nat.reduceEqDiff, Nat.reduceAdd, Nat.reduceLeDiff, hl]) ?_
  refine zAc (zAb fun Q1 hQ => ?_)
  simp (disch := omega) only [EL, ↓K3, ↓K1, reduceIte, Nat.reduceEqDiff, Nat.reduceAdd, Nat.reduceLeDiff]
  refine hQ _ ?_
  clear hQ Q1
  refine zAk ?_
  try simp only [zAg, zAf]
  refine ⟨_, zA4 (v := .nils) (by simp (disch := omega) only [EL, ↓K3, ↓K1, reduceIte, Nat.reduceEqDiff, Nat.reduceAdd, Nat.reduceLeDiff]) (zA4 (v := .int .i64 ((4096 : Nat) : Int)) (by simp (disch := omega) only [EL, ↓K3, ↓K1, reduceIte, Nat.reduceEqDiff, Nat.reduceAdd, Nat.reduceLeDiff]) (zA4 (v := .int .i64 ((4 : Nat) : Int)) (by simp (disch := omega) only [EL, ↓K3, ↓K1, reduceIte, Nat.reduceEqDiff, Nat.reduceAdd, Nat.reduceLeDiff]) zAl)), .inr ⟨4096, 4, by decide, by unfold scanS; rw [if_pos hl], rfl⟩, More.refl h⟩
 refine wc_no (by simp (disch := omega) only [EL, ↓K3, ↓K1, reduceIte, Nat.reduceEqDiff, Nat.reduceAdd, Nat.reduceLeDiff, hl]) ?_
 refine zAo ?_
 simp only [zAa]
 obtain ⟨y, hy⟩ : ∃ y, scanL s (s.length + 1) (skipS s) [] = y := ⟨_, rfl⟩
 have hne : y ≠ .out := by rw [← hy]; exact zK5 _ _ _ (by omega) (zEi _ _)
 have hyS : scanS s = y := by unfold scanS; rw [if_neg hl]; exact hy
 rw [hyS]
 clear hyS
 refine zAc (zAb fun Q1 hQ => ?_)
 simp (disch := omega) only [EL, ↓K3, ↓K1, reduceIte, Nat.reduceEqDiff, Nat.reduceAdd, Nat.reduceLeDiff]
 refine hQ _ ?_
 clear hQ Q1
 refine zAc ?_
 refine zAc ?_
 refine zAb fun Q1 hQ => ?_
 simp (disch := omega) only [EL, ↓K3, ↓K1, reduceIte, Nat.reduceEqDiff, Nat.reduceAdd, Nat.reduceLeDiff, i0]
 rw [ge_rw (skip_gp H hs)]
 simp (disch := omega) only [EL, ↓K3, ↓K1, reduceIte, Nat.reduceEqDiff, Nat.reduceAdd, Nat.reduceLeDiff]
 refine hQ _ ?_
 clear hQ Q1
 simp only [zAa]
 have errEnd : ∀ (l : T AV) (h3 : AH) (p e : Nat), e ≠ 0 → l.get 2 = some (.int .i64 (p : Int)) → l.get 4 = some (.int .i64 (e : Int)) → More h h3 → y = .err p e → ∀ Q : Res → Prop, (∀ l' h', zDw [.val (.l 8), .val (.l 9), .val (.l 10)] (fun v h1 => scanV y h.next v h1 ∧ More h h1) (fun _ _ => False) (.ret l' [] h') → Q (.ret l' [] h')) →
   WC tab (.seq (.ops [⟨.move (.l 2), none, none, []⟩, ⟨.move (.l 4), none, none, []⟩, ⟨.move (.c .nils), none, some 8, []⟩, ⟨.move (.t 2), none, some 9, []⟩, ⟨.move (.t 2), none, some 10, []⟩]) .ret) l [] h3 Q := by
  intro l h3 p e he l2 l4 m3 hye Q hq
  refine zAc (zAb fun Q1 hQ => ?_)
  simp (disch := omega) only [EL, ↓K3, ↓K1, reduceIte, Nat.reduceEqDiff, Nat.reduceAdd, Nat.reduceLeDiff, l2, l4]
  refine hQ _ ?_
  clear hQ Q1
  refine zAk (hq _ _ ?_)
  exact ⟨_, zA4 (v := .nils) (by simp (disch := omega) only [EL, ↓K3, ↓K1, reduceIte, Nat.reduceEqDiff, Nat.reduceAdd, Nat.reduceLeDiff]) (zA4 (v := .int .i64 (p : Int)) (by simp (disch := omega) only [EL, ↓K3, ↓K1, reduceIte, Nat.reduceEqDiff, Nat.reduceAdd, Nat.reduceLeDiff]) (zA4 (v := .int .i64 (e : Int)) (by simp (disch := omega) only [EL, ↓K3, ↓K1, reduceIte, Nat.reduceEqDiff, Nat.reduceAdd, Nat.reduceLeDiff]) zAl)), .inr ⟨p, e, he, hye, rfl⟩, m3⟩
 refine zAy ?_
 refine zB2 (fun k l d1 h1 => ∃ (at_ : Nat) (acc : List Tok) (tl : AV), d1 = [] ∧ l.get 0 = some (sv s) ∧ l.get 2 = some (.int .i64 (at_ : Int)) ∧ l.get 7 = some tl ∧ More h h1 ∧ at_ ≤ s.length ∧ acc.length ≤ at_ ∧ OwnL h1 h.next 3 tl (acc.map tokL) ∧ (acc = [] → tl = .nils) ∧ scanL s k at_ acc = y) ?_ (s.length + 1) ?_
 ·rintro k l d1 h1 ⟨at_, acc, tl, rfl, l0, l2, l7, m1, hat, hacc, own, emp, hy⟩
  cases k with
  | zero => exact absurd (by rw [← hy]; rfl) hne
  | succ k =>
   unfold scanL at hy
   refine zAc ?_
   refine zAc (zAb fun Q1 hQ => ?_)
   by_cases hlt : at_ < s.length
   rotate_left
   ·rw [if_neg hlt] at hy
    simp (disch := omega) only [EL, ↓K3, ↓K1, reduceIte, Nat.reduceEqDiff, Nat.reduceAdd, Nat.reduceLeDiff, l0, l2, hlt]
    refine hQ _ ?_
    clear hQ Q1
    simp only [zAa]
    refine wc_no (by simp (disch := omega) only [EL, ↓K3, ↓K1, reduceIte, Nat.reduceEqDiff, Nat.reduceAdd, Nat.reduceLeDiff]) ?_
    refine zC5 ?_
    simp only [zA8, zA5, if_true, zAa]
    have mvt : ∀ h', oMove (.c tl) .leaf [] h' = .val tl h' := fun h' => zLi own.mv
    refine zAc (zAb fun Q1 hQ => ?_)
    simp (disch := omega) only [EL, ↓K3, ↓K1, reduceIte, Nat.reduceEqDiff, Nat.reduceAdd, Nat.reduceLeDiff, l7, mvt]
    refine hQ _ ?_
    clear hQ Q1
    refine zAk ?_
    try simp only [zAg, zAf]
    exact ⟨_, zA4 (v := tl) (by simp (disch := omega) only [EL, ↓K3, ↓K1, reduceIte, Nat.reduceEqDiff, Nat.reduceAdd, Nat.reduceLeDiff]) (zA4 (v := .int .i64 ((0 : Nat) : Int)) (by simp (disch := omega) only [EL, ↓K3, ↓K1, reduceIte, Nat.reduceEqDiff, Nat.reduceAdd, Nat.reduceLeDiff]) (zA4 (v := .int .i64 ((0 : Nat) : Int)) (by simp (disch := omega) only [EL, ↓K3, ↓K1, reduceIte, Nat.reduceEqDiff, Nat.reduceAdd, Nat.reduceLeDiff]) zAl)), .inl ⟨acc, tl, hy.symm, rfl, own, emp⟩, m1⟩
   rw [if_pos hlt] at hy
   simp (disch := omega) only [EL, ↓K3, ↓K1, reduceIte, Nat.reduceEqDiff, Nat.reduceAdd, Nat.reduceLeDiff, l0, l2, hlt]
   refine hQ _ ?_
   clear hQ Q1
   simp only [zAa]
   refine zAq (by simp (disch := omega) only [EL, ↓K3, ↓K1, reduceIte, Nat.reduceEqDiff, Nat.reduceAdd, Nat.reduceLeDiff]) ?_
   refine zAo ?_
   simp only [zAa]
   have sl : ∀ h' : AH, zCz (.c (sv s)) (some (.c (.int .i64 (at_ : Int)))) none .leaf [] h' = .val (sv (s.drop at_)) h' := fun h' => zG1 hat
   refine zAc ?_
   refine zAy ?_
   refine zAc (zAb fun Q1 hQ => ?_)
   simp (disch := omega) only [EL, ↓K3, ↓K1, reduceIte, Nat.reduceEqDiff, Nat.reduceAdd, Nat.reduceLeDiff, l0, l2, sl]
   refine (next_lex H (s := s.drop at_) (fun e => by have := congrArg List.length e; simp at this; omega) (by simp; omega)).to fun v h2 q => ?_
   obtain ⟨rfl, m2⟩ := q
   obtain ⟨x, hx⟩ : ∃ x, x = nextT (s.drop at_) := ⟨_, rfl⟩
   have hok := zLh (s := s.drop at_)
   rw [← hx] at hy hok ⊢
   obtain ⟨kd, w, er⟩ := x
   simp only at hy hok ⊢
   have n2 := m2.next
   simp (disch := omega) only [EL, ↓K3, ↓K1, reduceIte, Nat.reduceEqDiff, Nat.reduceAdd, Nat.reduceLeDiff]
   refine hQ _ ?_
   clear hQ Q1
   refine zDc fun h3 n3 g3 m3 => ?_
   obtain ⟨ct, gt, k0, k1, k2⟩ := g3
   simp only [zAa]
   have m13 := m1.trans (m2.trans m3)
   have own3 := own.more (m2.trans m3)
   have n1 := m1.next
   refine zAc ?_
   refine zAc (zAb fun Q1 hQ => ?_)
   by_cases he : er = 0
   rotate_left
   ·rw [if_pos he] at hy
    have he' : ¬ (er : Int) = ((0 : Nat) : Int) := by omega
    simp (disch := omega) only [EL, ↓K3, ↓K1, reduceIte, Nat.reduceEqDiff, Nat.reduceAdd, Nat.reduceLeDiff, he']
    refine hQ _ ?_
    clear hQ Q1
    simp only [zAa]
    refine zAq (by simp (disch := omega) only [EL, ↓K3, ↓K1, reduceIte, Nat.reduceEqDiff, Nat.reduceAdd, Nat.reduceLeDiff]) ?_
    refine errEnd _ h3 at_ er he (by simp (disch := omega) only [EL, ↓K3, ↓K1, reduceIte, Nat.reduceEqDiff, Nat.reduceAdd, Nat.reduceLeDiff, l2]) (by simp (disch := omega) only [EL, ↓K3, ↓K1, reduceIte, Nat.reduceEqDiff, Nat.reduceAdd, Nat.reduceLeDiff]) m13 hy.symm _ fun l' h' q => ?_
    try simp only [zAg, zAf]
    exact q
   ·rw [if_neg (not_not_intro he)] at hy
    obtain ⟨p1, p2, _, _⟩ := hok he
    simp only [List.length_drop] at p2
    subst he
    simp (disch := omega) only [EL, ↓K3, ↓K1, reduceIte, Nat.reduceEqDiff, Nat.reduceAdd, Nat.reduceLeDiff]
    refine hQ _ ?_
    clear hQ Q1
    simp only [zAa]
    refine wc_no (by simp (disch := omega) only [EL, ↓K3, ↓K1, reduceIte, Nat.reduceEqDiff, Nat.reduceAdd, Nat.reduceLeDiff]) ?_
    refine zAo ?_
    simp only [zAa]
    refine zAc (zAb fun Q1 hQ => ?_)
    simp (disch := omega) only [EL, ↓K3, ↓K1, reduceIte, Nat.reduceEqDiff, Nat.reduceAdd, Nat.reduceLeDiff, l2, gt, k2]
    refine hQ _ ?_
    clear hQ Q1
    have gt4 : (h3.set h2.next (.cells (T.put (some (.int .i64 (at_ : Int))) ct 2) 3 none false)).mem.get h2.next = some (.cells (T.put (some (.int .i64 (at_ : Int))) ct 2) 3 none false) := AH.get_set
    have o4 : Only h2.next h3 (h3.set h2.next (.cells (T.put (some (.int .i64 (at_ : Int))) ct 2) 3 none false)) := Only.set
    have m24 : More h2 (h3.set h2.next (.cells (T.put (some (.int .i64 (at_ : Int))) ct 2) 3 none false)) := m3.set (Nat.le_refl _) _
    generalize h3.set h2.next (.cells (T.put (some (.int .i64 (at_ : Int))) ct 2) 3 none false) = h4 at *
    have n4 := o4.next
    have own4 := own.more (m2.trans m24)
    try simp only [zAa]
    have mvt : ∀ h', oMove (.c tl) .leaf [] h' = .val tl h' := fun h' => zLi own.mv
    refine zAc (zAb fun Q1 hQ => ?_)
    simp (disch := omega) only [EL, ↓K3, ↓K1, reduceIte, Nat.reduceEqDiff, Nat.reduceAdd, Nat.reduceLeDiff, l7, mvt, gt4, k0, k1, zAe]
    have m5 : More h4 (h4.add (.cells (zAd [.int .i64 (kd : Int), sv w, .int .i64 (at_ : Int)]) 3 none false)) := More.add _ _
    have g5 : (h4.add (.cells (zAd [.int .i64 (kd : Int), sv w, .int .i64 (at_ : Int)]) 3 none false)).mem.get h4.next = some (.cells (zAd [.int .i64 (kd : Int), sv w, .int .i64 (at_ : Int)]) 3 none false) := by rw [AH.add_mem, T.get_put_self]
    have n5 : (h4.add (.cells (zAd [.int .i64 (kd : Int), sv w, .int .i64 (at_ : Int)]) 3 none false)).next = h4.next + 1 := rfl
    generalize h4.add (.cells (zAd [.int .i64 (kd : Int), sv w, .int .i64 (at_ : Int)]) 3 none false) = h5 at *
    have own5 := own4.more m5
    obtain ⟨tl', h6, ap, own6, kp6, n6, keep6, fresh6⟩ := own5.append (src := .sl h4.next 0 1 (.known 1)) (new := tokL ⟨kd, w, at_⟩) (by' := 32) (fun k => src_sl (by decide) g5 (by simp (disch := omega) only [EL, ↓K3, ↓K1, reduceIte, Nat.reduceEqDiff, Nat.reduceAdd, Nat.reduceLeDiff, zAe]) k) rfl (by omega) (by omega) (by simp; omega) (by omega)
    have gt6 := (keep6 h2.next (by omega) (fun o n e he => by have := own.lt he; omega)).trans ((m5.keep h2.next (by omega)).trans gt4)
    have mv6 : ∀ h', oMove (.c tl') .leaf [] h' = .val tl' h' := fun h' => zLi own6.mv
    simp (disch := omega) only [EL, ↓K3, ↓K1, reduceIte, Nat.reduceEqDiff, Nat.reduceAdd, Nat.reduceLeDiff, ap, mv6]
    refine hQ _ ?_
    clear hQ Q1
    simp only [zAa]
    have w1 : IntKind.i64.wrap ((at_ : Int) + (w.length : Int)) = ((at_ + w.length : Nat) : Int) := by rw [zIl (by omega) (by omega)]; omega
    refine zAb fun Q1 hQ => ?_
    simp (disch := omega) only [EL, ↓K3, ↓K1, reduceIte, Nat.reduceEqDiff, Nat.reduceAdd, Nat.reduceLeDiff, l2, gt6, k1, w1]
    refine hQ _ ?_
    clear hQ Q1
    simp only [zAa, zAi]
    have sl2 : ∀ h' : AH, zCz (.c (sv s)) (some (.c (.int .i64 ((at_ + w.length : Nat) : Int)))) none .leaf [] h' = .val (sv (s.drop (at_ + w.length))) h' := fun h' => zG1 (by omega)
    refine zAb fun Q1 hQ => ?_
    simp (disch := omega) only [EL, ↓K3, ↓K1, reduceIte, Nat.reduceEqDiff, Nat.reduceAdd, Nat.reduceLeDiff, l0, l2, sl2]
    rw [ge_rw (skip_gp H (by simp; omega))]
    have p4 := zEi ((s.drop (at_ + w.length)).length + 1) (s.drop (at_ + w.length))
    have p5 : skipS (s.drop (at_ + w.length)) ≤ s.length - (at_ + w.length) := by unfold skipS; simp only [List.length_drop] at p4 ⊢; exact p4
    have w2 : IntKind.i64.wrap (((at_ + w.length : Nat) : Int) + (skipS (s.drop (at_ + w.length)) : Int)) = ((at_ + w.length + skipS (s.drop (at_ + w.length)) : Nat) : Int) := by rw [zIl (by omega) (by omega)]; omega
    simp (disch := omega) only [EL, ↓K3, ↓K1, reduceIte, Nat.reduceEqDiff, Nat.reduceAdd, Nat.reduceLeDiff, w2]
    refine hQ _ ?_
    clear hQ Q1
    simp only [zAa]
    have m6 : More h h6 := ⟨by omega, fun k hk => by rw [kp6.keep k hk, m5.keep k (by omega), o4.keep k (by omega)]; exact m13.keep k hk⟩
    refine ⟨k, by omega, at_ + w.length + skipS (s.drop (at_ + w.length)), acc ++ [⟨kd, w, at_⟩], tl', trivial, by simp (disch := omega) only [EL, ↓K3, ↓K1, reduceIte, Nat.reduceEqDiff, Nat.reduceAdd, Nat.reduceLeDiff, l0], T.get_put_self _ _ _, by simp (disch := omega) only [EL, ↓K3, ↓K1, reduceIte, Nat.reduceEqDiff, Nat.reduceAdd, Nat.reduceLeDiff], m6, by omega, by simp; omega, by rw [List.map_append]; exact own6, fun e => by simp at e, hy⟩
 ·exact ⟨skipS s, [], .nils, rfl, by simp (disch := omega) only [EL, ↓K3, ↓K1, reduceIte, Nat.reduceEqDiff, Nat.reduceAdd, Nat.reduceLeDiff, i0], by simp (disch := omega) only [EL, ↓K3, ↓K1, reduceIte, Nat.reduceEqDiff, Nat.reduceAdd, Nat.reduceLeDiff], by simp (disch := omega) only [EL, ↓K3, ↓K1, reduceIte, Nat.reduceEqDiff, Nat.reduceAdd, Nat.reduceLeDiff], More.refl h, zEi _ _, by simp, .nils, fun _ => rfl, hy⟩
end
end Go.Ev
namespace Go.Ev
open Go Go.Pa
set_option linter.unusedSimpArgs false
set_option linter.unusedVariables false
set_option maxRecDepth 100000
set_option maxHeartbeats 4000000
end Go.Ev
namespace Go.Pa
def zG7 (n m : Nat) (s : Str) : PR (List Tree) := match scanS s with | .ok ts => progL ts s.length n m 0 0 [] | .err p e => .err p e | .out => .out
end Go.Pa
namespace Go.Ev
open Go Go.Pa
theorem OwnL.toks {h : AH} {b r : Nat} {v : AV} {ts : List Tok} (x : OwnL h b 3 v (ts.map tokL)) (e : ts = [] → v = .nils) (hr : h.next ≤ r) : TokA h r v ts := by
 cases ts with
 | nil => exact .inl ⟨rfl, e rfl⟩
 | cons t ts =>
  obtain ⟨id, c, h1, h2, h3, h4, h5⟩ := x.open (by simp)
  refine .inr ⟨id, c, _, _, by rw [h1, List.length_map], by omega, h4, fun j hj => ?_⟩
  obtain ⟨_, h6⟩ := h5 j (by simpa using hj)
  have e : ((t :: ts).map tokL)[j]'(by simpa using hj) = tokL ((t :: ts)[j]) := List.getElem_map ..
  rw [e] at h6
  exact ⟨h6 0 (by omega), h6 1 (by omega), h6 2 (by omega)⟩
theorem boxes2 (h : AH) (o1 o2 o3 o4 : AObj) : More h ((((h.add o1).add o2).set h.next o3).set (h.next + 1) o4) ∧ ((((h.add o1).add o2).set h.next o3).set (h.next + 1) o4).next = h.next + 2 ∧ ((((h.add o1).add o2).set h.next o3).set (h.next + 1) o4).mem.get h.next = some o3 ∧ ((((h.add o1).add o2).set h.next o3).set (h.next + 1) o4).mem.get (h.next + 1) = some o4 := by
 refine ⟨(((More.add h o1).trans (More.add _ o2)).set (Nat.le_refl _) _).set (by omega) _, rfl, ?_, AH.get_set⟩
 rw [AH.set_mem, T.get_put_ne _ _ _ _ (by omega), AH.set_mem, T.get_put_self]
def parseV (y : PR (List Tree)) (lo : Nat) (v : AV) (h1 : AH) : Prop :=
 (∃ ks i d u, y = .ok ks i d ∧ v = .tup [.agg [u], .int .i64 ((0 : Nat) : Int), .int .i64 ((0 : Nat) : Int)] ∧ TreeR h1 (fun k => lo ≤ k) u (.mk 1 [] [] 0 0 ks)) ∨
 (∃ p e, y = .err p e ∧ v = .tup [.agg [.nilp], .int .i64 (p : Int), .int .i64 (e : Int)])
section
variable {tab : Nat → Option AFunc} {h : AH} (H : PT tab)
include H in
theorem parse_gp {n m : Nat} {s : Str} (hs : s.length ≤ 1000000) {y : PR (List Tree)} (hy : zG7 n m s = y) (hne : y ≠ .out) : GP tab 9 [sv s] h fun v h1 => More h h1 ∧ parseV y h.next v h1 := by
 have i0 : zAh [sv s] = zAd [sv s] := rfl
 refine GE.gp (ge_of H.t9 rfl ?_) (E := fun _ _ => False) fun _ _ => id
 refine zAc (zAb fun Q1 hQ => ?_)
 simp (disch := omega) only [EL, ↓K3, ↓K1, reduceIte, Nat.reduceEqDiff, Nat.reduceAdd, Nat.reduceLeDiff, i0]
 refine hQ _ ?_
 clear hQ Q1
 have m1 : More h (h.add (.cells (zAd [.nilp]) 1 none false)) := More.add _ _
 have g1 : (h.add (.cells (zAd [.nilp]) 1 none false)).mem.get h.next = some (.cells (zAd [.nilp]) 1 none false) := by rw [AH.add_mem, T.get_put_self]
 have n1 : (h.add (.cells (zAd [.nilp]) 1 none false)).next = h.next + 1 := rfl
 generalize h.add (.cells (zAd [.nilp]) 1 none false) = h1 at *
 simp only [zAa]
 refine zAc (zAb fun Q1 hQ => ?_)
 simp (disch := omega) only [EL, ↓K3, ↓K1, reduceIte, Nat.reduceEqDiff, Nat.reduceAdd, Nat.reduceLeDiff, i0]
 refine (scan_lex H hs).to fun v h2 q => ?_
 obtain ⟨sq, m2⟩ := q
 have n2 := m2.next
 have g12 := (m2.keep h.next (by omega)).trans g1
 rcases sq with ⟨ts, tl, hsc, rfl, own, emp⟩ | ⟨p, e, he, hsc, rfl⟩
 rotate_left
 ·have e0 : ¬ (e : Int) = ((0 : Nat) : Int) := by omega
  simp (disch := omega) only [EL, ↓K3, ↓K1, reduceIte, Nat.reduceEqDiff, Nat.reduceAdd, Nat.reduceLeDiff, e0]
  refine hQ _ ?_
  clear hQ Q1
  simp only [zAa]
  refine zAc ?_
  refine zAc (zAb fun Q1 hQ => ?_)
  simp (disch := omega) only [EL, ↓K3, ↓K1, reduceIte, Nat.reduceEqDiff, Nat.reduceAdd, Nat.reduceLeDiff, e0]
  refine hQ _ ?_
  clear hQ Q1
  refine zAq (by simp (disch := omega) only [EL, ↓K3, ↓K1, reduceIte, Nat.reduceEqDiff, Nat.reduceAdd, Nat.reduceLeDiff]) ?_
  refine zAc (zAb fun Q1 hQ => ?_)
  simp (disch := omega) only [EL, ↓K3, ↓K1, reduceIte, Nat.reduceEqDiff, Nat.reduceAdd, Nat.reduceLeDiff, g12]
  refine hQ _ ?_
  clear hQ Q1
  refine zAk ?_
  try simp only [zAg, zAf]
  refine ⟨_, zBq (by simp (disch := omega) only [EL, ↓K3, ↓K1, reduceIte, Nat.reduceEqDiff, Nat.reduceAdd, Nat.reduceLeDiff]) AH.get_set (lst := [.nilp]) (by simp (disch := omega) only [EL, ↓K3, ↓K1, reduceIte, Nat.reduceEqDiff, Nat.reduceAdd, Nat.reduceLeDiff, zAe]) (zA4 (v := .int .i64 (p : Int)) (by simp (disch := omega) only [EL, ↓K3, ↓K1, reduceIte, Nat.reduceEqDiff, Nat.reduceAdd, Nat.reduceLeDiff]) (zA4 (v := .int .i64 (e : Int)) (by simp (disch := omega) only [EL, ↓K3, ↓K1, reduceIte, Nat.reduceEqDiff, Nat.reduceAdd, Nat.reduceLeDiff]) zAl)), (m1.trans m2).set (Nat.le_refl _) _, .inr ⟨p, e, ?_, rfl⟩⟩
  rw [← hy]; unfold zG7; rw [hsc]
 ·obtain ⟨hl4, sok⟩ := zK4 hsc
  have hy2 : progL ts s.length n m 0 0 [] = y := by rw [← hy]; unfold zG7; rw [hsc]
  have mvt : ∀ h', oMove (.c tl) .leaf [] h' = .val tl h' := fun h' => zLi own.mv
  have ctl : cellsOf tl = some [tl] := by
   cases hts : ts with
   | nil => rw [emp hts]; rfl
   | cons t ts' =>
    rw [hts] at own
    obtain ⟨id, c, h1, _⟩ := own.open (by simp)
    rw [h1]; rfl
  have ext : ∀ (b c : AV) h', zDe 0 (.c (.tup [tl, b, c])) .leaf [] h' = .val tl h' := fun b c h' => by rw [extract_tup (by exact own.mv)]; rfl
  simp (disch := omega) only [EL, ↓K3, ↓K1, reduceIte, Nat.reduceEqDiff, Nat.reduceAdd, Nat.reduceLeDiff, mvt, ext]
  refine hQ _ ?_
  clear hQ Q1
  simp only [zAa]
  refine zAc ?_
  refine zAc (zAb fun Q1 hQ => ?_)
  simp (disch := omega) only [EL, ↓K3, ↓K1, reduceIte, Nat.reduceEqDiff, Nat.reduceAdd, Nat.reduceLeDiff]
  refine hQ _ ?_
  clear hQ Q1
  refine wc_no (by simp (disch := omega) only [EL, ↓K3, ↓K1, reduceIte, Nat.reduceEqDiff, Nat.reduceAdd, Nat.reduceLeDiff]) ?_
  refine zAo ?_
  simp only [zAa]
  have lnt := sok.len
  refine zAc (zAb fun Q1 hQ => ?_)
  simp (disch := omega) only [EL, ↓K3, ↓K1, reduceIte, Nat.reduceEqDiff, Nat.reduceAdd, Nat.reduceLeDiff, i0, mvt, ctl]
  refine hQ _ ?_
  clear hQ Q1
  have m3 : More h2 (h2.add (.cells (zAd [tl, .int .i64 ((0 : Nat) : Int), .int .i64 (s.length : Int), .int .i64 ((0 : Nat) : Int)]) 4 none false)) := More.add _ _
  have g3 : (h2.add (.cells (zAd [tl, .int .i64 ((0 : Nat) : Int), .int .i64 (s.length : Int), .int .i64 ((0 : Nat) : Int)]) 4 none false)).mem.get h2.next = some (.cells (zAd [tl, .int .i64 ((0 : Nat) : Int), .int .i64 (s.length : Int), .int .i64 ((0 : Nat) : Int)]) 4 none false) := by rw [AH.add_mem, T.get_put_self]
  have n3 : (h2.add (.cells (zAd [tl, .int .i64 ((0 : Nat) : Int), .int .i64 (s.length : Int), .int .i64 ((0 : Nat) : Int)]) 4 none false)).next = h2.next + 1 := rfl
  generalize h2.add (.cells (zAd [tl, .int .i64 ((0 : Nat) : Int), .int .i64 (s.length : Int), .int .i64 ((0 : Nat) : Int)]) 4 none false) = h3 at *
  simp only [zAa]
  have g13 := (m3.keep h.next (by omega)).trans g12
  have R3 : RS ts s.length h3 h2.next 0 0 := by
   refine ⟨by omega, by omega, by omega, by omega, ?_, ?_, _, tl, g3, rfl, rfl, rfl, rfl, ?_⟩
   ·intro j
    rcases Nat.lt_or_ge j ts.length with hj | hj
    ·rw [zKd hj]; have := (sok.tok _ (List.getElem_mem hj)).2.1; omega
    ·rw [zEa (by omega)]; simp
   ·intro j hk
    rcases Nat.lt_or_ge j ts.length with hj | hj
    ·rw [zKd hj] at hk ⊢; exact (sok.tok _ (List.getElem_mem hj)).2.2 hk (by omega)
    ·rw [zEa (by omega)] at hk; cases hk
   ·exact (own.toks emp (Nat.le_refl _)).keep fun k hk => m3.keep k hk
  refine zAc (zAb fun Q1 hQ => ?_)
  simp (disch := omega) only [EL, ↓K3, ↓K1, reduceIte, Nat.reduceEqDiff, Nat.reduceAdd, Nat.reduceLeDiff]
  refine (prog_gp H R3 (by omega) hy2 hne).to fun v h4 q => ?_
  obtain ⟨b4, pv⟩ := q
  have n4 := b4.next
  have g14 := (b4.keep h.next (by omega) (by omega)).trans g13
  rcases pv with ⟨ks, i, d, u, hye, rfl, tr⟩ | ⟨p, e, hye, rfl⟩
  ·obtain ⟨ui, rfl, hu1, hu2⟩ := tr.ptr
   simp (disch := omega) only [EL, ↓K3, ↓K1, reduceIte, Nat.reduceEqDiff, Nat.reduceAdd, Nat.reduceLeDiff]
   obtain ⟨m5, n5, ga, gb⟩ := boxes2 h4 (.cells (zAd [.nilp]) 1 none false) (.cells (zAd [.int .i64 ((0 : Nat) : Int), .int .i64 ((0 : Nat) : Int)]) 2 none false) (.cells (T.put (some (.ptr ui 0)) (zAd [.nilp]) 0) 1 none false) (.cells (T.put (some (.int .i64 ((0 : Nat) : Int))) (T.put (some (.int .i64 ((0 : Nat) : Int))) (zAd [.int .i64 ((0 : Nat) : Int), .int .i64 ((0 : Nat) : Int)]) 0) 1) 2 none false)
   generalize ((((h4.add (.cells (zAd [.nilp]) 1 none false)).add (.cells (zAd [.int .i64 ((0 : Nat) : Int), .int .i64 ((0 : Nat) : Int)]) 2 none false)).set h4.next (.cells (T.put (some (.ptr ui 0)) (zAd [.nilp]) 0) 1 none false)).set (h4.next + 1) (.cells (T.put (some (.int .i64 ((0 : Nat) : Int))) (T.put (some (.int .i64 ((0 : Nat) : Int))) (zAd [.int .i64 ((0 : Nat) : Int), .int .i64 ((0 : Nat) : Int)]) 0) 1) 2 none false)) = h5 at *
   refine hQ _ ?_
   clear hQ Q1
   simp only [zAa]
   have g15 := (m5.keep h.next (by omega)).trans g14
   refine zAc (zAb fun Q1 hQ => ?_)
   simp (disch := omega) only [EL, ↓K3, ↓K1, reduceIte, Nat.reduceEqDiff, Nat.reduceAdd, Nat.reduceLeDiff, ga, gb, g15, zAe, zB1, zBx]
   refine hQ _ ?_
   clear hQ Q1
   refine zAk ?_
   try simp only [zAg, zAf]
   have o6 : Only h.next h5 (h5.set h.next (.cells (T.put (some (.ptr ui 0)) (zAd [.nilp]) 0) 1 none false)) := Only.set
   refine ⟨_, zBq (by simp (disch := omega) only [EL, ↓K3, ↓K1, reduceIte, Nat.reduceEqDiff, Nat.reduceAdd, Nat.reduceLeDiff]) AH.get_set (lst := [(.ptr ui 0)]) (by simp (disch := omega) only [EL, ↓K3, ↓K1, reduceIte, Nat.reduceEqDiff, Nat.reduceAdd, Nat.reduceLeDiff, zAe]) (zA4 (v := .int .i64 ((0 : Nat) : Int)) (by simp (disch := omega) only [EL, ↓K3, ↓K1, reduceIte, Nat.reduceEqDiff, Nat.reduceAdd, Nat.reduceLeDiff]) (zA4 (v := .int .i64 ((0 : Nat) : Int)) (by simp (disch := omega) only [EL, ↓K3, ↓K1, reduceIte, Nat.reduceEqDiff, Nat.reduceAdd, Nat.reduceLeDiff]) zAl)), ?_, .inl ⟨ks, i, d, _, hye, rfl, TreeR.keep ((m5.stay (F := fun k => h3.next ≤ k)).trans (o6.stay (by omega))) (fun k hk _ => by show h.next ≤ k; omega) tr⟩⟩
   exact ⟨by rw [o6.next]; omega, fun k hk => by rw [o6.keep k (by omega), m5.keep k (by omega), b4.keep k (by omega) (by omega), m3.keep k (by omega), m2.keep k (by omega), m1.keep k hk]⟩
  ·simp (disch := omega) only [EL, ↓K3, ↓K1, reduceIte, Nat.reduceEqDiff, Nat.reduceAdd, Nat.reduceLeDiff]
   obtain ⟨m5, n5, ga, gb⟩ := boxes2 h4 (.cells (zAd [.nilp]) 1 none false) (.cells (zAd [.int .i64 ((0 : Nat) : Int), .int .i64 ((0 : Nat) : Int)]) 2 none false) (.cells (T.put (some .nilp) (zAd [.nilp]) 0) 1 none false) (.cells (T.put (some (.int .i64 (e : Int))) (T.put (some (.int .i64 (p : Int))) (zAd [.int .i64 ((0 : Nat) : Int), .int .i64 ((0 : Nat) : Int)]) 0) 1) 2 none false)
   generalize ((((h4.add (.cells (zAd [.nilp]) 1 none false)).add (.cells (zAd [.int .i64 ((0 : Nat) : Int), .int .i64 ((0 : Nat) : Int)]) 2 none false)).set h4.next (.cells (T.put (some .nilp) (zAd [.nilp]) 0) 1 none false)).set (h4.next + 1) (.cells (T.put (some (.int .i64 (e : Int))) (T.put (some (.int .i64 (p : Int))) (zAd [.int .i64 ((0 : Nat) : Int), .int .i64 ((0 : Nat) : Int)]) 0) 1) 2 none false)) = h5 at *
   refine hQ _ ?_
   clear hQ Q1
   simp only [zAa]
   have g15 := (m5.keep h.next (by omega)).trans g14
   refine zAc (zAb fun Q1 hQ => ?_)
   simp (disch := omega) only [EL, ↓K3, ↓K1, reduceIte, Nat.reduceEqDiff, Nat.reduceAdd, Nat.reduceLeDiff, ga, gb, g15, zAe, zB1, zBx]
   refine hQ _ ?_
   clear hQ Q1
   refine zAk ?_
   try simp only [zAg, zAf]
   have o6 : Only h.next h5 (h5.set h.next (.cells (T.put (some .nilp) (zAd [.nilp]) 0) 1 none false)) := Only.set
   refine ⟨_, zBq (by simp (disch := omega) only [EL, ↓K3, ↓K1, reduceIte, Nat.reduceEqDiff, Nat.reduceAdd, Nat.reduceLeDiff]) AH.get_set (lst := [.nilp]) (by simp (disch := omega) only [EL, ↓K3, ↓K1, reduceIte, Nat.reduceEqDiff, Nat.reduceAdd, Nat.reduceLeDiff, zAe]) (zA4 (v := .int .i64 (p : Int)) (by simp (disch := omega) only [EL, ↓K3, ↓K1, reduceIte, Nat.reduceEqDiff, Nat.reduceAdd, Nat.reduceLeDiff]) (zA4 (v := .int .i64 (e : Int)) (by simp (disch := omega) only [EL, ↓K3, ↓K1, reduceIte, Nat.reduceEqDiff, Nat.reduceAdd, Nat.reduceLeDiff]) zAl)), ?_, .inr ⟨p, e, hye, rfl⟩⟩
   exact ⟨by rw [o6.next]; omega, fun k hk => by rw [o6.keep k (by omega), m5.keep k (by omega), b4.keep k (by omega) (by omega), m3.keep k (by omega), m2.keep k (by omega), m1.keep k hk]⟩
end
end Go.Ev
namespace Go.Pa
open Go.Ev
theorem zAs {α β : Type} {x : PR α} {k : α → Nat → Nat → PR β} (h : x ≠ .out) (h' : ∀ a i d, x = .ok a i d → k a i d ≠ .out) : x.bind k ≠ .out := by
 cases x with
 | ok a i d => exact h' a i d rfl
 | err p e => exact fun e => by cases e
 | out => exact absurd rfl h
section
variable {ts : List Tok} {en : Nat}
theorem zBd {s : Str} {i d : Nat} : zA7 ts en s i d ≠ .out := by unfold zA7; split <;> simp [failP]
theorem zGc {i d : Nat} : wordS ts en i d ≠ .out := by unfold wordS; split <;> simp [failP]
theorem zD1 {α : Type} {i : Nat} : (failP ts en i : PR α) ≠ .out := by simp [failP]
theorem zGl {α : Type} {i d : Nat} {k : Nat → Nat → PR α} (h : k i (d + 1) ≠ .out) : zDs ts en i d k ≠ .out := by
 unfold zDs
 split
 ·simp
 ·exact zAs h fun _ _ _ _ => by simp
theorem kind_lt {i k : Nat} (h : (now ts en i).kind = k) (hk : k ≠ 0) : i < ts.length := by
 rcases Nat.lt_or_ge i ts.length with e | e
 ·exact e
 ·rw [zEa (by omega)] at h; exact absurd h.symm hk
theorem zA2 {s : Str} {i d p i' d' : Nat} (h : zA7 ts en s i d = .ok p i' d') : i < ts.length ∧ i' = i + 1 := by
 obtain ⟨h1, _, h2, _⟩ := zEy h; exact ⟨is_lt h1, h2⟩
theorem zDy {i d i' d' : Nat} {t : Tok} (h : wordS ts en i d = .ok t i' d') : i < ts.length ∧ i' = i + 1 := by
 obtain ⟨_, h1, h2, _⟩ := zGb h; exact ⟨kind_lt h1 (by decide), h2⟩
structure PG (ts : List Tok) (en : Nat) (n : Nat) : Prop where
 expr : ∀ {least i d t i' d'}, exprS ts en n least i d = .ok t i' d' → i < i' ∧ i' ≤ ts.length
 exprl : ∀ {least i d l t i' d'}, exprL ts en n least i d l = .ok t i' d' → i ≤ i' ∧ (i ≤ ts.length → i' ≤ ts.length)
 unary : ∀ {i d t i' d'}, zCu ts en n i d = .ok t i' d' → i < i' ∧ i' ≤ ts.length
 post : ∀ {i d t i' d'}, postS ts en n i d = .ok t i' d' → i < i' ∧ i' ≤ ts.length
 postl : ∀ {i d x t i' d'}, postL ts en n i d x = .ok t i' d' → i ≤ i' ∧ (i ≤ ts.length → i' ≤ ts.length)
 prim : ∀ {i d t i' d'}, primS ts en n i d = .ok t i' d' → i < i' ∧ i' ≤ ts.length
 call : ∀ {j i d t i' d'}, callS ts en n j i d = .ok t i' d' → i < i' ∧ i' ≤ ts.length
 args : ∀ {i d acc ks i' d'}, argsL ts en n i d acc = .ok ks i' d' → i ≤ i' ∧ i' < ts.length
 brack : ∀ {i d t i' d'}, zBj ts en n i d = .ok t i' d' → i < i' ∧ i' ≤ ts.length
theorem keyS_on {i d i' d' : Nat} {t : Tree} (h : keyS ts en i d = .ok t i' d') (hi : i < ts.length) : i < i' ∧ i' ≤ ts.length := by
 unfold keyS at h
 simp only at h
 split at h
 ·injection h; omega
 split at h
 ·injection h; omega
 split at h
 ·obtain ⟨_, _, _, h1, h⟩ := PR.bind_eq h
  obtain ⟨w, _, _, h2, h⟩ := PR.bind_eq h
  obtain ⟨_, _, _, h3, h⟩ := PR.bind_eq h
  have := zA2 h1; have := zDy h2; have := zA2 h3
  injection h; omega
 split at h
 ·obtain ⟨_, _, _, h1, h⟩ := PR.bind_eq h
  obtain ⟨_, _, _, h3, h⟩ := PR.bind_eq h
  have := zA2 h1; have := zA2 h3
  injection h; omega
 ·injection h; omega
theorem zFi : ∀ n, PG ts en n := by
 intro n
 induction n with
 | zero => constructor <;> intros <;> simp_all [exprS, exprL, zCu, postS, postL, primS, callS, argsL, zBj]
 | succ n IH =>
  constructor
  ·intro least i d t i' d' h
   unfold exprS at h
   obtain ⟨l, i1, d1, h1, h⟩ := PR.bind_eq h
   have := IH.unary h1; have := IH.exprl h; omega
  ·intro least i d l t i' d' h
   unfold exprL at h
   split at h
   ·injection h; omega
   ·obtain ⟨r, i1, d1, h1, h⟩ := PR.bind_eq h
    have := IH.expr h1; have := IH.exprl h; omega
  ·intro i d t i' d' h
   unfold zCu at h
   split at h
   ·obtain ⟨_, d2, h, _⟩ := zCt h
    obtain ⟨k, i1, d1, h1, h⟩ := PR.bind_eq h
    have := IH.unary h1
    injection h; omega
   ·exact IH.post h
  ·intro i d t i' d' h
   unfold postS at h
   obtain ⟨x, i1, d1, h1, h⟩ := PR.bind_eq h
   have := IH.prim h1; have := IH.postl h; omega
  ·intro i d x t i' d' h
   unfold postL at h
   split at h
   ·obtain ⟨w, i1, d1, h1, h⟩ := PR.bind_eq h
    have := zDy h1; have := IH.postl h; omega
   ·injection h; omega
  ·intro i d t i' d' h
   unfold primS at h
   split at h
   ·rename_i hk
    have := kind_lt hk (by decide)
    injection h; omega
   split at h
   ·rename_i hk
    have := kind_lt hk (by decide)
    split at h
    ·have := IH.call h; omega
    ·injection h; omega
   split at h
   ·exact IH.brack h
   split at h
   ·rename_i hs
    have hi : i < ts.length := by
     simp only [Bool.or_eq_true] at hs
     rcases hs with (((e | e) | e) | e) | e <;> exact is_lt e
    exact keyS_on h hi
   ·cases h
  ·intro j i d t i' d' h
   unfold callS at h
   obtain ⟨_, d2, h, _⟩ := zCt h
   obtain ⟨ks, i1, d1, h1, h⟩ := PR.bind_eq h
   have := IH.args h1
   injection h; omega
  ·intro i d acc ks i' d' h
   unfold argsL at h
   split at h
   ·rename_i hs
    have := is_lt hs
    injection h; omega
   ·obtain ⟨p, i1, d1, h1, h⟩ := PR.bind_eq h
    have := IH.expr h1
    split at h
    ·have := IH.args h; omega
    ·obtain ⟨_, i2, d2, h2, h⟩ := PR.bind_eq h
     have := zA2 h2
     split at h
     ·cases h
     ·have := IH.args h; omega
  ·intro i d t i' d' h
   unfold zBj at h
   split at h
   ·obtain ⟨_, d2, h, _⟩ := zCt h
    obtain ⟨e, i1, d1, h1, h⟩ := PR.bind_eq h
    obtain ⟨_, i2, d3, h2, h⟩ := PR.bind_eq h
    have := IH.expr h1; have := zA2 h2
    injection h; omega
   ·cases h
structure FX (ts : List Tok) (en : Nat) (n : Nat) : Prop where
 expr : ∀ {least i d}, 10 * (ts.length - i) + 6 ≤ n → exprS ts en n least i d ≠ .out
 exprl : ∀ {least i d l}, 10 * (ts.length - i) + 2 ≤ n → exprL ts en n least i d l ≠ .out
 unary : ∀ {i d}, 10 * (ts.length - i) + 5 ≤ n → zCu ts en n i d ≠ .out
 post : ∀ {i d}, 10 * (ts.length - i) + 4 ≤ n → postS ts en n i d ≠ .out
 postl : ∀ {i d x}, 10 * (ts.length - i) + 1 ≤ n → postL ts en n i d x ≠ .out
 prim : ∀ {i d}, 10 * (ts.length - i) + 3 ≤ n → primS ts en n i d ≠ .out
 call : ∀ {j i d}, 10 * (ts.length - i) + 2 ≤ n → i < ts.length → callS ts en n j i d ≠ .out
 args : ∀ {i d acc}, 10 * (ts.length - i) + 7 ≤ n → argsL ts en n i d acc ≠ .out
 brack : ∀ {i d}, 10 * (ts.length - i) + 2 ≤ n → zBj ts en n i d ≠ .out
theorem keyS_in {i d : Nat} : keyS ts en i d ≠ .out := by
 unfold keyS
 simp only
 split
 ·simp
 split
 ·simp
 split
 ·exact zAs zBd fun _ _ _ _ => zAs zGc fun _ _ _ _ => zAs zBd fun _ _ _ _ => by simp
 split
 ·exact zAs zBd fun _ _ _ _ => zAs zBd fun _ _ _ _ => by simp
 ·simp
theorem zJk : ∀ n, FX ts en n := by
 intro n
 induction n with
 | zero => constructor <;> intros <;> omega
 | succ n IH =>
  have P := zFi (ts := ts) (en := en) n
  constructor
  ·intro least i d h
   unfold exprS
   exact zAs (IH.unary (by omega)) fun _ i' _ h1 => IH.exprl (by have := P.unary h1; omega)
  ·intro least i d l h
   unfold exprL
   split
   ·simp
   ·rename_i hs
    have hi := zKh (ts := ts) (en := en) (i := i) fun e => hs (.inl e)
    exact zAs (IH.expr (by omega)) fun _ i' _ h1 => IH.exprl (by have := P.expr h1; omega)
  ·intro i d h
   unfold zCu
   split
   ·rename_i hs
    have hi : i < ts.length := by
     rcases Bool.or_eq_true_iff.mp hs with e | e
     ·exact is_lt e
     ·exact is_lt e
    exact zGl (zAs (IH.unary (by omega)) fun _ _ _ _ => by simp)
   ·exact IH.post (by omega)
  ·intro i d h
   unfold postS
   exact zAs (IH.prim (by omega)) fun _ i' _ h1 => IH.postl (by have := P.prim h1; omega)
  ·intro i d x h
   unfold postL
   split
   ·rename_i hs
    have hi := is_lt hs
    exact zAs zGc fun _ i' _ h1 => IH.postl (by have := zDy h1; omega)
   ·simp
  ·intro i d h
   unfold primS
   split
   ·simp
   split
   ·split
    ·rename_i hs
     have hi := is_lt hs
     exact IH.call (by omega) hi
    ·simp
   split
   ·exact IH.brack (by omega)
   split
   ·exact keyS_in
   ·exact zD1
  ·intro j i d h hi
   unfold callS
   exact zGl (zAs (IH.args (by omega)) fun _ _ _ _ => by simp)
  ·intro i d acc h
   unfold argsL
   split
   ·simp
   ·refine zAs (IH.expr (by omega)) fun _ i1 _ h1 => ?_
    have := P.expr h1
    split
    ·rename_i hs
     have hi := is_lt hs
     exact IH.args (by omega)
    ·refine zAs zBd fun _ i2 _ h2 => ?_
     have h3 := zEy h2
     have := is_lt h3.1
     split
     ·exact zD1
     ·exact IH.args (by omega)
  ·intro i d h
   unfold zBj
   split
   ·rename_i hs
    have hi := is_lt hs
    exact zGl (zAs (IH.expr (by omega)) fun _ _ _ _ => zAs zBd fun _ _ _ _ => by simp)
   ·exact zD1
theorem typS_in {i d : Nat} : typS ts en i d ≠ .out := by
 unfold typS
 split
 ·exact zAs zGc fun _ _ _ _ => by simp
 split
 ·simp
 ·exact zD1
theorem typS_on {i d i' d' : Nat} {t : Str} (h : typS ts en i d = .ok t i' d') : i < i' ∧ i' ≤ ts.length := by
 unfold typS at h
 split at h
 ·obtain ⟨_, _, _, h1, h⟩ := PR.bind_eq h
  have := zDy h1
  injection h; omega
 split at h
 ·rename_i hs
  have hi : i < ts.length := by
   rcases Bool.or_eq_true_iff.mp hs with e | e <;> exact is_lt e
  injection h; omega
 ·cases h
theorem zLa {op i d : Nat} : partS ts en op i d ≠ .out := zAs zGc fun _ _ _ _ => zAs typS_in fun _ _ _ _ => by simp
theorem zG6 {op i d i' d' : Nat} {t : Tree} (h : partS ts en op i d = .ok t i' d') : i < i' ∧ i' ≤ ts.length := by
 unfold partS at h
 obtain ⟨_, _, _, h1, h⟩ := PR.bind_eq h
 obtain ⟨_, _, _, h2, h⟩ := PR.bind_eq h
 have := zDy h1; have := typS_on h2
 injection h; omega
theorem zKo : ∀ (n : Nat) {i d : Nat} {acc : List Tree}, ts.length - i + 1 ≤ n → zDr ts en n i d acc ≠ .out
 | 0, i, d, acc, h => by omega
 | n + 1, i, d, acc, h => by
  unfold zDr
  split
  ·simp
  ·refine zAs zLa fun _ i1 _ h1 => zAs zBd fun _ i2 _ h2 => ?_
   have := zG6 h1
   have h3 := zEy h2
   have := is_lt h3.1
   exact zKo n (by omega)
theorem zKn : ∀ (n : Nat) {i d : Nat} {acc ks : List Tree} {i' d' : Nat}, zDr ts en n i d acc = .ok ks i' d' → i < i' ∧ i' ≤ ts.length
 | 0, i, d, acc, ks, i', d', h => by cases h
 | n + 1, i, d, acc, ks, i', d', h => by
  unfold zDr at h
  split at h
  ·rename_i hs
   have := is_lt hs
   injection h; omega
  ·obtain ⟨_, _, _, h1, h⟩ := PR.bind_eq h
   obtain ⟨_, _, _, h2, h⟩ := PR.bind_eq h
   have := zG6 h1; have := zA2 h2; have := zKn n h; omega
theorem structS_in {n i d : Nat} (h : ts.length - i + 1 ≤ n) : zEr ts en n i d ≠ .out := by
 unfold zEr
 refine zAs zGc fun _ i1 _ h1 => zAs zBd fun _ i2 _ h2 => zAs zBd fun _ i3 _ h3 => zAs (zKo n ?_) fun _ _ _ _ => by simp
 have := zDy h1; have := zA2 h2; have := zA2 h3; omega
theorem structS_on {n i d i' d' : Nat} {t : Tree} (h : zEr ts en n i d = .ok t i' d') : i < i' ∧ i' ≤ ts.length := by
 unfold zEr at h
 obtain ⟨_, _, _, h1, h⟩ := PR.bind_eq h
 obtain ⟨_, _, _, h2, h⟩ := PR.bind_eq h
 obtain ⟨_, _, _, h3, h⟩ := PR.bind_eq h
 obtain ⟨_, _, _, h4, h⟩ := PR.bind_eq h
 have := zDy h1; have := zA2 h2; have := zA2 h3; have := zKn n h4
 injection h; omega
theorem zHu : ∀ (n : Nat) {i d : Nat} {acc : List Tree}, ts.length - i + 1 ≤ n → zCp ts en n i d acc ≠ .out
 | 0, i, d, acc, h => by omega
 | n + 1, i, d, acc, h => by
  unfold zCp
  split
  ·simp
  ·refine zAs zLa fun _ i1 _ h1 => ?_
   have := zG6 h1
   split
   ·rename_i hs
    have := is_lt hs
    exact zHu n (by omega)
   ·refine zAs zBd fun _ i2 _ h2 => ?_
    have h3 := zEy h2
    have := is_lt h3.1
    split
    ·exact zD1
    ·exact zHu n (by omega)
theorem zGf : ∀ (n : Nat) {i d : Nat} {acc ks : List Tree} {i' d' : Nat}, zCp ts en n i d acc = .ok ks i' d' → i ≤ i' ∧ i' < ts.length
 | 0, i, d, acc, ks, i', d', h => by cases h
 | n + 1, i, d, acc, ks, i', d', h => by
  unfold zCp at h
  split at h
  ·rename_i hs
   have := is_lt hs
   injection h; omega
  ·obtain ⟨_, _, _, h1, h⟩ := PR.bind_eq h
   have := zG6 h1
   split at h
   ·have := zGf n h; omega
   ·obtain ⟨_, _, _, h2, h⟩ := PR.bind_eq h
    have := zA2 h2
    split at h
    ·cases h
    ·have := zGf n h; omega
theorem changeS_in {n i d : Nat} (h : 10 * (ts.length - i) + 6 ≤ n) : zDt ts en n i d ≠ .out := by
 unfold zDt
 refine zAs ((zJk n).post (by omega)) fun l i1 d1 h1 => ?_
 have := (zFi n).post h1
 have hE : ∀ (k : Tree → Tree), (zA7 ts en [61] i1 d1).bind (fun _ i d => (exprS ts en n 1 i d).bind fun e i d => .ok (k e) i d) ≠ .out := fun k =>
  zAs zBd fun _ i2 _ h2 => zAs ((zJk n).expr (by have := zA2 h2; omega)) fun _ _ _ _ => by simp
 split
 ·exact zD1
 split
 ·simp
 split
 ·exact hE _
 split
 ·exact hE _
 ·exact zD1
theorem changeS_on {n i d i' d' : Nat} {t : Tree} (h : zDt ts en n i d = .ok t i' d') : i < i' ∧ i' ≤ ts.length := by
 unfold zDt at h
 obtain ⟨l, i1, d1, h1, h⟩ := PR.bind_eq h
 have := (zFi n).post h1
 split at h
 ·cases h
 split at h
 ·injection h; omega
 split at h
 ·obtain ⟨_, _, _, h2, h⟩ := PR.bind_eq h
  obtain ⟨_, _, _, h3, h⟩ := PR.bind_eq h
  have := zA2 h2; have := (zFi n).expr h3
  injection h; omega
 split at h
 ·obtain ⟨_, _, _, h2, h⟩ := PR.bind_eq h
  obtain ⟨_, _, _, h3, h⟩ := PR.bind_eq h
  have := zA2 h2; have := (zFi n).expr h3
  injection h; omega
 ·cases h
theorem simpleS_in {n i d : Nat} (h : 10 * (ts.length - i) + 6 ≤ n) : zD9 ts en n i d ≠ .out := by
 unfold zD9
 split
 ·exact zAs ((zJk n).brack (by omega)) fun _ _ _ _ => by simp
 split
 ·split
  ·simp
  ·exact zAs ((zJk n).expr (by omega)) fun _ _ _ _ => by simp
 split
 ·exact zAs ((zJk n).expr (by omega)) fun _ _ _ _ => by simp
 ·exact changeS_in h
theorem simpleS_on {n i d i' d' : Nat} {t : Tree} (h : zD9 ts en n i d = .ok t i' d') : i < i' ∧ i' ≤ ts.length := by
 unfold zD9 at h
 split at h
 ·obtain ⟨_, _, _, h2, h⟩ := PR.bind_eq h
  have := (zFi n).brack h2
  injection h; omega
 split at h
 ·rename_i hs
  have := is_lt hs
  split at h
  ·injection h; omega
  ·obtain ⟨_, _, _, h2, h⟩ := PR.bind_eq h
   have := (zFi n).expr h2
   injection h; omega
 split at h
 ·obtain ⟨_, _, _, h2, h⟩ := PR.bind_eq h
  have := (zFi n).expr h2
  injection h; omega
 ·exact changeS_on h
structure SG (ts : List Tok) (en : Nat) (n : Nat) : Prop where
 stmt : ∀ {i d t i' d'}, stmtS ts en n i d = .ok t i' d' → i < i' ∧ i' ≤ ts.length
 branch : ∀ {i d t i' d'}, zCb ts en n i d = .ok t i' d' → i < i' ∧ i' ≤ ts.length
 block : ∀ {i d t i' d'}, zCg ts en n i d = .ok t i' d' → i < i' ∧ i' ≤ ts.length
 stmts : ∀ {i d acc ks i' d'}, zC4 ts en n i d acc = .ok ks i' d' → i < i' ∧ i' ≤ ts.length
theorem sg_all : ∀ n, SG ts en n := by
 intro n
 induction n with
 | zero => constructor <;> intros <;> simp_all [stmtS, zCb, zCg, zC4]
 | succ n IH =>
  constructor
  ·intro i d t i' d' h
   unfold stmtS at h
   split at h
   ·exact IH.branch h
   split at h
   ·obtain ⟨_, _, _, h2, h⟩ := PR.bind_eq h
    obtain ⟨_, _, _, h3, h⟩ := PR.bind_eq h
    have := (zFi n).expr h2; have := IH.block h3
    injection h; omega
   ·obtain ⟨_, _, _, h2, h⟩ := PR.bind_eq h
    obtain ⟨_, _, _, h3, h⟩ := PR.bind_eq h
    have := simpleS_on h2; have := zA2 h3
    injection h; omega
  ·intro i d t i' d' h
   unfold zCb at h
   obtain ⟨_, _, _, h1, h⟩ := PR.bind_eq h
   obtain ⟨_, _, _, h2, h⟩ := PR.bind_eq h
   obtain ⟨_, i3, _, h3, h⟩ := PR.bind_eq h
   have := zA2 h1; have := (zFi n).expr h2; have := IH.block h3
   split at h
   ·obtain ⟨_, i4, _, h4, h⟩ := PR.bind_eq h
    have : i3 + 1 < i4 ∧ i4 ≤ ts.length := by
     split at h4
     ·exact IH.branch h4
     ·exact IH.block h4
    injection h; omega
   ·injection h; omega
  ·intro i d t i' d' h
   unfold zCg at h
   split at h
   ·obtain ⟨_, d2, h, _⟩ := zCt h
    obtain ⟨ks, i1, d1, h1, h⟩ := PR.bind_eq h
    have := IH.stmts h1
    injection h; omega
   ·cases h
  ·intro i d acc ks i' d' h
   unfold zC4 at h
   split at h
   ·rename_i hs
    have := is_lt hs
    injection h; omega
   ·obtain ⟨_, _, _, h2, h⟩ := PR.bind_eq h
    have := IH.stmt h2; have := IH.stmts h; omega
structure SF (ts : List Tok) (en : Nat) (n : Nat) : Prop where
 stmt : ∀ {i d}, 10 * (ts.length - i) + 8 ≤ n → stmtS ts en n i d ≠ .out
 branch : ∀ {i d}, 10 * (ts.length - i) + 7 ≤ n → zCb ts en n i d ≠ .out
 block : ∀ {i d}, 10 * (ts.length - i) + 1 ≤ n → zCg ts en n i d ≠ .out
 stmts : ∀ {i d acc}, 10 * (ts.length - i) + 9 ≤ n → zC4 ts en n i d acc ≠ .out
theorem sf_all : ∀ n, SF ts en n := by
 intro n
 induction n with
 | zero => constructor <;> intros <;> omega
 | succ n IH =>
  constructor
  ·intro i d h
   unfold stmtS
   split
   ·exact IH.branch (by omega)
   split
   ·exact zAs ((zJk n).expr (by omega)) fun _ i1 _ h1 => zAs (IH.block (by have := (zFi n).expr h1; omega)) fun _ _ _ _ => by simp
   ·exact zAs (simpleS_in (by omega)) fun _ i1 _ h1 => zAs zBd fun _ _ _ _ => by simp
  ·intro i d h
   unfold zCb
   refine zAs zBd fun _ i1 _ h1 => ?_
   have := zA2 h1
   refine zAs ((zJk n).expr (by omega)) fun _ i2 _ h2 => ?_
   have := (zFi n).expr h2
   refine zAs (IH.block (by omega)) fun _ i3 _ h3 => ?_
   have := (sg_all n).block h3
   split
   ·rename_i hs
    have := is_lt hs
    refine zAs ?_ fun _ _ _ _ => by simp
    split
    ·exact IH.branch (by omega)
    ·exact IH.block (by omega)
   ·simp
  ·intro i d h
   unfold zCg
   split
   ·rename_i hs
    have := is_lt hs
    exact zGl (zAs (IH.stmts (by omega)) fun _ _ _ _ => by simp)
   ·exact zD1
  ·intro i d acc h
   unfold zC4
   split
   ·simp
   ·rename_i hs
    exact zAs (IH.stmt (by omega)) fun _ i1 _ h1 => IH.stmts (by have := (sg_all n).stmt h1; omega)
theorem funcS_in {n i d : Nat} (h : 10 * (ts.length - i) + 10 ≤ n) : funcS ts en n i d ≠ .out := by
 unfold funcS
 refine zAs zGc fun _ i1 _ h1 => zAs zBd fun _ i2 _ h2 => ?_
 have := zDy h1; have := zA2 h2
 refine zAs (zHu n (by omega)) fun _ i3 _ h3 => zAs zBd fun _ i4 _ h4 => ?_
 have := zGf n h3; have := zA2 h4
 refine zAs ?_ fun _ i5 _ h5 => zAs ((sf_all n).block ?_) fun _ _ _ _ => by simp
 ·split
  ·simp
  ·exact typS_in
 ·split at h5
  ·injection h5; omega
  ·have := typS_on h5; omega
theorem funcS_on {n i d i' d' : Nat} {t : Tree} (h : funcS ts en n i d = .ok t i' d') : i < i' ∧ i' ≤ ts.length := by
 unfold funcS at h
 obtain ⟨_, i1, _, h1, h⟩ := PR.bind_eq h
 obtain ⟨_, i2, _, h2, h⟩ := PR.bind_eq h
 obtain ⟨_, i3, _, h3, h⟩ := PR.bind_eq h
 obtain ⟨_, i4, _, h4, h⟩ := PR.bind_eq h
 obtain ⟨_, i5, _, h5, h⟩ := PR.bind_eq h
 obtain ⟨_, i6, _, h6, h⟩ := PR.bind_eq h
 have := zDy h1; have := zA2 h2; have := zGf n h3; have := zA2 h4; have := (sg_all n).block h6
 have : i4 ≤ i5 := by
  split at h5
  ·injection h5; omega
  ·have := typS_on h5; omega
 injection h; omega
theorem declS_in {n i d : Nat} (h : 10 * (ts.length - i) + 10 ≤ n) : declS ts en n i d ≠ .out := by
 unfold declS
 split
 ·exact structS_in (by omega)
 split
 ·exact funcS_in (by omega)
 split
 ·exact zAs zLa fun _ _ _ _ => zAs zBd fun _ _ _ _ => by simp
 ·exact zD1
theorem declS_on {n i d i' d' : Nat} {t : Tree} (h : declS ts en n i d = .ok t i' d') : i < i' ∧ i' ≤ ts.length := by
 unfold declS at h
 split at h
 ·have := structS_on h; omega
 split at h
 ·have := funcS_on h; omega
 split at h
 ·obtain ⟨_, i1, _, h1, h⟩ := PR.bind_eq h
  obtain ⟨_, i2, _, h2, h⟩ := PR.bind_eq h
  have := zG6 h1; have := zA2 h2
  injection h; omega
 ·cases h
theorem progL_in {m : Nat} (hm : 10 * ts.length + 10 ≤ m) : ∀ (k : Nat) {i d : Nat} {acc : List Tree}, ts.length - i + 1 ≤ k → progL ts en k m i d acc ≠ .out
 | 0, i, d, acc, h => by omega
 | k + 1, i, d, acc, h => by
  unfold progL
  split
  ·exact zAs (declS_in (by omega)) fun _ i1 _ h1 => progL_in hm k (by have := declS_on h1; omega)
  ·simp
end
inductive FineT (en : Nat) : Tree → Prop
 | mk {op : Nat} {name typ : Str} {n : Int} {pos : Nat} {kids : List Tree} : op ≠ 0 → pos ≤ en → (∀ k, k ∈ kids → FineT en k) → FineT en (.mk op name typ n pos kids)
section
variable {ts : List Tok} {en : Nat}
theorem binNode_ne {lv : Nat} (h0 : lv ≠ 0) (h5 : lv ≤ 5) : binNode lv ≠ 0 := by
 have : lv = 1 ∨ lv = 2 ∨ lv = 3 ∨ lv = 4 ∨ lv = 5 := by omega
 rcases this with rfl | rfl | rfl | rfl | rfl <;> decide
theorem fine_cl (hp : ∀ i, (now ts en i).pos ≤ en) : ClE ts en (FineT en) := by
 constructor
 ·exact fun i _ => .mk (by decide) (hp i) fun _ h => by cases h
 ·exact fun i _ => .mk (by decide) (hp i) fun _ h => by cases h
 ·exact fun i => .mk (by decide) (hp i) fun _ h => by cases h
 ·exact fun i => .mk (by decide) (hp i) fun _ h => by cases h
 ·exact fun i => .mk (by decide) (hp i) fun _ h => by cases h
 ·exact fun i => .mk (by decide) (hp i) fun _ h => by cases h
 ·exact fun i _ => .mk (by decide) (hp i) fun _ h => by cases h
 ·exact fun i k _ hk => .mk (by decide) (hp i) fun _ h => by simp at h; subst h; exact hk
 ·exact fun i l r h0 hl hr => .mk (binNode_ne h0 levelS_lt) (hp i) fun _ h => by simp at h; rcases h with rfl | rfl; exact hl; exact hr
 ·exact fun i x _ hx => .mk (by decide) (hp i) fun _ h => by simp at h; subst h; exact hx
 ·exact fun i ks _ hk => .mk (by decide) (hp i) hk
theorem FineT.pos {t : Tree} (h : FineT en t) : t.pos ≤ en := by cases h; assumption
theorem FineT.kids {t : Tree} (h : FineT en t) : ∀ k ∈ t.kids, FineT en k := by cases h; assumption
theorem zHt (hp : ∀ i, (now ts en i).pos ≤ en) {op i d i' d' : Nat} {t : Tree} (ho : op ≠ 0) (h : partS ts en op i d = .ok t i' d') : FineT en t := by
 unfold partS at h
 obtain ⟨_, _, _, h1, h⟩ := PR.bind_eq h
 obtain ⟨_, _, _, h2, h⟩ := PR.bind_eq h
 obtain ⟨rfl, _⟩ := zGb h1
 injection h with h; subst h
 exact .mk ho (hp i) fun _ h => by cases h
theorem zHp {acc : List Tree} {p : Tree} (ha : ∀ k ∈ acc, FineT en k) (hp : FineT en p) : ∀ k ∈ acc ++ [p], FineT en k := by
 intro k hk
 rcases List.mem_append.mp hk with e | e
 ·exact ha k e
 ·simp at e; subst e; exact hp
theorem zIg (hp : ∀ i, (now ts en i).pos ≤ en) : ∀ (n : Nat) {i d : Nat} {acc ks : List Tree} {i' d' : Nat}, zDr ts en n i d acc = .ok ks i' d' → (∀ k ∈ acc, FineT en k) → ∀ k ∈ ks, FineT en k
 | 0, i, d, acc, ks, i', d', h, _ => by cases h
 | n + 1, i, d, acc, ks, i', d', h, ha => by
  unfold zDr at h
  split at h
  ·injection h with h; subst h; exact ha
  ·obtain ⟨_, _, _, h1, h⟩ := PR.bind_eq h
   obtain ⟨_, _, _, h2, h⟩ := PR.bind_eq h
   exact zIg hp n h (zHp ha (zHt hp (by decide) h1))
theorem structS_fine (hp : ∀ i, (now ts en i).pos ≤ en) {n i d i' d' : Nat} {t : Tree} (h : zEr ts en n i d = .ok t i' d') : FineT en t := by
 unfold zEr at h
 obtain ⟨_, _, _, h1, h⟩ := PR.bind_eq h
 obtain ⟨_, _, _, h2, h⟩ := PR.bind_eq h
 obtain ⟨_, _, _, h3, h⟩ := PR.bind_eq h
 obtain ⟨_, _, _, h4, h⟩ := PR.bind_eq h
 obtain ⟨rfl, _⟩ := zGb h1
 injection h with h; subst h
 exact .mk (by decide) (hp i) (zIg hp n h4 (by simp))
theorem zFv (hp : ∀ i, (now ts en i).pos ≤ en) : ∀ (n : Nat) {i d : Nat} {acc ks : List Tree} {i' d' : Nat}, zCp ts en n i d acc = .ok ks i' d' → (∀ k ∈ acc, FineT en k) → ∀ k ∈ ks, FineT en k
 | 0, i, d, acc, ks, i', d', h, _ => by cases h
 | n + 1, i, d, acc, ks, i', d', h, ha => by
  unfold zCp at h
  split at h
  ·injection h with h; subst h; exact ha
  ·obtain ⟨_, _, _, h1, h⟩ := PR.bind_eq h
   have ha' := zHp ha (zHt hp (by decide) h1)
   split at h
   ·exact zFv hp n h ha'
   ·obtain ⟨_, _, _, h2, h⟩ := PR.bind_eq h
    split at h
    ·cases h
    ·exact zFv hp n h ha'
theorem changeS_fine (hp : ∀ i, (now ts en i).pos ≤ en) {n i d i' d' : Nat} {t : Tree} (h : zDt ts en n i d = .ok t i' d') : FineT en t := by
 have P := zLo (fine_cl hp) n
 unfold zDt at h
 obtain ⟨l, i1, d1, h1, h⟩ := PR.bind_eq h
 have hl := P.post h1
 have hf := field_kid h1
 split at h
 ·cases h
 split at h
 ·injection h with h; subst h; exact .mk (by decide) hl.pos fun _ h => by simp at h; subst h; exact hl
 split at h
 ·obtain ⟨_, _, _, h2, h⟩ := PR.bind_eq h
  obtain ⟨e, _, _, h3, h⟩ := PR.bind_eq h
  have he := P.expr h3
  injection h with h; subst h; exact .mk (by decide) hl.pos fun _ h => by simp at h; subst h; exact he
 split at h
 ·rename_i ho
  obtain ⟨k0, kr, hkk⟩ := hf ho
  obtain ⟨_, _, _, h2, h⟩ := PR.bind_eq h
  obtain ⟨e, _, _, h3, h⟩ := PR.bind_eq h
  have he := P.expr h3
  have hk := hl.kids k0 (by rw [hkk]; simp)
  injection h with h; subst h; exact .mk (by decide) hl.pos fun _ h => by
   simp [hkk] at h; rcases h with rfl | rfl
   ·exact hk
   ·exact he
 ·cases h
theorem simpleS_fine (hp : ∀ i, (now ts en i).pos ≤ en) {n i d i' d' : Nat} {t : Tree} (h : zD9 ts en n i d = .ok t i' d') : FineT en t := by
 have P := zLo (fine_cl hp) n
 unfold zD9 at h
 split at h
 ·obtain ⟨e, _, _, h2, h⟩ := PR.bind_eq h
  have he := P.brack h2
  injection h with h; subst h; exact .mk (by decide) (hp i) fun _ h => by simp at h; subst h; exact he
 split at h
 ·split at h
  ·injection h with h; subst h; exact .mk (by decide) (hp i) fun _ h => by cases h
  ·obtain ⟨e, _, _, h2, h⟩ := PR.bind_eq h
   have he := P.expr h2
   injection h with h; subst h; exact .mk (by decide) (hp i) fun _ h => by simp at h; subst h; exact he
 split at h
 ·obtain ⟨e, _, _, h2, h⟩ := PR.bind_eq h
  have he := P.expr h2
  injection h with h; subst h; exact .mk (by decide) (hp i) fun _ h => by simp at h; subst h; exact he
 ·exact changeS_fine hp h
structure StF (ts : List Tok) (en : Nat) (n : Nat) : Prop where
 stmt : ∀ {i d t i' d'}, stmtS ts en n i d = .ok t i' d' → FineT en t
 branch : ∀ {i d t i' d'}, zCb ts en n i d = .ok t i' d' → FineT en t
 block : ∀ {i d t i' d'}, zCg ts en n i d = .ok t i' d' → FineT en t
 stmts : ∀ {i d acc ks i' d'}, zC4 ts en n i d acc = .ok ks i' d' → (∀ k ∈ acc, FineT en k) → ∀ k ∈ ks, FineT en k
theorem st_fine (hp : ∀ i, (now ts en i).pos ≤ en) : ∀ n, StF ts en n := by
 intro n
 induction n with
 | zero => constructor <;> intros <;> simp_all [stmtS, zCb, zCg, zC4]
 | succ n IH =>
  have P := zLo (fine_cl hp) n
  constructor
  ·intro i d t i' d' h
   unfold stmtS at h
   split at h
   ·exact IH.branch h
   split at h
   ·obtain ⟨e, _, _, h2, h⟩ := PR.bind_eq h
    obtain ⟨b, _, _, h3, h⟩ := PR.bind_eq h
    have he := P.expr h2
    have hb := IH.block h3
    injection h with h; subst h; exact .mk (by decide) (hp i) fun _ h => by
     simp at h; rcases h with rfl | rfl
     ·exact he
     ·exact hb
   ·obtain ⟨s, _, _, h2, h⟩ := PR.bind_eq h
    obtain ⟨_, _, _, h3, h⟩ := PR.bind_eq h
    have hs := simpleS_fine hp h2
    injection h with h; subst h; exact hs
  ·intro i d t i' d' h
   unfold zCb at h
   obtain ⟨p, _, _, h1, h⟩ := PR.bind_eq h
   obtain ⟨e, _, _, h2, h⟩ := PR.bind_eq h
   obtain ⟨b, i3, _, h3, h⟩ := PR.bind_eq h
   obtain ⟨_, rfl, _⟩ := zEy h1
   have he := P.expr h2
   have hb := IH.block h3
   split at h
   ·obtain ⟨c, i4, _, h4, h⟩ := PR.bind_eq h
    have hc : FineT en c := by
     split at h4
     ·exact IH.branch h4
     ·exact IH.block h4
    injection h with h; subst h; exact .mk (by decide) (hp i) fun _ h => by
     simp at h; rcases h with rfl | rfl | rfl
     ·exact he
     ·exact hb
     ·exact hc
   ·injection h with h; subst h; exact .mk (by decide) (hp i) fun _ h => by
     simp at h; rcases h with rfl | rfl
     ·exact he
     ·exact hb
  ·intro i d t i' d' h
   unfold zCg at h
   split at h
   ·obtain ⟨_, d2, h, _⟩ := zCt h
    obtain ⟨ks, i1, d1, h1, h⟩ := PR.bind_eq h
    have hk := IH.stmts h1 (by simp)
    injection h with h; subst h; exact .mk (by decide) (hp i) hk
   ·cases h
  ·intro i d acc ks i' d' h ha
   unfold zC4 at h
   split at h
   ·injection h with h; subst h; exact ha
   ·obtain ⟨s, _, _, h2, h⟩ := PR.bind_eq h
    exact IH.stmts h (zHp ha (IH.stmt h2))
theorem declS_fine (hp : ∀ i, (now ts en i).pos ≤ en) {n i d i' d' : Nat} {t : Tree} (h : declS ts en n i d = .ok t i' d') : FineT en t := by
 unfold declS at h
 split at h
 ·exact structS_fine hp h
 split at h
 ·unfold funcS at h
  obtain ⟨w, i1, _, h1, h⟩ := PR.bind_eq h
  obtain ⟨_, i2, _, h2, h⟩ := PR.bind_eq h
  obtain ⟨ks, i3, _, h3, h⟩ := PR.bind_eq h
  obtain ⟨_, i4, _, h4, h⟩ := PR.bind_eq h
  obtain ⟨_, i5, _, h5, h⟩ := PR.bind_eq h
  obtain ⟨b, i6, _, h6, h⟩ := PR.bind_eq h
  obtain ⟨rfl, _⟩ := zGb h1
  have hk := zFv hp n h3 (by simp)
  have hb := (st_fine hp n).block h6
  injection h with h; subst h; exact .mk (by decide) (hp _) (zHp hk hb)
 split at h
 ·obtain ⟨p, i1, _, h1, h⟩ := PR.bind_eq h
  obtain ⟨_, i2, _, h2, h⟩ := PR.bind_eq h
  have hq := zHt hp (by decide) h1
  injection h with h; subst h; exact hq
 ·cases h
theorem zJ4 (hp : ∀ i, (now ts en i).pos ≤ en) : ∀ (k : Nat) {m i d : Nat} {acc ks : List Tree} {i' d' : Nat}, progL ts en k m i d acc = .ok ks i' d' → (∀ k ∈ acc, FineT en k) → ∀ k ∈ ks, FineT en k
 | 0, m, i, d, acc, ks, i', d', h, _ => by cases h
 | k + 1, m, i, d, acc, ks, i', d', h, ha => by
  unfold progL at h
  split at h
  ·obtain ⟨_, _, _, h1, h⟩ := PR.bind_eq h
   exact zJ4 hp k h (zHp ha (declS_fine hp h1))
  ·injection h with h; subst h; exact ha
end
end Go.Pa
namespace Go.Pa
theorem Tree.ind {P : Tree → Prop} (h : ∀ op name typ n pos kids, (∀ k, k ∈ kids → P k) → P (.mk op name typ n pos kids)) : ∀ t, P t := by
 intro t
 refine Tree.rec (motive_1 := P) (motive_2 := fun l => ∀ k, k ∈ l → P k) (fun op name typ n pos kids ih => h op name typ n pos kids ih) (fun k hk => by cases hk) (fun a l ha hl k hk => ?_) t
 rcases List.mem_cons.mp hk with rfl | e
 ·exact ha
 ·exact hl k e
mutual
def sizeT : Tree → Int
 | .mk _ _ _ _ _ kids => zGm 1 kids
def zGm : Int → List Tree → Int
 | acc, [] => acc
 | acc, k :: ks => zGm (Go.IntKind.i64.wrap (acc + sizeT k)) ks
end
end Go.Pa
namespace Go.Ev
open Go Go.Pa
set_option linter.unusedSimpArgs false
set_option linter.unusedVariables false
set_option maxRecDepth 100000
set_option maxHeartbeats 4000000
section
variable {tab : Nat → Option AFunc} (H : PT tab)
include H in
theorem sizez_gp {h : AH} : GP tab 10 [.agg [.nilp]] h fun v h1 => v = .int .i64 ((0 : Nat) : Int) ∧ More h h1 := by
 have i0 : zAh [.agg [.nilp]] = zAd [.agg [.nilp]] := rfl
 refine GE.gp (ge_of H.t10 rfl ?_) (E := fun _ _ => False) fun _ _ hh => hh
 refine zAc (zAb fun Q1 hQ => ?_)
 simp (disch := omega) only [EL, ↓K3, ↓K1, reduceIte, Nat.reduceEqDiff, Nat.reduceAdd, Nat.reduceLeDiff, i0]
 refine hQ _ ?_
 clear hQ Q1
 have m1 : More h (h.add (.cells (zAd [.nilp]) 1 none false)) := More.add _ _
 have g1 : (h.add (.cells (zAd [.nilp]) 1 none false)).mem.get h.next = some (.cells (zAd [.nilp]) 1 none false) := by rw [AH.add_mem, T.get_put_self]
 have n1 : (h.add (.cells (zAd [.nilp]) 1 none false)).next = h.next + 1 := rfl
 generalize h.add (.cells (zAd [.nilp]) 1 none false) = h1 at *
 simp only [zAa]
 refine zAc ?_
 refine zAc (zAb fun Q1 hQ => ?_)
 simp (disch := omega) only [EL, ↓K3, ↓K1, reduceIte, Nat.reduceEqDiff, Nat.reduceAdd, Nat.reduceLeDiff, g1]
 refine hQ _ ?_
 clear hQ Q1
 refine zAq (by simp (disch := omega) only [EL, ↓K3, ↓K1, reduceIte, Nat.reduceEqDiff, Nat.reduceAdd, Nat.reduceLeDiff]) ?_
 refine zAc (zAb fun Q1 hQ => ?_)
 simp (disch := omega) only [EL, ↓K3, ↓K1, reduceIte, Nat.reduceEqDiff, Nat.reduceAdd, Nat.reduceLeDiff]
 refine hQ _ ?_
 clear hQ Q1
 refine zAk ?_
 try simp only [zAg, zAf]
 exact ⟨_, zA4 (v := .int .i64 ((0 : Nat) : Int)) (by simp (disch := omega) only [EL, ↓K3, ↓K1, reduceIte, Nat.reduceEqDiff, Nat.reduceAdd, Nat.reduceLeDiff]) zAl, rfl, m1⟩
include H in
theorem size_gp : ∀ (t : Tree) {h : AH} {F : Nat → Prop} {u : AV}, TreeR h F u t → GP tab 10 [.agg [u]] h fun v h1 => v = .int .i64 (sizeT t) ∧ More h h1 := by
 intro t
 induction t using Tree.ind with
 | h op name typ n pos kids IH =>
 intro h F u x
 obtain ⟨ia, kv, cs, rfl, hi, hF, nc, ar, tr⟩ := x.node
 have i0 : zAh [.agg [.ptr ia 0]] = zAd [.agg [.ptr ia 0]] := rfl
 refine GE.gp (ge_of H.t10 rfl ?_) (E := fun _ _ => False) fun _ _ hh => hh
 refine zAc (zAb fun Q1 hQ => ?_)
 simp (disch := omega) only [EL, ↓K3, ↓K1, reduceIte, Nat.reduceEqDiff, Nat.reduceAdd, Nat.reduceLeDiff, i0]
 refine hQ _ ?_
 clear hQ Q1
 have m1 : More h (h.add (.cells (zAd [.ptr ia 0]) 1 none false)) := More.add _ _
 have g1 : (h.add (.cells (zAd [.ptr ia 0]) 1 none false)).mem.get h.next = some (.cells (zAd [.ptr ia 0]) 1 none false) := by rw [AH.add_mem, T.get_put_self]
 have n1 : (h.add (.cells (zAd [.ptr ia 0]) 1 none false)).next = h.next + 1 := rfl
 generalize h.add (.cells (zAd [.ptr ia 0]) 1 none false) = h1 at *
 simp only [zAa]
 have nc1 := nc.keep (m1.keep ia hi)
 obtain ⟨c, gn, _, _, _, _, _, c5, _⟩ := nc1.set
 refine zAc ?_
 refine zAc (zAb fun Q1 hQ => ?_)
 simp (disch := omega) only [EL, ↓K3, ↓K1, reduceIte, Nat.reduceEqDiff, Nat.reduceAdd, Nat.reduceLeDiff, g1]
 refine hQ _ ?_
 clear hQ Q1
 refine wc_no (by simp (disch := omega) only [EL, ↓K3, ↓K1, reduceIte, Nat.reduceEqDiff, Nat.reduceAdd, Nat.reduceLeDiff]) ?_
 refine zAo ?_
 simp only [zAa]
 refine zAc (zAb fun Q1 hQ => ?_)
 simp (disch := omega) only [EL, ↓K3, ↓K1, reduceIte, Nat.reduceEqDiff, Nat.reduceAdd, Nat.reduceLeDiff]
 refine hQ _ ?_
 clear hQ Q1
 have le : ∀ h' : AH, oLen .sl (.c kv) .leaf [] h' = .val (.int .i64 (cs.length : Int)) h' := fun h' => ar.len
 have lcs : cs.length = kids.length := tr.len
 have lsm := ar.small
 have mvk : ∀ h' : AH, oMove (.c kv) .leaf [] h' = .val kv h' := fun h' => ar.move
 simp only [sizeT]
 refine zFn (fun l d1 h2 => d1 = [] ∧ More h h2 ∧ l.get 7 = some (.int .i64 (zGm 1 kids))) ?_ ?_
 ·refine zAc (zAb fun Q1 hQ => ?_)
  simp (disch := omega) only [EL, ↓K3, ↓K1, reduceIte, Nat.reduceEqDiff, Nat.reduceAdd, Nat.reduceLeDiff, g1, gn, c5, le, mvk]
  refine hQ _ ?_
  clear hQ Q1
  simp only [zAa]
  refine zAy ?_
  refine zB2 (fun m l d1 h2 => ∃ (k : Nat) (acc : Int), m = cs.length - k ∧ k ≤ cs.length ∧ d1 = [] ∧ More h h2 ∧ l.get 3 = some (.int .i64 (k : Int)) ∧ l.get 4 = some (.int .i64 (cs.length : Int)) ∧ l.get 6 = some kv ∧ l.get 7 = some (.int .i64 acc) ∧ zGm acc (kids.drop k) = zGm 1 kids) ?_ (cs.length - 0) ?_
  ·rintro m l d1 h2 ⟨k, acc, rfl, hk, rfl, m2, l3, l4, l6, l7, hacc⟩
   refine zAc (zAb fun Q1 hQ => ?_)
   simp (disch := omega) only [EL, ↓K3, ↓K1, reduceIte, Nat.reduceEqDiff, Nat.reduceAdd, Nat.reduceLeDiff, l3, l4]
   refine hQ _ ?_
   clear hQ Q1
   refine zAc ?_
   refine wc_if (k < cs.length) (by simp (disch := omega) only [EL, ↓K3, ↓K1, reduceIte, Nat.reduceEqDiff, Nat.reduceAdd, Nat.reduceLeDiff]) (fun hlt => ?_) (fun hge => ?_)
   ·refine zAo ?_
    try simp only [zAa]
    obtain ⟨ka, ks, kc, kcap, rfl, hkF, hkl, hkg, hkj⟩ := ar.open hlt
    have hj' : k < kids.length := by omega
    obtain ⟨w, hw, tw⟩ := tr.get k hj'
    rw [hw] at hkj
    obtain ⟨wi, rfl, _⟩ := tw.ptr
    have kg2 := (m2.keep ka hkl).trans hkg
    have tw2 : TreeR h2 F (.ptr wi 0) kids[k] := TreeR.keep m2.stay (fun _ h _ => h) tw
    refine zAc ?_
    refine zAy ?_
    refine zAc (zAb fun Q1 hQ => ?_)
    simp (disch := omega) only [EL, ↓K3, ↓K1, reduceIte, Nat.reduceEqDiff, Nat.reduceAdd, Nat.reduceLeDiff, l3, l6, kg2, hkj, zAe, Nat.mul_one]
    refine hQ _ ?_
    clear hQ Q1
    refine zBk fun h3 n3 g3 m3 => ?_
    obtain ⟨cb, gb, cb0⟩ := g3
    simp only [zAa]
    have tw3 : TreeR h3 F (.ptr wi 0) kids[k] := TreeR.keep m3.stay (fun _ h _ => h) tw2
    refine zAb fun Q1 hQ => ?_
    simp (disch := omega) only [EL, ↓K3, ↓K1, reduceIte, Nat.reduceEqDiff, Nat.reduceAdd, Nat.reduceLeDiff, l7, gb, cb0, zAe]
    refine (IH kids[k] (List.getElem_mem hj') tw3).to fun v h4 q => ?_
    obtain ⟨rfl, m4⟩ := q
    simp (disch := omega) only [EL, ↓K3, ↓K1, reduceIte, Nat.reduceEqDiff, Nat.reduceAdd, Nat.reduceLeDiff]
    refine hQ _ ?_
    clear hQ Q1
    try simp only [zAa]
    try simp only [zAi, zAa]
    refine zAb fun Q1 hQ => ?_
    simp (disch := omega) only [EL, ↓K3, ↓K1, reduceIte, Nat.reduceEqDiff, Nat.reduceAdd, Nat.reduceLeDiff, l3]
    refine hQ _ ?_
    clear hQ Q1
    try simp only [zAa]
    refine ⟨cs.length - (k + 1), by omega, k + 1, IntKind.i64.wrap (acc + sizeT kids[k]), rfl, hlt, trivial, (m2.trans m3).trans m4, by simp (disch := omega) only [EL, ↓K3, ↓K1, reduceIte, Nat.reduceEqDiff, Nat.reduceAdd, Nat.reduceLeDiff], by simp (disch := omega) only [EL, ↓K3, ↓K1, reduceIte, Nat.reduceEqDiff, Nat.reduceAdd, Nat.reduceLeDiff, l4], by simp (disch := omega) only [EL, ↓K3, ↓K1, reduceIte, Nat.reduceEqDiff, Nat.reduceAdd, Nat.reduceLeDiff, l6], by simp (disch := omega) only [EL, ↓K3, ↓K1, reduceIte, Nat.reduceEqDiff, Nat.reduceAdd, Nat.reduceLeDiff], ?_⟩
    rw [← hacc, List.drop_eq_getElem_cons hj']
    rfl
   ·refine zC5 ?_
    simp only [zA8, zA5, if_true, zAa]
    refine ⟨trivial, m2, ?_⟩
    rw [← hacc, List.drop_eq_nil_of_le (by omega)]
    simp (disch := omega) only [EL, ↓K3, ↓K1, reduceIte, Nat.reduceEqDiff, Nat.reduceAdd, Nat.reduceLeDiff, l7]
    rfl
  ·exact ⟨0, 1, rfl, Nat.zero_le _, rfl, m1, by simp (disch := omega) only [EL, ↓K3, ↓K1, reduceIte, Nat.reduceEqDiff, Nat.reduceAdd, Nat.reduceLeDiff], by simp (disch := omega) only [EL, ↓K3, ↓K1, reduceIte, Nat.reduceEqDiff, Nat.reduceAdd, Nat.reduceLeDiff], by simp (disch := omega) only [EL, ↓K3, ↓K1, reduceIte, Nat.reduceEqDiff, Nat.reduceAdd, Nat.reduceLeDiff], by simp (disch := omega) only [EL, ↓K3, ↓K1, reduceIte, Nat.reduceEqDiff, Nat.reduceAdd, Nat.reduceLeDiff]; rfl, by rw [List.drop_zero]⟩
 ·rintro l d1 h2 ⟨rfl, m2, l7⟩
  refine zAc (zAb fun Q1 hQ => ?_)
  simp (disch := omega) only [EL, ↓K3, ↓K1, reduceIte, Nat.reduceEqDiff, Nat.reduceAdd, Nat.reduceLeDiff, l7]
  refine hQ _ ?_
  clear hQ Q1
  refine zAk ?_
  try simp only [zAg, zAf]
  exact ⟨_, zA4 (v := .int .i64 (zGm 1 kids)) (by simp (disch := omega) only [EL, ↓K3, ↓K1, reduceIte, Nat.reduceEqDiff, Nat.reduceAdd, Nat.reduceLeDiff]) zAl, rfl, m2⟩
end
end Go.Ev
