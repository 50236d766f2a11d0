/- LxW6 LxW7 LxW8 PaW23 PaW24 PaN PaW25 PaL PaD PaJ PaW26 PaW27 PaB LxW9 PaW28 -/
import Derived.Test.YtlolcfdllehpgaaGreatDoorPaK
import Derived.Test.YtlolcfdllehpgaaGreatDoorPaI
set_option linter.unusedSimpArgs false
set_option linter.unusedVariables false
set_option linter.unusedSectionVars false
set_option linter.defProp false
set_option maxRecDepth 100000
set_option maxHeartbeats 4000000
namespace Go.Ev
open Go Go.Pa
def idxF (xs : List Str) (q : Str → Bool) : Int := match xs.findIdx? q with | some i => (i : Int) | none => -1
theorem idxF_at {xs : List Str} {q : Str → Bool} {k : Nat} (hk : k < xs.length) (h : ∀ i, i < k → (hi : i < xs.length) → q xs[i] = false) (e : q xs[k] = true) : xs.findIdx? q = some k := by
 rw [List.findIdx?_eq_some_iff_getElem]
 exact ⟨hk, e, fun j hj => by rw [h j hj (by omega)]; simp⟩
section
variable {tab : Nat → Option AFunc} {h : AH} (H : PT tab)
include H in
theorem indexF_gp {v : AV} {xs : List Str} {f : Nat} {caps : List AV} {p : Str → Bool} (a : StrA h v xs) (hl : xs.length < 1000) (hq : ∀ x, GP tab f (sv x :: caps) h fun w h1 => w = .bool (p x) ∧ h1 = h) : GP tab 93 [v, .fn f [] caps] h fun w h1 => w = .int .i64 (idxF xs p) ∧ h1 = h := by
 obtain ⟨ia, off, cap, sz, pp, ro, c, rfl, gc, ga⟩ := a
 have i0 : zAg [.sl ia off xs.length cap, .fn f [] caps] = zAc [.sl ia off xs.length cap, .fn f [] caps] := rfl
 have la : ∀ x, lapp [] (lapp [sv x] caps) = sv x :: caps := fun x => rfl
 refine GE.gp (ge_of H.t93 rfl ?_) (E := fun _ _ => False) fun _ _ => id
 refine zAd (zAb fun Q1 hQ => ?_)
 simp (disch := omega) only [EL, ↓K3, ↓K1, reduceIte, Nat.reduceEqDiff, Nat.reduceAdd, Nat.reduceLeDiff, i0]
 refine hQ _ ?_
 clear hQ Q1
 refine zAd ?_
 refine zAd (zAb fun Q1 hQ => ?_)
 simp (disch := omega) only [EL, ↓K3, ↓K1, reduceIte, Nat.reduceEqDiff, Nat.reduceAdd, Nat.reduceLeDiff, i0]
 refine hQ _ ?_
 clear hQ Q1
 refine zAu ?_
 refine zCc (fun m l d1 h1 => ∃ k, m = xs.length - k ∧ k ≤ xs.length ∧ d1 = [] ∧ h1 = h ∧ l.get 0 = some (.sl ia off xs.length cap) ∧ l.get 1 = some (.fn f [] caps) ∧ l.get 2 = some (.int .i64 (k : Int)) ∧ l.get 3 = some (.int .i64 (xs.length : Int)) ∧ ∀ i, i < k → (hi : i < xs.length) → p xs[i] = false) ?_ (xs.length - 0) ?_
 ·rintro m l d1 h1 ⟨k, rfl, hk, rfl, rfl, l0, l1, l2, l3, hall⟩
  refine zAd (zAb fun Q1 hQ => ?_)
  simp (disch := omega) only [EL, ↓K3, ↓K1, reduceIte, Nat.reduceEqDiff, Nat.reduceAdd, Nat.reduceLeDiff, l2, l3]
  refine hQ _ ?_
  clear hQ Q1
  refine zAd ?_
  refine wc_if (k < xs.length) (by simp +decide only [EL, reduceIte]) (fun hlt => ?_) (fun hge => ?_)
  ·refine zAl ?_
   simp only [zAa]
   refine zAd ?_
   refine zAu ?_
   refine zAd (zAb fun Q1 hQ => ?_)
   simp (disch := omega) only [EL, ↓K3, ↓K1, reduceIte, Nat.reduceEqDiff, Nat.reduceAdd, Nat.reduceLeDiff, l2]
   refine hQ _ ?_
   clear hQ Q1
   have gk := ga k hlt
   refine zAd (zAb fun Q1 hQ => ?_)
   simp (disch := omega) only [EL, ↓K3, ↓K1, reduceIte, Nat.reduceEqDiff, Nat.reduceAdd, Nat.reduceLeDiff, l0, l1, l2, gc, gk, Nat.mul_one, la]
   rw [ge_rw (hq xs[k])]
   simp (disch := omega) only [EL, ↓K3, ↓K1, reduceIte, Nat.reduceEqDiff, Nat.reduceAdd, Nat.reduceLeDiff]
   refine hQ _ ?_
   clear hQ Q1
   simp only [zAa]
   cases he : p xs[k] with
   | true =>
    refine zAq (by simp +decide only [EL, reduceIte]) ?_
    refine zAd (zAb fun Q1 hQ => ?_)
    simp (disch := omega) only [EL, ↓K3, ↓K1, reduceIte, Nat.reduceEqDiff, Nat.reduceAdd, Nat.reduceLeDiff, l2]
    refine hQ _ ?_
    clear hQ Q1
    refine zAj ?_
    try simp only [zAh, zAf]
    have e1 := idxF_at hlt hall he
    simp (disch := omega) only [EL, ↓K3, ↓K1, reduceIte, Nat.reduceEqDiff, Nat.reduceAdd, Nat.reduceLeDiff]
    unfold idxF
    rw [e1]
   | false =>
    refine wc_no (by simp +decide only [EL, reduceIte]) ?_
    refine zAl ?_
    simp only [zAi, zAa]
    refine zAb fun Q1 hQ => ?_
    simp (disch := omega) only [EL, ↓K3, ↓K1, reduceIte, Nat.reduceEqDiff, Nat.reduceAdd, Nat.reduceLeDiff, l2]
    refine hQ _ ?_
    clear hQ Q1
    simp only [zAa]
    refine ⟨xs.length - (k + 1), by omega, k + 1, rfl, hlt, trivial, trivial, by simp +decide only [EL, reduceIte, l0], by simp +decide only [EL, reduceIte, l1], by simp +decide only [EL, reduceIte], by simp +decide only [EL, reduceIte, l3], fun i hi hi' => ?_⟩
    by_cases e : i = k
    ·subst e; exact he
    ·exact hall i (by omega) hi'
  ·refine zC1 ?_
   simp only [zBd, zBa, if_true, zAa]
   refine zAd (zAb fun Q1 hQ => ?_)
   simp (disch := omega) only [EL, ↓K3, ↓K1, reduceIte, Nat.reduceEqDiff, Nat.reduceAdd, Nat.reduceLeDiff]
   refine hQ _ ?_
   clear hQ Q1
   refine zAj ?_
   simp (disch := omega) only [EL, ↓K3, ↓K1, reduceIte, Nat.reduceEqDiff, Nat.reduceAdd, Nat.reduceLeDiff]
   unfold idxF
   have hn : xs.findIdx? p = none := by
    rw [List.findIdx?_eq_none_iff]
    intro x hx
    obtain ⟨j, hj, rfl⟩ := List.getElem_of_mem hx
    exact hall j (by omega) hj
   rw [hn]
   rfl
 ·exact ⟨0, rfl, Nat.zero_le _, rfl, rfl, by simp +decide only [EL, reduceIte, i0], by simp +decide only [EL, reduceIte, i0], by simp +decide only [EL, reduceIte, i0], by simp +decide only [EL, reduceIte, i0], fun i hi => by omega⟩
include H in
theorem sign1_gp {x s : Str} {bx : Nat} (gx : h.mem.get bx = some (.cells (cell1 (sv s)) 1 none false)) : GP tab 95 [sv x, .ptr bx 0] h fun v h1 => v = .bool (x.isPrefixOf s) ∧ h1 = h := by
 have i0 : zAg [sv x, .ptr bx 0] = zAc [sv x, .ptr bx 0] := rfl
 refine GE.gp (ge_of H.t95 rfl ?_) (E := fun _ _ => False) fun _ _ => id
 refine zAd (zAb fun Q1 hQ => ?_)
 simp (disch := omega) only [EL, ↓K3, ↓K1, reduceIte, Nat.reduceEqDiff, Nat.reduceAdd, Nat.reduceLeDiff, i0]
 refine hQ _ ?_
 clear hQ Q1
 refine zAd (zAb fun Q1 hQ => ?_)
 simp (disch := omega) only [EL, ↓K3, ↓K1, reduceIte, Nat.reduceEqDiff, Nat.reduceAdd, Nat.reduceLeDiff, i0, gx, zA1]
 rw [ge_rw (prefix_gp H)]
 simp (disch := omega) only [EL, ↓K3, ↓K1, reduceIte, Nat.reduceEqDiff, Nat.reduceAdd, Nat.reduceLeDiff, i0]
 refine hQ _ ?_
 simp only [zAa]
 refine zAj ?_
 simp (disch := omega) only [EL, ↓K3, ↓K1, reduceIte, Nat.reduceEqDiff, Nat.reduceAdd, Nat.reduceLeDiff]
 cases x.isPrefixOf s <;> rfl
include H in
theorem sign_lex {s : Str} : GP tab 69 [sv s] h fun v h1 => v = .tup [.agg [.int .i64 ((signT s).1 : Int), sv (signT s).2.1, .int .i64 ((0 : Nat) : Int)], .int .i64 ((signT s).2.2 : Int)] ∧ More h h1 := by
 have i0 : zAg [sv s] = zAc [sv s] := rfl
 refine GE.gp (ge_of H.t69 rfl ?_) (E := fun _ _ => False) fun _ _ => id
 refine zAd (zAb fun Q1 hQ => ?_)
 simp (disch := omega) only [EL, ↓K3, ↓K1, reduceIte, Nat.reduceEqDiff, Nat.reduceAdd, Nat.reduceLeDiff, i0]
 refine hQ _ ?_
 clear hQ Q1
 have m1 : More h ((h.add (.cells (.log 1 0 (some (sv s)) .leaf) 1 none false)).add (.cells (zAc [.int .i64 ((0 : Nat) : Int), sv [], .int .i64 ((0 : Nat) : Int)]) 3 none false)) := (More.add _ _).trans (More.add _ _)
 have n1 : ((h.add (.cells (.log 1 0 (some (sv s)) .leaf) 1 none false)).add (.cells (zAc [.int .i64 ((0 : Nat) : Int), sv [], .int .i64 ((0 : Nat) : Int)]) 3 none false)).next = h.next + 2 := rfl
 have g1 : ((h.add (.cells (.log 1 0 (some (sv s)) .leaf) 1 none false)).add (.cells (zAc [.int .i64 ((0 : Nat) : Int), sv [], .int .i64 ((0 : Nat) : Int)]) 3 none false)).mem.get h.next = some (.cells (cell1 (sv s)) 1 none false) := by
  rw [AH.add_mem, T.get_put_ne _ _ _ _ (by show h.next + 1 ≠ h.next; omega), AH.add_mem, T.get_put_self]; rfl
 have g2 : ((h.add (.cells (.log 1 0 (some (sv s)) .leaf) 1 none false)).add (.cells (zAc [.int .i64 ((0 : Nat) : Int), sv [], .int .i64 ((0 : Nat) : Int)]) 3 none false)).mem.get (h.next + 1) = some (.cells (zAc [.int .i64 ((0 : Nat) : Int), sv [], .int .i64 ((0 : Nat) : Int)]) 3 none false) := by
  rw [AH.add_mem]; exact T.get_put_self _ _ _
 generalize ((h.add (.cells (.log 1 0 (some (sv s)) .leaf) 1 none false)).add (.cells (zAc [.int .i64 ((0 : Nat) : Int), sv [], .int .i64 ((0 : Nat) : Int)]) 3 none false)) = h1 at *
 simp only [zAa]
 refine zAd (zAb fun Q1 hQ => ?_)
 simp (disch := omega) only [EL, ↓K3, ↓K1, reduceIte, Nat.reduceEqDiff, Nat.reduceAdd, Nat.reduceLeDiff, i0]
 refine (lsigns_gp H).to fun v h2 q => ?_
 obtain ⟨rfl, m2, c, gc, ga⟩ := q
 have n2 := m2.next
 have g12 := (m2.keep h.next (by omega)).trans g1
 have g22 := (m2.keep (h.next + 1) (by omega)).trans g2
 have e28 : lexSigns.length = 28 := rfl
 have g : GP tab 93 [.sl h1.next 0 28 (.known 28), .fn 95 [] [.ptr h.next 0]] h2 (fun w h3 => w = .int .i64 (idxF lexSigns (fun x => x.isPrefixOf s)) ∧ h3 = h2) := indexF_gp H (xs := lexSigns) ⟨_, 0, _, _, _, _, c, rfl, gc, fun i hi => by rw [Nat.zero_add]; exact ga i hi⟩ (by decide) fun x => sign1_gp H g12
 simp (disch := omega) only [EL, ↓K3, ↓K1, reduceIte, Nat.reduceEqDiff, Nat.reduceAdd, Nat.reduceLeDiff, i0]
 rw [ge_rw g]
 simp (disch := omega) only [EL, ↓K3, ↓K1, reduceIte, Nat.reduceEqDiff, Nat.reduceAdd, Nat.reduceLeDiff]
 refine hQ _ ?_
 clear hQ Q1
 try simp only [zAa]
 refine zAd ?_
 refine zAd (zAb fun Q1 hQ => ?_)
 cases hf : lexSigns.findIdx? (fun x => x.isPrefixOf s) with
 | none =>
  have hi : idxF lexSigns (fun x => x.isPrefixOf s) = -1 := by unfold idxF; rw [hf]
  have hT : signT s = (0, [], 1) := by
   unfold signT
   have : lexSigns.find? (fun x => x.isPrefixOf s) = none := by
    rw [List.find?_eq_none]; intro x hx
    rw [List.findIdx?_eq_none_iff] at hf
    simp [hf x hx]
   rw [this]
  rw [hi]
  have lt0 : (-1 : Int) < ((0 : Nat) : Int) := by decide
  simp (disch := omega) only [EL, ↓K3, ↓K1, reduceIte, Nat.reduceEqDiff, Nat.reduceAdd, Nat.reduceLeDiff, lt0]
  refine hQ _ ?_
  clear hQ Q1
  try simp only [zAa]
  refine zAq (by simp +decide only [EL, reduceIte]) ?_
  refine zAd (zAb fun Q1 hQ => ?_)
  simp (disch := omega) only [EL, ↓K3, ↓K1, reduceIte, Nat.reduceEqDiff, Nat.reduceAdd, Nat.reduceLeDiff, g22]
  refine hQ _ ?_
  clear hQ Q1
  refine zAj ?_
  try simp only [zAh, zAf]
  refine ⟨_, zB0 (by simp +decide only [EL, reduceIte]) AH.get_set (lst := [.int .i64 ((0 : Nat) : Int), sv [], .int .i64 ((0 : Nat) : Int)]) (by simp +decide only [EL, reduceIte, zAe]) (zBe (v := .int .i64 ((1 : Nat) : Int)) (by simp +decide only [EL, reduceIte]) zAm), ?_⟩
  rw [hT]
  exact ⟨rfl, (m1.trans m2).set (by omega) _⟩
 | some j =>
  have hi : idxF lexSigns (fun x => x.isPrefixOf s) = (j : Int) := by unfold idxF; rw [hf]
  rw [List.findIdx?_eq_some_iff_getElem] at hf
  obtain ⟨hj, hp, hall⟩ := hf
  have hT : signT s = (4, lexSigns[j], 0) := by
   unfold signT
   have : lexSigns.find? (fun x => x.isPrefixOf s) = some lexSigns[j] := by
    rw [List.find?_eq_some_iff_getElem]
    exact ⟨hp, j, hj, rfl, fun i hi => (Bool.not_eq_true' _).mpr (Bool.eq_false_iff.mpr (hall i hi))⟩
   rw [this]
  rw [hi]
  have lt0 : ¬ (j : Int) < ((0 : Nat) : Int) := by omega
  have hj2 : j < 28 := hj
  simp (disch := omega) only [EL, ↓K3, ↓K1, reduceIte, Nat.reduceEqDiff, Nat.reduceAdd, Nat.reduceLeDiff, lt0]
  refine hQ _ ?_
  clear hQ Q1
  try simp only [zAa]
  refine wc_no (by simp +decide only [EL, reduceIte]) ?_
  refine zAl ?_
  simp only [zAa]
  refine zAd (zAb fun Q1 hQ => ?_)
  simp (disch := omega) only [EL, ↓K3, ↓K1, reduceIte, Nat.reduceEqDiff, Nat.reduceAdd, Nat.reduceLeDiff, i0]
  refine (lsigns_gp H).to fun v h3 q => ?_
  obtain ⟨rfl, m3, c3, gc3, ga3⟩ := q
  have n3 := m3.next
  have g23 := (m3.keep (h.next + 1) (by omega)).trans g22
  have gj := ga3 j hj
  simp (disch := omega) only [EL, ↓K3, ↓K1, reduceIte, Nat.reduceEqDiff, Nat.reduceAdd, Nat.reduceLeDiff, gc3, gj, g23, hj2, Nat.mul_one]
  refine hQ _ ?_
  clear hQ Q1
  try simp only [zAa]
  refine zAj ?_
  try simp only [zAh, zAf]
  refine ⟨_, zB0 (by simp +decide only [EL, reduceIte]) AH.get_set (lst := [.int .i64 ((4 : Nat) : Int), sv lexSigns[j], .int .i64 ((0 : Nat) : Int)]) (by simp +decide only [EL, reduceIte, zAe]; rfl) (zBe (v := .int .i64 ((0 : Nat) : Int)) (by simp +decide only [EL, reduceIte]) zAm), ?_⟩
  rw [hT]
  exact ⟨rfl, ((m1.trans m2).trans m3).set (by omega) _⟩
end
end Go.Ev
namespace Go.Ev
open Go Go.Pa
section
variable {tab : Nat → Option AFunc} {h : AH} (H : PT tab)
abbrev nextV (x : Nat × Str × Nat) : AV := .tup [.agg [.int .i64 (x.1 : Int), sv x.2.1, .int .i64 ((0 : Nat) : Int)], .int .i64 (x.2.2 : Int)]
include H in
theorem next_lex {s : Str} (h0 : s ≠ []) (hs : s.length ≤ 1000000) : GP tab 38 [sv s] h fun v h1 => v = nextV (nextT s) ∧ More h h1 := by
 obtain ⟨c, t, rfl⟩ : ∃ c t, s = c :: t := by
  cases s with
  | nil => exact absurd rfl h0
  | cons c t => exact ⟨c, t, rfl⟩
 have i0 : zAg [sv (c :: t)] = zAc [sv (c :: t)] := rfl
 have ix : ∀ h' : AH, oIdxS (.c (sv (c :: t))) (.c (.int .i64 ((0 : Nat) : Int))) .leaf [] h' = .val (byteV c) h' := fun h' => idx_sv (i := 0) rfl
 refine GE.gp (ge_of H.t38 rfl ?_) (E := fun _ _ => False) fun _ _ => id
 refine zAd (zAb fun Q1 hQ => ?_)
 simp (disch := omega) only [EL, ↓K3, ↓K1, reduceIte, Nat.reduceEqDiff, Nat.reduceAdd, Nat.reduceLeDiff, i0]
 refine hQ _ ?_
 clear hQ Q1
 have m1 : More h (h.add (.cells (zAc [.int .i64 ((0 : Nat) : Int), sv [], .int .i64 ((0 : Nat) : Int)]) 3 none false)) := More.add _ _
 have g1 : (h.add (.cells (zAc [.int .i64 ((0 : Nat) : Int), sv [], .int .i64 ((0 : Nat) : Int)]) 3 none false)).mem.get h.next = some (.cells (zAc [.int .i64 ((0 : Nat) : Int), sv [], .int .i64 ((0 : Nat) : Int)]) 3 none false) := by rw [AH.add_mem, T.get_put_self]
 have n1 : (h.add (.cells (zAc [.int .i64 ((0 : Nat) : Int), sv [], .int .i64 ((0 : Nat) : Int)]) 3 none false)).next = h.next + 1 := rfl
 generalize h.add (.cells (zAc [.int .i64 ((0 : Nat) : Int), sv [], .int .i64 ((0 : Nat) : Int)]) 3 none false) = h1 at *
 simp only [zAa]
 have fin : ∀ (x : Nat × Str × Nat) (l : T AV) (h2 : AH), l.get 2 = some (.ptr h.next 0) → More h1 h2 → zDv [.cellN 3 (.l 2), .val (.l 4)] (fun v h3 => v = nextV x ∧ More h h3) (fun _ _ => False)
   (.ret (T.put (some (.int .i64 (x.2.2 : Int))) l 4) [] (h2.set h.next (.cells (T.put (some (.int .i64 ((0 : Nat) : Int))) (T.put (some (sv x.2.1)) (T.put (some (.int .i64 (x.1 : Int))) (zAc [.int .i64 ((0 : Nat) : Int), sv [], .int .i64 ((0 : Nat) : Int)]) 0) 1) 2) 3 none false))) := by
  intro x l h2 l2 m2
  refine ⟨_, zB0 (id := h.next) (by simp +decide only [EL, reduceIte, l2]) AH.get_set (lst := [.int .i64 (x.1 : Int), sv x.2.1, .int .i64 ((0 : Nat) : Int)]) (by simp +decide only [EL, reduceIte, zAe]) (zBe (v := .int .i64 (x.2.2 : Int)) (by simp +decide only [EL, reduceIte]) zAm), rfl, (m1.trans m2).set (Nat.le_refl _) _⟩
 refine zAd ?_
 refine zAu ?_
 refine zAd (zAb fun Q1 hQ => ?_)
 simp (disch := omega) only [EL, ↓K3, ↓K1, reduceIte, Nat.reduceEqDiff, Nat.reduceAdd, Nat.reduceLeDiff, i0, ix]
 rw [ge_rw (zHp H)]
 simp (disch := omega) only [EL, ↓K3, ↓K1, reduceIte, Nat.reduceEqDiff, Nat.reduceAdd, Nat.reduceLeDiff]
 refine hQ _ ?_
 clear hQ Q1
 try simp only [zAa]
 have hT : nextT (c :: t) = if zB7 c then wordT (c :: t) else if zBb c then numT (c :: t) else signT (c :: t) := rfl
 rw [hT]
 clear hT
 cases hl : zB7 c with
 | true =>
  rw [if_pos rfl]
  refine zAq (by simp +decide only [EL, reduceIte, hl]) ?_
  refine zAd (zAb fun Q1 hQ => ?_)
  simp (disch := omega) only [EL, ↓K3, ↓K1, reduceIte, Nat.reduceEqDiff, Nat.reduceAdd, Nat.reduceLeDiff, i0]
  refine (word_lex H hs).to fun v h2 q => ?_
  obtain ⟨rfl, m2⟩ := q
  have g12 := (m2.keep h.next (by omega)).trans g1
  simp (disch := omega) only [EL, ↓K3, ↓K1, reduceIte, Nat.reduceEqDiff, Nat.reduceAdd, Nat.reduceLeDiff, g12]
  refine hQ _ ?_
  clear hQ Q1
  try simp only [zAa]
  refine zAj ?_
  try simp only [zAh, zAf]
  exact fin _ _ h2 (by simp +decide only [EL, reduceIte]) m2
 | false =>
  rw [if_neg (by simp)]
  refine wc_no (by simp +decide only [EL, reduceIte, hl]) ?_
  refine zAd (zAb fun Q1 hQ => ?_)
  simp (disch := omega) only [EL, ↓K3, ↓K1, reduceIte, Nat.reduceEqDiff, Nat.reduceAdd, Nat.reduceLeDiff, i0, ix]
  rw [ge_rw (zLy H)]
  simp (disch := omega) only [EL, ↓K3, ↓K1, reduceIte, Nat.reduceEqDiff, Nat.reduceAdd, Nat.reduceLeDiff]
  refine hQ _ ?_
  clear hQ Q1
  try simp only [zAa]
  cases hd : zBb c with
  | true =>
   rw [if_pos rfl]
   refine zAq (by simp +decide only [EL, reduceIte, hd]) ?_
   refine zAd (zAb fun Q1 hQ => ?_)
   simp (disch := omega) only [EL, ↓K3, ↓K1, reduceIte, Nat.reduceEqDiff, Nat.reduceAdd, Nat.reduceLeDiff, i0]
   refine (number_lex H hd hs).to fun v h2 q => ?_
   obtain ⟨rfl, m2⟩ := q
   have g12 := (m2.keep h.next (by omega)).trans g1
   simp (disch := omega) only [EL, ↓K3, ↓K1, reduceIte, Nat.reduceEqDiff, Nat.reduceAdd, Nat.reduceLeDiff, g12]
   refine hQ _ ?_
   clear hQ Q1
   try simp only [zAa]
   refine zAj ?_
   try simp only [zAh, zAf]
   exact fin _ _ h2 (by simp +decide only [EL, reduceIte]) m2
  | false =>
   rw [if_neg (by simp)]
   refine wc_no (by simp +decide only [EL, reduceIte, hd]) ?_
   refine zAl ?_
   simp only [zAa, zAi]
   refine zAd (zAb fun Q1 hQ => ?_)
   simp (disch := omega) only [EL, ↓K3, ↓K1, reduceIte, Nat.reduceEqDiff, Nat.reduceAdd, Nat.reduceLeDiff, i0]
   refine (sign_lex H).to fun v h2 q => ?_
   obtain ⟨rfl, m2⟩ := q
   have g12 := (m2.keep h.next (by omega)).trans g1
   simp (disch := omega) only [EL, ↓K3, ↓K1, reduceIte, Nat.reduceEqDiff, Nat.reduceAdd, Nat.reduceLeDiff, g12]
   refine hQ _ ?_
   clear hQ Q1
   try simp only [zAa]
   refine zAj ?_
   try simp only [zAh, zAf]
   exact fin _ _ h2 (by simp +decide only [EL, reduceIte]) m2
end
end Go.Ev
namespace Go.Ev
open Go Go.Pa
abbrev tokL (t : Tok) : List AV := [.int .i64 (t.kind : Int), sv t.text, .int .i64 (t.pos : Int)]
def scanV (y : LR) (lo : Nat) (v : AV) (h1 : AH) : Prop :=
 (∃ ts tl, y = .ok ts ∧ v = .tup [tl, .int .i64 ((0 : Nat) : Int), .int .i64 ((0 : Nat) : Int)] ∧ OwnL h1 lo 3 tl (ts.map tokL) ∧ (ts = [] → tl = .nils)) ∨
 (∃ p e, e ≠ 0 ∧ y = .err p e ∧ v = .tup [.nils, .int .i64 (p : Int), .int .i64 (e : Int)])
theorem OwnL.lt {h : AH} {b es : Nat} {v : AV} {xs : List (List AV)} (x : OwnL h b es v xs) {k o n e : Nat} (he : v = .sl k o n (.rest e)) : k < h.next := by
 cases x with
 | nils => cases he
 | emp => cases he
 | sl a1 a2 a3 => injection he with he; subst he; exact a3
section
variable {tab : Nat → Option AFunc} {h : AH} (H : PT tab)
include H in
theorem zK7 {s : Str} (hs : s.length ≤ 1000000) : GP tab 21 [sv s] h fun v h1 => scanV (scanS s) h.next v h1 ∧ More h h1 := by
 have i0 : zAg [sv s] = zAc [sv s] := rfl
 refine GE.gp (ge_of H.t21 rfl ?_) (E := fun _ _ => False) fun _ _ => id
 refine zAd (zAb fun Q1 hQ => ?_)
 simp (disch := omega) only [EL, ↓K3, ↓K1, reduceIte, Nat.reduceEqDiff, Nat.reduceAdd, Nat.reduceLeDiff, i0]
 refine hQ _ ?_
 clear hQ Q1
 refine zAd ?_
 refine zAd (zAb fun Q1 hQ => ?_)
 simp (disch := omega) only [EL, ↓K3, ↓K1, reduceIte, Nat.reduceEqDiff, Nat.reduceAdd, Nat.reduceLeDiff, i0]
 refine hQ _ ?_
 clear hQ Q1
 by_cases hl : 4096 < s.length
 ·refine zAq (by simp +decide only [EL, reduceIte, hl]) ?_
  refine zAd (zAb fun Q1 hQ => ?_)
  simp (disch := omega) only [EL, ↓K3, ↓K1, reduceIte, Nat.reduceEqDiff, Nat.reduceAdd, Nat.reduceLeDiff]
  refine hQ _ ?_
  clear hQ Q1
  refine zAj ?_
  try simp only [zAh, zAf]
  refine ⟨_, zBe (v := .nils) (by simp +decide only [EL, reduceIte]) (zBe (v := .int .i64 ((4096 : Nat) : Int)) (by simp +decide only [EL, reduceIte]) (zBe (v := .int .i64 ((4 : Nat) : Int)) (by simp +decide only [EL, reduceIte]) zAm)), .inr ⟨4096, 4, by decide, by unfold scanS; rw [if_pos hl], rfl⟩, More.refl h⟩
 refine wc_no (by simp +decide only [EL, reduceIte, hl]) ?_
 refine zAl ?_
 simp only [zAa]
 obtain ⟨y, hy⟩ : ∃ y, scanL s (s.length + 1) (skipS s) [] = y := ⟨_, rfl⟩
 have hne : y ≠ .out := by rw [← hy]; exact zK9 _ _ _ (by omega) (zE0 _ _)
 have hyS : scanS s = y := by unfold scanS; rw [if_neg hl]; exact hy
 rw [hyS]
 clear hyS
 refine zAd (zAb fun Q1 hQ => ?_)
 simp (disch := omega) only [EL, ↓K3, ↓K1, reduceIte, Nat.reduceEqDiff, Nat.reduceAdd, Nat.reduceLeDiff]
 refine hQ _ ?_
 clear hQ Q1
 refine zAd ?_
 refine zAd ?_
 refine zAb fun Q1 hQ => ?_
 simp (disch := omega) only [EL, ↓K3, ↓K1, reduceIte, Nat.reduceEqDiff, Nat.reduceAdd, Nat.reduceLeDiff, i0]
 rw [ge_rw (skip_gp H hs)]
 simp (disch := omega) only [EL, ↓K3, ↓K1, reduceIte, Nat.reduceEqDiff, Nat.reduceAdd, Nat.reduceLeDiff]
 refine hQ _ ?_
 clear hQ Q1
 try simp only [zAa]
 have errEnd : ∀ (l : T AV) (h3 : AH) (p e : Nat), e ≠ 0 → l.get 2 = some (.int .i64 (p : Int)) → l.get 4 = some (.int .i64 (e : Int)) → More h h3 → y = .err p e → ∀ Q : Res → Prop, (∀ l' h', zDv [.val (.l 8), .val (.l 9), .val (.l 10)] (fun v h1 => scanV y h.next v h1 ∧ More h h1) (fun _ _ => False) (.ret l' [] h') → Q (.ret l' [] h')) →
   WC tab (.seq (.ops [⟨.move (.l 2), none, none, []⟩, ⟨.move (.l 4), none, none, []⟩, ⟨.move (.c .nils), none, some 8, []⟩, ⟨.move (.t 2), none, some 9, []⟩, ⟨.move (.t 2), none, some 10, []⟩]) .ret) l [] h3 Q := by
  intro l h3 p e he l2 l4 m3 hye Q hq
  refine zAd (zAb fun Q1 hQ => ?_)
  simp (disch := omega) only [EL, ↓K3, ↓K1, reduceIte, Nat.reduceEqDiff, Nat.reduceAdd, Nat.reduceLeDiff, l2, l4]
  refine hQ _ ?_
  clear hQ Q1
  refine zAj (hq _ _ ?_)
  exact ⟨_, zBe (v := .nils) (by simp +decide only [EL, reduceIte]) (zBe (v := .int .i64 (p : Int)) (by simp +decide only [EL, reduceIte]) (zBe (v := .int .i64 (e : Int)) (by simp +decide only [EL, reduceIte]) zAm)), .inr ⟨p, e, he, hye, rfl⟩, m3⟩
 refine zAu ?_
 refine zCc (fun k l d1 h1 => ∃ (at_ : Nat) (acc : List Tok) (tl : AV), d1 = [] ∧ l.get 0 = some (sv s) ∧ l.get 2 = some (.int .i64 (at_ : Int)) ∧ l.get 7 = some tl ∧ More h h1 ∧ at_ ≤ s.length ∧ acc.length ≤ at_ ∧ OwnL h1 h.next 3 tl (acc.map tokL) ∧ (acc = [] → tl = .nils) ∧ scanL s k at_ acc = y) ?_ (s.length + 1) ?_
 ·rintro k l d1 h1 ⟨at_, acc, tl, rfl, l0, l2, l7, m1, hat, hacc, own, emp, hy⟩
  cases k with
  | zero => exact absurd (by rw [← hy]; rfl) hne
  | succ k =>
   unfold scanL at hy
   refine zAd ?_
   refine zAd (zAb fun Q1 hQ => ?_)
   by_cases hlt : at_ < s.length
   rotate_left
   ·rw [if_neg hlt] at hy
    simp (disch := omega) only [EL, ↓K3, ↓K1, reduceIte, Nat.reduceEqDiff, Nat.reduceAdd, Nat.reduceLeDiff, l0, l2, hlt]
    refine hQ _ ?_
    clear hQ Q1
    try simp only [zAa]
    refine wc_no (by simp +decide only [EL, reduceIte]) ?_
    refine zC1 ?_
    simp only [zBd, zBa, if_true, zAa]
    have mvt : ∀ h', oMove (.c tl) .leaf [] h' = .val tl h' := fun h' => zE8 own.mv
    refine zAd (zAb fun Q1 hQ => ?_)
    simp (disch := omega) only [EL, ↓K3, ↓K1, reduceIte, Nat.reduceEqDiff, Nat.reduceAdd, Nat.reduceLeDiff, l7, mvt]
    refine hQ _ ?_
    clear hQ Q1
    refine zAj ?_
    try simp only [zAh, zAf]
    exact ⟨_, zBe (v := tl) (by simp +decide only [EL, reduceIte]) (zBe (v := .int .i64 ((0 : Nat) : Int)) (by simp +decide only [EL, reduceIte]) (zBe (v := .int .i64 ((0 : Nat) : Int)) (by simp +decide only [EL, reduceIte]) zAm)), .inl ⟨acc, tl, hy.symm, rfl, own, emp⟩, m1⟩
   rw [if_pos hlt] at hy
   simp (disch := omega) only [EL, ↓K3, ↓K1, reduceIte, Nat.reduceEqDiff, Nat.reduceAdd, Nat.reduceLeDiff, l0, l2, hlt]
   refine hQ _ ?_
   clear hQ Q1
   try simp only [zAa]
   refine zAq (by simp +decide only [EL, reduceIte]) ?_
   refine zAl ?_
   simp only [zAa]
   have sl : ∀ h' : AH, zDe (.c (sv s)) (some (.c (.int .i64 (at_ : Int)))) none .leaf [] h' = .val (sv (s.drop at_)) h' := fun h' => zHi hat
   refine zAd ?_
   refine zAu ?_
   refine zAd (zAb fun Q1 hQ => ?_)
   simp (disch := omega) only [EL, ↓K3, ↓K1, reduceIte, Nat.reduceEqDiff, Nat.reduceAdd, Nat.reduceLeDiff, l0, l2, sl]
   refine (next_lex H (s := s.drop at_) (fun e => by have := congrArg List.length e; simp at this; omega) (by simp; omega)).to fun v h2 q => ?_
   obtain ⟨rfl, m2⟩ := q
   obtain ⟨x, hx⟩ : ∃ x, x = nextT (s.drop at_) := ⟨_, rfl⟩
   have hok := zHn (s := s.drop at_)
   rw [← hx] at hy hok ⊢
   obtain ⟨kd, w, er⟩ := x
   simp only at hy hok ⊢
   have n2 := m2.next
   simp (disch := omega) only [EL, ↓K3, ↓K1, reduceIte, Nat.reduceEqDiff, Nat.reduceAdd, Nat.reduceLeDiff]
   refine hQ _ ?_
   clear hQ Q1
   refine zC8 fun h3 n3 g3 m3 => ?_
   obtain ⟨ct, gt, k0, k1, k2⟩ := g3
   simp only [zAa]
   have m13 := m1.trans (m2.trans m3)
   have own3 := own.more (m2.trans m3)
   have n1 := m1.next
   refine zAd ?_
   refine zAd (zAb fun Q1 hQ => ?_)
   by_cases he : er = 0
   rotate_left
   ·rw [if_pos he] at hy
    have he' : ¬ (er : Int) = ((0 : Nat) : Int) := by omega
    simp (disch := omega) only [EL, ↓K3, ↓K1, reduceIte, Nat.reduceEqDiff, Nat.reduceAdd, Nat.reduceLeDiff, he']
    refine hQ _ ?_
    clear hQ Q1
    try simp only [zAa]
    refine zAq (by simp +decide only [EL, reduceIte]) ?_
    refine errEnd _ h3 at_ er he (by simp +decide only [EL, reduceIte, l2]) (by simp +decide only [EL, reduceIte]) m13 hy.symm _ fun l' h' q => ?_
    try simp only [zAh, zAf]
    exact q
   ·rw [if_neg (not_not_intro he)] at hy
    obtain ⟨p1, p2, _, _⟩ := hok he
    simp only [List.length_drop] at p2
    subst he
    simp (disch := omega) only [EL, ↓K3, ↓K1, reduceIte, Nat.reduceEqDiff, Nat.reduceAdd, Nat.reduceLeDiff]
    refine hQ _ ?_
    clear hQ Q1
    try simp only [zAa]
    refine wc_no (by simp +decide only [EL, reduceIte]) ?_
    refine zAl ?_
    simp only [zAa]
    refine zAd (zAb fun Q1 hQ => ?_)
    simp (disch := omega) only [EL, ↓K3, ↓K1, reduceIte, Nat.reduceEqDiff, Nat.reduceAdd, Nat.reduceLeDiff, l2, gt, k2]
    refine hQ _ ?_
    clear hQ Q1
    have gt4 : (h3.set h2.next (.cells (T.put (some (.int .i64 (at_ : Int))) ct 2) 3 none false)).mem.get h2.next = some (.cells (T.put (some (.int .i64 (at_ : Int))) ct 2) 3 none false) := AH.get_set
    have o4 : Only h2.next h3 (h3.set h2.next (.cells (T.put (some (.int .i64 (at_ : Int))) ct 2) 3 none false)) := Only.set
    have m24 : More h2 (h3.set h2.next (.cells (T.put (some (.int .i64 (at_ : Int))) ct 2) 3 none false)) := m3.set (Nat.le_refl _) _
    generalize h3.set h2.next (.cells (T.put (some (.int .i64 (at_ : Int))) ct 2) 3 none false) = h4 at *
    have n4 := o4.next
    have own4 := own.more (m2.trans m24)
    try simp only [zAa]
    have mvt : ∀ h', oMove (.c tl) .leaf [] h' = .val tl h' := fun h' => zE8 own.mv
    refine zAd (zAb fun Q1 hQ => ?_)
    simp (disch := omega) only [EL, ↓K3, ↓K1, reduceIte, Nat.reduceEqDiff, Nat.reduceAdd, Nat.reduceLeDiff, l7, mvt, gt4, k0, k1, zAe]
    have m5 : More h4 (h4.add (.cells (zAc [.int .i64 (kd : Int), sv w, .int .i64 (at_ : Int)]) 3 none false)) := More.add _ _
    have g5 : (h4.add (.cells (zAc [.int .i64 (kd : Int), sv w, .int .i64 (at_ : Int)]) 3 none false)).mem.get h4.next = some (.cells (zAc [.int .i64 (kd : Int), sv w, .int .i64 (at_ : Int)]) 3 none false) := by rw [AH.add_mem, T.get_put_self]
    have n5 : (h4.add (.cells (zAc [.int .i64 (kd : Int), sv w, .int .i64 (at_ : Int)]) 3 none false)).next = h4.next + 1 := rfl
    generalize h4.add (.cells (zAc [.int .i64 (kd : Int), sv w, .int .i64 (at_ : Int)]) 3 none false) = h5 at *
    have own5 := own4.more m5
    obtain ⟨tl', h6, ap, own6, kp6, n6, keep6, fresh6⟩ := own5.append (src := .sl h4.next 0 1 (.known 1)) (new := tokL ⟨kd, w, at_⟩) (by' := 32) (fun k => src_sl (by decide) g5 (by simp +decide only [EL, reduceIte, zAe]) k) rfl (by omega) (by omega) (by simp; omega) (by omega)
    have gt6 := (keep6 h2.next (by omega) (fun o n e he => by have := own.lt he; omega)).trans ((m5.keep h2.next (by omega)).trans gt4)
    have mv6 : ∀ h', oMove (.c tl') .leaf [] h' = .val tl' h' := fun h' => zE8 own6.mv
    simp (disch := omega) only [EL, ↓K3, ↓K1, reduceIte, Nat.reduceEqDiff, Nat.reduceAdd, Nat.reduceLeDiff, ap, mv6]
    refine hQ _ ?_
    clear hQ Q1
    try simp only [zAa]
    have w1 : IntKind.i64.wrap ((at_ : Int) + (w.length : Int)) = ((at_ + w.length : Nat) : Int) := by rw [zIr (by omega) (by omega)]; omega
    refine zAb fun Q1 hQ => ?_
    simp (disch := omega) only [EL, ↓K3, ↓K1, reduceIte, Nat.reduceEqDiff, Nat.reduceAdd, Nat.reduceLeDiff, l2, gt6, k1, w1]
    refine hQ _ ?_
    clear hQ Q1
    simp only [zAa, zAi]
    have sl2 : ∀ h' : AH, zDe (.c (sv s)) (some (.c (.int .i64 ((at_ + w.length : Nat) : Int)))) none .leaf [] h' = .val (sv (s.drop (at_ + w.length))) h' := fun h' => zHi (by omega)
    refine zAb fun Q1 hQ => ?_
    simp (disch := omega) only [EL, ↓K3, ↓K1, reduceIte, Nat.reduceEqDiff, Nat.reduceAdd, Nat.reduceLeDiff, l0, l2, sl2]
    rw [ge_rw (skip_gp H (by simp; omega))]
    have p4 := zE0 ((s.drop (at_ + w.length)).length + 1) (s.drop (at_ + w.length))
    have p5 : skipS (s.drop (at_ + w.length)) ≤ s.length - (at_ + w.length) := by unfold skipS; simp only [List.length_drop] at p4 ⊢; exact p4
    have w2 : IntKind.i64.wrap (((at_ + w.length : Nat) : Int) + (skipS (s.drop (at_ + w.length)) : Int)) = ((at_ + w.length + skipS (s.drop (at_ + w.length)) : Nat) : Int) := by rw [zIr (by omega) (by omega)]; omega
    simp (disch := omega) only [EL, ↓K3, ↓K1, reduceIte, Nat.reduceEqDiff, Nat.reduceAdd, Nat.reduceLeDiff, w2]
    refine hQ _ ?_
    clear hQ Q1
    try simp only [zAa]
    have m6 : More h h6 := ⟨by omega, fun k hk => by rw [kp6.keep k hk, m5.keep k (by omega), o4.keep k (by omega)]; exact m13.keep k hk⟩
    refine ⟨k, by omega, at_ + w.length + skipS (s.drop (at_ + w.length)), acc ++ [⟨kd, w, at_⟩], tl', trivial, by simp +decide only [EL, reduceIte, l0], T.get_put_self _ _ _, by simp +decide only [EL, reduceIte], m6, by omega, by simp; omega, by rw [List.map_append]; exact own6, fun e => by simp at e, hy⟩
 ·exact ⟨skipS s, [], .nils, rfl, by simp +decide only [EL, reduceIte, i0], by simp +decide only [EL, reduceIte], by simp +decide only [EL, reduceIte], More.refl h, zE0 _ _, by simp, .nils, fun _ => rfl, hy⟩
end
end Go.Ev
namespace Go.Ev
open Go Go.Pa
end Go.Ev
namespace Go.Pa
def zDk (n m : Nat) (s : Str) : PR (List Tree) := match scanS s with | .ok ts => progL ts s.length n m 0 0 [] | .err p e => .err p e | .out => .out
end Go.Pa
namespace Go.Ev
open Go Go.Pa
theorem OwnL.toks {h : AH} {b r : Nat} {v : AV} {ts : List Tok} (x : OwnL h b 3 v (ts.map tokL)) (e : ts = [] → v = .nils) (hr : h.next ≤ r) : TokA h r v ts := by
 cases ts with
 | nil => exact .inl ⟨rfl, e rfl⟩
 | cons t ts =>
  obtain ⟨id, c, h1, h2, h3, h4, h5⟩ := x.open (by simp)
  refine .inr ⟨id, c, _, _, by rw [h1, List.length_map], by omega, h4, fun j hj => ?_⟩
  obtain ⟨_, h6⟩ := h5 j (by simpa using hj)
  have e : ((t :: ts).map tokL)[j]'(by simpa using hj) = tokL ((t :: ts)[j]) := List.getElem_map ..
  rw [e] at h6
  exact ⟨h6 0 (by omega), h6 1 (by omega), h6 2 (by omega)⟩
theorem boxes2 (h : AH) (o1 o2 o3 o4 : AObj) : More h ((((h.add o1).add o2).set h.next o3).set (h.next + 1) o4) ∧ ((((h.add o1).add o2).set h.next o3).set (h.next + 1) o4).next = h.next + 2 ∧ ((((h.add o1).add o2).set h.next o3).set (h.next + 1) o4).mem.get h.next = some o3 ∧ ((((h.add o1).add o2).set h.next o3).set (h.next + 1) o4).mem.get (h.next + 1) = some o4 := by
 refine ⟨(((More.add h o1).trans (More.add _ o2)).set (Nat.le_refl _) _).set (by omega) _, rfl, ?_, AH.get_set⟩
 rw [AH.set_mem, T.get_put_ne _ _ _ _ (by omega), AH.set_mem, T.get_put_self]
def parseV (y : PR (List Tree)) (lo : Nat) (v : AV) (h1 : AH) : Prop :=
 (∃ ks i d u, y = .ok ks i d ∧ v = .tup [.agg [u], .int .i64 ((0 : Nat) : Int), .int .i64 ((0 : Nat) : Int)] ∧ TreeR h1 (fun k => lo ≤ k) u (.mk 1 [] [] 0 0 ks)) ∨
 (∃ p e, y = .err p e ∧ v = .tup [.agg [.nilp], .int .i64 (p : Int), .int .i64 (e : Int)])
section
variable {tab : Nat → Option AFunc} {h : AH} (H : PT tab)
include H in
theorem parse_gp {n m : Nat} {s : Str} (hs : s.length ≤ 1000000) {y : PR (List Tree)} (hy : zDk n m s = y) (hne : y ≠ .out) : GP tab 9 [sv s] h fun v h1 => More h h1 ∧ parseV y h.next v h1 := by
 have i0 : zAg [sv s] = zAc [sv s] := rfl
 refine GE.gp (ge_of H.t9 rfl ?_) (E := fun _ _ => False) fun _ _ => id
 refine zAd (zAb fun Q1 hQ => ?_)
 simp (disch := omega) only [EL, ↓K3, ↓K1, reduceIte, Nat.reduceEqDiff, Nat.reduceAdd, Nat.reduceLeDiff, i0]
 refine hQ _ ?_
 clear hQ Q1
 have m1 : More h (h.add (.cells (zAc [.nilp]) 1 none false)) := More.add _ _
 have g1 : (h.add (.cells (zAc [.nilp]) 1 none false)).mem.get h.next = some (.cells (zAc [.nilp]) 1 none false) := by rw [AH.add_mem, T.get_put_self]
 have n1 : (h.add (.cells (zAc [.nilp]) 1 none false)).next = h.next + 1 := rfl
 generalize h.add (.cells (zAc [.nilp]) 1 none false) = h1 at *
 simp only [zAa]
 refine zAd (zAb fun Q1 hQ => ?_)
 simp (disch := omega) only [EL, ↓K3, ↓K1, reduceIte, Nat.reduceEqDiff, Nat.reduceAdd, Nat.reduceLeDiff, i0]
 refine (zK7 H hs).to fun v h2 q => ?_
 obtain ⟨sq, m2⟩ := q
 have n2 := m2.next
 have g12 := (m2.keep h.next (by omega)).trans g1
 rcases sq with ⟨ts, tl, hsc, rfl, own, emp⟩ | ⟨p, e, he, hsc, rfl⟩
 rotate_left
 ·have e0 : ¬ (e : Int) = ((0 : Nat) : Int) := by omega
  simp (disch := omega) only [EL, ↓K3, ↓K1, reduceIte, Nat.reduceEqDiff, Nat.reduceAdd, Nat.reduceLeDiff, e0]
  refine hQ _ ?_
  clear hQ Q1
  try simp only [zAa]
  refine zAd ?_
  refine zAd (zAb fun Q1 hQ => ?_)
  simp (disch := omega) only [EL, ↓K3, ↓K1, reduceIte, Nat.reduceEqDiff, Nat.reduceAdd, Nat.reduceLeDiff, e0]
  refine hQ _ ?_
  clear hQ Q1
  refine zAq (by simp +decide only [EL, reduceIte]) ?_
  refine zAd (zAb fun Q1 hQ => ?_)
  simp (disch := omega) only [EL, ↓K3, ↓K1, reduceIte, Nat.reduceEqDiff, Nat.reduceAdd, Nat.reduceLeDiff, g12]
  refine hQ _ ?_
  clear hQ Q1
  refine zAj ?_
  try simp only [zAh, zAf]
  refine ⟨_, zB0 (by simp +decide only [EL, reduceIte]) AH.get_set (lst := [.nilp]) (by simp +decide only [EL, reduceIte, zAe]) (zBe (v := .int .i64 (p : Int)) (by simp +decide only [EL, reduceIte]) (zBe (v := .int .i64 (e : Int)) (by simp +decide only [EL, reduceIte]) zAm)), (m1.trans m2).set (Nat.le_refl _) _, .inr ⟨p, e, ?_, rfl⟩⟩
  rw [← hy]; unfold zDk; rw [hsc]
 ·obtain ⟨hl4, sok⟩ := zK8 hsc
  have hy2 : progL ts s.length n m 0 0 [] = y := by rw [← hy]; unfold zDk; rw [hsc]
  have mvt : ∀ h', oMove (.c tl) .leaf [] h' = .val tl h' := fun h' => zE8 own.mv
  have ctl : cellsOf tl = some [tl] := by
   cases hts : ts with
   | nil => rw [emp hts]; rfl
   | cons t ts' =>
    rw [hts] at own
    obtain ⟨id, c, h1, _⟩ := own.open (by simp)
    rw [h1]; rfl
  have ext : ∀ (b c : AV) h', zDr 0 (.c (.tup [tl, b, c])) .leaf [] h' = .val tl h' := fun b c h' => by rw [extract_tup (by exact own.mv)]; rfl
  simp (disch := omega) only [EL, ↓K3, ↓K1, reduceIte, Nat.reduceEqDiff, Nat.reduceAdd, Nat.reduceLeDiff, mvt, ext]
  refine hQ _ ?_
  clear hQ Q1
  try simp only [zAa]
  refine zAd ?_
  refine zAd (zAb fun Q1 hQ => ?_)
  simp (disch := omega) only [EL, ↓K3, ↓K1, reduceIte, Nat.reduceEqDiff, Nat.reduceAdd, Nat.reduceLeDiff]
  refine hQ _ ?_
  clear hQ Q1
  refine wc_no (by simp +decide only [EL, reduceIte]) ?_
  refine zAl ?_
  simp only [zAa]
  have lnt := sok.len
  refine zAd (zAb fun Q1 hQ => ?_)
  simp (disch := omega) only [EL, ↓K3, ↓K1, reduceIte, Nat.reduceEqDiff, Nat.reduceAdd, Nat.reduceLeDiff, i0, mvt, ctl]
  refine hQ _ ?_
  clear hQ Q1
  have m3 : More h2 (h2.add (.cells (zAc [tl, .int .i64 ((0 : Nat) : Int), .int .i64 (s.length : Int), .int .i64 ((0 : Nat) : Int)]) 4 none false)) := More.add _ _
  have g3 : (h2.add (.cells (zAc [tl, .int .i64 ((0 : Nat) : Int), .int .i64 (s.length : Int), .int .i64 ((0 : Nat) : Int)]) 4 none false)).mem.get h2.next = some (.cells (zAc [tl, .int .i64 ((0 : Nat) : Int), .int .i64 (s.length : Int), .int .i64 ((0 : Nat) : Int)]) 4 none false) := by rw [AH.add_mem, T.get_put_self]
  have n3 : (h2.add (.cells (zAc [tl, .int .i64 ((0 : Nat) : Int), .int .i64 (s.length : Int), .int .i64 ((0 : Nat) : Int)]) 4 none false)).next = h2.next + 1 := rfl
  generalize h2.add (.cells (zAc [tl, .int .i64 ((0 : Nat) : Int), .int .i64 (s.length : Int), .int .i64 ((0 : Nat) : Int)]) 4 none false) = h3 at *
  simp only [zAa]
  have g13 := (m3.keep h.next (by omega)).trans g12
  have R3 : RS ts s.length h3 h2.next 0 0 := by
   refine ⟨by omega, by omega, by omega, by omega, ?_, ?_, _, tl, g3, rfl, rfl, rfl, rfl, ?_⟩
   ·intro j
    rcases Nat.lt_or_ge j ts.length with hj | hj
    ·rw [zFz hj]; have := (sok.tok _ (List.getElem_mem hj)).2.1; omega
    ·rw [zCd (by omega)]; simp
   ·intro j hk
    rcases Nat.lt_or_ge j ts.length with hj | hj
    ·rw [zFz hj] at hk ⊢; exact (sok.tok _ (List.getElem_mem hj)).2.2 hk (by omega)
    ·rw [zCd (by omega)] at hk; cases hk
   ·exact (own.toks emp (Nat.le_refl _)).keep fun k hk => m3.keep k hk
  refine zAd (zAb fun Q1 hQ => ?_)
  simp (disch := omega) only [EL, ↓K3, ↓K1, reduceIte, Nat.reduceEqDiff, Nat.reduceAdd, Nat.reduceLeDiff]
  refine (prog_gp H R3 (by omega) hy2 hne).to fun v h4 q => ?_
  obtain ⟨b4, pv⟩ := q
  have n4 := b4.next
  have g14 := (b4.keep h.next (by omega) (by omega)).trans g13
  rcases pv with ⟨ks, i, d, u, hye, rfl, tr⟩ | ⟨p, e, hye, rfl⟩
  ·obtain ⟨ui, rfl, hu1, hu2⟩ := tr.ptr
   simp (disch := omega) only [EL, ↓K3, ↓K1, reduceIte, Nat.reduceEqDiff, Nat.reduceAdd, Nat.reduceLeDiff]
   obtain ⟨m5, n5, ga, gb⟩ := boxes2 h4 (.cells (zAc [.nilp]) 1 none false) (.cells (zAc [.int .i64 ((0 : Nat) : Int), .int .i64 ((0 : Nat) : Int)]) 2 none false) (.cells (T.put (some (.ptr ui 0)) (zAc [.nilp]) 0) 1 none false) (.cells (T.put (some (.int .i64 ((0 : Nat) : Int))) (T.put (some (.int .i64 ((0 : Nat) : Int))) (zAc [.int .i64 ((0 : Nat) : Int), .int .i64 ((0 : Nat) : Int)]) 0) 1) 2 none false)
   generalize ((((h4.add (.cells (zAc [.nilp]) 1 none false)).add (.cells (zAc [.int .i64 ((0 : Nat) : Int), .int .i64 ((0 : Nat) : Int)]) 2 none false)).set h4.next (.cells (T.put (some (.ptr ui 0)) (zAc [.nilp]) 0) 1 none false)).set (h4.next + 1) (.cells (T.put (some (.int .i64 ((0 : Nat) : Int))) (T.put (some (.int .i64 ((0 : Nat) : Int))) (zAc [.int .i64 ((0 : Nat) : Int), .int .i64 ((0 : Nat) : Int)]) 0) 1) 2 none false)) = h5 at *
   refine hQ _ ?_
   clear hQ Q1
   try simp only [zAa]
   have g15 := (m5.keep h.next (by omega)).trans g14
   refine zAd (zAb fun Q1 hQ => ?_)
   simp (disch := omega) only [EL, ↓K3, ↓K1, reduceIte, Nat.reduceEqDiff, Nat.reduceAdd, Nat.reduceLeDiff, ga, gb, g15, zAe, zA7, zA8]
   refine hQ _ ?_
   clear hQ Q1
   refine zAj ?_
   try simp only [zAh, zAf]
   have o6 : Only h.next h5 (h5.set h.next (.cells (T.put (some (.ptr ui 0)) (zAc [.nilp]) 0) 1 none false)) := Only.set
   refine ⟨_, zB0 (by simp +decide only [EL, reduceIte]) AH.get_set (lst := [(.ptr ui 0)]) (by simp +decide only [EL, reduceIte, zAe]) (zBe (v := .int .i64 ((0 : Nat) : Int)) (by simp +decide only [EL, reduceIte]) (zBe (v := .int .i64 ((0 : Nat) : Int)) (by simp +decide only [EL, reduceIte]) zAm)), ?_, .inl ⟨ks, i, d, _, hye, rfl, TreeR.keep ((m5.stay (F := fun k => h3.next ≤ k)).trans (o6.stay (by omega))) (fun k hk _ => by show h.next ≤ k; omega) tr⟩⟩
   exact ⟨by rw [o6.next]; omega, fun k hk => by rw [o6.keep k (by omega), m5.keep k (by omega), b4.keep k (by omega) (by omega), m3.keep k (by omega), m2.keep k (by omega), m1.keep k hk]⟩
  ·simp (disch := omega) only [EL, ↓K3, ↓K1, reduceIte, Nat.reduceEqDiff, Nat.reduceAdd, Nat.reduceLeDiff]
   obtain ⟨m5, n5, ga, gb⟩ := boxes2 h4 (.cells (zAc [.nilp]) 1 none false) (.cells (zAc [.int .i64 ((0 : Nat) : Int), .int .i64 ((0 : Nat) : Int)]) 2 none false) (.cells (T.put (some .nilp) (zAc [.nilp]) 0) 1 none false) (.cells (T.put (some (.int .i64 (e : Int))) (T.put (some (.int .i64 (p : Int))) (zAc [.int .i64 ((0 : Nat) : Int), .int .i64 ((0 : Nat) : Int)]) 0) 1) 2 none false)
   generalize ((((h4.add (.cells (zAc [.nilp]) 1 none false)).add (.cells (zAc [.int .i64 ((0 : Nat) : Int), .int .i64 ((0 : Nat) : Int)]) 2 none false)).set h4.next (.cells (T.put (some .nilp) (zAc [.nilp]) 0) 1 none false)).set (h4.next + 1) (.cells (T.put (some (.int .i64 (e : Int))) (T.put (some (.int .i64 (p : Int))) (zAc [.int .i64 ((0 : Nat) : Int), .int .i64 ((0 : Nat) : Int)]) 0) 1) 2 none false)) = h5 at *
   refine hQ _ ?_
   clear hQ Q1
   try simp only [zAa]
   have g15 := (m5.keep h.next (by omega)).trans g14
   refine zAd (zAb fun Q1 hQ => ?_)
   simp (disch := omega) only [EL, ↓K3, ↓K1, reduceIte, Nat.reduceEqDiff, Nat.reduceAdd, Nat.reduceLeDiff, ga, gb, g15, zAe, zA7, zA8]
   refine hQ _ ?_
   clear hQ Q1
   refine zAj ?_
   try simp only [zAh, zAf]
   have o6 : Only h.next h5 (h5.set h.next (.cells (T.put (some .nilp) (zAc [.nilp]) 0) 1 none false)) := Only.set
   refine ⟨_, zB0 (by simp +decide only [EL, reduceIte]) AH.get_set (lst := [.nilp]) (by simp +decide only [EL, reduceIte, zAe]) (zBe (v := .int .i64 (p : Int)) (by simp +decide only [EL, reduceIte]) (zBe (v := .int .i64 (e : Int)) (by simp +decide only [EL, reduceIte]) zAm)), ?_, .inr ⟨p, e, hye, rfl⟩⟩
   exact ⟨by rw [o6.next]; omega, fun k hk => by rw [o6.keep k (by omega), m5.keep k (by omega), b4.keep k (by omega) (by omega), m3.keep k (by omega), m2.keep k (by omega), m1.keep k hk]⟩
end
end Go.Ev
namespace Go.Pa
theorem Tree.ind {P : Tree → Prop} (h : ∀ op name typ n pos kids, (∀ k, k ∈ kids → P k) → P (.mk op name typ n pos kids)) : ∀ t, P t := by
 intro t
 refine Tree.rec (motive_1 := P) (motive_2 := fun l => ∀ k, k ∈ l → P k) (fun op name typ n pos kids ih => h op name typ n pos kids ih) (fun k hk => by cases hk) (fun a l ha hl k hk => ?_) t
 rcases List.mem_cons.mp hk with rfl | e
 ·exact ha
 ·exact hl k e
end Go.Pa
namespace Go.Ev
open Go Go.Pa
section
variable {tab : Nat → Option AFunc} (H : PT tab)
end
end Go.Ev
namespace Go.Pa
open Go.Ev
def NZ {α : Type} (x : PR α) : Prop := ∀ p e, x = .err p e → e ≠ 0
section
variable {ts : List Tok} {en : Nat}
theorem nz_ok {α : Type} {a : α} {i d : Nat} : NZ (PR.ok a i d) := fun _ _ h => by cases h
theorem zKg {α : Type} : NZ (PR.out : PR α) := fun _ _ h => by cases h
theorem zD3 {α : Type} {i : Nat} : NZ (failP ts en i : PR α) := fun _ _ h => by injection h with _ h; subst h; decide
theorem zD4 {α β : Type} {x : PR α} {k : α → Nat → Nat → PR β} (h : NZ x) (h' : ∀ a i d, NZ (k a i d)) : NZ (x.bind k) := by
 cases x with
 | ok a i d => exact h' a i d
 | err p e => intro p' e' he; injection he with h1 h2; subst h2; exact h p e rfl
 | out => exact zKg
theorem nz_deeper {α : Type} {i d : Nat} {k : Nat → Nat → PR α} (h : ∀ i d, NZ (k i d)) : NZ (zCn ts en i d k) := by
 unfold zCn
 split
 ·intro _ _ h; injection h with _ h; subst h; decide
 ·exact zD4 (h _ _) fun _ _ _ => nz_ok
theorem zCv {s : Str} {i d : Nat} : NZ (zA9 ts en s i d) := by unfold zA9; split; exact nz_ok; exact zD3
theorem zE7 {i d : Nat} : NZ (wordS ts en i d) := by unfold wordS; split; exact nz_ok; exact zD3
structure NE (ts : List Tok) (en n : Nat) : Prop where
 expr : ∀ {least i d}, NZ (exprS ts en n least i d)
 exprl : ∀ {least i d l}, NZ (exprL ts en n least i d l)
 unary : ∀ {i d}, NZ (zBy ts en n i d)
 post : ∀ {i d}, NZ (postS ts en n i d)
 postl : ∀ {i d x}, NZ (postL ts en n i d x)
 prim : ∀ {i d}, NZ (primS ts en n i d)
 call : ∀ {j i d}, NZ (callS ts en n j i d)
 args : ∀ {i d acc}, NZ (argsL ts en n i d acc)
 brack : ∀ {i d}, NZ (zA5 ts en n i d)
theorem nz_key {i d : Nat} : NZ (keyS ts en i d) := by
 unfold keyS
 simp only
 repeat' first | split | exact nz_ok | exact zD3 | exact zCv | exact zE7 | (refine zD4 ?_ fun _ _ _ => ?_)
theorem ne_all : ∀ n, NE ts en n := by
 intro n
 induction n with
 | zero => constructor <;> intros <;> simp only [exprS, exprL, zBy, postS, postL, primS, callS, argsL, zA5] <;> exact zKg
 | succ n IH =>
  constructor <;> intros <;> simp only [exprS, exprL, zBy, postS, postL, primS, callS, argsL, zA5] <;>
   repeat' first | split | exact nz_ok | exact zD3 | exact zCv | exact zE7 | exact nz_key | exact IH.expr | exact IH.exprl | exact IH.unary | exact IH.post | exact IH.postl | exact IH.prim | exact IH.call | exact IH.args | exact IH.brack | (refine nz_deeper fun _ _ => ?_) | (refine zD4 ?_ fun _ _ _ => ?_)
theorem nz_typ {i d : Nat} : NZ (typS ts en i d) := by
 unfold typS
 repeat' first | split | exact nz_ok | exact zD3 | exact zCv | exact zE7 | (refine zD4 ?_ fun _ _ _ => ?_)
theorem nz_part {op i d : Nat} : NZ (partS ts en op i d) := by
 unfold partS
 repeat' first | split | exact nz_ok | exact zD3 | exact zCv | exact zE7 | exact nz_typ | (refine zD4 ?_ fun _ _ _ => ?_)
theorem nz_fields : ∀ (n : Nat) {i d : Nat} {acc : List Tree}, NZ (zC3 ts en n i d acc)
 | 0, _, _, _ => zKg
 | n + 1, i, d, acc => by
  unfold zC3
  repeat' first | split | exact nz_ok | exact zD3 | exact zCv | exact zE7 | exact nz_part | exact nz_fields n | (refine zD4 ?_ fun _ _ _ => ?_)
theorem nz_params : ∀ (n : Nat) {i d : Nat} {acc : List Tree}, NZ (zCe ts en n i d acc)
 | 0, _, _, _ => zKg
 | n + 1, i, d, acc => by
  unfold zCe
  repeat' first | split | exact nz_ok | exact zD3 | exact zCv | exact zE7 | exact nz_part | exact nz_params n | (refine zD4 ?_ fun _ _ _ => ?_)
theorem nz_change {n i d : Nat} : NZ (zC4 ts en n i d) := by
 have IH := ne_all (ts := ts) (en := en) n
 unfold zC4
 repeat' first | split | exact nz_ok | exact zD3 | exact zCv | exact zE7 | exact IH.expr | exact IH.post | (refine zD4 ?_ fun _ _ _ => ?_)
theorem nz_simple {n i d : Nat} : NZ (zDc ts en n i d) := by
 have IH := ne_all (ts := ts) (en := en) n
 unfold zDc
 repeat' first | split | exact nz_ok | exact zD3 | exact zCv | exact zE7 | exact nz_change | exact IH.expr | exact IH.brack | (refine zD4 ?_ fun _ _ _ => ?_)
structure NS (ts : List Tok) (en n : Nat) : Prop where
 stmt : ∀ {i d}, NZ (stmtS ts en n i d)
 branch : ∀ {i d}, NZ (zBr ts en n i d)
 block : ∀ {i d}, NZ (zBw ts en n i d)
 stmts : ∀ {i d acc}, NZ (zCb ts en n i d acc)
theorem ns_all : ∀ n, NS ts en n := by
 intro n
 induction n with
 | zero => constructor <;> intros <;> simp only [stmtS, zBr, zBw, zCb] <;> exact zKg
 | succ n IH =>
  have E := ne_all (ts := ts) (en := en) n
  constructor <;> intros <;> simp only [stmtS, zBr, zBw, zCb] <;>
   repeat' first | split | exact nz_ok | exact zD3 | exact zCv | exact zE7 | exact nz_simple | exact E.expr | exact IH.stmt | exact IH.branch | exact IH.block | exact IH.stmts | (refine nz_deeper fun _ _ => ?_) | (refine zD4 ?_ fun _ _ _ => ?_)
theorem nz_decl {n i d : Nat} : NZ (declS ts en n i d) := by
 have IH := ns_all (ts := ts) (en := en) n
 unfold declS zD1 funcS
 repeat' first | split | exact nz_ok | exact zD3 | exact zCv | exact zE7 | exact nz_part | exact nz_typ | exact nz_params n | exact nz_fields n | exact IH.block | (refine zD4 ?_ fun _ _ _ => ?_)
theorem nz_prog {m : Nat} : ∀ (k : Nat) {i d : Nat} {acc : List Tree}, NZ (progL ts en k m i d acc)
 | 0, _, _, _ => zKg
 | k + 1, i, d, acc => by
  unfold progL
  repeat' first | split | exact nz_ok | exact nz_decl | exact nz_prog k | (refine zD4 ?_ fun _ _ _ => ?_)
end
theorem scanL_nz {s : Str} : ∀ (k at_ : Nat) (acc : List Tok) (p e : Nat), scanL s k at_ acc = .err p e → e ≠ 0
 | 0, _, _, _, _, h => by cases h
 | k + 1, at_, acc, p, e, h => by
  unfold scanL at h
  split at h
  ·split at h
   ·injection h with _ h; subst h; assumption
   ·exact scanL_nz k _ _ p e h
  ·cases h
theorem scanS_nz {s : Str} {p e : Nat} (h : scanS s = .err p e) : e ≠ 0 := by
 unfold scanS at h
 split at h
 ·injection h with _ h; subst h; decide
 ·exact scanL_nz _ _ _ _ _ h
end Go.Pa
namespace Go.Ev
open Go Go.Pa
theorem zB9 {loc : T AV} {tmp : List AV} {h : AH} {op : AOp} {i : Nat} {g : Opd × Bool} {l : List ARe} : reads loc tmp h (⟨op, i, some g⟩ :: l) = obind (zBh loc tmp (some g)) false fun q => bi q (rd1 (nth tmp i) (reads loc tmp h l) (evOp op loc tmp h)) (reads loc tmp h l) := rfl
theorem _root_.Go.Pa.FineT.op {en : Nat} {t : Tree} (h : FineT en t) : t.op ≠ 0 := by cases h; assumption
section
variable {tab : Nat → Option AFunc} (H : PT tab)
include H in
theorem kid_gp {h : AH} {F : Nat → Prop} {u : AV} {t : Tree} (x : TreeR h F u t) {k : Nat} (hk : k < t.kids.length) : GP tab 20 [.agg [u], .int .i64 (k : Int)] h fun v h1 => More h h1 ∧ ∃ w, v = .agg [.ptr w 0] ∧ TreeR h1 F (.ptr w 0) t.kids[k] := by
 refine (nkid_gp H x k).mono fun v h1 q => ?_
 obtain ⟨m1, q⟩ := q
 refine ⟨m1, ?_⟩
 rcases q with ⟨j, hj, w, e, rfl, tw⟩ | ⟨hb, _⟩
 ·obtain rfl : k = j := by omega
  obtain ⟨wi, rfl, _⟩ := tw.ptr
  exact ⟨wi, rfl, TreeR.keep m1.stay (fun _ h _ => h) tw⟩
 ·omega
theorem TreeR.small {h : AH} {F : Nat → Prop} {u : AV} {t : Tree} (x : TreeR h F u t) : t.kids.length ≤ 1000000 := by
 obtain ⟨ia, kv, cs, rfl, hi, hF, nc, ar, tr⟩ := x.node
 rw [← tr.len]; exact ar.small
theorem parse_nz {s : Str} {n m p e : Nat} (h : zDk n m s = .err p e) : e ≠ 0 := by
 unfold zDk at h
 cases hs : scanS s with
 | ok ts => rw [hs] at h; exact nz_prog _ p e h
 | err p' e' => rw [hs] at h; injection h with h1 h2; subst h2; exact scanS_nz hs
 | out => rw [hs] at h; cases h
end
end Go.Ev
namespace Go.Pa
open Go.Ev
section
variable {ts ts' : List Tok} {en en' : Nat}
def Ag (ts ts' : List Tok) (en en' e : Nat) : Prop := ∀ j, j < e → now ts' en' j = now ts en j
theorem Ag.less {e e' : Nat} (h : Ag ts ts' en en' e) (he : e' ≤ e) : Ag ts ts' en en' e' := fun j hj => h j (by omega)
theorem Ag.isT {e i : Nat} (h : Ag ts ts' en en' e) (hi : i < e) (s : Str) : isT ts' en' s i = Pa.isT ts en s i := by unfold Pa.isT; rw [h i hi]
theorem Ag.lev {e i : Nat} (h : Ag ts ts' en en' e) (hi : i < e) : zB2 ts' en' i = zB2 ts en i := by unfold zB2; rw [h i hi]
structure LO (ts ts' : List Tok) (en en' n : Nat) : Prop where
 expr : ∀ {least i d t i' d'}, exprS ts en n least i d = .ok t i' d' → Ag ts ts' en en' (i' + 1) → exprS ts' en' n least i d = .ok t i' d'
 exprl : ∀ {least i d l t i' d'}, exprL ts en n least i d l = .ok t i' d' → Ag ts ts' en en' (i' + 1) → exprL ts' en' n least i d l = .ok t i' d'
 unary : ∀ {i d t i' d'}, zBy ts en n i d = .ok t i' d' → Ag ts ts' en en' (i' + 1) → zBy ts' en' n i d = .ok t i' d'
 post : ∀ {i d t i' d'}, postS ts en n i d = .ok t i' d' → Ag ts ts' en en' (i' + 1) → postS ts' en' n i d = .ok t i' d'
 postl : ∀ {i d x t i' d'}, postL ts en n i d x = .ok t i' d' → Ag ts ts' en en' (i' + 1) → postL ts' en' n i d x = .ok t i' d'
 prim : ∀ {i d t i' d'}, primS ts en n i d = .ok t i' d' → Ag ts ts' en en' (i' + 1) → primS ts' en' n i d = .ok t i' d'
 call : ∀ {j i d t i' d'}, callS ts en n j i d = .ok t i' d' → Ag ts ts' en en' (i' + 1) → callS ts' en' n j i d = .ok t i' d'
 args : ∀ {i d acc ks i' d'}, argsL ts en n i d acc = .ok ks i' d' → Ag ts ts' en en' (i' + 1) → argsL ts' en' n i d acc = .ok ks i' d'
 brack : ∀ {i d t i' d'}, zA5 ts en n i d = .ok t i' d' → Ag ts ts' en en' (i' + 1) → zA5 ts' en' n i d = .ok t i' d'
structure LOS (ts ts' : List Tok) (en en' n : Nat) : Prop where
 stmt : ∀ {i d t i' d'}, stmtS ts en n i d = .ok t i' d' → Ag ts ts' en en' (i' + 1) → stmtS ts' en' n i d = .ok t i' d'
 branch : ∀ {i d t i' d'}, zBr ts en n i d = .ok t i' d' → Ag ts ts' en en' (i' + 1) → zBr ts' en' n i d = .ok t i' d'
 block : ∀ {i d t i' d'}, zBw ts en n i d = .ok t i' d' → Ag ts ts' en en' i' → zBw ts' en' n i d = .ok t i' d'
 stmts : ∀ {i d acc ks i' d'}, zCb ts en n i d acc = .ok ks i' d' → Ag ts ts' en en' i' → zCb ts' en' n i d acc = .ok ks i' d'
end
end Go.Pa
namespace Go.Pa
open Go.Ev
def DP {α : Type} (x : PR α) (d : Nat) : Prop := ∀ a i d', x = .ok a i d' → d' = d
section
variable {ts : List Tok} {en : Nat}
structure DE (ts : List Tok) (en n : Nat) : Prop where
 expr : ∀ {least i d}, DP (exprS ts en n least i d) d
 exprl : ∀ {least i d l}, DP (exprL ts en n least i d l) d
 unary : ∀ {i d}, DP (zBy ts en n i d) d
 post : ∀ {i d}, DP (postS ts en n i d) d
 postl : ∀ {i d x}, DP (postL ts en n i d x) d
 prim : ∀ {i d}, DP (primS ts en n i d) d
 call : ∀ {j i d}, DP (callS ts en n j i d) d
 args : ∀ {i d acc}, DP (argsL ts en n i d acc) d
 brack : ∀ {i d}, DP (zA5 ts en n i d) d
structure DS (ts : List Tok) (en n : Nat) : Prop where
 stmt : ∀ {i d}, DP (stmtS ts en n i d) d
 branch : ∀ {i d}, DP (zBr ts en n i d) d
 block : ∀ {i d}, DP (zBw ts en n i d) d
 stmts : ∀ {i d acc}, DP (zCb ts en n i d acc) d
end
end Go.Pa
namespace Go.Pa
open Go.Ev
def PR.app (pre : List Tree) : PR (List Tree) → PR (List Tree)
 | .ok ks i d => .ok (pre ++ ks) i d
 | .err p e => .err p e
 | .out => .out
section
variable {ts ts' : List Tok} {en en' : Nat}
end
end Go.Pa
namespace Go.Ev
open Go Go.Pa
section
variable {tab : Nat → Option AFunc} (H : PT tab)
abbrev bare (t : Tree) : Tree := mapT (fun _ => 0) t
theorem bare_kids {ks ks' : List Tree} (h : mapTs (fun _ => 0) ks = mapTs (fun _ => 0) ks') : ks.length = ks'.length ∧ ∀ (i : Nat) (h1 : i < ks.length) (h2 : i < ks'.length), bare ks[i] = bare ks'[i] := by
 induction ks generalizing ks' with
 | nil =>
  cases ks' with
  | nil => exact ⟨rfl, fun i h => by cases h⟩
  | cons => cases h
 | cons k ks ih =>
  cases ks' with
  | nil => cases h
  | cons k' ks' =>
   have h0 : bare k :: mapTs (fun _ => 0) ks = bare k' :: mapTs (fun _ => 0) ks' := h
   injection h0 with e1 e2
   obtain ⟨e3, e4⟩ := ih e2
   refine ⟨by simp [e3], fun i h1 h2 => ?_⟩
   cases i with
   | zero => exact e1
   | succ i => exact e4 i (by simpa using h1) (by simpa using h2)
include H in
theorem alike_gp : ∀ (t : Tree) {h : AH} {F F' : Nat → Prop} {u u' : AV} {t' : Tree}, bare t = bare t' → TreeR h F u t → TreeR h F' u' t' → GP tab 19 [.agg [u], .agg [u']] h fun v h1 => v = .bool true ∧ More h h1 := by
 intro t
 induction t using Tree.ind with
 | h op name typ n pos kids IH =>
 intro h F F' u u' t' he x y
 obtain ⟨op', name', typ', n', pos', kids'⟩ := t'
 have he0 : Tree.mk op name typ n 0 (mapTs (fun _ => 0) kids) = Tree.mk op' name' typ' n' 0 (mapTs (fun _ => 0) kids') := he
 injection he0 with e1 e2 e3 e4 _ e5
 subst e1; subst e2; subst e3; subst e4
 obtain ⟨el, ek⟩ := bare_kids e5
 have lsm : kids.length ≤ 1000000 := x.small
 obtain ⟨ui, rfl, hu1, hu2⟩ := x.ptr
 obtain ⟨uj, rfl, hj1, hj2⟩ := y.ptr
 have i0 : zAg [.agg [.ptr ui 0], .agg [.ptr uj 0]] = zAc [.agg [.ptr ui 0], .agg [.ptr uj 0]] := rfl
 refine GE.gp (ge_of H.t19 rfl ?_) (E := fun _ _ => False) fun _ _ hh => hh
 refine zAd (zAb fun Q1 hQ => ?_)
 simp (disch := omega) only [EL, ↓K3, ↓K1, reduceIte, Nat.reduceEqDiff, Nat.reduceAdd, Nat.reduceLeDiff, i0]
 refine hQ _ ?_
 clear hQ Q1
 have m1 : More h ((h.add (.cells (zAc [.ptr ui 0]) 1 none false)).add (.cells (zAc [.ptr uj 0]) 1 none false)) := (More.add _ _).trans (More.add _ _)
 have n1 : ((h.add (.cells (zAc [.ptr ui 0]) 1 none false)).add (.cells (zAc [.ptr uj 0]) 1 none false)).next = h.next + 2 := rfl
 have ga1 : ((h.add (.cells (zAc [.ptr ui 0]) 1 none false)).add (.cells (zAc [.ptr uj 0]) 1 none false)).mem.get h.next = some (.cells (zAc [.ptr ui 0]) 1 none false) := by
  rw [AH.add_mem, T.get_put_ne _ _ _ _ (by show h.next + 1 ≠ h.next; omega), AH.add_mem, T.get_put_self]
 have gb1 : ((h.add (.cells (zAc [.ptr ui 0]) 1 none false)).add (.cells (zAc [.ptr uj 0]) 1 none false)).mem.get (h.next + 1) = some (.cells (zAc [.ptr uj 0]) 1 none false) := by
  rw [AH.add_mem]; exact T.get_put_self _ _ _
 generalize ((h.add (.cells (zAc [.ptr ui 0]) 1 none false)).add (.cells (zAc [.ptr uj 0]) 1 none false)) = h1 at *
 have x1 : TreeR h1 F (.ptr ui 0) (.mk op name typ n pos kids) := TreeR.keep m1.stay (fun _ h _ => h) x
 have y1 : TreeR h1 F' (.ptr uj 0) (.mk op name typ n pos' kids') := TreeR.keep m1.stay (fun _ h _ => h) y
 simp only [zAa]
 have l2 : (T.put (some (.bool false)) (T.put (some (.ptr (h.next + 1) 0)) (T.put (some (.ptr h.next 0)) (zAc [.agg [.ptr ui 0], .agg [.ptr uj 0]]) 2) 3) 8).get 2 = some (.ptr h.next 0) := by simp +decide only [EL, reduceIte]
 have l3 : (T.put (some (.bool false)) (T.put (some (.ptr (h.next + 1) 0)) (T.put (some (.ptr h.next 0)) (zAc [.agg [.ptr ui 0], .agg [.ptr uj 0]]) 2) 3) 8).get 3 = some (.ptr (h.next + 1) 0) := by simp +decide only [EL, reduceIte]
 generalize (T.put (some (.bool false)) (T.put (some (.ptr (h.next + 1) 0)) (T.put (some (.ptr h.next 0)) (zAc [.agg [.ptr ui 0], .agg [.ptr uj 0]]) 2) 3) 8) = loc at *
 refine zAd ?_
 refine zAd (zAb fun Q1 hQ => ?_)
 simp (disch := omega) only [EL, ↓K3, ↓K1, reduceIte, Nat.reduceEqDiff, Nat.reduceAdd, Nat.reduceLeDiff, l2, l3, ga1, gb1, zAe]
 refine (nop_gp H x1).to fun v h2 q => ?_
 obtain ⟨rfl, m2⟩ := q
 have n2 := m2.next
 have ga2 := (m2.keep h.next (by omega)).trans ga1
 have gb2 := (m2.keep (h.next + 1) (by omega)).trans gb1
 have x2 : TreeR h2 F (.ptr ui 0) (.mk op name typ n pos kids) := TreeR.keep m2.stay (fun _ h _ => h) x1
 have y2 : TreeR h2 F' (.ptr uj 0) (.mk op name typ n pos' kids') := TreeR.keep m2.stay (fun _ h _ => h) y1
 simp only [Tree.op, Tree.name, Tree.typ, Tree.n, Tree.kids]
 simp (disch := omega) only [EL, ↓K3, ↓K1, reduceIte, Nat.reduceEqDiff, Nat.reduceAdd, Nat.reduceLeDiff, l2, l3, ga2, gb2, zAe, zA7, zB9, zA8, zBc, zBj]
 refine (nop_gp H y2).to fun v h3 q => ?_
 obtain ⟨rfl, m3⟩ := q
 have n3 := m3.next
 have ga3 := (m3.keep h.next (by omega)).trans ga2
 have gb3 := (m3.keep (h.next + 1) (by omega)).trans gb2
 have x3 : TreeR h3 F (.ptr ui 0) (.mk op name typ n pos kids) := TreeR.keep m3.stay (fun _ h _ => h) x2
 have y3 : TreeR h3 F' (.ptr uj 0) (.mk op name typ n pos' kids') := TreeR.keep m3.stay (fun _ h _ => h) y2
 simp only [Tree.op, Tree.name, Tree.typ, Tree.n, Tree.kids]
 simp (disch := omega) only [EL, ↓K3, ↓K1, reduceIte, Nat.reduceEqDiff, Nat.reduceAdd, Nat.reduceLeDiff, l2, l3, ga3, gb3, zAe, zA7, zB9, zA8, zBc, zBj]
 refine (zIv H x3).to fun v h4 q => ?_
 obtain ⟨rfl, m4⟩ := q
 have n4 := m4.next
 have ga4 := (m4.keep h.next (by omega)).trans ga3
 have gb4 := (m4.keep (h.next + 1) (by omega)).trans gb3
 have x4 : TreeR h4 F (.ptr ui 0) (.mk op name typ n pos kids) := TreeR.keep m4.stay (fun _ h _ => h) x3
 have y4 : TreeR h4 F' (.ptr uj 0) (.mk op name typ n pos' kids') := TreeR.keep m4.stay (fun _ h _ => h) y3
 simp only [Tree.op, Tree.name, Tree.typ, Tree.n, Tree.kids]
 simp (disch := omega) only [EL, ↓K3, ↓K1, reduceIte, Nat.reduceEqDiff, Nat.reduceAdd, Nat.reduceLeDiff, l2, l3, ga4, gb4, zAe, zA7, zB9, zA8, zBc, zBj]
 refine (zIv H y4).to fun v h5 q => ?_
 obtain ⟨rfl, m5⟩ := q
 have n5 := m5.next
 have ga5 := (m5.keep h.next (by omega)).trans ga4
 have gb5 := (m5.keep (h.next + 1) (by omega)).trans gb4
 have x5 : TreeR h5 F (.ptr ui 0) (.mk op name typ n pos kids) := TreeR.keep m5.stay (fun _ h _ => h) x4
 have y5 : TreeR h5 F' (.ptr uj 0) (.mk op name typ n pos' kids') := TreeR.keep m5.stay (fun _ h _ => h) y4
 simp only [Tree.op, Tree.name, Tree.typ, Tree.n, Tree.kids]
 simp (disch := omega) only [EL, ↓K3, ↓K1, reduceIte, Nat.reduceEqDiff, Nat.reduceAdd, Nat.reduceLeDiff, l2, l3, ga5, gb5, zAe, zA7, zB9, zA8, zBc, zBj]
 refine (ntyp_gp H x5).to fun v h6 q => ?_
 obtain ⟨rfl, m6⟩ := q
 have n6 := m6.next
 have ga6 := (m6.keep h.next (by omega)).trans ga5
 have gb6 := (m6.keep (h.next + 1) (by omega)).trans gb5
 have x6 : TreeR h6 F (.ptr ui 0) (.mk op name typ n pos kids) := TreeR.keep m6.stay (fun _ h _ => h) x5
 have y6 : TreeR h6 F' (.ptr uj 0) (.mk op name typ n pos' kids') := TreeR.keep m6.stay (fun _ h _ => h) y5
 simp only [Tree.op, Tree.name, Tree.typ, Tree.n, Tree.kids]
 simp (disch := omega) only [EL, ↓K3, ↓K1, reduceIte, Nat.reduceEqDiff, Nat.reduceAdd, Nat.reduceLeDiff, l2, l3, ga6, gb6, zAe, zA7, zB9, zA8, zBc, zBj]
 refine (ntyp_gp H y6).to fun v h7 q => ?_
 obtain ⟨rfl, m7⟩ := q
 have n7 := m7.next
 have ga7 := (m7.keep h.next (by omega)).trans ga6
 have gb7 := (m7.keep (h.next + 1) (by omega)).trans gb6
 have x7 : TreeR h7 F (.ptr ui 0) (.mk op name typ n pos kids) := TreeR.keep m7.stay (fun _ h _ => h) x6
 have y7 : TreeR h7 F' (.ptr uj 0) (.mk op name typ n pos' kids') := TreeR.keep m7.stay (fun _ h _ => h) y6
 simp only [Tree.op, Tree.name, Tree.typ, Tree.n, Tree.kids]
 simp (disch := omega) only [EL, ↓K3, ↓K1, reduceIte, Nat.reduceEqDiff, Nat.reduceAdd, Nat.reduceLeDiff, l2, l3, ga7, gb7, zAe, zA7, zB9, zA8, zBc, zBj]
 refine (nn_gp H x7).to fun v h8 q => ?_
 obtain ⟨rfl, m8⟩ := q
 have n8 := m8.next
 have ga8 := (m8.keep h.next (by omega)).trans ga7
 have gb8 := (m8.keep (h.next + 1) (by omega)).trans gb7
 have x8 : TreeR h8 F (.ptr ui 0) (.mk op name typ n pos kids) := TreeR.keep m8.stay (fun _ h _ => h) x7
 have y8 : TreeR h8 F' (.ptr uj 0) (.mk op name typ n pos' kids') := TreeR.keep m8.stay (fun _ h _ => h) y7
 simp only [Tree.op, Tree.name, Tree.typ, Tree.n, Tree.kids]
 simp (disch := omega) only [EL, ↓K3, ↓K1, reduceIte, Nat.reduceEqDiff, Nat.reduceAdd, Nat.reduceLeDiff, l2, l3, ga8, gb8, zAe, zA7, zB9, zA8, zBc, zBj]
 refine (nn_gp H y8).to fun v h9 q => ?_
 obtain ⟨rfl, m9⟩ := q
 have n9 := m9.next
 have ga9 := (m9.keep h.next (by omega)).trans ga8
 have gb9 := (m9.keep (h.next + 1) (by omega)).trans gb8
 have x9 : TreeR h9 F (.ptr ui 0) (.mk op name typ n pos kids) := TreeR.keep m9.stay (fun _ h _ => h) x8
 have y9 : TreeR h9 F' (.ptr uj 0) (.mk op name typ n pos' kids') := TreeR.keep m9.stay (fun _ h _ => h) y8
 simp only [Tree.op, Tree.name, Tree.typ, Tree.n, Tree.kids]
 simp (disch := omega) only [EL, ↓K3, ↓K1, reduceIte, Nat.reduceEqDiff, Nat.reduceAdd, Nat.reduceLeDiff, l2, l3, ga9, gb9, zAe, zA7, zB9, zA8, zBc, zBj]
 refine (zIw H x9).to fun v h10 q => ?_
 obtain ⟨rfl, m10⟩ := q
 have n10 := m10.next
 have ga10 := (m10.keep h.next (by omega)).trans ga9
 have gb10 := (m10.keep (h.next + 1) (by omega)).trans gb9
 have x10 : TreeR h10 F (.ptr ui 0) (.mk op name typ n pos kids) := TreeR.keep m10.stay (fun _ h _ => h) x9
 have y10 : TreeR h10 F' (.ptr uj 0) (.mk op name typ n pos' kids') := TreeR.keep m10.stay (fun _ h _ => h) y9
 simp only [Tree.op, Tree.name, Tree.typ, Tree.n, Tree.kids]
 simp (disch := omega) only [EL, ↓K3, ↓K1, reduceIte, Nat.reduceEqDiff, Nat.reduceAdd, Nat.reduceLeDiff, l2, l3, ga10, gb10, zAe, zA7, zB9, zA8, zBc, zBj]
 refine (zIw H y10).to fun v h11 q => ?_
 obtain ⟨rfl, m11⟩ := q
 have n11 := m11.next
 have ga11 := (m11.keep h.next (by omega)).trans ga10
 have gb11 := (m11.keep (h.next + 1) (by omega)).trans gb10
 have x11 : TreeR h11 F (.ptr ui 0) (.mk op name typ n pos kids) := TreeR.keep m11.stay (fun _ h _ => h) x10
 have y11 : TreeR h11 F' (.ptr uj 0) (.mk op name typ n pos' kids') := TreeR.keep m11.stay (fun _ h _ => h) y10
 simp only [Tree.op, Tree.name, Tree.typ, Tree.n, Tree.kids]
 simp (disch := omega) only [EL, ↓K3, ↓K1, reduceIte, Nat.reduceEqDiff, Nat.reduceAdd, Nat.reduceLeDiff, l2, l3, ga11, gb11, zAe, zA7, zB9, zA8, zBc, zBj]
 rw [show (!decide (kids.length = kids'.length)) = false by simp [el]]
 refine hQ _ ?_
 clear hQ Q1
 try simp only [zAa]
 refine wc_no (by simp +decide only [EL, reduceIte]) ?_
 refine zAl ?_
 try simp only [zAa]
 have m011 : More h h11 := (((((((((m1.trans m2).trans m3).trans m4).trans m5).trans m6).trans m7).trans m8).trans m9).trans m10).trans m11
 have l2' : (T.put (some (.bool false)) loc 4).get 2 = some (.ptr h.next 0) := by simp +decide only [EL, reduceIte, l2]
 have l3' : (T.put (some (.bool false)) loc 4).get 3 = some (.ptr (h.next + 1) 0) := by simp +decide only [EL, reduceIte, l3]
 generalize T.put (some (.bool false)) loc 4 = loc1 at *
 refine zG0 (fun l d1 h2 => d1 = [] ∧ More h h2) ?_ ?_
 ·refine zAd (zAb fun Q1 hQ => ?_)
  simp (disch := omega) only [EL, ↓K3, ↓K1, reduceIte, Nat.reduceEqDiff, Nat.reduceAdd, Nat.reduceLeDiff]
  refine hQ _ ?_
  clear hQ Q1
  try simp only [zAa]
  refine zAu ?_
  refine zCc (fun m l d1 h2 => ∃ k : Nat, m = kids.length - k ∧ k ≤ kids.length ∧ d1 = [] ∧ More h h2 ∧ h2.mem.get h.next = some (.cells (zAc [.ptr ui 0]) 1 none false) ∧ h2.mem.get (h.next + 1) = some (.cells (zAc [.ptr uj 0]) 1 none false) ∧ h.next + 1 < h2.next ∧ TreeR h2 F (.ptr ui 0) (.mk op name typ n pos kids) ∧ TreeR h2 F' (.ptr uj 0) (.mk op name typ n pos' kids') ∧ l.get 2 = some (.ptr h.next 0) ∧ l.get 3 = some (.ptr (h.next + 1) 0) ∧ l.get 5 = some (.int .i64 (k : Int))) ?_ (kids.length - 0) ?_
  ·rintro m l d1 h2 ⟨k, rfl, hk, rfl, m2, ga2, gb2, n2, x2, y2, l2, l3, l5⟩
   refine zAd ?_
   refine zAd (zAb fun Q1 hQ => ?_)
   simp (disch := omega) only [EL, ↓K3, ↓K1, reduceIte, Nat.reduceEqDiff, Nat.reduceAdd, Nat.reduceLeDiff, l2, l5, ga2, zAe]
   refine (zIw H x2).to fun v h3 q => ?_
   obtain ⟨rfl, m3⟩ := q
   have n3 := m3.next
   have ga3 := (m3.keep h.next (by omega)).trans ga2
   have gb3 := (m3.keep (h.next + 1) (by omega)).trans gb2
   have x3 : TreeR h3 F (.ptr ui 0) (.mk op name typ n pos kids) := TreeR.keep m3.stay (fun _ h _ => h) x2
   have y3 : TreeR h3 F' (.ptr uj 0) (.mk op name typ n pos' kids') := TreeR.keep m3.stay (fun _ h _ => h) y2
   simp only [Tree.kids]
   simp (disch := omega) only [EL, ↓K3, ↓K1, reduceIte, Nat.reduceEqDiff, Nat.reduceAdd, Nat.reduceLeDiff]
   refine hQ _ ?_
   clear hQ Q1
   try simp only [zAa]
   refine wc_if (k < kids.length) (by simp +decide only [EL, reduceIte]) (fun hlt => ?_) (fun hge => ?_)
   ·refine zAl ?_
    try simp only [zAa]
    refine zAd ?_
    refine zAu ?_
    refine zAd (zAb fun Q1 hQ => ?_)
    simp (disch := omega) only [EL, ↓K3, ↓K1, reduceIte, Nat.reduceEqDiff, Nat.reduceAdd, Nat.reduceLeDiff, l2, l3, l5, ga3, gb3, zAe]
    refine (kid_gp H x3 hlt).to fun v h4 q => ?_
    obtain ⟨m4, w, rfl, tw⟩ := q
    have n4 := m4.next
    have ga4 := (m4.keep h.next (by omega)).trans ga3
    have gb4 := (m4.keep (h.next + 1) (by omega)).trans gb3
    have x4 : TreeR h4 F (.ptr ui 0) (.mk op name typ n pos kids) := TreeR.keep m4.stay (fun _ h _ => h) x3
    have y4 : TreeR h4 F' (.ptr uj 0) (.mk op name typ n pos' kids') := TreeR.keep m4.stay (fun _ h _ => h) y3
    simp only [Tree.kids] at tw
    simp (disch := omega) only [EL, ↓K3, ↓K1, reduceIte, Nat.reduceEqDiff, Nat.reduceAdd, Nat.reduceLeDiff, l3, gb4, zAe, zA7, zA8, zBc, zBj]
    refine (kid_gp H y4 (show k < kids'.length by omega)).to fun v h5 q => ?_
    obtain ⟨m5, w', rfl, tw'⟩ := q
    have n5 := m5.next
    have ga5 := (m5.keep h.next (by omega)).trans ga4
    have gb5 := (m5.keep (h.next + 1) (by omega)).trans gb4
    have x5 : TreeR h5 F (.ptr ui 0) (.mk op name typ n pos kids) := TreeR.keep m5.stay (fun _ h _ => h) x4
    have y5 : TreeR h5 F' (.ptr uj 0) (.mk op name typ n pos' kids') := TreeR.keep m5.stay (fun _ h _ => h) y4
    have tw5 : TreeR h5 F (.ptr w 0) kids[k] := TreeR.keep m5.stay (fun _ h _ => h) tw
    simp only [Tree.kids] at tw'
    simp (disch := omega) only [EL, ↓K3, ↓K1, reduceIte, Nat.reduceEqDiff, Nat.reduceAdd, Nat.reduceLeDiff]
    refine (IH _ (List.getElem_mem hlt) (ek k hlt (by omega)) tw5 tw').to fun v h6 q => ?_
    obtain ⟨rfl, m6⟩ := q
    have n6 := m6.next
    have ga6 := (m6.keep h.next (by omega)).trans ga5
    have gb6 := (m6.keep (h.next + 1) (by omega)).trans gb5
    have x6 : TreeR h6 F (.ptr ui 0) (.mk op name typ n pos kids) := TreeR.keep m6.stay (fun _ h _ => h) x5
    have y6 : TreeR h6 F' (.ptr uj 0) (.mk op name typ n pos' kids') := TreeR.keep m6.stay (fun _ h _ => h) y5
    simp (disch := omega) only [EL, ↓K3, ↓K1, reduceIte, Nat.reduceEqDiff, Nat.reduceAdd, Nat.reduceLeDiff]
    refine hQ _ ?_
    clear hQ Q1
    try simp only [zAa]
    refine wc_no (by simp +decide only [EL, reduceIte]) ?_
    refine zAl ?_
    try simp only [zAi, zAa]
    refine zAb fun Q1 hQ => ?_
    simp (disch := omega) only [EL, ↓K3, ↓K1, reduceIte, Nat.reduceEqDiff, Nat.reduceAdd, Nat.reduceLeDiff, l5]
    refine hQ _ ?_
    clear hQ Q1
    try simp only [zAa]
    exact ⟨kids.length - (k + 1), by omega, k + 1, rfl, hlt, trivial, ((((m2.trans m3).trans m4).trans m5).trans m6), ga6, gb6, by omega, x6, y6, by simp +decide only [EL, reduceIte, l2], by simp +decide only [EL, reduceIte, l3], by simp +decide only [EL, reduceIte]⟩
   ·refine zC1 ?_
    simp only [zBd, zBa, if_true, zAa]
    exact ⟨trivial, m2.trans m3⟩
  ·exact ⟨0, rfl, Nat.zero_le _, rfl, m011, ga11, gb11, by omega, x11, y11, by simp +decide only [EL, reduceIte, l2'], by simp +decide only [EL, reduceIte, l3'], by simp +decide only [EL, reduceIte]⟩
 ·rintro l d1 h2 ⟨rfl, m2⟩
  refine zAd (zAb fun Q1 hQ => ?_)
  simp (disch := omega) only [EL, ↓K3, ↓K1, reduceIte, Nat.reduceEqDiff, Nat.reduceAdd, Nat.reduceLeDiff]
  refine hQ _ ?_
  clear hQ Q1
  refine zAj ?_
  try simp only [zAh, zAf]
  exact ⟨_, zBe (v := .bool true) (by simp +decide only [EL, reduceIte]) zAm, rfl, m2⟩
end
end Go.Ev
namespace Go.Pa
open Go.Ev
theorem mapT_mapT {φ ψ : Nat → Nat} : ∀ t : Tree, mapT φ (mapT ψ t) = mapT (fun p => φ (ψ p)) t := by
 intro t
 induction t using Tree.ind with
 | h op name typ n pos kids IH =>
  have : ∀ ks : List Tree, (∀ k ∈ ks, mapT φ (mapT ψ k) = mapT (fun p => φ (ψ p)) k) → mapTs φ (mapTs ψ ks) = mapTs (fun p => φ (ψ p)) ks := by
   intro ks
   induction ks with
   | nil => intro _; rfl
   | cons k ks ih =>
    intro h
    show mapT φ (mapT ψ k) :: mapTs φ (mapTs ψ ks) = mapT _ k :: mapTs _ ks
    rw [h k (by simp), ih fun k hk => h k (by simp [hk])]
  show Tree.mk op name typ n _ (mapTs φ (mapTs ψ kids)) = Tree.mk op name typ n _ (mapTs _ kids)
  rw [this kids IH]
theorem bare_map {φ : Nat → Nat} (t : Tree) : bare (mapT φ t) = bare t := mapT_mapT t
theorem parse_in2 {s : Str} {n m : Nat} (hn : s.length + 1 ≤ n) (hm : 10 * s.length + 10 ≤ m) : zDk n m s ≠ .out := by
 unfold zDk
 cases hs : scanS s with
 | ok ts =>
  have := (zK8 hs).2.len
  exact progL_in (by omega) _ (by omega)
 | err p e => simp
 | out => exact absurd hs scanS_in
end Go.Pa
namespace Go.Ev
open Go Go.Pa
section
variable {tab : Nat → Option AFunc} (H : PT tab)
include H in
theorem parse_gp2 {h : AH} {n m : Nat} {s : Str} (hs : s.length ≤ 1000000) (hin : zDk n m s ≠ .out) : GP tab 9 [sv s] h fun v h1 => More h h1 ∧ ∃ (u : AV) (p e : Nat), v = .tup [.agg [u], .int .i64 (p : Int), .int .i64 (e : Int)] ∧ (e = 0 → ∃ ks i d, zDk n m s = .ok ks i d ∧ TreeR h1 (fun k => h.next ≤ k) u (.mk 1 [] [] 0 0 ks)) ∧ (e ≠ 0 → zDk n m s = .err p e ∧ u = .nilp) := by
 refine (parse_gp H hs rfl hin).mono fun v h1 q => ?_
 obtain ⟨m1, q⟩ := q
 refine ⟨m1, ?_⟩
 rcases q with ⟨ks, i, d, u, hy, rfl, tr⟩ | ⟨p, e, hy, rfl⟩
 ·exact ⟨u, 0, 0, rfl, fun _ => ⟨ks, i, d, hy, tr⟩, fun e => absurd rfl e⟩
 ·exact ⟨.nilp, p, e, rfl, fun e0 => absurd e0 (parse_nz hy), fun _ => ⟨hy, rfl⟩⟩
end
end Go.Ev
namespace Go.Pa
open Go.Ev
theorem zKi : ∀ ws : List Str, Lib.join ws [32] = joinW ws
 | [] => rfl
 | w :: ws => by
  rw [Lib.join_cons]
  show _ = w ++ joinW.joinR ws
  congr 1
  induction ws with
  | nil => rfl
  | cons x ws ih => show [32] ++ x ++ Lib.joinTail [32] ws = _; rw [ih]; rfl
theorem zEh : ∀ {ts : List Tok} {p : Nat}, (zDj p ts).length = ts.length
 | [], _ => rfl
 | t :: ts, p => by show (zDj _ ts).length + 1 = _; rw [zEh]; rfl
def zD8 (ts : List Tok) : Str := joinW (ts.map (·.text))
theorem blanks_law {s : Str} {ts : List Tok} {n m : Nat} (h : scanS s = .ok ts) (hs : s.length ≤ 2048) :
  (∀ ks i d, zDk n m s = .ok ks i d → ∃ ks', zDk n m (zD8 ts) = .ok ks' i d ∧ mapTs (fun _ => 0) ks = mapTs (fun _ => 0) ks') ∧
  (∀ p e, zDk n m s = .err p e → ∃ p', zDk n m (zD8 ts) = .err p' e ∧
   ((∃ k, ∃ h1 : k < ts.length, ts[k].pos = p ∧ (∀ i, i < k → (h2 : i < ts.length) → ts[i].pos ≠ p) ∧ ((zDj 0 ts)[k]'(by rw [zEh]; exact h1)).pos = p') ∨
    ((∀ i, (h2 : i < ts.length) → ts[i].pos ≠ p) ∧ p = s.length ∧ p' = (zD8 ts).length))) := by
 obtain ⟨tk, h2, hl⟩ := zI8 h hs
 obtain ⟨c, e1, e2, e3⟩ := prog_words (ts := ts) (ts' := zDj 0 ts) (en := s.length) (en' := (zD8 ts).length) (k := n) (m := m) toksAt_words.symm
 have p1 : zDk n m s = progL ts s.length n m 0 0 [] := by unfold zDk; rw [h]
 have p2 : zDk n m (zD8 ts) = progL (zDj 0 ts) (zD8 ts).length n m 0 0 [] := by unfold zDk zD8; rw [h2]
 rw [p1, p2, e1, e2]
 obtain ⟨r1, r2⟩ := tk.rise
 have mm : ∀ φ : Nat → Nat, ∀ ks : List Tree, mapTs (fun _ => 0) (mapTs φ ks) = mapTs (fun _ => 0) ks := by
  intro φ ks
  induction ks with
  | nil => rfl
  | cons k ks ih => show mapT _ (mapT φ k) :: mapTs _ (mapTs φ ks) = mapT _ k :: mapTs _ ks; rw [ih]; congr 1; exact bare_map k
 constructor
 ·intro ks i d hc
  cases c with
  | ok a i' d' =>
   injection hc with h1 h2 h3
   subst h1; subst h2; subst h3
   exact ⟨_, rfl, by rw [mm, mm]⟩
  | err p e => cases hc
  | out => cases hc
 ·intro p e hc
  cases c with
  | ok a i' d' => cases hc
  | out => cases hc
  | err k e' =>
   injection hc with h1 h2
   subst h1; subst h2
   refine ⟨_, rfl, ?_⟩
   simp only
   have hk := e3 k e' rfl
   rcases Nat.lt_or_ge k ts.length with hlt | hge
   ·refine .inl ⟨k, hlt, by rw [zFz hlt], fun i hi h2 => ?_, ?_⟩
    ·rw [zFz hlt]; have := r2 i k h2 hlt hi; omega
    ·rw [zFz (by rw [zEh]; exact hlt)]
   ·obtain rfl : k = ts.length := by omega
    refine .inr ⟨fun i h2 => ?_, ?_, ?_⟩
    ·rw [zCd (by omega)]; have := (r1 _ (List.getElem_mem h2)).2; simp only; omega
    ·rw [zCd (by omega)]
    ·rw [zCd (by rw [zEh]; omega)]
end Go.Pa
namespace Go.Ev
open Go Go.Pa
theorem loadL_all : ∀ {l : List AV} {c : T AV} {off : Nat}, (∀ j, j < l.length → c.get (off + j) = l[j]?) → loadL c l.length off = some l
 | [], _, _, _ => rfl
 | v :: l, c, off, h => zEm (by have := h 0 (by simp); simpa using this) (loadL_all fun j hj => by have := h (j + 1) (by simpa using hj); rw [show off + 1 + j = off + (j + 1) by omega]; simpa using this)
section
variable {tab : Nat → Option AFunc} {h : AH} (H : PT tab)
abbrev txtL (t : Tok) : List AV := [sv t.text]
include H in
theorem join_lex {tl : AV} {ts : List Tok} {r : Nat} (ht : TokA h r tl ts) (hr : r ≤ h.next) (hl : ts.length ≤ 100000) (hj : (zD8 ts).length ≤ 1000000) : GP tab 22 [tl] h fun v h1 => v = sv (zD8 ts) ∧ More h h1 := by
 have i0 : zAg [tl] = zAc [tl] := rfl
 have mvt : ∀ h', oMove (.c tl) .leaf [] h' = .val tl h' := fun h' => zE8 (by rcases ht with ⟨_, rfl⟩ | ⟨id, c, s, cap, rfl, _⟩ <;> rfl)
 have lnt : ∀ h', oLen .sl (.c tl) .leaf [] h' = .val (.int .i64 (ts.length : Int)) h' := fun h' => by rcases ht with ⟨rfl, rfl⟩ | ⟨id, c, s, cap, rfl, _⟩ <;> rfl
 refine GE.gp (ge_of H.t22 rfl ?_) (E := fun _ _ => False) fun _ _ => id
 refine zAd (zAb fun Q1 hQ => ?_)
 simp (disch := omega) only [EL, ↓K3, ↓K1, reduceIte, Nat.reduceEqDiff, Nat.reduceAdd, Nat.reduceLeDiff, i0]
 refine hQ _ ?_
 clear hQ Q1
 refine zAd (zAb fun Q1 hQ => ?_)
 simp (disch := omega) only [EL, ↓K3, ↓K1, reduceIte, Nat.reduceEqDiff, Nat.reduceAdd, Nat.reduceLeDiff, i0]
 refine hQ _ ?_
 clear hQ Q1
 refine zAd ?_
 refine zAd (zAb fun Q1 hQ => ?_)
 simp (disch := omega) only [EL, ↓K3, ↓K1, reduceIte, Nat.reduceEqDiff, Nat.reduceAdd, Nat.reduceLeDiff, i0, mvt, lnt]
 refine hQ _ ?_
 clear hQ Q1
 refine zAu ?_
 refine zCc (fun m l d1 h1 => ∃ (k : Nat) (wl : AV), m = ts.length - k ∧ k ≤ ts.length ∧ d1 = [] ∧ l.get 1 = some (.int .i64 (k : Int)) ∧ l.get 2 = some (.int .i64 (ts.length : Int)) ∧ l.get 4 = some tl ∧ l.get 5 = some wl ∧ OwnL h1 h.next 1 wl ((ts.take k).map txtL) ∧ (k = 0 → wl = .nils) ∧ More h h1) ?_ (ts.length - 0) ?_
 ·rintro m l d1 h1 ⟨k, wl, rfl, hk, rfl, l1, l2, l4, l5, own, emp, m1⟩
  refine zAd (zAb fun Q1 hQ => ?_)
  simp (disch := omega) only [EL, ↓K3, ↓K1, reduceIte, Nat.reduceEqDiff, Nat.reduceAdd, Nat.reduceLeDiff, l1, l2]
  refine hQ _ ?_
  clear hQ Q1
  refine zAd ?_
  refine wc_if (k < ts.length) (by simp +decide only [EL, reduceIte]) (fun hlt => ?_) (fun hge => ?_)
  ·refine zAl ?_
   simp only [zAa]
   refine zAd ?_
   refine zAu ?_
   have ht1 : TokA h1 r tl ts := ht.keep fun k hk => m1.keep k (by omega)
   rcases ht1 with ⟨rfl, _⟩ | ⟨id, c, s, cap, rfl, hid, gc, gt⟩
   ·cases hlt
   obtain ⟨g1, g2, g3⟩ := gt k hlt
   have n1 := m1.next
   refine zAd (zAb fun Q1 hQ => ?_)
   simp (disch := omega) only [EL, ↓K3, ↓K1, reduceIte, Nat.reduceEqDiff, Nat.reduceAdd, Nat.reduceLeDiff, l1, l4, gc, zAe, g1, g2, g3, hlt]
   refine hQ _ ?_
   clear hQ Q1
   refine zC8 fun h3 n3 gg m3 => ?_
   obtain ⟨ct, gt3, k0, k1, k2⟩ := gg
   simp only [zAa]
   have own3 := own.more m3
   have mvw : ∀ h', oMove (.c wl) .leaf [] h' = .val wl h' := fun h' => zE8 own.mv
   refine zAb fun Q1 hQ => ?_
   simp (disch := omega) only [EL, ↓K3, ↓K1, reduceIte, Nat.reduceEqDiff, Nat.reduceAdd, Nat.reduceLeDiff, l5, mvw, gt3, k1]
   have m5 : More h3 (h3.add (.cells (zAc [sv ts[k].text]) 1 none false)) := More.add _ _
   have g5 : (h3.add (.cells (zAc [sv ts[k].text]) 1 none false)).mem.get h3.next = some (.cells (zAc [sv ts[k].text]) 1 none false) := by rw [AH.add_mem, T.get_put_self]
   have n5 : (h3.add (.cells (zAc [sv ts[k].text]) 1 none false)).next = h3.next + 1 := rfl
   generalize h3.add (.cells (zAc [sv ts[k].text]) 1 none false) = h5 at *
   have own5 := own3.more m5
   obtain ⟨tl', h6, ap, own6, kp6, n6, keep6, fresh6⟩ := own5.append (src := .sl h3.next 0 1 (.known 1)) (new := txtL ts[k]) (by' := 16) (fun k => src_sl (by decide) g5 (by simp +decide only [EL, reduceIte, zAe]) k) rfl (by omega) (by omega) (by simp; omega) (by omega)
   have mv6 : ∀ h', oMove (.c tl') .leaf [] h' = .val tl' h' := fun h' => zE8 own6.mv
   simp (disch := omega) only [EL, ↓K3, ↓K1, reduceIte, Nat.reduceEqDiff, Nat.reduceAdd, Nat.reduceLeDiff, ap, mv6]
   refine hQ _ ?_
   clear hQ Q1
   try simp only [zAa]
   simp only [zAa, zAi]
   refine zAb fun Q1 hQ => ?_
   simp (disch := omega) only [EL, ↓K3, ↓K1, reduceIte, Nat.reduceEqDiff, Nat.reduceAdd, Nat.reduceLeDiff, l1]
   refine hQ _ ?_
   clear hQ Q1
   simp only [zAa]
   have m6 : More h h6 := ⟨by omega, fun k hk => by rw [kp6.keep k hk, m5.keep k (by omega), m3.keep k (by omega)]; exact m1.keep k hk⟩
   refine ⟨ts.length - (k + 1), by omega, k + 1, tl', rfl, hlt, trivial, by simp +decide only [EL, reduceIte], by simp +decide only [EL, reduceIte, l2], by simp +decide only [EL, reduceIte, l4], by simp +decide only [EL, reduceIte], ?_, fun e => by omega, m6⟩
   rw [List.take_succ_eq_append_getElem hlt, List.map_append]
   exact own6
  ·obtain rfl : k = ts.length := by omega
   refine zC1 ?_
   simp only [zBd, zBa, if_true, zAa]
   have mvw : ∀ h', oMove (.c wl) .leaf [] h' = .val wl h' := fun h' => zE8 own.mv
   have jn : joinG [wl, sv [32]] h1 = some (sv (zD8 ts), h1) := by
    unfold zD8
    cases hts : ts with
    | nil =>
     subst hts
     rw [emp rfl]; rfl
    | cons t ts' =>
     rw [← hts]
     have hpos : 0 < ((ts.take ts.length).map txtL).length := by rw [hts]; simp
     obtain ⟨id, c, rfl, _, _, gc, ga⟩ := own.open hpos
     rw [← zKi]
     have hl2 : ((ts.take ts.length).map txtL).length = (ts.map (·.text)).length := by simp
     have ld : loadL c (ts.map (·.text)).length 0 = some ((ts.map (·.text)).map sv) := by
      have := loadL_all (l := (ts.map (·.text)).map sv) (c := c) (off := 0) fun j hj => by
       have hj' : j < ((ts.take ts.length).map txtL).length := by rw [hl2]; simpa using hj
       have h3 := (ga j hj').2 0 (by omega)
       rw [Nat.zero_add]
       rw [Nat.mul_one, Nat.add_zero] at h3
       rw [h3]
       have hjt : j < ts.length := by simpa using hj
       simp [hjt]
      simpa using this
     rw [hl2]
     have hj2 : (Lib.join (ts.map (·.text)) [32]).length ≤ 1000000 := by rw [zKi]; exact hj
     have hl3 : (ts.map (·.text)).length ≤ 100000 := by simpa using hl
     generalize ts.map (·.text) = ws at *
     cases ws with
     | nil => rw [hl2] at hpos; cases hpos
     | cons w ws => exact join_sl gc ld (by omega) (by omega)
   have nj : GP tab 36 [wl, sv [32]] h1 fun v h2 => v = sv (zD8 ts) ∧ h2 = h1 := nat_gp H.t36 rfl jn
   refine zAd (zAb fun Q1 hQ => ?_)
   simp (disch := omega) only [EL, ↓K3, ↓K1, reduceIte, Nat.reduceEqDiff, Nat.reduceAdd, Nat.reduceLeDiff, l5, mvw]
   rw [ge_rw nj]
   simp (disch := omega) only [EL, ↓K3, ↓K1, reduceIte, Nat.reduceEqDiff, Nat.reduceAdd, Nat.reduceLeDiff]
   refine hQ _ ?_
   clear hQ Q1
   try simp only [zAa]
   refine zAj ?_
   simp (disch := omega) only [EL, ↓K3, ↓K1, reduceIte, Nat.reduceEqDiff, Nat.reduceAdd, Nat.reduceLeDiff]
   exact m1
 ·exact ⟨0, .nils, rfl, Nat.zero_le _, rfl, by simp +decide only [EL, reduceIte], by simp +decide only [EL, reduceIte], by simp +decide only [EL, reduceIte], by simp +decide only [EL, reduceIte], .nils, fun _ => rfl, More.refl h⟩
end
end Go.Ev
namespace Go.Ev
open Go Go.Pa
theorem OwnL.exV {h : AH} {b es : Nat} {v : AV} {xs : List (List AV)} (x : OwnL h b es v xs) (h' : AH) : exV v h' = .val v h' := by cases x <;> rfl
section
variable {tab : Nat → Option AFunc} {h : AH} (H : PT tab)
include H in
theorem zop_gp : GP tab 13 [.agg [.nilp]] h fun v h1 => v = .int .i64 ((0 : Nat) : Int) ∧ More h h1 := by
 have le : ∀ h' : AH, oLen .sl (.c .nils) .leaf [] h' = .val (.int .i64 ((0 : Nat) : Int)) h' := fun h' => rfl
 refine GE.gp (ge_of H.t13 rfl ?_) (E := fun _ _ => False) fun _ _ hh => hh
 have i0 : zAg [.agg [.nilp]] = zAc [.agg [.nilp]] := rfl
 refine zAd (zAb fun Q1 hQ => ?_)
 simp (disch := omega) only [EL, ↓K3, ↓K1, reduceIte, Nat.reduceEqDiff, Nat.reduceAdd, Nat.reduceLeDiff, i0]
 refine hQ _ ?_
 clear hQ Q1
 have m1 : More h (h.add (.cells (zAc [.nilp]) 1 none false)) := More.add _ _
 have g1 : (h.add (.cells (zAc [.nilp]) 1 none false)).mem.get h.next = some (.cells (zAc [.nilp]) 1 none false) := by rw [AH.add_mem, T.get_put_self]
 have n1 : (h.add (.cells (zAc [.nilp]) 1 none false)).next = h.next + 1 := rfl
 generalize h.add (.cells (zAc [.nilp]) 1 none false) = h1 at *
 refine zAd (zAb fun Q1 hQ => ?_)
 simp (disch := omega) only [EL, ↓K3, ↓K1, reduceIte, Nat.reduceEqDiff, Nat.reduceAdd, Nat.reduceLeDiff, i0, g1, zAe]
 refine (zJn H).to fun v h2 q => ?_
 obtain ⟨rfl, m2⟩ := q
 have f1 : ∀ h' : AH, zB6 0 1 false (.c (dataV 0 [] [] 0 0 .nils)) .leaf [] h' = .val (.int .i64 ((0 : Nat) : Int)) h' := fun _ => rfl
 simp (disch := omega) only [EL, ↓K3, ↓K1, reduceIte, Nat.reduceEqDiff, Nat.reduceAdd, Nat.reduceLeDiff, f1, le]
 refine hQ _ ?_
 refine zAj ?_
 simp (disch := omega) only [EL, ↓K3, ↓K1, reduceIte, Nat.reduceEqDiff, Nat.reduceAdd, Nat.reduceLeDiff]
 exact m1.trans m2
include H in
theorem zname_gp : GP tab 33 [.agg [.nilp]] h fun v h1 => v = sv [] ∧ More h h1 := by
 have le : ∀ h' : AH, oLen .sl (.c .nils) .leaf [] h' = .val (.int .i64 ((0 : Nat) : Int)) h' := fun h' => rfl
 refine GE.gp (ge_of H.t33 rfl ?_) (E := fun _ _ => False) fun _ _ hh => hh
 have i0 : zAg [.agg [.nilp]] = zAc [.agg [.nilp]] := rfl
 refine zAd (zAb fun Q1 hQ => ?_)
 simp (disch := omega) only [EL, ↓K3, ↓K1, reduceIte, Nat.reduceEqDiff, Nat.reduceAdd, Nat.reduceLeDiff, i0]
 refine hQ _ ?_
 clear hQ Q1
 have m1 : More h (h.add (.cells (zAc [.nilp]) 1 none false)) := More.add _ _
 have g1 : (h.add (.cells (zAc [.nilp]) 1 none false)).mem.get h.next = some (.cells (zAc [.nilp]) 1 none false) := by rw [AH.add_mem, T.get_put_self]
 have n1 : (h.add (.cells (zAc [.nilp]) 1 none false)).next = h.next + 1 := rfl
 generalize h.add (.cells (zAc [.nilp]) 1 none false) = h1 at *
 refine zAd (zAb fun Q1 hQ => ?_)
 simp (disch := omega) only [EL, ↓K3, ↓K1, reduceIte, Nat.reduceEqDiff, Nat.reduceAdd, Nat.reduceLeDiff, i0, g1, zAe]
 refine (zJn H).to fun v h2 q => ?_
 obtain ⟨rfl, m2⟩ := q
 have f1 : ∀ h' : AH, zB6 1 1 false (.c (dataV 0 [] [] 0 0 .nils)) .leaf [] h' = .val (sv []) h' := fun _ => rfl
 simp (disch := omega) only [EL, ↓K3, ↓K1, reduceIte, Nat.reduceEqDiff, Nat.reduceAdd, Nat.reduceLeDiff, f1, le]
 refine hQ _ ?_
 refine zAj ?_
 simp (disch := omega) only [EL, ↓K3, ↓K1, reduceIte, Nat.reduceEqDiff, Nat.reduceAdd, Nat.reduceLeDiff]
 exact m1.trans m2
include H in
theorem ztyp_gp : GP tab 34 [.agg [.nilp]] h fun v h1 => v = sv [] ∧ More h h1 := by
 have le : ∀ h' : AH, oLen .sl (.c .nils) .leaf [] h' = .val (.int .i64 ((0 : Nat) : Int)) h' := fun h' => rfl
 refine GE.gp (ge_of H.t34 rfl ?_) (E := fun _ _ => False) fun _ _ hh => hh
 have i0 : zAg [.agg [.nilp]] = zAc [.agg [.nilp]] := rfl
 refine zAd (zAb fun Q1 hQ => ?_)
 simp (disch := omega) only [EL, ↓K3, ↓K1, reduceIte, Nat.reduceEqDiff, Nat.reduceAdd, Nat.reduceLeDiff, i0]
 refine hQ _ ?_
 clear hQ Q1
 have m1 : More h (h.add (.cells (zAc [.nilp]) 1 none false)) := More.add _ _
 have g1 : (h.add (.cells (zAc [.nilp]) 1 none false)).mem.get h.next = some (.cells (zAc [.nilp]) 1 none false) := by rw [AH.add_mem, T.get_put_self]
 have n1 : (h.add (.cells (zAc [.nilp]) 1 none false)).next = h.next + 1 := rfl
 generalize h.add (.cells (zAc [.nilp]) 1 none false) = h1 at *
 refine zAd (zAb fun Q1 hQ => ?_)
 simp (disch := omega) only [EL, ↓K3, ↓K1, reduceIte, Nat.reduceEqDiff, Nat.reduceAdd, Nat.reduceLeDiff, i0, g1, zAe]
 refine (zJn H).to fun v h2 q => ?_
 obtain ⟨rfl, m2⟩ := q
 have f1 : ∀ h' : AH, zB6 2 1 false (.c (dataV 0 [] [] 0 0 .nils)) .leaf [] h' = .val (sv []) h' := fun _ => rfl
 simp (disch := omega) only [EL, ↓K3, ↓K1, reduceIte, Nat.reduceEqDiff, Nat.reduceAdd, Nat.reduceLeDiff, f1, le]
 refine hQ _ ?_
 refine zAj ?_
 simp (disch := omega) only [EL, ↓K3, ↓K1, reduceIte, Nat.reduceEqDiff, Nat.reduceAdd, Nat.reduceLeDiff]
 exact m1.trans m2
include H in
theorem zn_gp : GP tab 23 [.agg [.nilp]] h fun v h1 => v = .int .i64 0 ∧ More h h1 := by
 have le : ∀ h' : AH, oLen .sl (.c .nils) .leaf [] h' = .val (.int .i64 ((0 : Nat) : Int)) h' := fun h' => rfl
 refine GE.gp (ge_of H.t23 rfl ?_) (E := fun _ _ => False) fun _ _ hh => hh
 have i0 : zAg [.agg [.nilp]] = zAc [.agg [.nilp]] := rfl
 refine zAd (zAb fun Q1 hQ => ?_)
 simp (disch := omega) only [EL, ↓K3, ↓K1, reduceIte, Nat.reduceEqDiff, Nat.reduceAdd, Nat.reduceLeDiff, i0]
 refine hQ _ ?_
 clear hQ Q1
 have m1 : More h (h.add (.cells (zAc [.nilp]) 1 none false)) := More.add _ _
 have g1 : (h.add (.cells (zAc [.nilp]) 1 none false)).mem.get h.next = some (.cells (zAc [.nilp]) 1 none false) := by rw [AH.add_mem, T.get_put_self]
 have n1 : (h.add (.cells (zAc [.nilp]) 1 none false)).next = h.next + 1 := rfl
 generalize h.add (.cells (zAc [.nilp]) 1 none false) = h1 at *
 refine zAd (zAb fun Q1 hQ => ?_)
 simp (disch := omega) only [EL, ↓K3, ↓K1, reduceIte, Nat.reduceEqDiff, Nat.reduceAdd, Nat.reduceLeDiff, i0, g1, zAe]
 refine (zJn H).to fun v h2 q => ?_
 obtain ⟨rfl, m2⟩ := q
 have f1 : ∀ h' : AH, zB6 3 1 false (.c (dataV 0 [] [] 0 0 .nils)) .leaf [] h' = .val (.int .i64 0) h' := fun _ => rfl
 simp (disch := omega) only [EL, ↓K3, ↓K1, reduceIte, Nat.reduceEqDiff, Nat.reduceAdd, Nat.reduceLeDiff, f1, le]
 refine hQ _ ?_
 refine zAj ?_
 simp (disch := omega) only [EL, ↓K3, ↓K1, reduceIte, Nat.reduceEqDiff, Nat.reduceAdd, Nat.reduceLeDiff]
 exact m1.trans m2
include H in
theorem zK2 : GP tab 14 [.agg [.nilp]] h fun v h1 => v = .int .i64 ((0 : Nat) : Int) ∧ More h h1 := by
 have le : ∀ h' : AH, oLen .sl (.c .nils) .leaf [] h' = .val (.int .i64 ((0 : Nat) : Int)) h' := fun h' => rfl
 refine GE.gp (ge_of H.t14 rfl ?_) (E := fun _ _ => False) fun _ _ hh => hh
 have i0 : zAg [.agg [.nilp]] = zAc [.agg [.nilp]] := rfl
 refine zAd (zAb fun Q1 hQ => ?_)
 simp (disch := omega) only [EL, ↓K3, ↓K1, reduceIte, Nat.reduceEqDiff, Nat.reduceAdd, Nat.reduceLeDiff, i0]
 refine hQ _ ?_
 clear hQ Q1
 have m1 : More h (h.add (.cells (zAc [.nilp]) 1 none false)) := More.add _ _
 have g1 : (h.add (.cells (zAc [.nilp]) 1 none false)).mem.get h.next = some (.cells (zAc [.nilp]) 1 none false) := by rw [AH.add_mem, T.get_put_self]
 have n1 : (h.add (.cells (zAc [.nilp]) 1 none false)).next = h.next + 1 := rfl
 generalize h.add (.cells (zAc [.nilp]) 1 none false) = h1 at *
 refine zAd (zAb fun Q1 hQ => ?_)
 simp (disch := omega) only [EL, ↓K3, ↓K1, reduceIte, Nat.reduceEqDiff, Nat.reduceAdd, Nat.reduceLeDiff, i0, g1, zAe]
 refine (zJn H).to fun v h2 q => ?_
 obtain ⟨rfl, m2⟩ := q
 have f1 : ∀ h' : AH, zB6 5 1 false (.c (dataV 0 [] [] 0 0 .nils)) .leaf [] h' = .val (.nils) h' := fun _ => rfl
 simp (disch := omega) only [EL, ↓K3, ↓K1, reduceIte, Nat.reduceEqDiff, Nat.reduceAdd, Nat.reduceLeDiff, f1, le]
 refine hQ _ ?_
 refine zAj ?_
 simp (disch := omega) only [EL, ↓K3, ↓K1, reduceIte, Nat.reduceEqDiff, Nat.reduceAdd, Nat.reduceLeDiff]
 exact m1.trans m2
include H in
theorem alikez_gp : GP tab 19 [.agg [.nilp], .agg [.nilp]] h fun v h1 => v = .bool true ∧ More h h1 := by
 have i0 : zAg [.agg [.nilp], .agg [.nilp]] = zAc [.agg [.nilp], .agg [.nilp]] := rfl
 refine GE.gp (ge_of H.t19 rfl ?_) (E := fun _ _ => False) fun _ _ hh => hh
 refine zAd (zAb fun Q1 hQ => ?_)
 simp (disch := omega) only [EL, ↓K3, ↓K1, reduceIte, Nat.reduceEqDiff, Nat.reduceAdd, Nat.reduceLeDiff, i0]
 refine hQ _ ?_
 clear hQ Q1
 have m1 : More h ((h.add (.cells (zAc [.nilp]) 1 none false)).add (.cells (zAc [.nilp]) 1 none false)) := (More.add _ _).trans (More.add _ _)
 have n1 : ((h.add (.cells (zAc [.nilp]) 1 none false)).add (.cells (zAc [.nilp]) 1 none false)).next = h.next + 2 := rfl
 have ga1 : ((h.add (.cells (zAc [.nilp]) 1 none false)).add (.cells (zAc [.nilp]) 1 none false)).mem.get h.next = some (.cells (zAc [.nilp]) 1 none false) := by
  rw [AH.add_mem, T.get_put_ne _ _ _ _ (by show h.next + 1 ≠ h.next; omega), AH.add_mem, T.get_put_self]
 have gb1 : ((h.add (.cells (zAc [.nilp]) 1 none false)).add (.cells (zAc [.nilp]) 1 none false)).mem.get (h.next + 1) = some (.cells (zAc [.nilp]) 1 none false) := by
  rw [AH.add_mem]; exact T.get_put_self _ _ _
 generalize ((h.add (.cells (zAc [.nilp]) 1 none false)).add (.cells (zAc [.nilp]) 1 none false)) = h1 at *
 simp only [zAa]
 have l2 : (T.put (some (.bool false)) (T.put (some (.ptr (h.next + 1) 0)) (T.put (some (.ptr h.next 0)) (zAc [.agg [.nilp], .agg [.nilp]]) 2) 3) 8).get 2 = some (.ptr h.next 0) := by simp +decide only [EL, reduceIte]
 have l3 : (T.put (some (.bool false)) (T.put (some (.ptr (h.next + 1) 0)) (T.put (some (.ptr h.next 0)) (zAc [.agg [.nilp], .agg [.nilp]]) 2) 3) 8).get 3 = some (.ptr (h.next + 1) 0) := by simp +decide only [EL, reduceIte]
 generalize (T.put (some (.bool false)) (T.put (some (.ptr (h.next + 1) 0)) (T.put (some (.ptr h.next 0)) (zAc [.agg [.nilp], .agg [.nilp]]) 2) 3) 8) = loc at *
 refine zAd ?_
 refine zAd (zAb fun Q1 hQ => ?_)
 simp (disch := omega) only [EL, ↓K3, ↓K1, reduceIte, Nat.reduceEqDiff, Nat.reduceAdd, Nat.reduceLeDiff, l2, l3, ga1, gb1, zAe]
 refine (zop_gp H).to fun v h2 q => ?_
 obtain ⟨rfl, m2⟩ := q
 have n2 := m2.next
 have ga2 := (m2.keep h.next (by omega)).trans ga1
 have gb2 := (m2.keep (h.next + 1) (by omega)).trans gb1
 simp (disch := omega) only [EL, ↓K3, ↓K1, reduceIte, Nat.reduceEqDiff, Nat.reduceAdd, Nat.reduceLeDiff, l2, l3, ga2, gb2, zAe, zA7, zB9, zA8, zBc, zCj]
 refine (zop_gp H).to fun v h3 q => ?_
 obtain ⟨rfl, m3⟩ := q
 have n3 := m3.next
 have ga3 := (m3.keep h.next (by omega)).trans ga2
 have gb3 := (m3.keep (h.next + 1) (by omega)).trans gb2
 simp (disch := omega) only [EL, ↓K3, ↓K1, reduceIte, Nat.reduceEqDiff, Nat.reduceAdd, Nat.reduceLeDiff, l2, l3, ga3, gb3, zAe, zA7, zB9, zA8, zBc, zCj]
 refine (zname_gp H).to fun v h4 q => ?_
 obtain ⟨rfl, m4⟩ := q
 have n4 := m4.next
 have ga4 := (m4.keep h.next (by omega)).trans ga3
 have gb4 := (m4.keep (h.next + 1) (by omega)).trans gb3
 simp (disch := omega) only [EL, ↓K3, ↓K1, reduceIte, Nat.reduceEqDiff, Nat.reduceAdd, Nat.reduceLeDiff, l2, l3, ga4, gb4, zAe, zA7, zB9, zA8, zBc, zCj]
 refine (zname_gp H).to fun v h5 q => ?_
 obtain ⟨rfl, m5⟩ := q
 have n5 := m5.next
 have ga5 := (m5.keep h.next (by omega)).trans ga4
 have gb5 := (m5.keep (h.next + 1) (by omega)).trans gb4
 simp (disch := omega) only [EL, ↓K3, ↓K1, reduceIte, Nat.reduceEqDiff, Nat.reduceAdd, Nat.reduceLeDiff, l2, l3, ga5, gb5, zAe, zA7, zB9, zA8, zBc, zCj]
 refine (ztyp_gp H).to fun v h6 q => ?_
 obtain ⟨rfl, m6⟩ := q
 have n6 := m6.next
 have ga6 := (m6.keep h.next (by omega)).trans ga5
 have gb6 := (m6.keep (h.next + 1) (by omega)).trans gb5
 simp (disch := omega) only [EL, ↓K3, ↓K1, reduceIte, Nat.reduceEqDiff, Nat.reduceAdd, Nat.reduceLeDiff, l2, l3, ga6, gb6, zAe, zA7, zB9, zA8, zBc, zCj]
 refine (ztyp_gp H).to fun v h7 q => ?_
 obtain ⟨rfl, m7⟩ := q
 have n7 := m7.next
 have ga7 := (m7.keep h.next (by omega)).trans ga6
 have gb7 := (m7.keep (h.next + 1) (by omega)).trans gb6
 simp (disch := omega) only [EL, ↓K3, ↓K1, reduceIte, Nat.reduceEqDiff, Nat.reduceAdd, Nat.reduceLeDiff, l2, l3, ga7, gb7, zAe, zA7, zB9, zA8, zBc, zCj]
 refine (zn_gp H).to fun v h8 q => ?_
 obtain ⟨rfl, m8⟩ := q
 have n8 := m8.next
 have ga8 := (m8.keep h.next (by omega)).trans ga7
 have gb8 := (m8.keep (h.next + 1) (by omega)).trans gb7
 simp (disch := omega) only [EL, ↓K3, ↓K1, reduceIte, Nat.reduceEqDiff, Nat.reduceAdd, Nat.reduceLeDiff, l2, l3, ga8, gb8, zAe, zA7, zB9, zA8, zBc, zCj]
 refine (zn_gp H).to fun v h9 q => ?_
 obtain ⟨rfl, m9⟩ := q
 have n9 := m9.next
 have ga9 := (m9.keep h.next (by omega)).trans ga8
 have gb9 := (m9.keep (h.next + 1) (by omega)).trans gb8
 simp (disch := omega) only [EL, ↓K3, ↓K1, reduceIte, Nat.reduceEqDiff, Nat.reduceAdd, Nat.reduceLeDiff, l2, l3, ga9, gb9, zAe, zA7, zB9, zA8, zBc, zCj]
 refine (zK2 H).to fun v h10 q => ?_
 obtain ⟨rfl, m10⟩ := q
 have n10 := m10.next
 have ga10 := (m10.keep h.next (by omega)).trans ga9
 have gb10 := (m10.keep (h.next + 1) (by omega)).trans gb9
 simp (disch := omega) only [EL, ↓K3, ↓K1, reduceIte, Nat.reduceEqDiff, Nat.reduceAdd, Nat.reduceLeDiff, l2, l3, ga10, gb10, zAe, zA7, zB9, zA8, zBc, zCj]
 refine (zK2 H).to fun v h11 q => ?_
 obtain ⟨rfl, m11⟩ := q
 have n11 := m11.next
 have ga11 := (m11.keep h.next (by omega)).trans ga10
 have gb11 := (m11.keep (h.next + 1) (by omega)).trans gb10
 simp (disch := omega) only [EL, ↓K3, ↓K1, reduceIte, Nat.reduceEqDiff, Nat.reduceAdd, Nat.reduceLeDiff, l2, l3, ga11, gb11, zAe, zA7, zB9, zA8, zBc, zCj]
 refine hQ _ ?_
 clear hQ Q1
 try simp only [zAa]
 refine wc_no (by simp +decide only [EL, reduceIte]) ?_
 refine zAl ?_
 try simp only [zAa]
 have m011 : More h h11 := (((((((((m1.trans m2).trans m3).trans m4).trans m5).trans m6).trans m7).trans m8).trans m9).trans m10).trans m11
 refine zAd ?_
 refine zAd (zAb fun Q1 hQ => ?_)
 simp (disch := omega) only [EL, ↓K3, ↓K1, reduceIte, Nat.reduceEqDiff, Nat.reduceAdd, Nat.reduceLeDiff]
 refine hQ _ ?_
 clear hQ Q1
 refine zAu ?_
 refine wc_loop ?_
 refine zAd ?_
 refine zAd (zAb fun Q1 hQ => ?_)
 simp (disch := omega) only [EL, ↓K3, ↓K1, reduceIte, Nat.reduceEqDiff, Nat.reduceAdd, Nat.reduceLeDiff, l2, ga11, zAe]
 refine (zK2 H).to fun v h12 q => ?_
 obtain ⟨rfl, m12⟩ := q
 have lt0 : ¬ ((0 : Nat) : Int) < ((0 : Nat) : Int) := by decide
 simp (disch := omega) only [EL, ↓K3, ↓K1, reduceIte, Nat.reduceEqDiff, Nat.reduceAdd, Nat.reduceLeDiff, lt0]
 refine hQ _ ?_
 clear hQ Q1
 try simp only [zAa]
 refine wc_no (by simp +decide only [EL, reduceIte]) ?_
 refine zC1 ?_
 simp only [zBd, zBa, if_true, zAa]
 refine zAd (zAb fun Q1 hQ => ?_)
 simp (disch := omega) only [EL, ↓K3, ↓K1, reduceIte, Nat.reduceEqDiff, Nat.reduceAdd, Nat.reduceLeDiff]
 refine hQ _ ?_
 clear hQ Q1
 refine zAj ?_
 try simp only [zAh, zAf]
 exact ⟨_, zBe (v := .bool true) (by simp +decide only [EL, reduceIte]) zAm, rfl, m011.trans m12⟩
include H in
theorem zJ9 {s : Str} : GP tab 7 [sv s] h fun v _ => v = .bool true := by
 have i0 : zAg [sv s] = zAc [sv s] := rfl
 refine GE.gp (ge_of H.t7 rfl ?_) (E := fun _ _ => False) fun _ _ hh => hh
 have tru : ∀ (l : T AV) (h3 : AH), zDv [.val (.l 21)] (fun v _ => v = .bool true) (fun _ _ => False) (.ret (T.put (some (.bool true)) l 21) [] h3) := fun l h3 => ⟨_, zBe (v := .bool true) (by simp +decide only [EL, reduceIte]) zAm, rfl⟩
 refine zAd (zAb fun Q1 hQ => ?_)
 simp (disch := omega) only [EL, ↓K3, ↓K1, reduceIte, Nat.reduceEqDiff, Nat.reduceAdd, Nat.reduceLeDiff, i0]
 refine hQ _ ?_
 clear hQ Q1
 refine zAd ?_
 refine zAd (zAb fun Q1 hQ => ?_)
 simp (disch := omega) only [EL, ↓K3, ↓K1, reduceIte, Nat.reduceEqDiff, Nat.reduceAdd, Nat.reduceLeDiff, i0]
 refine (gp_yes (Q := fun v h1 => v = .bool true ∧ h1 = h) H.t8 ⟨rfl, rfl⟩).to fun v h1 q => ?_
 obtain ⟨rfl, rfl⟩ := q
 simp (disch := omega) only [EL, ↓K3, ↓K1, reduceIte, Nat.reduceEqDiff, Nat.reduceAdd, Nat.reduceLeDiff]
 refine hQ _ ?_
 clear hQ Q1
 try simp only [zAa]
 refine wc_no (by simp +decide only [EL, reduceIte]) ?_
 refine zAl ?_
 try simp only [zAa]
 refine zAd ?_
 by_cases hl : 2048 < s.length
 ·refine zAd (zAb fun Q1 hQ => ?_)
  simp (disch := omega) only [EL, ↓K3, ↓K1, reduceIte, Nat.reduceEqDiff, Nat.reduceAdd, Nat.reduceLeDiff, i0, hl]
  refine hQ _ ?_
  clear hQ Q1
  refine zAq (by simp +decide only [EL, reduceIte]) ?_
  refine zAd (zAb fun Q1 hQ => ?_)
  simp (disch := omega) only [EL, ↓K3, ↓K1, reduceIte, Nat.reduceEqDiff, Nat.reduceAdd, Nat.reduceLeDiff]
  refine hQ _ ?_
  clear hQ Q1
  refine zAj ?_
  try simp only [zAh, zAf]
  exact tru _ _
 refine zAd (zAb fun Q1 hQ => ?_)
 simp (disch := omega) only [EL, ↓K3, ↓K1, reduceIte, Nat.reduceEqDiff, Nat.reduceAdd, Nat.reduceLeDiff, i0, hl]
 refine hQ _ ?_
 clear hQ Q1
 refine wc_no (by simp +decide only [EL, reduceIte]) ?_
 refine zAl ?_
 try simp only [zAa]
 refine zAd (zAb fun Q1 hQ => ?_)
 simp (disch := omega) only [EL, ↓K3, ↓K1, reduceIte, Nat.reduceEqDiff, Nat.reduceAdd, Nat.reduceLeDiff, i0]
 refine (zK7 H (by omega)).to fun v h2 q => ?_
 obtain ⟨sq, m2⟩ := q
 have n2 := m2.next
 rcases sq with ⟨ts, tl, hsc, rfl, own, emp⟩ | ⟨p, e, he, hsc, rfl⟩
 rotate_left
 ·have e0 : ¬ (e : Int) = ((0 : Nat) : Int) := by omega
  simp (disch := omega) only [EL, ↓K3, ↓K1, reduceIte, Nat.reduceEqDiff, Nat.reduceAdd, Nat.reduceLeDiff, e0]
  refine hQ _ ?_
  clear hQ Q1
  try simp only [zAa]
  refine zAd ?_
  refine zAd (zAb fun Q1 hQ => ?_)
  simp (disch := omega) only [EL, ↓K3, ↓K1, reduceIte, Nat.reduceEqDiff, Nat.reduceAdd, Nat.reduceLeDiff, e0]
  refine hQ _ ?_
  clear hQ Q1
  refine zAq (by simp +decide only [EL, reduceIte]) ?_
  refine zAd (zAb fun Q1 hQ => ?_)
  simp (disch := omega) only [EL, ↓K3, ↓K1, reduceIte, Nat.reduceEqDiff, Nat.reduceAdd, Nat.reduceLeDiff]
  refine hQ _ ?_
  clear hQ Q1
  refine zAj ?_
  try simp only [zAh, zAf]
  exact tru _ _
 have mvt : ∀ h', oMove (.c tl) .leaf [] h' = .val tl h' := fun h' => zE8 own.mv
 have xt : ∀ h', exV tl h' = .val tl h' := fun h' => own.exV h'
 simp (disch := omega) only [EL, ↓K3, ↓K1, reduceIte, Nat.reduceEqDiff, Nat.reduceAdd, Nat.reduceLeDiff, mvt, xt]
 refine hQ _ ?_
 clear hQ Q1
 try simp only [zAa]
 refine zAd ?_
 refine zAd (zAb fun Q1 hQ => ?_)
 simp (disch := omega) only [EL, ↓K3, ↓K1, reduceIte, Nat.reduceEqDiff, Nat.reduceAdd, Nat.reduceLeDiff]
 refine hQ _ ?_
 clear hQ Q1
 refine wc_no (by simp +decide only [EL, reduceIte]) ?_
 refine zAl ?_
 try simp only [zAa]
 have ht2 : TokA h2 h2.next tl ts := own.toks emp (Nat.le_refl _)
 obtain ⟨hl4, sok⟩ := zK8 hsc
 have hlen := sok.len
 obtain ⟨tk, hsc2, hl5⟩ := zI8 hsc (by omega)
 change scanS (zD8 ts) = _ at hsc2
 change (zD8 ts).length ≤ 4096 at hl5
 refine zAd (zAb fun Q1 hQ => ?_)
 simp (disch := omega) only [EL, ↓K3, ↓K1, reduceIte, Nat.reduceEqDiff, Nat.reduceAdd, Nat.reduceLeDiff, mvt]
 refine (join_lex H ht2 (Nat.le_refl _) (by omega) (by omega)).to fun v h3 q => ?_
 obtain ⟨rfl, m3⟩ := q
 have n3 := m3.next
 simp (disch := omega) only [EL, ↓K3, ↓K1, reduceIte, Nat.reduceEqDiff, Nat.reduceAdd, Nat.reduceLeDiff]
 refine hQ _ ?_
 clear hQ Q1
 try simp only [zAa]
 refine zAd (zAb fun Q1 hQ => ?_)
 simp (disch := omega) only [EL, ↓K3, ↓K1, reduceIte, Nat.reduceEqDiff, Nat.reduceAdd, Nat.reduceLeDiff]
 refine (zK7 H (by omega)).to fun v h4 q => ?_
 obtain ⟨sq, m4⟩ := q
 have n4 := m4.next
 rw [hsc2] at sq
 rcases sq with ⟨ts', tl', hts, rfl, own', emp'⟩ | ⟨p, e, he, hts, rfl⟩
 rotate_left
 ·cases hts
 injection hts with hts
 subst hts
 have ht4 : TokA h4 h4.next tl' (zDj 0 ts) := own'.toks emp' (Nat.le_refl _)
 have mvt' : ∀ h', oMove (.c tl') .leaf [] h' = .val tl' h' := fun h' => zE8 own'.mv
 have xt' : ∀ h', exV tl' h' = .val tl' h' := fun h' => own'.exV h'
 have lnt : ∀ h', oLen .sl (.c tl) .leaf [] h' = .val (.int .i64 (ts.length : Int)) h' := fun h' => by rw [own.len, List.length_map]
 have lnt' : ∀ h', oLen .sl (.c tl') .leaf [] h' = .val (.int .i64 (ts.length : Int)) h' := fun h' => by rw [own'.len, List.length_map, zEh]
 simp (disch := omega) only [EL, ↓K3, ↓K1, reduceIte, Nat.reduceEqDiff, Nat.reduceAdd, Nat.reduceLeDiff, mvt', xt']
 refine hQ _ ?_
 clear hQ Q1
 try simp only [zAa]
 refine zAd ?_
 refine zAd (zAb fun Q1 hQ => ?_)
 simp (disch := omega) only [EL, ↓K3, ↓K1, reduceIte, Nat.reduceEqDiff, Nat.reduceAdd, Nat.reduceLeDiff, mvt, mvt', lnt, lnt']
 refine hQ _ ?_
 clear hQ Q1
 refine wc_no (by simp +decide only [EL, reduceIte]) ?_
 refine zAl ?_
 try simp only [zAa]
 refine zAd (zAb fun Q1 hQ => ?_)
 simp (disch := omega) only [EL, ↓K3, ↓K1, reduceIte, Nat.reduceEqDiff, Nat.reduceAdd, Nat.reduceLeDiff, i0]
 refine (parse_gp2 H (n := 5000) (m := 50000) (by omega) (parse_in2 (by omega) (by omega))).to fun v h5 q => ?_
 obtain ⟨m5, u, p, e, rfl, oka, era⟩ := q
 have n5 := m5.next
 simp (disch := omega) only [EL, ↓K3, ↓K1, reduceIte, Nat.reduceEqDiff, Nat.reduceAdd, Nat.reduceLeDiff]
 refine hQ _ ?_
 clear hQ Q1
 refine zBs fun h6 n6 g6 m6 => ?_
 obtain ⟨ca, ga, ca0⟩ := g6
 simp only [zAa]
 refine zAd (zAb fun Q1 hQ => ?_)
 simp (disch := omega) only [EL, ↓K3, ↓K1, reduceIte, Nat.reduceEqDiff, Nat.reduceAdd, Nat.reduceLeDiff]
 refine (parse_gp2 H (n := 5000) (m := 50000) (by omega) (parse_in2 (by omega) (by omega))).to fun v h7 q => ?_
 obtain ⟨m7, u', p', e', rfl, okb, erb⟩ := q
 have n7 := m7.next
 have ga7 := (m7.keep h5.next (by omega)).trans ga
 simp (disch := omega) only [EL, ↓K3, ↓K1, reduceIte, Nat.reduceEqDiff, Nat.reduceAdd, Nat.reduceLeDiff]
 refine hQ _ ?_
 clear hQ Q1
 refine zBs fun h8 n8 g8 m8 => ?_
 obtain ⟨cb, gb, cb0⟩ := g8
 simp only [zAa]
 have ga8 := (m8.keep h5.next (by omega)).trans ga7
 obtain ⟨law1, law2⟩ := blanks_law (n := 5000) (m := 50000) hsc (by omega)
 refine zAd ?_
 refine zAd (zAb fun Q1 hQ => ?_)
 by_cases he : e = 0
 ·subst he
  obtain ⟨ks, i, d, hy, tra⟩ := oka rfl
  obtain ⟨ks', hy', hb⟩ := law1 _ _ _ hy
  have he' : e' = 0 := by
   rcases Nat.decEq e' 0 with h | h
   ·have := (erb h).1; rw [hy'] at this; cases this
   ·exact h
  subst he'
  obtain ⟨ks2, i2, d2, hy2, trb⟩ := okb rfl
  rw [hy'] at hy2
  injection hy2 with hz
  subst hz
  have hbare : bare (.mk 1 [] [] 0 0 ks) = bare (.mk 1 [] [] 0 0 ks') := by show Tree.mk 1 [] [] 0 0 (mapTs _ ks) = Tree.mk 1 [] [] 0 0 (mapTs _ ks'); rw [hb]
  have tx := TreeR.keep (G := fun _ => True) (((m6.trans m7).trans m8).stay (F := fun k => h4.next ≤ k)) (fun _ _ _ => trivial) tra
  have ty := TreeR.keep (G := fun _ => True) (m8.stay (F := fun k => h6.next ≤ k)) (fun _ _ _ => trivial) trb
  simp (disch := omega) only [EL, ↓K3, ↓K1, reduceIte, Nat.reduceEqDiff, Nat.reduceAdd, Nat.reduceLeDiff, ga8, gb, ca0, cb0, zAe]
  refine (alike_gp H _ hbare tx ty).to fun v h9 q => ?_
  obtain ⟨rfl, m9⟩ := q
  simp (disch := omega) only [EL, ↓K3, ↓K1, reduceIte, Nat.reduceEqDiff, Nat.reduceAdd, Nat.reduceLeDiff]
  refine hQ _ ?_
  clear hQ Q1
  try simp only [zAa]
  refine wc_no (by simp +decide only [EL, reduceIte]) ?_
  refine zAl ?_
  try simp only [zAa]
  refine zAd ?_
  refine zAd (zAb fun Q1 hQ => ?_)
  simp (disch := omega) only [EL, ↓K3, ↓K1, reduceIte, Nat.reduceEqDiff, Nat.reduceAdd, Nat.reduceLeDiff]
  refine hQ _ ?_
  clear hQ Q1
  refine zAq (by simp +decide only [EL, reduceIte]) ?_
  refine zAd (zAb fun Q1 hQ => ?_)
  simp (disch := omega) only [EL, ↓K3, ↓K1, reduceIte, Nat.reduceEqDiff, Nat.reduceAdd, Nat.reduceLeDiff]
  refine hQ _ ?_
  clear hQ Q1
  refine zAj ?_
  try simp only [zAh, zAf]
  exact tru _ _
 obtain ⟨hy, rfl⟩ := era he
 obtain ⟨p2, hy', hb⟩ := law2 _ _ hy
 have he' : e' ≠ 0 := by
  intro h
  obtain ⟨ks2, i2, d2, hy2, trb⟩ := okb h
  rw [hy'] at hy2; cases hy2
 obtain ⟨hy2, rfl⟩ := erb he'
 rw [hy'] at hy2
 injection hy2 with e1 e2
 subst e1; subst e2
 have e0 : ¬ (e : Int) = ((0 : Nat) : Int) := by omega
 simp (disch := omega) only [EL, ↓K3, ↓K1, reduceIte, Nat.reduceEqDiff, Nat.reduceAdd, Nat.reduceLeDiff, ga8, gb, ca0, cb0, zAe]
 refine (alikez_gp H).to fun v h9 q => ?_
 obtain ⟨rfl, m9⟩ := q
 have n9 := m9.next
 simp (disch := omega) only [EL, ↓K3, ↓K1, reduceIte, Nat.reduceEqDiff, Nat.reduceAdd, Nat.reduceLeDiff]
 refine hQ _ ?_
 clear hQ Q1
 try simp only [zAa]
 refine wc_no (by simp +decide only [EL, reduceIte]) ?_
 refine zAl ?_
 try simp only [zAa]
 refine zAd ?_
 refine zAd (zAb fun Q1 hQ => ?_)
 simp (disch := omega) only [EL, ↓K3, ↓K1, reduceIte, Nat.reduceEqDiff, Nat.reduceAdd, Nat.reduceLeDiff, e0]
 refine hQ _ ?_
 clear hQ Q1
 refine wc_no (by simp +decide only [EL, reduceIte]) ?_
 refine zAl ?_
 try simp only [zAa]
 have ta9 : TokA h9 h2.next tl ts := ht2.keep fun k hk => by rw [m9.keep k (by omega), m8.keep k (by omega), m7.keep k (by omega), m6.keep k (by omega), m5.keep k (by omega), m4.keep k (by omega), m3.keep k (by omega)]
 have tb9 : TokA h9 h4.next tl' (zDj 0 ts) := ht4.keep fun k hk => by rw [m9.keep k (by omega), m8.keep k (by omega), m7.keep k (by omega), m6.keep k (by omega), m5.keep k (by omega)]
 refine zAd ?_
 refine zAd (zAb fun Q1 hQ => ?_)
 simp (disch := omega) only [EL, ↓K3, ↓K1, reduceIte, Nat.reduceEqDiff, Nat.reduceAdd, Nat.reduceLeDiff]
 refine hQ _ ?_
 clear hQ Q1
 refine zAu ?_
 refine zCc (fun m l d1 hh => ∃ k : Nat, m = ts.length - k ∧ k ≤ ts.length ∧ d1 = [] ∧ hh = h9 ∧ l.get 0 = some (sv s) ∧ l.get 5 = some tl ∧ l.get 6 = some (sv (zD8 ts)) ∧ l.get 8 = some tl' ∧ l.get 16 = some (.int .i64 (k : Int)) ∧ l.get 18 = some (.int .i64 (p : Int)) ∧ l.get 20 = some (.int .i64 (p2 : Int)) ∧ ∀ j, j < k → (hj : j < ts.length) → ts[j].pos ≠ p) ?_ (ts.length - 0) ?_
 ·rintro m l d1 hh ⟨k, rfl, hk, rfl, rfl, l0, l5, l6, l8, l16, l18, l20, hall⟩
  refine zAd ?_
  refine zAd (zAb fun Q1 hQ => ?_)
  simp (disch := omega) only [EL, ↓K3, ↓K1, reduceIte, Nat.reduceEqDiff, Nat.reduceAdd, Nat.reduceLeDiff, l16, l5, mvt, lnt]
  refine hQ _ ?_
  clear hQ Q1
  refine wc_if (k < ts.length) (by simp +decide only [EL, reduceIte]) (fun hlt => ?_) (fun hge => ?_)
  ·refine zAl ?_
   try simp only [zAa]
   refine zAd ?_
   refine zAu ?_
   have hlt' : k < (zDj 0 ts).length := by rw [zEh]; exact hlt
   rcases ta9 with ⟨rfl, _⟩ | ⟨id1, c1, s1, cap1, rfl, _, gc1, ct1⟩
   ·cases hlt
   rcases tb9 with ⟨hnil, _⟩ | ⟨id2, c2, s2, cap2, rfl, _, gc2, ct2⟩
   ·rw [hnil] at hlt'; cases hlt'
   obtain ⟨_, _, a3⟩ := ct1 k hlt
   obtain ⟨_, _, b3⟩ := ct2 k hlt'
   by_cases hp : ts[k].pos = p
   ·have hp' : ((ts[k].pos : Nat) : Int) = (p : Int) := by omega
    refine zAd (zAb fun Q1 hQ => ?_)
    simp (disch := omega) only [EL, ↓K3, ↓K1, reduceIte, Nat.reduceEqDiff, Nat.reduceAdd, Nat.reduceLeDiff, l5, l16, l18, gc1, a3, hlt, hp']
    refine hQ _ ?_
    clear hQ Q1
    refine zAq (by simp +decide only [EL, reduceIte]) ?_
    have hq : (zDj 0 ts)[k].pos = p2 := by
     rcases hb with ⟨k2, h1, h2, h3, h4⟩ | ⟨h1, _⟩
     ·have : k2 = k := by
       rcases Nat.lt_trichotomy k2 k with hx | hx | hx
       ·exact absurd h2 (hall k2 hx h1)
       ·exact hx
       ·exact absurd hp (h3 k hx hlt)
      subst this; exact h4
     ·exact absurd hp (h1 k hlt)
    have hq' : (((zDj 0 ts)[k].pos : Nat) : Int) = (p2 : Int) := by omega
    refine zAd (zAb fun Q1 hQ => ?_)
    simp (disch := omega) only [EL, ↓K3, ↓K1, reduceIte, Nat.reduceEqDiff, Nat.reduceAdd, Nat.reduceLeDiff, l8, l16, l20, gc2, b3, hlt', hq']
    refine hQ _ ?_
    clear hQ Q1
    refine zAj ?_
    try simp only [zAh, zAf]
    exact tru _ _
   ·have hp' : ¬ ((ts[k].pos : Nat) : Int) = (p : Int) := by omega
    refine zAd (zAb fun Q1 hQ => ?_)
    simp (disch := omega) only [EL, ↓K3, ↓K1, reduceIte, Nat.reduceEqDiff, Nat.reduceAdd, Nat.reduceLeDiff, l5, l16, l18, gc1, a3, hlt, hp']
    refine hQ _ ?_
    clear hQ Q1
    refine wc_no (by simp +decide only [EL, reduceIte]) ?_
    refine zAl ?_
    try simp only [zAi, zAa]
    refine zAb fun Q1 hQ => ?_
    simp (disch := omega) only [EL, ↓K3, ↓K1, reduceIte, Nat.reduceEqDiff, Nat.reduceAdd, Nat.reduceLeDiff, l16]
    refine hQ _ ?_
    clear hQ Q1
    try simp only [zAa]
    refine ⟨ts.length - (k + 1), by omega, k + 1, rfl, hlt, trivial, trivial, by simp +decide only [EL, reduceIte, l0], by simp +decide only [EL, reduceIte, l5], by simp +decide only [EL, reduceIte, l6], by simp +decide only [EL, reduceIte, l8], by simp +decide only [EL, reduceIte], by simp +decide only [EL, reduceIte, l18], by simp +decide only [EL, reduceIte, l20], fun j hj hj' => ?_⟩
    by_cases e : j = k
    ·subst e; exact hp
    ·exact hall j (by omega) hj'
  ·refine zC1 ?_
   simp only [zBd, zBa, if_true, zAa]
   have hpq : p = s.length ∧ p2 = (zD8 ts).length := by
    rcases hb with ⟨k2, h1, h2, h3, h4⟩ | ⟨_, h1, h2⟩
    ·exact absurd h2 (hall k2 (by omega) h1)
    ·exact ⟨h1, h2⟩
   obtain ⟨rfl, rfl⟩ := hpq
   refine zAd (zAb fun Q1 hQ => ?_)
   simp (disch := omega) only [EL, ↓K3, ↓K1, reduceIte, Nat.reduceEqDiff, Nat.reduceAdd, Nat.reduceLeDiff, l0, l6, l18, l20]
   refine hQ _ ?_
   clear hQ Q1
   refine zAj ?_
   try simp only [zAh, zAf]
   exact tru _ _
 ·exact ⟨0, rfl, Nat.zero_le _, rfl, rfl, by simp +decide only [EL, reduceIte, i0], by simp +decide only [EL, reduceIte], by simp +decide only [EL, reduceIte], by simp +decide only [EL, reduceIte], by simp +decide only [EL, reduceIte], by simp +decide only [EL, reduceIte], by simp +decide only [EL, reduceIte], fun j hj => by omega⟩
end
end Go.Ev
