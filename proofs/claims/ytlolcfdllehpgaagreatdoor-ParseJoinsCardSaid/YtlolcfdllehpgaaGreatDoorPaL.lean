/- PaW24 PaN PaW25 PaQ PaL PaD LxJ PaJ PaW26 PaW27 -/
import Derived.Test.YtlolcfdllehpgaaGreatDoorPaK
set_option linter.unusedSimpArgs false
set_option linter.unusedVariables false
set_option linter.unusedSectionVars false
set_option linter.defProp false
set_option maxRecDepth 100000
set_option maxHeartbeats 4000000
namespace Go.Pa
theorem Tree.ind {P : Tree → Prop} (h : ∀ op name typ n pos kids, (∀ k, k ∈ kids → P k) → P (.mk op name typ n pos kids)) : ∀ t, P t := by
 intro t
 refine Tree.rec (motive_1 := P) (motive_2 := fun l => ∀ k, k ∈ l → P k) (fun op name typ n pos kids ih => h op name typ n pos kids ih) (fun k hk => by cases hk) (fun a l ha hl k hk => ?_) t
 rcases List.mem_cons.mp hk with rfl | e
 ·exact ha
 ·exact hl k e
mutual
def sizeT : Tree → Int
 | .mk _ _ _ _ _ kids => zBw 1 kids
def zBw : Int → List Tree → Int
 | acc, [] => acc
 | acc, k :: ks => zBw (Go.IntKind.i64.wrap (acc + sizeT k)) ks
end
end Go.Pa
namespace Go.Ev
open Go Go.Pa
section
variable {tab : Nat → Option AFunc} (H : PT tab)
include H in
theorem size_gp : ∀ (t : Tree) {h : AH} {F : Nat → Prop} {u : AV}, TreeR h F u t → GP tab 10 [.agg [u]] h fun v h1 => v = .int .i64 (sizeT t) ∧ More h h1 := by
 intro t
 induction t using Tree.ind with
 | h op name typ n pos kids IH =>
 intro h F u x
 obtain ⟨ia, kv, cs, rfl, hi, hF, nc, ar, tr⟩ := x.node
 have i0 : zAh [.agg [.ptr ia 0]] = zAd [.agg [.ptr ia 0]] := rfl
 refine GE.gp (ge_of H.t10 rfl ?_) (E := fun _ _ => False) fun _ _ hh => hh
 refine zAc (zAb fun Q1 hQ => ?_)
 simp (disch := omega) only [EL, ↓K3, ↓K1, reduceIte, Nat.reduceEqDiff, Nat.reduceAdd, Nat.reduceLeDiff, i0]
 refine hQ _ ?_
 clear hQ Q1
 have m1 : More h (h.add (.cells (zAd [.ptr ia 0]) 1 none false)) := More.add _ _
 have g1 : (h.add (.cells (zAd [.ptr ia 0]) 1 none false)).mem.get h.next = some (.cells (zAd [.ptr ia 0]) 1 none false) := by rw [AH.add_mem, T.get_put_self]
 have n1 : (h.add (.cells (zAd [.ptr ia 0]) 1 none false)).next = h.next + 1 := rfl
 generalize h.add (.cells (zAd [.ptr ia 0]) 1 none false) = h1 at *
 simp only [zAa]
 have nc1 := nc.keep (m1.keep ia hi)
 obtain ⟨c, gn, _, _, _, _, _, c5, _⟩ := nc1.set
 refine zAc ?_
 refine zAc (zAb fun Q1 hQ => ?_)
 simp (disch := omega) only [EL, ↓K3, ↓K1, reduceIte, Nat.reduceEqDiff, Nat.reduceAdd, Nat.reduceLeDiff, g1]
 refine hQ _ ?_
 clear hQ Q1
 refine wc_no (by simp +decide only [EL, reduceIte]) ?_
 refine zAm ?_
 simp only [zAa]
 refine zAc (zAb fun Q1 hQ => ?_)
 simp (disch := omega) only [EL, ↓K3, ↓K1, reduceIte, Nat.reduceEqDiff, Nat.reduceAdd, Nat.reduceLeDiff]
 refine hQ _ ?_
 clear hQ Q1
 have le : ∀ h' : AH, oLen .sl (.c kv) .leaf [] h' = .val (.int .i64 (cs.length : Int)) h' := fun h' => ar.len
 have lcs : cs.length = kids.length := tr.len
 have lsm := ar.small
 have mvk : ∀ h' : AH, oMove (.c kv) .leaf [] h' = .val kv h' := fun h' => ar.move
 simp only [sizeT]
 refine zFz (fun l d1 h2 => d1 = [] ∧ More h h2 ∧ l.get 7 = some (.int .i64 (zBw 1 kids))) ?_ ?_
 ·refine zAc (zAb fun Q1 hQ => ?_)
  simp (disch := omega) only [EL, ↓K3, ↓K1, reduceIte, Nat.reduceEqDiff, Nat.reduceAdd, Nat.reduceLeDiff, g1, gn, c5, le, mvk]
  refine hQ _ ?_
  clear hQ Q1
  simp only [zAa]
  refine zAy ?_
  refine zCg (fun m l d1 h2 => ∃ (k : Nat) (acc : Int), m = cs.length - k ∧ k ≤ cs.length ∧ d1 = [] ∧ More h h2 ∧ l.get 3 = some (.int .i64 (k : Int)) ∧ l.get 4 = some (.int .i64 (cs.length : Int)) ∧ l.get 6 = some kv ∧ l.get 7 = some (.int .i64 acc) ∧ zBw acc (kids.drop k) = zBw 1 kids) ?_ (cs.length - 0) ?_
  ·rintro m l d1 h2 ⟨k, acc, rfl, hk, rfl, m2, l3, l4, l6, l7, hacc⟩
   refine zAc (zAb fun Q1 hQ => ?_)
   simp (disch := omega) only [EL, ↓K3, ↓K1, reduceIte, Nat.reduceEqDiff, Nat.reduceAdd, Nat.reduceLeDiff, l3, l4]
   refine hQ _ ?_
   clear hQ Q1
   refine zAc ?_
   refine wc_if (k < cs.length) (by simp +decide only [EL, reduceIte]) (fun hlt => ?_) (fun hge => ?_)
   ·refine zAm ?_
    try simp only [zAa]
    obtain ⟨ka, ks, kc, kcap, rfl, hkF, hkl, hkg, hkj⟩ := ar.open hlt
    have hj' : k < kids.length := by omega
    obtain ⟨w, hw, tw⟩ := tr.get k hj'
    rw [hw] at hkj
    obtain ⟨wi, rfl, _⟩ := tw.ptr
    have kg2 := (m2.keep ka hkl).trans hkg
    have tw2 : TreeR h2 F (.ptr wi 0) kids[k] := TreeR.keep m2.stay (fun _ h _ => h) tw
    refine zAc ?_
    refine zAy ?_
    refine zAc (zAb fun Q1 hQ => ?_)
    simp (disch := omega) only [EL, ↓K3, ↓K1, reduceIte, Nat.reduceEqDiff, Nat.reduceAdd, Nat.reduceLeDiff, l3, l6, kg2, hkj, zAe, Nat.mul_one]
    refine hQ _ ?_
    clear hQ Q1
    refine zBp fun h3 n3 g3 m3 => ?_
    obtain ⟨cb, gb, cb0⟩ := g3
    simp only [zAa]
    have tw3 : TreeR h3 F (.ptr wi 0) kids[k] := TreeR.keep m3.stay (fun _ h _ => h) tw2
    refine zAb fun Q1 hQ => ?_
    simp (disch := omega) only [EL, ↓K3, ↓K1, reduceIte, Nat.reduceEqDiff, Nat.reduceAdd, Nat.reduceLeDiff, l7, gb, cb0, zAe]
    refine (IH kids[k] (List.getElem_mem hj') tw3).to fun v h4 q => ?_
    obtain ⟨rfl, m4⟩ := q
    simp (disch := omega) only [EL, ↓K3, ↓K1, reduceIte, Nat.reduceEqDiff, Nat.reduceAdd, Nat.reduceLeDiff]
    refine hQ _ ?_
    clear hQ Q1
    try simp only [zAa]
    try simp only [zAi, zAa]
    refine zAb fun Q1 hQ => ?_
    simp (disch := omega) only [EL, ↓K3, ↓K1, reduceIte, Nat.reduceEqDiff, Nat.reduceAdd, Nat.reduceLeDiff, l3]
    refine hQ _ ?_
    clear hQ Q1
    try simp only [zAa]
    refine ⟨cs.length - (k + 1), by omega, k + 1, IntKind.i64.wrap (acc + sizeT kids[k]), rfl, hlt, trivial, (m2.trans m3).trans m4, by simp +decide only [EL, reduceIte], by simp +decide only [EL, reduceIte, l4], by simp +decide only [EL, reduceIte, l6], by simp +decide only [EL, reduceIte], ?_⟩
    rw [← hacc, List.drop_eq_getElem_cons hj']
    rfl
   ·refine zDe ?_
    simp only [zBg, zBd, if_true, zAa]
    refine ⟨trivial, m2, ?_⟩
    rw [← hacc, List.drop_eq_nil_of_le (by omega)]
    simp (disch := omega) only [EL, ↓K3, ↓K1, reduceIte, Nat.reduceEqDiff, Nat.reduceAdd, Nat.reduceLeDiff, l7]
    rfl
  ·exact ⟨0, 1, rfl, Nat.zero_le _, rfl, m1, by simp +decide only [EL, reduceIte], by simp +decide only [EL, reduceIte], by simp +decide only [EL, reduceIte], by simp +decide only [EL, reduceIte]; rfl, by rw [List.drop_zero]⟩
 ·rintro l d1 h2 ⟨rfl, m2, l7⟩
  refine zAc (zAb fun Q1 hQ => ?_)
  simp (disch := omega) only [EL, ↓K3, ↓K1, reduceIte, Nat.reduceEqDiff, Nat.reduceAdd, Nat.reduceLeDiff, l7]
  refine hQ _ ?_
  clear hQ Q1
  refine zAj ?_
  try simp only [zAg, zAf]
  exact ⟨_, zBe (v := .int .i64 (zBw 1 kids)) (by simp +decide only [EL, reduceIte]) zAn, rfl, m2⟩
end
end Go.Ev
namespace Go.Pa
open Go.Ev
def NZ {α : Type} (x : PR α) : Prop := ∀ p e, x = .err p e → e ≠ 0
section
variable {ts : List Tok} {en : Nat}
theorem nz_ok {α : Type} {a : α} {i d : Nat} : NZ (PR.ok a i d) := fun _ _ h => by cases h
theorem zKo {α : Type} : NZ (PR.out : PR α) := fun _ _ h => by cases h
theorem zD6 {α : Type} {i : Nat} : NZ (failP ts en i : PR α) := fun _ _ h => by injection h with _ h; subst h; decide
theorem zD7 {α β : Type} {x : PR α} {k : α → Nat → Nat → PR β} (h : NZ x) (h' : ∀ a i d, NZ (k a i d)) : NZ (x.bind k) := by
 cases x with
 | ok a i d => exact h' a i d
 | err p e => intro p' e' he; injection he with h1 h2; subst h2; exact h p e rfl
 | out => exact zKo
theorem nz_deeper {α : Type} {i d : Nat} {k : Nat → Nat → PR α} (h : ∀ i d, NZ (k i d)) : NZ (zCh ts en i d k) := by
 unfold zCh
 split
 ·intro _ _ h; injection h with _ h; subst h; decide
 ·exact zD7 (h _ _) fun _ _ _ => nz_ok
theorem zC1 {s : Str} {i d : Nat} : NZ (zBb ts en s i d) := by unfold zBb; split; exact nz_ok; exact zD6
theorem zE5 {i d : Nat} : NZ (wordS ts en i d) := by unfold wordS; split; exact nz_ok; exact zD6
structure NE (ts : List Tok) (en n : Nat) : Prop where
 expr : ∀ {least i d}, NZ (exprS ts en n least i d)
 exprl : ∀ {least i d l}, NZ (exprL ts en n least i d l)
 unary : ∀ {i d}, NZ (zB1 ts en n i d)
 post : ∀ {i d}, NZ (postS ts en n i d)
 postl : ∀ {i d x}, NZ (postL ts en n i d x)
 prim : ∀ {i d}, NZ (primS ts en n i d)
 call : ∀ {j i d}, NZ (callS ts en n j i d)
 args : ∀ {i d acc}, NZ (argsL ts en n i d acc)
 brack : ∀ {i d}, NZ (zA9 ts en n i d)
theorem nz_key {i d : Nat} : NZ (keyS ts en i d) := by
 unfold keyS
 simp only
 repeat' first | split | exact nz_ok | exact zD6 | exact zC1 | exact zE5 | (refine zD7 ?_ fun _ _ _ => ?_)
theorem ne_all : ∀ n, NE ts en n := by
 intro n
 induction n with
 | zero => constructor <;> intros <;> simp only [exprS, exprL, zB1, postS, postL, primS, callS, argsL, zA9] <;> exact zKo
 | succ n IH =>
  constructor <;> intros <;> simp only [exprS, exprL, zB1, postS, postL, primS, callS, argsL, zA9] <;>
   repeat' first | split | exact nz_ok | exact zD6 | exact zC1 | exact zE5 | exact nz_key | exact IH.expr | exact IH.exprl | exact IH.unary | exact IH.post | exact IH.postl | exact IH.prim | exact IH.call | exact IH.args | exact IH.brack | (refine nz_deeper fun _ _ => ?_) | (refine zD7 ?_ fun _ _ _ => ?_)
theorem nz_typ {i d : Nat} : NZ (typS ts en i d) := by
 unfold typS
 repeat' first | split | exact nz_ok | exact zD6 | exact zC1 | exact zE5 | (refine zD7 ?_ fun _ _ _ => ?_)
theorem nz_part {op i d : Nat} : NZ (partS ts en op i d) := by
 unfold partS
 repeat' first | split | exact nz_ok | exact zD6 | exact zC1 | exact zE5 | exact nz_typ | (refine zD7 ?_ fun _ _ _ => ?_)
theorem nz_fields : ∀ (n : Nat) {i d : Nat} {acc : List Tree}, NZ (zCi ts en n i d acc)
 | 0, _, _, _ => zKo
 | n + 1, i, d, acc => by
  unfold zCi
  repeat' first | split | exact nz_ok | exact zD6 | exact zC1 | exact zE5 | exact nz_part | exact nz_fields n | (refine zD7 ?_ fun _ _ _ => ?_)
theorem nz_params : ∀ (n : Nat) {i d : Nat} {acc : List Tree}, NZ (zB8 ts en n i d acc)
 | 0, _, _, _ => zKo
 | n + 1, i, d, acc => by
  unfold zB8
  repeat' first | split | exact nz_ok | exact zD6 | exact zC1 | exact zE5 | exact nz_part | exact nz_params n | (refine zD7 ?_ fun _ _ _ => ?_)
theorem nz_change {n i d : Nat} : NZ (zCj ts en n i d) := by
 have IH := ne_all (ts := ts) (en := en) n
 unfold zCj
 repeat' first | split | exact nz_ok | exact zD6 | exact zC1 | exact zE5 | exact IH.expr | exact IH.post | (refine zD7 ?_ fun _ _ _ => ?_)
theorem nz_simple {n i d : Nat} : NZ (zCp ts en n i d) := by
 have IH := ne_all (ts := ts) (en := en) n
 unfold zCp
 repeat' first | split | exact nz_ok | exact zD6 | exact zC1 | exact zE5 | exact nz_change | exact IH.expr | exact IH.brack | (refine zD7 ?_ fun _ _ _ => ?_)
structure NS (ts : List Tok) (en n : Nat) : Prop where
 stmt : ∀ {i d}, NZ (stmtS ts en n i d)
 branch : ∀ {i d}, NZ (zBu ts en n i d)
 block : ∀ {i d}, NZ (zB0 ts en n i d)
 stmts : ∀ {i d acc}, NZ (zCd ts en n i d acc)
theorem ns_all : ∀ n, NS ts en n := by
 intro n
 induction n with
 | zero => constructor <;> intros <;> simp only [stmtS, zBu, zB0, zCd] <;> exact zKo
 | succ n IH =>
  have E := ne_all (ts := ts) (en := en) n
  constructor <;> intros <;> simp only [stmtS, zBu, zB0, zCd] <;>
   repeat' first | split | exact nz_ok | exact zD6 | exact zC1 | exact zE5 | exact nz_simple | exact E.expr | exact IH.stmt | exact IH.branch | exact IH.block | exact IH.stmts | (refine nz_deeper fun _ _ => ?_) | (refine zD7 ?_ fun _ _ _ => ?_)
theorem nz_decl {n i d : Nat} : NZ (declS ts en n i d) := by
 have IH := ns_all (ts := ts) (en := en) n
 unfold declS zC9 funcS
 repeat' first | split | exact nz_ok | exact zD6 | exact zC1 | exact zE5 | exact nz_part | exact nz_typ | exact nz_params n | exact nz_fields n | exact IH.block | (refine zD7 ?_ fun _ _ _ => ?_)
theorem nz_prog {m : Nat} : ∀ (k : Nat) {i d : Nat} {acc : List Tree}, NZ (progL ts en k m i d acc)
 | 0, _, _, _ => zKo
 | k + 1, i, d, acc => by
  unfold progL
  repeat' first | split | exact nz_ok | exact nz_decl | exact nz_prog k | (refine zD7 ?_ fun _ _ _ => ?_)
end
theorem scanL_nz {s : Str} : ∀ (k at_ : Nat) (acc : List Tok) (p e : Nat), scanL s k at_ acc = .err p e → e ≠ 0
 | 0, _, _, _, _, h => by cases h
 | k + 1, at_, acc, p, e, h => by
  unfold scanL at h
  split at h
  ·split at h
   ·injection h with _ h; subst h; assumption
   ·exact scanL_nz k _ _ p e h
  ·cases h
theorem scanS_nz {s : Str} {p e : Nat} (h : scanS s = .err p e) : e ≠ 0 := by
 unfold scanS at h
 split at h
 ·injection h with _ h; subst h; decide
 ·exact scanL_nz _ _ _ _ _ h
end Go.Pa
namespace Go.Ev
open Go Go.Pa
theorem zBl {loc : T AV} {tmp : List AV} {h : AH} {op : AOp} {i : Nat} {g : Opd × Bool} {l : List ARe} : reads loc tmp h (⟨op, i, some g⟩ :: l) = obind (zBj loc tmp (some g)) false fun q => bi q (rd1 (nth tmp i) (reads loc tmp h l) (evOp op loc tmp h)) (reads loc tmp h l) := rfl
theorem _root_.Go.Pa.FineT.op {en : Nat} {t : Tree} (h : FineT en t) : t.op ≠ 0 := by cases h; assumption
section
variable {tab : Nat → Option AFunc} (H : PT tab)
include H in
theorem zKq {h : AH} {F : Nat → Prop} {u : AV} {t : Tree} (x : TreeR h F u t) {k : Nat} (hk : k < t.kids.length) : GP tab 20 [.agg [u], .int .i64 (k : Int)] h fun v h1 => More h h1 ∧ ∃ w, v = .agg [.ptr w 0] ∧ TreeR h1 F (.ptr w 0) t.kids[k] := by
 refine (nkid_gp H x k).mono fun v h1 q => ?_
 obtain ⟨m1, q⟩ := q
 refine ⟨m1, ?_⟩
 rcases q with ⟨j, hj, w, e, rfl, tw⟩ | ⟨hb, _⟩
 ·obtain rfl : k = j := by omega
  obtain ⟨wi, rfl, _⟩ := tw.ptr
  exact ⟨wi, rfl, TreeR.keep m1.stay (fun _ h _ => h) tw⟩
 ·omega
theorem TreeR.small {h : AH} {F : Nat → Prop} {u : AV} {t : Tree} (x : TreeR h F u t) : t.kids.length ≤ 1000000 := by
 obtain ⟨ia, kv, cs, rfl, hi, hF, nc, ar, tr⟩ := x.node
 rw [← tr.len]; exact ar.small
theorem parse_nz {s : Str} {n m p e : Nat} (h : zEz n m s = .err p e) : e ≠ 0 := by
 unfold zEz at h
 cases hs : scanS s with
 | ok ts => rw [hs] at h; exact nz_prog _ p e h
 | err p' e' => rw [hs] at h; injection h with h1 h2; subst h2; exact scanS_nz hs
 | out => rw [hs] at h; cases h
end
end Go.Ev
namespace Go.Pa
open Go.Ev
mutual
def mapT (φ : Nat → Nat) : Tree → Tree
 | .mk op name typ n pos kids => .mk op name typ n (φ pos) (mapTs φ kids)
def mapTs (φ : Nat → Nat) : List Tree → List Tree
 | [] => []
 | k :: ks => mapT φ k :: mapTs φ ks
end
theorem mapTs_app {φ : Nat → Nat} : ∀ {a b : List Tree}, mapTs φ (a ++ b) = mapTs φ a ++ mapTs φ b
 | [], _ => rfl
 | x :: a, b => by show mapT φ x :: mapTs φ (a ++ b) = _; rw [mapTs_app]; rfl
theorem zFb {φ : Nat → Nat} {a : List Tree} {t : Tree} : mapTs φ (a ++ [t]) = mapTs φ a ++ [mapT φ t] := mapTs_app
theorem zJo {φ : Nat → Nat} : ∀ {a : List Tree}, (mapTs φ a).length = a.length
 | [] => rfl
 | x :: a => by show (mapTs φ a).length + 1 = _; rw [zJo]; rfl
def PR.mv {α β : Type} (g : α → β) (φ : Nat → Nat) (o : Nat) : PR α → PR β
 | .ok a i d => .ok (g a) (i + o) d
 | .err p e => .err (φ p) e
 | .out => .out
theorem zAu {α β γ δ : Type} {g : α → γ} {g' : β → δ} {φ : Nat → Nat} {o : Nat} {x : PR α} {k : α → Nat → Nat → PR β} {x' : PR γ} {k' : γ → Nat → Nat → PR δ} (hx : x' = x.mv g φ o) (hk : ∀ a i d, k' (g a) (i + o) d = (k a i d).mv g' φ o) : x'.bind k' = (x.bind k).mv g' φ o := by
 subst hx
 cases x with
 | ok a i d => exact hk a i d
 | err p e => rfl
 | out => rfl
theorem zBi {α β : Type} {g : α → β} {φ : Nat → Nat} {o : Nat} {c : Prop} [Decidable c] {a b : PR α} {a' b' : PR β} (ha : a' = a.mv g φ o) (hb : b' = b.mv g φ o) : (if c then a' else b') = (if c then a else b : PR α).mv g φ o := by
 split <;> assumption
structure Same (ts ts' : List Tok) (en en' o : Nat) (φ : Nat → Nat) : Prop where
 kind : ∀ j, (now ts' en' (j + o)).kind = (now ts en j).kind
 text : ∀ j, (now ts' en' (j + o)).text = (now ts en j).text
 pos : ∀ j, (now ts' en' (j + o)).pos = φ (now ts en j).pos
 lt : ∀ j, j + o < ts'.length ↔ j < ts.length
def mapK (φ : Nat → Nat) (t : Tok) : Tok := ⟨t.kind, t.text, φ t.pos⟩
section
variable {ts ts' : List Tok} {en en' o : Nat} {φ : Nat → Nat} (S : Same ts ts' en en' o φ)
include S
theorem Same.now_eq (j : Nat) : now ts' en' (j + o) = mapK φ (now ts en j) := by
 have h1 := S.kind j; have h2 := S.text j; have h3 := S.pos j
 unfold mapK
 cases h : now ts' en' (j + o) with
 | mk k t p => rw [h] at h1 h2 h3; simp only at h1 h2 h3; rw [h1, h2, h3]
theorem Same.isT_eq (s : Str) (j : Nat) : isT ts' en' s (j + o) = isT ts en s j := by unfold isT; rw [S.kind, S.text]
theorem Same.lev (j : Nat) : zB6 ts' en' (j + o) = zB6 ts en j := by unfold zB6; rw [S.kind, S.text]
theorem zEs {α β : Type} {g : α → β} {j : Nat} : (failP ts' en' (j + o) : PR β) = (failP ts en j : PR α).mv g φ o := by unfold failP PR.mv; rw [S.pos]
theorem zBt {s : Str} {i d : Nat} : zBb ts' en' s (i + o) d = (zBb ts en s i d).mv φ φ o := by
 unfold zBb
 rw [S.isT_eq]
 refine zBi ?_ (zEs S)
 show PR.ok _ _ _ = PR.ok _ _ _
 rw [S.pos, show i + o + 1 = i + 1 + o by omega]
theorem zIa {i d : Nat} : wordS ts' en' (i + o) d = (wordS ts en i d).mv (mapK φ) φ o := by
 unfold wordS
 rw [S.kind]
 refine zBi ?_ (zEs S)
 show PR.ok _ _ _ = PR.ok _ _ _
 rw [S.now_eq, show i + o + 1 = i + 1 + o by omega]
theorem zHx {α β : Type} {g : α → β} {i d : Nat} {k : Nat → Nat → PR α} {k' : Nat → Nat → PR β} (h : ∀ i d, k' (i + o) d = (k i d).mv g φ o) : zCh ts' en' (i + o) d k' = (zCh ts en i d k).mv g φ o := by
 unfold zCh
 refine zBi ?_ (zAu (h _ _) fun _ _ _ => rfl)
 show PR.err _ _ = PR.err _ _
 rw [S.pos]
theorem eq_typ {i d : Nat} : typS ts' en' (i + o) d = (typS ts en i d).mv id φ o := by
 unfold typS
 rw [S.isT_eq, S.isT_eq, S.isT_eq, S.text, show i + o + 1 = i + 1 + o by omega]
 refine zBi (zAu (zIa S) fun _ _ _ => rfl) (zBi rfl (zEs S))
theorem eq_part {op i d : Nat} : partS ts' en' op (i + o) d = (partS ts en op i d).mv (mapT φ) φ o := zAu (zIa S) fun _ _ _ => zAu (eq_typ S) fun _ _ _ => rfl
theorem eq_key {i d : Nat} : keyS ts' en' (i + o) d = (keyS ts en i d).mv (mapT φ) φ o := by
 unfold keyS
 simp only
 rw [S.text, S.pos, show i + o + 1 = i + 1 + o by omega]
 refine zBi rfl (zBi rfl (zBi ?_ (zBi ?_ rfl)))
 ·exact zAu (zBt S) fun _ _ _ => zAu (zIa S) fun _ _ _ => zAu (zBt S) fun _ _ _ => rfl
 ·exact zAu (zBt S) fun _ _ _ => zAu (zBt S) fun _ _ _ => rfl
structure EQ (ts ts' : List Tok) (en en' o : Nat) (φ : Nat → Nat) (n : Nat) : Prop where
 expr : ∀ {least i d}, exprS ts' en' n least (i + o) d = (exprS ts en n least i d).mv (mapT φ) φ o
 exprl : ∀ {least i d l}, exprL ts' en' n least (i + o) d (mapT φ l) = (exprL ts en n least i d l).mv (mapT φ) φ o
 unary : ∀ {i d}, zB1 ts' en' n (i + o) d = (zB1 ts en n i d).mv (mapT φ) φ o
 post : ∀ {i d}, postS ts' en' n (i + o) d = (postS ts en n i d).mv (mapT φ) φ o
 postl : ∀ {i d x}, postL ts' en' n (i + o) d (mapT φ x) = (postL ts en n i d x).mv (mapT φ) φ o
 prim : ∀ {i d}, primS ts' en' n (i + o) d = (primS ts en n i d).mv (mapT φ) φ o
 call : ∀ {j i d}, callS ts' en' n (mapK φ j) (i + o) d = (callS ts en n j i d).mv (mapT φ) φ o
 args : ∀ {i d acc}, argsL ts' en' n (i + o) d (mapTs φ acc) = (argsL ts en n i d acc).mv (mapTs φ) φ o
 brack : ∀ {i d}, zA9 ts' en' n (i + o) d = (zA9 ts en n i d).mv (mapT φ) φ o
theorem eq_all : ∀ n, EQ ts ts' en en' o φ n := by
 intro n
 have add1 : ∀ i, i + o + 1 = i + 1 + o := fun i => by omega
 induction n with
 | zero => constructor <;> intros <;> simp only [exprS, exprL, zB1, postS, postL, primS, callS, argsL, zA9, PR.mv]
 | succ n IH =>
  constructor <;> intros
  ·unfold exprS; exact zAu IH.unary fun _ _ _ => IH.exprl
  ·unfold exprL
   rw [S.lev, add1, S.pos]
   refine zBi rfl (zAu IH.expr fun _ _ _ => ?_)
   exact IH.exprl (l := .mk _ _ _ _ _ [_, _])
  ·unfold zB1
   rw [S.isT_eq, S.isT_eq]
   refine zBi (zHx S fun i d => ?_) IH.post
   rw [add1, S.text, S.pos]
   exact zAu IH.unary fun _ _ _ => rfl
  ·unfold postS; exact zAu IH.prim fun _ _ _ => IH.postl
  ·unfold postL
   rw [S.isT_eq, add1]
   refine zBi (zAu (zIa S) fun _ _ _ => ?_) rfl
   exact IH.postl (x := .mk _ _ _ _ _ [_])
  ·unfold primS
   rw [S.kind, S.text, S.pos, add1, S.isT_eq, S.isT_eq, S.isT_eq, S.isT_eq, S.isT_eq, S.isT_eq, S.isT_eq, S.now_eq]
   refine zBi rfl (zBi (zBi IH.call rfl) (zBi IH.brack (zBi (eq_key S) (zEs S))))
  ·unfold callS
   refine zHx S fun i d => ?_
   rw [add1]
   refine zAu (IH.args (acc := [])) fun _ i _ => ?_
   show PR.ok _ _ _ = PR.ok _ _ _
   rw [add1]; rfl
  ·rename_i i d acc
   unfold argsL
   rw [S.isT_eq]
   refine zBi rfl (zAu IH.expr fun _ _ _ => ?_)
   rw [S.isT_eq, ← zFb]
   refine zBi IH.args (zAu (zBt S) fun _ _ _ => ?_)
   rw [S.isT_eq]
   exact zBi (zEs S) IH.args
  ·unfold zA9
   rw [S.isT_eq]
   refine zBi (zHx S fun i d => ?_) (zEs S)
   rw [add1]
   exact zAu IH.expr fun _ _ _ => zAu (zBt S) fun _ _ _ => rfl
theorem mapT_pos {t : Tree} : (mapT φ t).pos = φ t.pos := by cases t; rfl
omit S in
theorem mapT_op {t : Tree} : (mapT φ t).op = t.op := by cases t; rfl
omit S in
theorem mapT_name {t : Tree} : (mapT φ t).name = t.name := by cases t; rfl
omit S in
theorem mapT_kids {t : Tree} : (mapT φ t).kids = mapTs φ t.kids := by cases t; rfl
omit S in
theorem mv_bind' {α β γ δ : Type} {g : α → γ} {g' : β → δ} {x : PR α} {k : α → Nat → Nat → PR β} {x' : PR γ} {k' : γ → Nat → Nat → PR δ} (hx : x' = x.mv g φ o) (hk : ∀ a i d, x = .ok a i d → k' (g a) (i + o) d = (k a i d).mv g' φ o) : x'.bind k' = (x.bind k).mv g' φ o := by
 subst hx
 cases x with
 | ok a i d => exact hk a i d rfl
 | err p e => rfl
 | out => rfl
theorem eq_fields : ∀ (n : Nat) {i d : Nat} {acc : List Tree}, zCi ts' en' n (i + o) d (mapTs φ acc) = (zCi ts en n i d acc).mv (mapTs φ) φ o
 | 0, _, _, _ => rfl
 | n + 1, i, d, acc => by
  unfold zCi
  rw [S.isT_eq, show i + o + 1 = i + 1 + o by omega]
  refine zBi rfl (zAu (eq_part S) fun _ _ _ => zAu (zBt S) fun _ _ _ => ?_)
  rw [← zFb]
  exact eq_fields n
theorem eq_struct {n i d : Nat} : zC9 ts' en' n (i + o) d = (zC9 ts en n i d).mv (mapT φ) φ o := by
 unfold zC9
 exact zAu (zIa S) fun _ _ _ => zAu (zBt S) fun _ _ _ => zAu (zBt S) fun _ _ _ => zAu (eq_fields S n (acc := [])) fun _ _ _ => rfl
theorem zJ2 : ∀ (n : Nat) {i d : Nat} {acc : List Tree}, zB8 ts' en' n (i + o) d (mapTs φ acc) = (zB8 ts en n i d acc).mv (mapTs φ) φ o
 | 0, _, _, _ => rfl
 | n + 1, i, d, acc => by
  unfold zB8
  rw [S.isT_eq]
  refine zBi rfl (zAu (eq_part S) fun _ i _ => ?_)
  rw [S.isT_eq, ← zFb]
  refine zBi (zJ2 n) (zAu (zBt S) fun _ _ _ => ?_)
  rw [S.isT_eq]
  exact zBi (zEs S) (zJ2 n)
theorem Same.back {i : Nat} (h : 0 < i) : (now ts' en' (i + o - 1)).text = (now ts en (i - 1)).text := by rw [show i + o - 1 = i - 1 + o by omega, S.text]
theorem eq_change {n i d : Nat} : zCj ts' en' n (i + o) d = (zCj ts en n i d).mv (mapT φ) φ o := by
 have E := eq_all S n
 unfold zCj
 refine mv_bind' E.post fun l i1 d1 h1 => ?_
 have h2 := (zCf n).post h1
 have h3 := field_kid h1
 rw [S.isT_eq, S.isT_eq, show i1 + o - 1 = i1 - 1 + o by omega, S.text, mapT_op, mapT_pos S, mapT_name, mapT_kids]
 refine zBi (zEs S) (zBi rfl ?_)
 by_cases h18 : l.op = 18
 ·rw [if_pos h18, if_pos h18]
  exact zAu (zBt S) fun _ _ _ => zAu E.expr fun _ _ _ => rfl
 rw [if_neg h18, if_neg h18]
 by_cases h20 : l.op = 20
 ·rw [if_pos h20, if_pos h20]
  obtain ⟨k, r, hk⟩ := h3 h20
  rw [hk]
  exact zAu (zBt S) fun _ _ _ => zAu E.expr fun _ _ _ => rfl
 ·rw [if_neg h20, if_neg h20]
  exact zEs S
theorem eq_simple {n i d : Nat} : zCp ts' en' n (i + o) d = (zCp ts en n i d).mv (mapT φ) φ o := by
 have E := eq_all S n
 unfold zCp
 rw [S.isT_eq, S.isT_eq, S.kind, S.text, S.pos, show i + o + 1 = i + 1 + o by omega, show i + o + 2 = i + 2 + o by omega, S.isT_eq, S.kind, S.text]
 exact zBi (zAu E.brack fun _ _ _ => rfl) (zBi (zBi rfl (zAu E.expr fun _ _ _ => rfl)) (zBi (zAu E.expr fun _ _ _ => rfl) (eq_change S)))
structure EQS (ts ts' : List Tok) (en en' o : Nat) (φ : Nat → Nat) (n : Nat) : Prop where
 stmt : ∀ {i d}, stmtS ts' en' n (i + o) d = (stmtS ts en n i d).mv (mapT φ) φ o
 branch : ∀ {i d}, zBu ts' en' n (i + o) d = (zBu ts en n i d).mv (mapT φ) φ o
 block : ∀ {i d}, zB0 ts' en' n (i + o) d = (zB0 ts en n i d).mv (mapT φ) φ o
 stmts : ∀ {i d acc}, zCd ts' en' n (i + o) d (mapTs φ acc) = (zCd ts en n i d acc).mv (mapTs φ) φ o
theorem eqs_all : ∀ n, EQS ts ts' en en' o φ n := by
 intro n
 have add1 : ∀ i, i + o + 1 = i + 1 + o := fun i => by omega
 induction n with
 | zero => constructor <;> intros <;> simp only [stmtS, zBu, zB0, zCd, PR.mv]
 | succ n IH =>
  have E := eq_all S n
  constructor <;> intros
  ·unfold stmtS
   rw [S.isT_eq, S.isT_eq, S.pos, add1]
   refine zBi IH.branch (zBi (zAu E.expr fun _ _ _ => zAu IH.block fun _ _ _ => rfl) (zAu (eq_simple S) fun _ _ _ => zAu (zBt S) fun _ _ _ => rfl))
  ·unfold zBu
   refine zAu (zBt S) fun _ _ _ => zAu E.expr fun _ _ _ => zAu IH.block fun _ i _ => ?_
   rw [S.isT_eq, add1, S.isT_eq]
   exact zBi (zAu (zBi IH.branch IH.block) fun _ _ _ => rfl) rfl
  ·unfold zB0
   rw [S.isT_eq]
   refine zBi (zHx S fun i d => ?_) (zEs S)
   rw [add1, S.pos]
   exact zAu (IH.stmts (acc := [])) fun _ _ _ => rfl
  ·unfold zCd
   rw [S.isT_eq, add1]
   refine zBi rfl (zAu IH.stmt fun _ _ _ => ?_)
   rw [← zFb]
   exact IH.stmts
theorem eq_decl {n i d : Nat} : declS ts' en' n (i + o) d = (declS ts en n i d).mv (mapT φ) φ o := by
 unfold declS
 rw [S.isT_eq, S.isT_eq, S.isT_eq, show i + o + 1 = i + 1 + o by omega]
 refine zBi (eq_struct S) (zBi ?_ (zBi (zAu (eq_part S) fun _ _ _ => zAu (zBt S) fun _ _ _ => rfl) (zEs S)))
 unfold funcS
 refine zAu (zIa S) fun _ _ _ => zAu (zBt S) fun _ _ _ => zAu (zJ2 S n (acc := [])) fun _ _ _ => zAu (zBt S) fun _ i _ => ?_
 rw [S.isT_eq]
 refine zAu (zBi (g := id) rfl (eq_typ S)) fun _ _ _ => zAu (eqs_all S n).block fun _ _ _ => ?_
 show PR.ok _ _ _ = PR.ok (Tree.mk _ _ _ _ _ (mapTs φ (_ ++ [_]))) _ _
 rw [zFb]; rfl
theorem eq_prog {m : Nat} : ∀ (k : Nat) {i d : Nat} {acc : List Tree}, progL ts' en' k m (i + o) d (mapTs φ acc) = (progL ts en k m i d acc).mv (mapTs φ) φ o
 | 0, _, _, _ => rfl
 | k + 1, i, d, acc => by
  unfold progL
  by_cases h : i < ts.length
  ·rw [if_pos h, if_pos ((S.lt i).mpr h)]
   refine zAu (eq_decl S) fun _ _ _ => ?_
   rw [← zFb]
   exact eq_prog k
  ·rw [if_neg h, if_neg (fun e => h ((S.lt i).mp e))]
   rfl
end
end Go.Pa
namespace Go.Pa
open Go.Ev
section
variable {ts ts' : List Tok} {en en' : Nat}
def Ag (ts ts' : List Tok) (en en' e : Nat) : Prop := ∀ j, j < e → now ts' en' j = now ts en j
theorem Ag.less {e e' : Nat} (h : Ag ts ts' en en' e) (he : e' ≤ e) : Ag ts ts' en en' e' := fun j hj => h j (by omega)
theorem Ag.isT {e i : Nat} (h : Ag ts ts' en en' e) (hi : i < e) (s : Str) : isT ts' en' s i = Pa.isT ts en s i := by unfold Pa.isT; rw [h i hi]
theorem Ag.lev {e i : Nat} (h : Ag ts ts' en en' e) (hi : i < e) : zB6 ts' en' i = zB6 ts en i := by unfold zB6; rw [h i hi]
theorem zAs {α β : Type} {x : PR α} {a : α} {i d : Nat} {k : α → Nat → Nat → PR β} {y : PR β} (h : x = .ok a i d) (h' : k a i d = y) : x.bind k = y := by rw [h]; exact h'
theorem zBn {s : Str} {i d p i' d' : Nat} (h : zBb ts en s i d = .ok p i' d') (ag : Ag ts ts' en en' i') : zBb ts' en' s i d = .ok p i' d' := by
 have h1 := zAo h
 unfold zBb at h ⊢
 rw [ag.isT (by omega), ag i (by omega)]
 split at h
 ·rename_i hc; rw [if_pos hc]; exact h
 ·cases h
theorem zH8 {i d i' d' : Nat} {t : Tok} (h : wordS ts en i d = .ok t i' d') (ag : Ag ts ts' en en' i') : wordS ts' en' i d = .ok t i' d' := by
 have h1 := zC5 h
 unfold wordS at h ⊢
 rw [ag i (by omega)]
 split at h
 ·rename_i hc; rw [if_pos hc]; exact h
 ·cases h
theorem zHp {α : Type} {i d i' d' : Nat} {a : α} {k k' : Nat → Nat → PR α} (h : zCh ts en i d k = .ok a i' d') (hk : ∀ d2, k i (d + 1) = .ok a i' d2 → k' i (d + 1) = .ok a i' d2) : zCh ts' en' i d k' = .ok a i' d' := by
 obtain ⟨hd, d2, h1, rfl⟩ := zCy h
 unfold zCh
 rw [if_neg (by omega)]
 exact zAs (hk d2 h1) rfl
theorem lo_typ {i d i' d' : Nat} {t : Str} (h : typS ts en i d = .ok t i' d') (ag : Ag ts ts' en en' i') : typS ts' en' i d = .ok t i' d' := by
 have h1 := zH2 h
 unfold typS at h ⊢
 rw [ag.isT (by omega), ag.isT (by omega), ag.isT (by omega), ag i (by omega)]
 split at h
 ·rename_i hc; rw [if_pos hc]
  obtain ⟨_, _, _, h2, h⟩ := PR.bind_eq h
  injection h with e1 e2 e3; subst e1; subst e2; subst e3
  exact zAs (zH8 h2 ag) rfl
 ·rename_i hc; rw [if_neg hc]
  split at h
  ·rename_i hc; rw [if_pos hc]; exact h
  ·cases h
theorem zLr {op i d i' d' : Nat} {t : Tree} (h : partS ts en op i d = .ok t i' d') (ag : Ag ts ts' en en' i') : partS ts' en' op i d = .ok t i' d' := by
 unfold partS at h ⊢
 obtain ⟨_, _, _, h1, h⟩ := PR.bind_eq h
 obtain ⟨_, _, _, h2, h⟩ := PR.bind_eq h
 have := zH2 h2
 injection h with e1 e2 e3; subst e1; subst e2; subst e3
 exact zAs (zH8 h1 (ag.less (by omega))) (zAs (lo_typ h2 ag) rfl)
theorem lo_key {i d i' d' : Nat} {t : Tree} (h : keyS ts en i d = .ok t i' d') (ag : Ag ts ts' en en' i') (hi : i < ts.length) : keyS ts' en' i d = .ok t i' d' := by
 have h0 := keyS_on h hi
 unfold keyS at h ⊢
 simp only at h ⊢
 rw [ag i (by omega)]
 split at h
 ·rename_i hc; rw [if_pos hc]; exact h
 rename_i hc; rw [if_neg hc]
 split at h
 ·rename_i hc; rw [if_pos hc]; exact h
 rename_i hc; rw [if_neg hc]
 split at h
 ·rename_i hc; rw [if_pos hc]
  obtain ⟨_, _, _, h1, h⟩ := PR.bind_eq h
  obtain ⟨w, _, _, h2, h⟩ := PR.bind_eq h
  obtain ⟨_, _, _, h3, h⟩ := PR.bind_eq h
  have := zC5 h2; have := zAo h3
  injection h with e1 e2 e3; subst e1; subst e2; subst e3
  exact zAs (zBn h1 (ag.less (by omega))) (zAs (zH8 h2 (ag.less (by omega))) (zAs (zBn h3 ag) rfl))
 rename_i hc; rw [if_neg hc]
 split at h
 ·rename_i hc; rw [if_pos hc]
  obtain ⟨_, _, _, h1, h⟩ := PR.bind_eq h
  obtain ⟨_, _, _, h3, h⟩ := PR.bind_eq h
  have := zAo h3
  injection h with e1 e2 e3; subst e1; subst e2; subst e3
  exact zAs (zBn h1 (ag.less (by omega))) (zAs (zBn h3 ag) rfl)
 ·rename_i hc; rw [if_neg hc]; exact h
structure LO (ts ts' : List Tok) (en en' n : Nat) : Prop where
 expr : ∀ {least i d t i' d'}, exprS ts en n least i d = .ok t i' d' → Ag ts ts' en en' (i' + 1) → exprS ts' en' n least i d = .ok t i' d'
 exprl : ∀ {least i d l t i' d'}, exprL ts en n least i d l = .ok t i' d' → Ag ts ts' en en' (i' + 1) → exprL ts' en' n least i d l = .ok t i' d'
 unary : ∀ {i d t i' d'}, zB1 ts en n i d = .ok t i' d' → Ag ts ts' en en' (i' + 1) → zB1 ts' en' n i d = .ok t i' d'
 post : ∀ {i d t i' d'}, postS ts en n i d = .ok t i' d' → Ag ts ts' en en' (i' + 1) → postS ts' en' n i d = .ok t i' d'
 postl : ∀ {i d x t i' d'}, postL ts en n i d x = .ok t i' d' → Ag ts ts' en en' (i' + 1) → postL ts' en' n i d x = .ok t i' d'
 prim : ∀ {i d t i' d'}, primS ts en n i d = .ok t i' d' → Ag ts ts' en en' (i' + 1) → primS ts' en' n i d = .ok t i' d'
 call : ∀ {j i d t i' d'}, callS ts en n j i d = .ok t i' d' → Ag ts ts' en en' (i' + 1) → callS ts' en' n j i d = .ok t i' d'
 args : ∀ {i d acc ks i' d'}, argsL ts en n i d acc = .ok ks i' d' → Ag ts ts' en en' (i' + 1) → argsL ts' en' n i d acc = .ok ks i' d'
 brack : ∀ {i d t i' d'}, zA9 ts en n i d = .ok t i' d' → Ag ts ts' en en' (i' + 1) → zA9 ts' en' n i d = .ok t i' d'
theorem lo_all : ∀ n, LO ts ts' en en' n := by
 intro n
 induction n with
 | zero => constructor <;> intros <;> simp_all [exprS, exprL, zB1, postS, postL, primS, callS, argsL, zA9]
 | succ n IH =>
  have P := zCf (ts := ts) (en := en) n
  constructor
  ·intro least i d t i' d' h ag
   unfold exprS at h ⊢
   obtain ⟨l, i1, d1, h1, h⟩ := PR.bind_eq h
   have := P.exprl h
   exact zAs (IH.unary h1 (ag.less (by omega))) (IH.exprl h ag)
  ·intro least i d l t i' d' h ag
   have h0 := (zCf (ts := ts) (en := en) (n + 1)).exprl h
   unfold exprL at h ⊢
   rw [ag.lev (by omega), ag i (by omega)]
   split at h
   ·rename_i hc; rw [if_pos hc]; exact h
   ·rename_i hc; rw [if_neg hc]
    obtain ⟨r, i1, d1, h1, h⟩ := PR.bind_eq h
    have := P.exprl h
    exact zAs (IH.expr h1 (ag.less (by omega))) (IH.exprl h ag)
  ·intro i d t i' d' h ag
   have h0 := (zCf (ts := ts) (en := en) (n + 1)).unary h
   unfold zB1 at h ⊢
   rw [ag.isT (by omega), ag.isT (by omega)]
   split at h
   ·rename_i hc; rw [if_pos hc]
    refine zHp h fun d2 h => ?_
    rw [ag i (by omega)]
    obtain ⟨k, i1, d1, h1, h⟩ := PR.bind_eq h
    injection h with e1 e2 e3; subst e1; subst e2; subst e3
    exact zAs (IH.unary h1 ag) rfl
   ·rename_i hc; rw [if_neg hc]; exact IH.post h ag
  ·intro i d t i' d' h ag
   unfold postS at h ⊢
   obtain ⟨x, i1, d1, h1, h⟩ := PR.bind_eq h
   have := P.postl h
   exact zAs (IH.prim h1 (ag.less (by omega))) (IH.postl h ag)
  ·intro i d x t i' d' h ag
   have h0 := (zCf (ts := ts) (en := en) (n + 1)).postl h
   unfold postL at h ⊢
   rw [ag.isT (by omega)]
   split at h
   ·rename_i hc; rw [if_pos hc]
    obtain ⟨w, i1, d1, h1, h⟩ := PR.bind_eq h
    have := P.postl h
    exact zAs (zH8 h1 (ag.less (by omega))) (IH.postl h ag)
   ·rename_i hc; rw [if_neg hc]; exact h
  ·intro i d t i' d' h ag
   have h0 := (zCf (ts := ts) (en := en) (n + 1)).prim h
   unfold primS at h ⊢
   rw [ag i (by omega), ag.isT (by omega), ag.isT (by omega), ag.isT (by omega), ag.isT (by omega), ag.isT (by omega), ag.isT (by omega), ag.isT (by omega)]
   split at h
   ·rename_i hc; rw [if_pos hc]; exact h
   rename_i hc; rw [if_neg hc]
   split at h
   ·rename_i hc; rw [if_pos hc]
    split at h
    ·rename_i hc; rw [if_pos hc]; exact IH.call h ag
    ·rename_i hc; rw [if_neg hc]; exact h
   rename_i hc; rw [if_neg hc]
   split at h
   ·rename_i hc; rw [if_pos hc]; exact IH.brack h ag
   rename_i hc; rw [if_neg hc]
   split at h
   ·rename_i hc; rw [if_pos hc]; exact lo_key h (ag.less (by omega)) (by omega)
   ·cases h
  ·intro j i d t i' d' h ag
   unfold callS at h ⊢
   refine zHp h fun d2 h => ?_
   obtain ⟨ks, i1, d1, h1, h⟩ := PR.bind_eq h
   injection h with e1 e2 e3; subst e1; subst e2; subst e3
   exact zAs (IH.args h1 (ag.less (by omega))) rfl
  ·intro i d acc ks i' d' h ag
   have h0 := (zCf (ts := ts) (en := en) (n + 1)).args h
   unfold argsL at h ⊢
   rw [ag.isT (by omega)]
   split at h
   ·rename_i hc; rw [if_pos hc]; exact h
   ·rename_i hc; rw [if_neg hc]
    obtain ⟨p, i1, d1, h1, h⟩ := PR.bind_eq h
    split at h
    ·rename_i hc
     have := P.args h
     refine zAs (IH.expr h1 (ag.less (by omega))) ?_
     rw [ag.isT (by omega), if_pos hc]
     exact IH.args h ag
    ·rename_i hc
     obtain ⟨_, i2, d2, h2, h⟩ := PR.bind_eq h
     have := zAo h2
     split at h
     ·cases h
     ·rename_i hc2
      have := P.args h
      refine zAs (IH.expr h1 (ag.less (by omega))) ?_
      rw [ag.isT (by omega), if_neg hc]
      refine zAs (zBn h2 (ag.less (by omega))) ?_
      rw [ag.isT (by omega), if_neg hc2]
      exact IH.args h ag
  ·intro i d t i' d' h ag
   have h0 := (zCf (ts := ts) (en := en) (n + 1)).brack h
   unfold zA9 at h ⊢
   rw [ag.isT (by omega)]
   split at h
   ·rename_i hc; rw [if_pos hc]
    refine zHp h fun d2 h => ?_
    obtain ⟨e, i1, d1, h1, h⟩ := PR.bind_eq h
    obtain ⟨_, i2, d3, h2, h⟩ := PR.bind_eq h
    have := zAo h2
    injection h with e1 e2 e3; subst e1; subst e2; subst e3
    exact zAs (IH.expr h1 (ag.less (by omega))) (zAs (zBn h2 (ag.less (by omega))) rfl)
   ·cases h
theorem lo_fields : ∀ (n : Nat) {i d : Nat} {acc ks : List Tree} {i' d' : Nat}, zCi ts en n i d acc = .ok ks i' d' → Ag ts ts' en en' i' → zCi ts' en' n i d acc = .ok ks i' d'
 | 0, i, d, acc, ks, i', d', h, _ => by cases h
 | n + 1, i, d, acc, ks, i', d', h, ag => by
  have h0 := zFe (n + 1) h
  unfold zCi at h ⊢
  rw [ag.isT (by omega)]
  split at h
  ·rename_i hc; rw [if_pos hc]; exact h
  ·rename_i hc; rw [if_neg hc]
   obtain ⟨_, _, _, h1, h⟩ := PR.bind_eq h
   obtain ⟨_, _, _, h2, h⟩ := PR.bind_eq h
   have := zAo h2; have := zFe n h
   exact zAs (zLr h1 (ag.less (by omega))) (zAs (zBn h2 (ag.less (by omega))) (lo_fields n h ag))
theorem lo_struct {n i d i' d' : Nat} {t : Tree} (h : zC9 ts en n i d = .ok t i' d') (ag : Ag ts ts' en en' i') : zC9 ts' en' n i d = .ok t i' d' := by
 unfold zC9 at h ⊢
 obtain ⟨_, _, _, h1, h⟩ := PR.bind_eq h
 obtain ⟨_, _, _, h2, h⟩ := PR.bind_eq h
 obtain ⟨_, _, _, h3, h⟩ := PR.bind_eq h
 obtain ⟨_, _, _, h4, h⟩ := PR.bind_eq h
 have := zAo h2; have := zAo h3; have := zFe n h4
 injection h with e1 e2 e3; subst e1; subst e2; subst e3
 exact zAs (zH8 h1 (ag.less (by omega))) (zAs (zBn h2 (ag.less (by omega))) (zAs (zBn h3 (ag.less (by omega))) (zAs (lo_fields n h4 ag) rfl)))
theorem zJp : ∀ (n : Nat) {i d : Nat} {acc ks : List Tree} {i' d' : Nat}, zB8 ts en n i d acc = .ok ks i' d' → Ag ts ts' en en' (i' + 1) → zB8 ts' en' n i d acc = .ok ks i' d'
 | 0, i, d, acc, ks, i', d', h, _ => by cases h
 | n + 1, i, d, acc, ks, i', d', h, ag => by
  have h0 := zDc (n + 1) h
  unfold zB8 at h ⊢
  rw [ag.isT (by omega)]
  split at h
  ·rename_i hc; rw [if_pos hc]; exact h
  ·rename_i hc; rw [if_neg hc]
   obtain ⟨_, _, _, h1, h⟩ := PR.bind_eq h
   split at h
   ·rename_i hc
    have := zDc n h
    refine zAs (zLr h1 (ag.less (by omega))) ?_
    rw [ag.isT (by omega), if_pos hc]
    exact zJp n h ag
   ·rename_i hc
    obtain ⟨_, _, _, h2, h⟩ := PR.bind_eq h
    have := zAo h2
    split at h
    ·cases h
    ·rename_i hc2
     have := zDc n h
     refine zAs (zLr h1 (ag.less (by omega))) ?_
     rw [ag.isT (by omega), if_neg hc]
     refine zAs (zBn h2 (ag.less (by omega))) ?_
     rw [ag.isT (by omega), if_neg hc2]
     exact zJp n h ag
theorem lo_change {n i d i' d' : Nat} {t : Tree} (h : zCj ts en n i d = .ok t i' d') (ag : Ag ts ts' en en' (i' + 1)) : zCj ts' en' n i d = .ok t i' d' := by
 have h0 := zK1 h
 have L := lo_all (ts := ts) (ts' := ts') (en := en) (en' := en') n
 unfold zCj at h ⊢
 obtain ⟨l, i1, d1, h1, h⟩ := PR.bind_eq h
 have hp := (zCf n).post h1
 have hi : i1 ≤ i' := by
  split at h
  ·cases h
  split at h
  ·injection h; omega
  split at h
  ·obtain ⟨_, _, _, h2, h⟩ := PR.bind_eq h
   obtain ⟨_, _, _, h3, h⟩ := PR.bind_eq h
   have := zAo h2; have := (zCf n).expr h3
   injection h; omega
  split at h
  ·obtain ⟨_, _, _, h2, h⟩ := PR.bind_eq h
   obtain ⟨_, _, _, h3, h⟩ := PR.bind_eq h
   have := zAo h2; have := (zCf n).expr h3
   injection h; omega
  ·cases h
 refine zAs (L.post h1 (ag.less (by omega))) ?_
 rw [ag.isT (by omega), ag.isT (by omega), ag (i1 - 1) (by omega)]
 split at h
 ·cases h
 rename_i hc; rw [if_neg hc]
 split at h
 ·rename_i hc; rw [if_pos hc]; exact h
 rename_i hc; rw [if_neg hc]
 split at h
 ·rename_i hc; rw [if_pos hc]
  obtain ⟨_, _, _, h2, h⟩ := PR.bind_eq h
  obtain ⟨_, _, _, h3, h⟩ := PR.bind_eq h
  have := (zCf n).expr h3
  injection h with e1 e2 e3; subst e1; subst e2; subst e3
  exact zAs (zBn h2 (ag.less (by omega))) (zAs (L.expr h3 ag) rfl)
 rename_i hc; rw [if_neg hc]
 split at h
 ·rename_i hc; rw [if_pos hc]
  obtain ⟨_, _, _, h2, h⟩ := PR.bind_eq h
  obtain ⟨_, _, _, h3, h⟩ := PR.bind_eq h
  have := (zCf n).expr h3
  injection h with e1 e2 e3; subst e1; subst e2; subst e3
  exact zAs (zBn h2 (ag.less (by omega))) (zAs (L.expr h3 ag) rfl)
 ·cases h
theorem lo_simple {n i d i' d' : Nat} {t : Tree} (h : zCp ts en n i d = .ok t i' d') (ag : Ag ts ts' en en' (i' + 1)) : zCp ts' en' n i d = .ok t i' d' := by
 have h0 := zKk h
 have L := lo_all (ts := ts) (ts' := ts') (en := en) (en' := en') n
 unfold zCp at h ⊢
 rw [ag.isT (by omega), ag.isT (by omega), ag.isT (by omega), ag i (by omega), ag (i + 1) (by omega)]
 split at h
 ·rename_i hc; rw [if_pos hc]
  obtain ⟨_, _, _, h2, h⟩ := PR.bind_eq h
  injection h with e1 e2 e3; subst e1; subst e2; subst e3
  exact zAs (L.brack h2 ag) rfl
 rename_i hc; rw [if_neg hc]
 split at h
 ·rename_i hc; rw [if_pos hc]
  split at h
  ·rename_i hc; rw [if_pos hc]; exact h
  ·rename_i hc; rw [if_neg hc]
   obtain ⟨_, _, _, h2, h⟩ := PR.bind_eq h
   injection h with e1 e2 e3; subst e1; subst e2; subst e3
   exact zAs (L.expr h2 ag) rfl
 rename_i hc; rw [if_neg hc]
 split at h
 ·rename_i hc; rw [if_pos hc]
  obtain ⟨_, _, _, h2, h⟩ := PR.bind_eq h
  injection h with e1 e2 e3; subst e1; subst e2; subst e3
  exact zAs (L.expr h2 ag) rfl
 ·rename_i hc; rw [if_neg hc]; exact lo_change h ag
structure LOS (ts ts' : List Tok) (en en' n : Nat) : Prop where
 stmt : ∀ {i d t i' d'}, stmtS ts en n i d = .ok t i' d' → Ag ts ts' en en' (i' + 1) → stmtS ts' en' n i d = .ok t i' d'
 branch : ∀ {i d t i' d'}, zBu ts en n i d = .ok t i' d' → Ag ts ts' en en' (i' + 1) → zBu ts' en' n i d = .ok t i' d'
 block : ∀ {i d t i' d'}, zB0 ts en n i d = .ok t i' d' → Ag ts ts' en en' i' → zB0 ts' en' n i d = .ok t i' d'
 stmts : ∀ {i d acc ks i' d'}, zCd ts en n i d acc = .ok ks i' d' → Ag ts ts' en en' i' → zCd ts' en' n i d acc = .ok ks i' d'
theorem los_all : ∀ n, LOS ts ts' en en' n := by
 intro n
 induction n with
 | zero => constructor <;> intros <;> simp_all [stmtS, zBu, zB0, zCd]
 | succ n IH =>
  have L := lo_all (ts := ts) (ts' := ts') (en := en) (en' := en') n
  have P := zCf (ts := ts) (en := en) n
  have G := zIh (ts := ts) (en := en) n
  constructor
  ·intro i d t i' d' h ag
   have h0 := (zIh (ts := ts) (en := en) (n + 1)).stmt h
   unfold stmtS at h ⊢
   rw [ag.isT (by omega), ag.isT (by omega), ag i (by omega)]
   split at h
   ·rename_i hc; rw [if_pos hc]; exact IH.branch h ag
   rename_i hc; rw [if_neg hc]
   split at h
   ·rename_i hc; rw [if_pos hc]
    obtain ⟨_, _, _, h2, h⟩ := PR.bind_eq h
    obtain ⟨_, _, _, h3, h⟩ := PR.bind_eq h
    have := G.block h3
    injection h with e1 e2 e3; subst e1; subst e2; subst e3
    exact zAs (L.expr h2 (ag.less (by omega))) (zAs (IH.block h3 (ag.less (by omega))) rfl)
   ·rename_i hc; rw [if_neg hc]
    obtain ⟨_, _, _, h2, h⟩ := PR.bind_eq h
    obtain ⟨_, _, _, h3, h⟩ := PR.bind_eq h
    have := zAo h3
    injection h with e1 e2 e3; subst e1; subst e2; subst e3
    exact zAs (lo_simple h2 (ag.less (by omega))) (zAs (zBn h3 (ag.less (by omega))) rfl)
  ·intro i d t i' d' h ag
   unfold zBu at h ⊢
   obtain ⟨_, _, _, h1, h⟩ := PR.bind_eq h
   obtain ⟨_, _, _, h2, h⟩ := PR.bind_eq h
   obtain ⟨_, i3, _, h3, h⟩ := PR.bind_eq h
   have := zAo h1; have := P.expr h2; have := G.block h3
   split at h
   ·rename_i hc
    obtain ⟨_, i4, _, h4, h⟩ := PR.bind_eq h
    have h5 : i3 + 1 < i4 := by
     split at h4
     ·have := G.branch h4; omega
     ·have := G.block h4; omega
    injection h with e1 e2 e3; subst e1; subst e2; subst e3
    refine zAs (zBn h1 (ag.less (by omega))) (zAs (L.expr h2 (ag.less (by omega))) (zAs (IH.block h3 (ag.less (by omega))) ?_))
    rw [ag.isT (by omega), if_pos hc, ag.isT (by omega)]
    refine zAs ?_ rfl
    split at h4
    ·rename_i hc; rw [if_pos hc]; exact IH.branch h4 ag
    ·rename_i hc; rw [if_neg hc]; exact IH.block h4 (ag.less (by omega))
   ·rename_i hc
    injection h with e1 e2 e3; subst e1; subst e2; subst e3
    refine zAs (zBn h1 (ag.less (by omega))) (zAs (L.expr h2 (ag.less (by omega))) (zAs (IH.block h3 (ag.less (by omega))) ?_))
    rw [ag.isT (by omega), if_neg hc]
  ·intro i d t i' d' h ag
   have h0 := (zIh (ts := ts) (en := en) (n + 1)).block h
   unfold zB0 at h ⊢
   rw [ag.isT (by omega)]
   split at h
   ·rename_i hc; rw [if_pos hc]
    refine zHp h fun d2 h => ?_
    rw [ag i (by omega)]
    obtain ⟨ks, i1, d1, h1, h⟩ := PR.bind_eq h
    injection h with e1 e2 e3; subst e1; subst e2; subst e3
    exact zAs (IH.stmts h1 ag) rfl
   ·cases h
  ·intro i d acc ks i' d' h ag
   have h0 := (zIh (ts := ts) (en := en) (n + 1)).stmts h
   unfold zCd at h ⊢
   rw [ag.isT (by omega)]
   split at h
   ·rename_i hc; rw [if_pos hc]; exact h
   ·rename_i hc; rw [if_neg hc]
    obtain ⟨_, _, _, h2, h⟩ := PR.bind_eq h
    have := G.stmts h
    exact zAs (IH.stmt h2 (ag.less (by omega))) (IH.stmts h ag)
theorem lo_decl {n i d i' d' : Nat} {t : Tree} (h : declS ts en n i d = .ok t i' d') (ag : Ag ts ts' en en' i') : declS ts' en' n i d = .ok t i' d' := by
 have h0 := zL3 h
 unfold declS at h ⊢
 rw [ag.isT (by omega), ag.isT (by omega), ag.isT (by omega)]
 split at h
 ·rename_i hc; rw [if_pos hc]; exact lo_struct h ag
 rename_i hc; rw [if_neg hc]
 split at h
 ·rename_i hc; rw [if_pos hc]
  unfold funcS at h ⊢
  obtain ⟨w, i1, _, h1, h⟩ := PR.bind_eq h
  obtain ⟨_, i2, _, h2, h⟩ := PR.bind_eq h
  obtain ⟨ks, i3, _, h3, h⟩ := PR.bind_eq h
  obtain ⟨_, i4, _, h4, h⟩ := PR.bind_eq h
  obtain ⟨_, i5, _, h5, h⟩ := PR.bind_eq h
  obtain ⟨b, i6, _, h6, h⟩ := PR.bind_eq h
  have := zC5 h1; have := zAo h2; have := zDc n h3; have := zAo h4; have := (zIh n).block h6
  have h7 : i4 ≤ i5 := by
   split at h5
   ·injection h5; omega
   ·have := zH2 h5; omega
  injection h with e1 e2 e3; subst e1; subst e2; subst e3
  refine zAs (zH8 h1 (ag.less (by omega))) (zAs (zBn h2 (ag.less (by omega))) (zAs (zJp n h3 (ag.less (by omega))) (zAs (zBn h4 (ag.less (by omega))) ?_)))
  rw [ag.isT (by omega)]
  refine zAs ?_ (zAs ((los_all n).block h6 ag) rfl)
  split at h5
  ·rename_i hc; rw [if_pos hc]; exact h5
  ·rename_i hc; rw [if_neg hc]; exact lo_typ h5 (ag.less (by omega))
 rename_i hc; rw [if_neg hc]
 split at h
 ·rename_i hc; rw [if_pos hc]
  obtain ⟨p, i1, _, h1, h⟩ := PR.bind_eq h
  obtain ⟨_, i2, _, h2, h⟩ := PR.bind_eq h
  have := zAo h2
  injection h with e1 e2 e3; subst e1; subst e2; subst e3
  exact zAs (zLr h1 (ag.less (by omega))) (zAs (zBn h2 (ag.less (by omega))) rfl)
 ·cases h
end
end Go.Pa
namespace Go.Pa
open Go.Ev
def DP {α : Type} (x : PR α) (d : Nat) : Prop := ∀ a i d', x = .ok a i d' → d' = d
section
variable {ts : List Tok} {en : Nat}
theorem dp_ok {α : Type} {a : α} {i d : Nat} : DP (PR.ok a i d) d := fun _ _ _ h => by injection h with _ _ h; exact h.symm
theorem dp_out {α : Type} {d : Nat} : DP (PR.out : PR α) d := fun _ _ _ h => by cases h
theorem zEa {α : Type} {i d : Nat} : DP (failP ts en i : PR α) d := fun _ _ _ h => by cases h
theorem zE7 {α β : Type} {x : PR α} {d : Nat} {k : α → Nat → Nat → PR β} (h : DP x d) (h' : ∀ a i, DP (k a i d) d) : DP (x.bind k) d := by
 cases x with
 | ok a i d1 => obtain rfl := h a i d1 rfl; exact h' a i
 | err p e => intro _ _ _ he; cases he
 | out => exact dp_out
theorem dp_deeper {α : Type} {i d : Nat} {k : Nat → Nat → PR α} (h : ∀ i, DP (k i (d + 1)) (d + 1)) : DP (zCh ts en i d k) d := by
 intro a i' d' e
 obtain ⟨_, d2, h1, rfl⟩ := zCy e
 have := h _ _ _ _ h1
 omega
theorem zC2 {s : Str} {i d : Nat} : DP (zBb ts en s i d) d := by unfold zBb; split; exact dp_ok; exact zEa
theorem zE6 {i d : Nat} : DP (wordS ts en i d) d := by unfold wordS; split; exact dp_ok; exact zEa
theorem dp_key {i d : Nat} : DP (keyS ts en i d) d := by
 unfold keyS
 simp only
 repeat' first | split | exact dp_ok | exact zEa | exact zC2 | exact zE6 | (refine zE7 ?_ fun _ _ => ?_)
structure DE (ts : List Tok) (en n : Nat) : Prop where
 expr : ∀ {least i d}, DP (exprS ts en n least i d) d
 exprl : ∀ {least i d l}, DP (exprL ts en n least i d l) d
 unary : ∀ {i d}, DP (zB1 ts en n i d) d
 post : ∀ {i d}, DP (postS ts en n i d) d
 postl : ∀ {i d x}, DP (postL ts en n i d x) d
 prim : ∀ {i d}, DP (primS ts en n i d) d
 call : ∀ {j i d}, DP (callS ts en n j i d) d
 args : ∀ {i d acc}, DP (argsL ts en n i d acc) d
 brack : ∀ {i d}, DP (zA9 ts en n i d) d
theorem de_all : ∀ n, DE ts en n := by
 intro n
 induction n with
 | zero => constructor <;> intros <;> simp only [exprS, exprL, zB1, postS, postL, primS, callS, argsL, zA9] <;> exact dp_out
 | succ n IH =>
  constructor <;> intros <;> simp only [exprS, exprL, zB1, postS, postL, primS, callS, argsL, zA9] <;>
   repeat' first | split | exact dp_ok | exact zEa | exact zC2 | exact zE6 | exact dp_key | exact IH.expr | exact IH.exprl | exact IH.unary | exact IH.post | exact IH.postl | exact IH.prim | exact IH.call | exact IH.args | exact IH.brack | (refine dp_deeper fun _ => ?_) | (refine zE7 ?_ fun _ _ => ?_)
theorem dp_typ {i d : Nat} : DP (typS ts en i d) d := by
 unfold typS
 repeat' first | split | exact dp_ok | exact zEa | exact zC2 | exact zE6 | (refine zE7 ?_ fun _ _ => ?_)
theorem dp_part {op i d : Nat} : DP (partS ts en op i d) d := by
 unfold partS
 repeat' first | split | exact dp_ok | exact zEa | exact zC2 | exact zE6 | exact dp_typ | (refine zE7 ?_ fun _ _ => ?_)
theorem dp_fields : ∀ (n : Nat) {i d : Nat} {acc : List Tree}, DP (zCi ts en n i d acc) d
 | 0, _, _, _ => dp_out
 | n + 1, i, d, acc => by
  unfold zCi
  repeat' first | split | exact dp_ok | exact zEa | exact zC2 | exact zE6 | exact dp_part | exact dp_fields n | (refine zE7 ?_ fun _ _ => ?_)
theorem dp_params : ∀ (n : Nat) {i d : Nat} {acc : List Tree}, DP (zB8 ts en n i d acc) d
 | 0, _, _, _ => dp_out
 | n + 1, i, d, acc => by
  unfold zB8
  repeat' first | split | exact dp_ok | exact zEa | exact zC2 | exact zE6 | exact dp_part | exact dp_params n | (refine zE7 ?_ fun _ _ => ?_)
theorem dp_change {n i d : Nat} : DP (zCj ts en n i d) d := by
 have IH := de_all (ts := ts) (en := en) n
 unfold zCj
 repeat' first | split | exact dp_ok | exact zEa | exact zC2 | exact zE6 | exact IH.expr | exact IH.post | (refine zE7 ?_ fun _ _ => ?_)
theorem dp_simple {n i d : Nat} : DP (zCp ts en n i d) d := by
 have IH := de_all (ts := ts) (en := en) n
 unfold zCp
 repeat' first | split | exact dp_ok | exact zEa | exact zC2 | exact zE6 | exact dp_change | exact IH.expr | exact IH.brack | (refine zE7 ?_ fun _ _ => ?_)
structure DS (ts : List Tok) (en n : Nat) : Prop where
 stmt : ∀ {i d}, DP (stmtS ts en n i d) d
 branch : ∀ {i d}, DP (zBu ts en n i d) d
 block : ∀ {i d}, DP (zB0 ts en n i d) d
 stmts : ∀ {i d acc}, DP (zCd ts en n i d acc) d
theorem ds_all : ∀ n, DS ts en n := by
 intro n
 induction n with
 | zero => constructor <;> intros <;> simp only [stmtS, zBu, zB0, zCd] <;> exact dp_out
 | succ n IH =>
  have E := de_all (ts := ts) (en := en) n
  constructor <;> intros <;> simp only [stmtS, zBu, zB0, zCd] <;>
   repeat' first | split | exact dp_ok | exact zEa | exact zC2 | exact zE6 | exact dp_simple | exact E.expr | exact IH.stmt | exact IH.branch | exact IH.block | exact IH.stmts | (refine dp_deeper fun _ => ?_) | (refine zE7 ?_ fun _ _ => ?_)
theorem dp_decl {n i d : Nat} : DP (declS ts en n i d) d := by
 have IH := ds_all (ts := ts) (en := en) n
 unfold declS zC9 funcS
 repeat' first | split | exact dp_ok | exact zEa | exact zC2 | exact zE6 | exact dp_part | exact dp_typ | exact dp_params n | exact dp_fields n | exact IH.block | (refine zE7 ?_ fun _ _ => ?_)
end
end Go.Pa
namespace Go.Pa
open Go.Ev
theorem zEw {p : UInt8 → Bool} (hp : p 10 = false) : ∀ {u v : Str}, (u ++ 10 :: v).takeWhile p = u.takeWhile p
 | [], v => by rw [List.nil_append, List.takeWhile_cons, hp]; rfl
 | c :: u, v => by
  rw [List.cons_append, List.takeWhile_cons, List.takeWhile_cons]
  split
  ·rw [zEw hp]
  ·rfl
theorem ahead_nl {p : UInt8 → Bool} (hp : p 10 = false) {u v : Str} : aheadN p (u ++ 10 :: v) = aheadN p u := by unfold aheadN; rw [zEw hp]
theorem pre_nl : ∀ {x u v : Str}, 10 ∉ x → x.isPrefixOf (u ++ 10 :: v) = x.isPrefixOf u
 | [], u, v, _ => by cases u <;> rfl
 | c :: x, [], v, h => by
  simp only [List.nil_append, List.isPrefixOf, Bool.and_eq_false_imp, beq_iff_eq]
  intro e
  exact absurd (by rw [e]; simp) h
 | c :: x, d :: u, v, h => by
  simp only [List.cons_append, List.isPrefixOf]
  rw [pre_nl (fun hm => h (by simp [hm]))]
theorem zKv {α : Type} {p q : α → Bool} : ∀ {l : List α}, (∀ x ∈ l, p x = q x) → l.find? p = l.find? q
 | [], _ => rfl
 | x :: l, h => by rw [List.find?_cons, List.find?_cons, h x (by simp), zKv fun y hy => h y (by simp [hy])]
theorem nextT_nl {u v : Str} (hu : u ≠ []) : nextT (u ++ 10 :: v) = nextT u := by
 cases u with
 | nil => exact absurd rfl hu
 | cons c u =>
  have hw : wordT (c :: u ++ 10 :: v) = wordT (c :: u) := by unfold wordT; rw [zEw (by decide)]
  have hn : numT (c :: u ++ 10 :: v) = numT (c :: u) := by
   unfold numT
   rw [zEw (by decide), ahead_nl (by decide), List.drop_append_of_le_length zB7]
   cases h : (c :: u).drop (aheadN zBf (c :: u)) with
   | nil => rfl
   | cons x y => rfl
  have hs : signT (c :: u ++ 10 :: v) = signT (c :: u) := by
   unfold signT
   have hall : ∀ y ∈ lexSigns, (10 : UInt8) ∉ y := by decide
   rw [zKv (q := fun x => x.isPrefixOf (c :: u)) fun x hx => pre_nl (hall x hx)]
  show (if zCl c then wordT (c :: u ++ 10 :: v) else if zBf c then numT (c :: u ++ 10 :: v) else signT (c :: u ++ 10 :: v)) = _
  rw [hw, hn, hs]; rfl
theorem zKc {w : Str} (h : ([47, 47] : Str).isPrefixOf w = true) : 1 ≤ aheadN notNl w := by
 cases w with
 | nil => cases h
 | cons c r =>
  simp only [List.isPrefixOf, Bool.and_eq_true, beq_iff_eq] at h
  obtain ⟨rfl, _⟩ := h
  exact zCw (by decide)
theorem zKh : ∀ (k k' : Nat) (s : Str), s.length < k → s.length < k' → skipL k s = skipL k' s
 | 0, _, s, h, _ => by omega
 | k + 1, 0, s, _, h => by omega
 | k + 1, k' + 1, s, h, h' => by
  unfold skipL
  split
  ·rename_i hp
   have h1 := zKc hp
   have h2 := zB7 (p := notNl) (s := s.drop (aheadN zAl s))
   have h3 := zB7 (p := zAl) (s := s)
   simp only [List.length_drop] at h2
   rw [zKh k k' _ (by simp only [List.length_drop]; omega) (by simp only [List.length_drop]; omega)]
  ·rfl
theorem zFl (s : Str) : skipS s = if ([47, 47] : Str).isPrefixOf (s.drop (aheadN zAl s)) then aheadN zAl s + (aheadN notNl (s.drop (aheadN zAl s)) + skipS ((s.drop (aheadN zAl s)).drop (aheadN notNl (s.drop (aheadN zAl s))))) else aheadN zAl s := by
 show skipL (s.length + 1) s = _
 rw [skipL]
 split
 ·rename_i hp
  have h1 := zKc hp
  have h2 := zB7 (p := notNl) (s := s.drop (aheadN zAl s))
  have h3 := zB7 (p := zAl) (s := s)
  simp only [List.length_drop] at h2
  rw [zKh s.length _ _ (by simp only [List.length_drop]; omega) (Nat.lt_succ_self _)]
  rfl
 ·rfl
theorem zFw : ∀ {u v : Str}, aheadN zAl (u ++ 10 :: v) = if aheadN zAl u = u.length then u.length + 1 + aheadN zAl v else aheadN zAl u
 | [], v => by
  unfold aheadN
  rw [List.nil_append, List.takeWhile_cons, if_pos (by decide), List.takeWhile_nil]
  simp; omega
 | c :: u, v => by
  have ih := zFw (u := u) (v := v)
  unfold aheadN at ih ⊢
  rw [List.cons_append, List.takeWhile_cons, List.takeWhile_cons]
  split
  ·simp only [List.length_cons]
   rw [ih]
   split <;> split <;> omega
  ·simp
theorem skipS_nl : ∀ (n : Nat) {u v : Str}, u.length ≤ n → skipS (u ++ 10 :: v) = if skipS u = u.length then u.length + 1 + skipS v else skipS u := by
 intro n
 induction n with
 | zero =>
  intro u v h
  obtain rfl : u = [] := List.eq_nil_of_length_eq_zero (by omega)
  have e0 : skipS [] = 0 := rfl
  rw [e0, if_pos (show 0 = ([] : Str).length from rfl), zFl (([] : Str) ++ 10 :: v), zFl v, zFw]
  have e1 : aheadN zAl [] = 0 := rfl
  rw [e1, if_pos (show 0 = ([] : Str).length from rfl)]
  have e2 : (([] : Str) ++ 10 :: v).drop (([] : Str).length + 1 + aheadN zAl v) = v.drop (aheadN zAl v) := by
   show (10 :: v).drop (0 + 1 + aheadN zAl v) = _
   rw [show 0 + 1 + aheadN zAl v = aheadN zAl v + 1 by omega]; rfl
  rw [e2]
  split <;> simp <;> omega
 | succ n ih =>
  intro u v h
  have ha := zB7 (p := zAl) (s := u)
  by_cases hal : aheadN zAl u = u.length
  ·have e0 : skipS u = u.length := by
    rw [zFl, hal, List.drop_length]; rfl
   rw [e0, if_pos rfl, zFl (u ++ 10 :: v), zFl v, zFw, if_pos hal]
   have e2 : (u ++ 10 :: v).drop (u.length + 1 + aheadN zAl v) = v.drop (aheadN zAl v) := by
    rw [show u.length + 1 + aheadN zAl v = u.length + (1 + aheadN zAl v) by omega, List.drop_append, List.drop_eq_nil_of_le (by omega), List.nil_append, show u.length + (1 + aheadN zAl v) - u.length = aheadN zAl v + 1 by omega]; rfl
   rw [e2]
   split <;> omega
  ·have hlt : aheadN zAl u < u.length := by omega
   rw [zFl (u ++ 10 :: v), zFw, if_neg hal, List.drop_append_of_le_length ha, pre_nl (by decide), ahead_nl (by decide), zFl u]
   have hb := zB7 (p := notNl) (s := u.drop (aheadN zAl u))
   rw [List.drop_append_of_le_length hb]
   by_cases hp : ([47, 47] : Str).isPrefixOf (u.drop (aheadN zAl u)) = true
   ·have h1 := zKc hp
    simp only [List.length_drop] at hb
    rw [if_pos hp, if_pos hp, ih (by simp only [List.length_drop]; omega)]
    simp only [List.length_drop]
    split <;> split <;> omega
   ·rw [if_neg hp, if_neg hp, if_neg hal]
def zGz (o : Nat) (t : Tok) : Tok := ⟨t.kind, t.text, t.pos + o⟩
theorem zKl {a b : Str} : ∀ (k : Nat) {at_ : Nat} {acc ts : List Tok}, scanL a k at_ acc = .ok ts → at_ ≤ a.length → ∀ K, a.length - at_ < K → ∃ q, K ≤ q + (a.length - at_) ∧
  scanL (a ++ 10 :: b) K (if at_ = a.length then a.length + 1 + skipS b else at_) acc = scanL (a ++ 10 :: b) q (a.length + 1 + skipS b) ts
 | 0, at_, acc, ts, h, _, _, _ => by cases h
 | k + 1, at_, acc, ts, h, hle, K, hK => by
  unfold scanL at h
  split at h
  ·rename_i hlt
   split at h
   ·cases h
   ·rename_i he
    have he' : (nextT (a.drop at_)).2.2 = 0 := Decidable.not_not.mp he
    have hne : a.drop at_ ≠ [] := fun e => by have := congrArg List.length e; simp at this; omega
    obtain ⟨p1, p2, _⟩ := zIy he'
    simp only [List.length_drop] at p2
    obtain ⟨w, hw⟩ : ∃ w, w = nextT (a.drop at_) := ⟨_, rfl⟩
    rw [← hw] at h he p1 p2
    have p4 := zDt ((a.drop (at_ + w.2.1.length)).length + 1) (a.drop (at_ + w.2.1.length))
    have p5 : skipS (a.drop (at_ + w.2.1.length)) ≤ a.length - (at_ + w.2.1.length) := by unfold skipS; simp only [List.length_drop] at p4 ⊢; exact p4
    cases K with
    | zero => omega
    | succ K =>
     obtain ⟨q, hq, e⟩ := zKl k h (by omega) K (by omega)
     refine ⟨q, by omega, ?_⟩
     rw [← e, if_neg (by omega), scanL]
     rw [if_pos (by simp; omega), List.drop_append_of_le_length (by omega), nextT_nl hne, ← hw, if_neg he]
     congr 1
     rw [List.drop_append_of_le_length (by omega), skipS_nl _ (Nat.le_refl _)]
     simp only [List.length_drop]
     split <;> split <;> omega
  ·injection h with h; subst h
   exact ⟨K, by omega, by rw [if_pos (by omega)]⟩
theorem zJb {a b : Str} {pre : List Tok} : ∀ (k : Nat) {at_ : Nat} {acc ts : List Tok}, scanL b k at_ acc = .ok ts → ∀ K, k ≤ K →
  scanL (a ++ 10 :: b) K (at_ + (a.length + 1)) (pre ++ acc.map (zGz (a.length + 1))) = .ok (pre ++ ts.map (zGz (a.length + 1)))
 | 0, at_, acc, ts, h, _, _ => by cases h
 | k + 1, at_, acc, ts, h, K, hK => by
  cases K with
  | zero => omega
  | succ K =>
   unfold scanL at h ⊢
   have hd : ∀ j, (a ++ 10 :: b).drop (j + (a.length + 1)) = b.drop j := fun j => by
    rw [List.drop_append, List.drop_eq_nil_of_le (by omega), List.nil_append, show j + (a.length + 1) - a.length = j + 1 by omega]; rfl
   split at h
   ·rename_i hlt
    split at h
    ·cases h
    ·rename_i he
     rw [if_pos (by simp; omega), hd, if_neg he, show at_ + (a.length + 1) + (nextT (b.drop at_)).2.1.length = at_ + (nextT (b.drop at_)).2.1.length + (a.length + 1) by omega, hd,
      show at_ + (nextT (b.drop at_)).2.1.length + (a.length + 1) + skipS (b.drop (at_ + (nextT (b.drop at_)).2.1.length)) = at_ + (nextT (b.drop at_)).2.1.length + skipS (b.drop (at_ + (nextT (b.drop at_)).2.1.length)) + (a.length + 1) by omega]
     have := zJb (a := a) (pre := pre) k h K (by omega)
     rw [List.map_append, ← List.append_assoc] at this
     exact this
   ·rename_i hge
    injection h with h; subst h
    rw [if_neg (by simp; omega)]
theorem scan_join {a b : Str} {ta tb : List Tok} (ha : scanS a = .ok ta) (hb : scanS b = .ok tb) (hl : a.length + 1 + b.length ≤ 4096) : scanS (a ++ 10 :: b) = .ok (ta ++ tb.map (zGz (a.length + 1))) := by
 unfold scanS at ha hb ⊢
 split at ha
 ·cases ha
 split at hb
 ·cases hb
 have hlen : (a ++ 10 :: b).length = a.length + 1 + b.length := by simp; omega
 rw [if_neg (by omega)]
 have hs : skipS (a ++ 10 :: b) = if skipS a = a.length then a.length + 1 + skipS b else skipS a := skipS_nl _ (Nat.le_refl _)
 have ha0 : skipS a ≤ a.length := zDt _ _
 obtain ⟨q, hq, e⟩ := zKl (b := b) _ ha ha0 ((a ++ 10 :: b).length + 1) (by omega)
 rw [hs, e]
 have := zJb (a := a) (pre := ta) _ hb q (by omega)
 rw [show a.length + 1 + skipS b = skipS b + (a.length + 1) by omega]
 simpa using this
end Go.Pa
namespace Go.Pa
open Go.Ev
def PR.app (pre : List Tree) : PR (List Tree) → PR (List Tree)
 | .ok ks i d => .ok (pre ++ ks) i d
 | .err p e => .err p e
 | .out => .out
section
variable {ts ts' : List Tok} {en en' : Nat}
theorem prog_acc {m : Nat} {pre : List Tree} : ∀ (k : Nat) {i d : Nat} {acc : List Tree}, progL ts en k m i d (pre ++ acc) = (progL ts en k m i d acc).app pre
 | 0, _, _, _ => rfl
 | k + 1, i, d, acc => by
  unfold progL
  split
  ·cases h : declS ts en m i d with
   | ok t i1 d1 =>
    show progL ts en k m i1 d1 (pre ++ acc ++ [t]) = _
    rw [List.append_assoc, prog_acc k]; rfl
   | err p e => rfl
   | out => rfl
  ·rfl
theorem lo_prog {m : Nat} (ag : Ag ts ts' en en' ts.length) (hl : ts.length ≤ ts'.length) : ∀ (k : Nat) {i d : Nat} {acc ks : List Tree} {i' d' : Nat}, progL ts en k m i d acc = .ok ks i' d' → i ≤ ts.length → ∀ K, ts.length - i < K → ∃ q, K ≤ q + (ts.length - i) ∧ progL ts' en' K m i d acc = progL ts' en' q m ts.length d ks
 | 0, i, d, acc, ks, i', d', h, _, _, _ => by cases h
 | k + 1, i, d, acc, ks, i', d', h, hi, K, hK => by
  unfold progL at h
  split at h
  ·rename_i hlt
   obtain ⟨t, i1, d1, h1, h3⟩ := PR.bind_eq h
   have h2 := zL3 h1
   have h4 := dp_decl _ _ _ h1
   subst h4
   cases K with
   | zero => omega
   | succ K =>
    obtain ⟨q, hq, e⟩ := lo_prog ag hl k h3 h2.2 K (by omega)
    refine ⟨q, by omega, ?_⟩
    rw [← e]
    show progL ts' en' (K + 1) m i d1 acc = _
    rw [progL, if_pos (by omega), lo_decl h1 (ag.less h2.2)]; rfl
  ·injection h with h1 h2 h3
   subst h1
   obtain rfl : i = ts.length := by omega
   exact ⟨K, by omega, rfl⟩
end
theorem now_left {ta tb : List Tok} {en en' : Nat} : Ag ta (ta ++ tb) en en' ta.length := by
 intro j hj
 rw [zHm (by simp; omega), zHm hj, List.getElem_append_left hj]
theorem now_right {ta tb : List Tok} {en o : Nat} : Same tb (ta ++ tb.map (zGz o)) en (en + o) ta.length (fun p => p + o) := by
 have key : ∀ j, now (ta ++ tb.map (zGz o)) (en + o) (j + ta.length) = zGz o (now tb en j) := by
  intro j
  rcases Nat.lt_or_ge j tb.length with h | h
  ·rw [zHm (by simp; omega), zHm h, List.getElem_append_right (by omega)]
   simp only [Nat.add_sub_cancel, List.getElem_map]
  ·rw [zD8 (by simp; omega), zD8 (by omega)]; rfl
 exact ⟨fun j => by rw [key]; rfl, fun j => by rw [key]; rfl, fun j => by rw [key]; rfl, fun j => by simp; omega⟩
theorem prog_mono {ts : List Tok} {en m : Nat} : ∀ (k : Nat) {i d : Nat} {acc ks : List Tree} {i' d' : Nat}, progL ts en k m i d acc = .ok ks i' d' → ∀ k', k ≤ k' → progL ts en k' m i d acc = .ok ks i' d'
 | 0, i, d, acc, ks, i', d', h, _, _ => by cases h
 | k + 1, i, d, acc, ks, i', d', h, k', hk => by
  cases k' with
  | zero => omega
  | succ k' =>
   unfold progL at h ⊢
   split at h
   ·rename_i hc
    rw [if_pos hc]
    obtain ⟨t, i1, d1, h1, h3⟩ := PR.bind_eq h
    exact zAs h1 (prog_mono k h3 k' (by omega))
   ·rename_i hc; rw [if_neg hc]; exact h
theorem prog_join {ta tb : List Tok} {ena enb o M na nb K : Nat} {ka kb : List Tree} {i j d d' : Nat} (ha : progL ta ena na M 0 0 [] = .ok ka i d) (hb : progL tb enb nb M 0 0 [] = .ok kb j d') (hK : nb + ta.length < K) :
  ∃ i' d', progL (ta ++ tb.map (zGz o)) (enb + o) K M 0 0 [] = .ok (ka ++ mapTs (fun p => p + o) kb) i' d' := by
 obtain ⟨q, hq, e⟩ := lo_prog (ts' := ta ++ tb.map (zGz o)) (en' := enb + o) now_left (by simp) na ha (Nat.zero_le _) K (by omega)
 have hb' := prog_mono nb hb q (by omega)
 have e2 := eq_prog (now_right (ta := ta) (tb := tb) (en := enb) (o := o)) (m := M) q (i := 0) (d := 0) (acc := [])
 rw [hb', Nat.zero_add] at e2
 have e3 := prog_acc (ts := ta ++ tb.map (zGz o)) (en := enb + o) (m := M) (pre := ka) q (i := ta.length) (d := 0) (acc := [])
 rw [List.append_nil] at e3
 rw [e, e3]
 exact ⟨j + ta.length, d', by rw [show progL (ta ++ tb.map (zGz o)) (enb + o) q M ta.length 0 [] = _ from e2]; rfl⟩
end Go.Pa
namespace Go.Ev
open Go Go.Pa
section
variable {tab : Nat → Option AFunc} (H : PT tab)
abbrev bare (t : Tree) : Tree := mapT (fun _ => 0) t
theorem bare_kids {ks ks' : List Tree} (h : mapTs (fun _ => 0) ks = mapTs (fun _ => 0) ks') : ks.length = ks'.length ∧ ∀ (i : Nat) (h1 : i < ks.length) (h2 : i < ks'.length), bare ks[i] = bare ks'[i] := by
 induction ks generalizing ks' with
 | nil =>
  cases ks' with
  | nil => exact ⟨rfl, fun i h => by cases h⟩
  | cons => cases h
 | cons k ks ih =>
  cases ks' with
  | nil => cases h
  | cons k' ks' =>
   have h0 : bare k :: mapTs (fun _ => 0) ks = bare k' :: mapTs (fun _ => 0) ks' := h
   injection h0 with e1 e2
   obtain ⟨e3, e4⟩ := ih e2
   refine ⟨by simp [e3], fun i h1 h2 => ?_⟩
   cases i with
   | zero => exact e1
   | succ i => exact e4 i (by simpa using h1) (by simpa using h2)
include H in
theorem alike_gp : ∀ (t : Tree) {h : AH} {F F' : Nat → Prop} {u u' : AV} {t' : Tree}, bare t = bare t' → TreeR h F u t → TreeR h F' u' t' → GP tab 19 [.agg [u], .agg [u']] h fun v h1 => v = .bool true ∧ More h h1 := by
 intro t
 induction t using Tree.ind with
 | h op name typ n pos kids IH =>
 intro h F F' u u' t' he x y
 obtain ⟨op', name', typ', n', pos', kids'⟩ := t'
 have he0 : Tree.mk op name typ n 0 (mapTs (fun _ => 0) kids) = Tree.mk op' name' typ' n' 0 (mapTs (fun _ => 0) kids') := he
 injection he0 with e1 e2 e3 e4 _ e5
 subst e1; subst e2; subst e3; subst e4
 obtain ⟨el, ek⟩ := bare_kids e5
 have lsm : kids.length ≤ 1000000 := x.small
 obtain ⟨ui, rfl, hu1, hu2⟩ := x.ptr
 obtain ⟨uj, rfl, hj1, hj2⟩ := y.ptr
 have i0 : zAh [.agg [.ptr ui 0], .agg [.ptr uj 0]] = zAd [.agg [.ptr ui 0], .agg [.ptr uj 0]] := rfl
 refine GE.gp (ge_of H.t19 rfl ?_) (E := fun _ _ => False) fun _ _ hh => hh
 refine zAc (zAb fun Q1 hQ => ?_)
 simp (disch := omega) only [EL, ↓K3, ↓K1, reduceIte, Nat.reduceEqDiff, Nat.reduceAdd, Nat.reduceLeDiff, i0]
 refine hQ _ ?_
 clear hQ Q1
 have m1 : More h ((h.add (.cells (zAd [.ptr ui 0]) 1 none false)).add (.cells (zAd [.ptr uj 0]) 1 none false)) := (More.add _ _).trans (More.add _ _)
 have n1 : ((h.add (.cells (zAd [.ptr ui 0]) 1 none false)).add (.cells (zAd [.ptr uj 0]) 1 none false)).next = h.next + 2 := rfl
 have ga1 : ((h.add (.cells (zAd [.ptr ui 0]) 1 none false)).add (.cells (zAd [.ptr uj 0]) 1 none false)).mem.get h.next = some (.cells (zAd [.ptr ui 0]) 1 none false) := by
  rw [AH.add_mem, T.get_put_ne _ _ _ _ (by show h.next + 1 ≠ h.next; omega), AH.add_mem, T.get_put_self]
 have gb1 : ((h.add (.cells (zAd [.ptr ui 0]) 1 none false)).add (.cells (zAd [.ptr uj 0]) 1 none false)).mem.get (h.next + 1) = some (.cells (zAd [.ptr uj 0]) 1 none false) := by
  rw [AH.add_mem]; exact T.get_put_self _ _ _
 generalize ((h.add (.cells (zAd [.ptr ui 0]) 1 none false)).add (.cells (zAd [.ptr uj 0]) 1 none false)) = h1 at *
 have x1 : TreeR h1 F (.ptr ui 0) (.mk op name typ n pos kids) := TreeR.keep m1.stay (fun _ h _ => h) x
 have y1 : TreeR h1 F' (.ptr uj 0) (.mk op name typ n pos' kids') := TreeR.keep m1.stay (fun _ h _ => h) y
 simp only [zAa]
 have l2 : (T.put (some (.bool false)) (T.put (some (.ptr (h.next + 1) 0)) (T.put (some (.ptr h.next 0)) (zAd [.agg [.ptr ui 0], .agg [.ptr uj 0]]) 2) 3) 8).get 2 = some (.ptr h.next 0) := by simp +decide only [EL, reduceIte]
 have l3 : (T.put (some (.bool false)) (T.put (some (.ptr (h.next + 1) 0)) (T.put (some (.ptr h.next 0)) (zAd [.agg [.ptr ui 0], .agg [.ptr uj 0]]) 2) 3) 8).get 3 = some (.ptr (h.next + 1) 0) := by simp +decide only [EL, reduceIte]
 generalize (T.put (some (.bool false)) (T.put (some (.ptr (h.next + 1) 0)) (T.put (some (.ptr h.next 0)) (zAd [.agg [.ptr ui 0], .agg [.ptr uj 0]]) 2) 3) 8) = loc at *
 refine zAc ?_
 refine zAc (zAb fun Q1 hQ => ?_)
 simp (disch := omega) only [EL, ↓K3, ↓K1, reduceIte, Nat.reduceEqDiff, Nat.reduceAdd, Nat.reduceLeDiff, l2, l3, ga1, gb1, zAe]
 refine (nop_gp H x1).to fun v h2 q => ?_
 obtain ⟨rfl, m2⟩ := q
 have n2 := m2.next
 have ga2 := (m2.keep h.next (by omega)).trans ga1
 have gb2 := (m2.keep (h.next + 1) (by omega)).trans gb1
 have x2 : TreeR h2 F (.ptr ui 0) (.mk op name typ n pos kids) := TreeR.keep m2.stay (fun _ h _ => h) x1
 have y2 : TreeR h2 F' (.ptr uj 0) (.mk op name typ n pos' kids') := TreeR.keep m2.stay (fun _ h _ => h) y1
 simp only [Tree.op, Tree.name, Tree.typ, Tree.n, Tree.kids]
 simp (disch := omega) only [EL, ↓K3, ↓K1, reduceIte, Nat.reduceEqDiff, Nat.reduceAdd, Nat.reduceLeDiff, l2, l3, ga2, gb2, zAe, zA6, zBl, zA7, zA5, zAw]
 refine (nop_gp H y2).to fun v h3 q => ?_
 obtain ⟨rfl, m3⟩ := q
 have n3 := m3.next
 have ga3 := (m3.keep h.next (by omega)).trans ga2
 have gb3 := (m3.keep (h.next + 1) (by omega)).trans gb2
 have x3 : TreeR h3 F (.ptr ui 0) (.mk op name typ n pos kids) := TreeR.keep m3.stay (fun _ h _ => h) x2
 have y3 : TreeR h3 F' (.ptr uj 0) (.mk op name typ n pos' kids') := TreeR.keep m3.stay (fun _ h _ => h) y2
 simp only [Tree.op, Tree.name, Tree.typ, Tree.n, Tree.kids]
 simp (disch := omega) only [EL, ↓K3, ↓K1, reduceIte, Nat.reduceEqDiff, Nat.reduceAdd, Nat.reduceLeDiff, l2, l3, ga3, gb3, zAe, zA6, zBl, zA7, zA5, zAw]
 refine (zIx H x3).to fun v h4 q => ?_
 obtain ⟨rfl, m4⟩ := q
 have n4 := m4.next
 have ga4 := (m4.keep h.next (by omega)).trans ga3
 have gb4 := (m4.keep (h.next + 1) (by omega)).trans gb3
 have x4 : TreeR h4 F (.ptr ui 0) (.mk op name typ n pos kids) := TreeR.keep m4.stay (fun _ h _ => h) x3
 have y4 : TreeR h4 F' (.ptr uj 0) (.mk op name typ n pos' kids') := TreeR.keep m4.stay (fun _ h _ => h) y3
 simp only [Tree.op, Tree.name, Tree.typ, Tree.n, Tree.kids]
 simp (disch := omega) only [EL, ↓K3, ↓K1, reduceIte, Nat.reduceEqDiff, Nat.reduceAdd, Nat.reduceLeDiff, l2, l3, ga4, gb4, zAe, zA6, zBl, zA7, zA5, zAw]
 refine (zIx H y4).to fun v h5 q => ?_
 obtain ⟨rfl, m5⟩ := q
 have n5 := m5.next
 have ga5 := (m5.keep h.next (by omega)).trans ga4
 have gb5 := (m5.keep (h.next + 1) (by omega)).trans gb4
 have x5 : TreeR h5 F (.ptr ui 0) (.mk op name typ n pos kids) := TreeR.keep m5.stay (fun _ h _ => h) x4
 have y5 : TreeR h5 F' (.ptr uj 0) (.mk op name typ n pos' kids') := TreeR.keep m5.stay (fun _ h _ => h) y4
 simp only [Tree.op, Tree.name, Tree.typ, Tree.n, Tree.kids]
 simp (disch := omega) only [EL, ↓K3, ↓K1, reduceIte, Nat.reduceEqDiff, Nat.reduceAdd, Nat.reduceLeDiff, l2, l3, ga5, gb5, zAe, zA6, zBl, zA7, zA5, zAw]
 refine (ntyp_gp H x5).to fun v h6 q => ?_
 obtain ⟨rfl, m6⟩ := q
 have n6 := m6.next
 have ga6 := (m6.keep h.next (by omega)).trans ga5
 have gb6 := (m6.keep (h.next + 1) (by omega)).trans gb5
 have x6 : TreeR h6 F (.ptr ui 0) (.mk op name typ n pos kids) := TreeR.keep m6.stay (fun _ h _ => h) x5
 have y6 : TreeR h6 F' (.ptr uj 0) (.mk op name typ n pos' kids') := TreeR.keep m6.stay (fun _ h _ => h) y5
 simp only [Tree.op, Tree.name, Tree.typ, Tree.n, Tree.kids]
 simp (disch := omega) only [EL, ↓K3, ↓K1, reduceIte, Nat.reduceEqDiff, Nat.reduceAdd, Nat.reduceLeDiff, l2, l3, ga6, gb6, zAe, zA6, zBl, zA7, zA5, zAw]
 refine (ntyp_gp H y6).to fun v h7 q => ?_
 obtain ⟨rfl, m7⟩ := q
 have n7 := m7.next
 have ga7 := (m7.keep h.next (by omega)).trans ga6
 have gb7 := (m7.keep (h.next + 1) (by omega)).trans gb6
 have x7 : TreeR h7 F (.ptr ui 0) (.mk op name typ n pos kids) := TreeR.keep m7.stay (fun _ h _ => h) x6
 have y7 : TreeR h7 F' (.ptr uj 0) (.mk op name typ n pos' kids') := TreeR.keep m7.stay (fun _ h _ => h) y6
 simp only [Tree.op, Tree.name, Tree.typ, Tree.n, Tree.kids]
 simp (disch := omega) only [EL, ↓K3, ↓K1, reduceIte, Nat.reduceEqDiff, Nat.reduceAdd, Nat.reduceLeDiff, l2, l3, ga7, gb7, zAe, zA6, zBl, zA7, zA5, zAw]
 refine (nn_gp H x7).to fun v h8 q => ?_
 obtain ⟨rfl, m8⟩ := q
 have n8 := m8.next
 have ga8 := (m8.keep h.next (by omega)).trans ga7
 have gb8 := (m8.keep (h.next + 1) (by omega)).trans gb7
 have x8 : TreeR h8 F (.ptr ui 0) (.mk op name typ n pos kids) := TreeR.keep m8.stay (fun _ h _ => h) x7
 have y8 : TreeR h8 F' (.ptr uj 0) (.mk op name typ n pos' kids') := TreeR.keep m8.stay (fun _ h _ => h) y7
 simp only [Tree.op, Tree.name, Tree.typ, Tree.n, Tree.kids]
 simp (disch := omega) only [EL, ↓K3, ↓K1, reduceIte, Nat.reduceEqDiff, Nat.reduceAdd, Nat.reduceLeDiff, l2, l3, ga8, gb8, zAe, zA6, zBl, zA7, zA5, zAw]
 refine (nn_gp H y8).to fun v h9 q => ?_
 obtain ⟨rfl, m9⟩ := q
 have n9 := m9.next
 have ga9 := (m9.keep h.next (by omega)).trans ga8
 have gb9 := (m9.keep (h.next + 1) (by omega)).trans gb8
 have x9 : TreeR h9 F (.ptr ui 0) (.mk op name typ n pos kids) := TreeR.keep m9.stay (fun _ h _ => h) x8
 have y9 : TreeR h9 F' (.ptr uj 0) (.mk op name typ n pos' kids') := TreeR.keep m9.stay (fun _ h _ => h) y8
 simp only [Tree.op, Tree.name, Tree.typ, Tree.n, Tree.kids]
 simp (disch := omega) only [EL, ↓K3, ↓K1, reduceIte, Nat.reduceEqDiff, Nat.reduceAdd, Nat.reduceLeDiff, l2, l3, ga9, gb9, zAe, zA6, zBl, zA7, zA5, zAw]
 refine (zC6 H x9).to fun v h10 q => ?_
 obtain ⟨rfl, m10⟩ := q
 have n10 := m10.next
 have ga10 := (m10.keep h.next (by omega)).trans ga9
 have gb10 := (m10.keep (h.next + 1) (by omega)).trans gb9
 have x10 : TreeR h10 F (.ptr ui 0) (.mk op name typ n pos kids) := TreeR.keep m10.stay (fun _ h _ => h) x9
 have y10 : TreeR h10 F' (.ptr uj 0) (.mk op name typ n pos' kids') := TreeR.keep m10.stay (fun _ h _ => h) y9
 simp only [Tree.op, Tree.name, Tree.typ, Tree.n, Tree.kids]
 simp (disch := omega) only [EL, ↓K3, ↓K1, reduceIte, Nat.reduceEqDiff, Nat.reduceAdd, Nat.reduceLeDiff, l2, l3, ga10, gb10, zAe, zA6, zBl, zA7, zA5, zAw]
 refine (zC6 H y10).to fun v h11 q => ?_
 obtain ⟨rfl, m11⟩ := q
 have n11 := m11.next
 have ga11 := (m11.keep h.next (by omega)).trans ga10
 have gb11 := (m11.keep (h.next + 1) (by omega)).trans gb10
 have x11 : TreeR h11 F (.ptr ui 0) (.mk op name typ n pos kids) := TreeR.keep m11.stay (fun _ h _ => h) x10
 have y11 : TreeR h11 F' (.ptr uj 0) (.mk op name typ n pos' kids') := TreeR.keep m11.stay (fun _ h _ => h) y10
 simp only [Tree.op, Tree.name, Tree.typ, Tree.n, Tree.kids]
 simp (disch := omega) only [EL, ↓K3, ↓K1, reduceIte, Nat.reduceEqDiff, Nat.reduceAdd, Nat.reduceLeDiff, l2, l3, ga11, gb11, zAe, zA6, zBl, zA7, zA5, zAw]
 rw [show (!decide (kids.length = kids'.length)) = false by simp [el]]
 refine hQ _ ?_
 clear hQ Q1
 try simp only [zAa]
 refine wc_no (by simp +decide only [EL, reduceIte]) ?_
 refine zAm ?_
 try simp only [zAa]
 have m011 : More h h11 := (((((((((m1.trans m2).trans m3).trans m4).trans m5).trans m6).trans m7).trans m8).trans m9).trans m10).trans m11
 have l2' : (T.put (some (.bool false)) loc 4).get 2 = some (.ptr h.next 0) := by simp +decide only [EL, reduceIte, l2]
 have l3' : (T.put (some (.bool false)) loc 4).get 3 = some (.ptr (h.next + 1) 0) := by simp +decide only [EL, reduceIte, l3]
 generalize T.put (some (.bool false)) loc 4 = loc1 at *
 refine zFz (fun l d1 h2 => d1 = [] ∧ More h h2) ?_ ?_
 ·refine zAc (zAb fun Q1 hQ => ?_)
  simp (disch := omega) only [EL, ↓K3, ↓K1, reduceIte, Nat.reduceEqDiff, Nat.reduceAdd, Nat.reduceLeDiff]
  refine hQ _ ?_
  clear hQ Q1
  try simp only [zAa]
  refine zAy ?_
  refine zCg (fun m l d1 h2 => ∃ k : Nat, m = kids.length - k ∧ k ≤ kids.length ∧ d1 = [] ∧ More h h2 ∧ h2.mem.get h.next = some (.cells (zAd [.ptr ui 0]) 1 none false) ∧ h2.mem.get (h.next + 1) = some (.cells (zAd [.ptr uj 0]) 1 none false) ∧ h.next + 1 < h2.next ∧ TreeR h2 F (.ptr ui 0) (.mk op name typ n pos kids) ∧ TreeR h2 F' (.ptr uj 0) (.mk op name typ n pos' kids') ∧ l.get 2 = some (.ptr h.next 0) ∧ l.get 3 = some (.ptr (h.next + 1) 0) ∧ l.get 5 = some (.int .i64 (k : Int))) ?_ (kids.length - 0) ?_
  ·rintro m l d1 h2 ⟨k, rfl, hk, rfl, m2, ga2, gb2, n2, x2, y2, l2, l3, l5⟩
   refine zAc ?_
   refine zAc (zAb fun Q1 hQ => ?_)
   simp (disch := omega) only [EL, ↓K3, ↓K1, reduceIte, Nat.reduceEqDiff, Nat.reduceAdd, Nat.reduceLeDiff, l2, l5, ga2, zAe]
   refine (zC6 H x2).to fun v h3 q => ?_
   obtain ⟨rfl, m3⟩ := q
   have n3 := m3.next
   have ga3 := (m3.keep h.next (by omega)).trans ga2
   have gb3 := (m3.keep (h.next + 1) (by omega)).trans gb2
   have x3 : TreeR h3 F (.ptr ui 0) (.mk op name typ n pos kids) := TreeR.keep m3.stay (fun _ h _ => h) x2
   have y3 : TreeR h3 F' (.ptr uj 0) (.mk op name typ n pos' kids') := TreeR.keep m3.stay (fun _ h _ => h) y2
   simp only [Tree.kids]
   simp (disch := omega) only [EL, ↓K3, ↓K1, reduceIte, Nat.reduceEqDiff, Nat.reduceAdd, Nat.reduceLeDiff]
   refine hQ _ ?_
   clear hQ Q1
   try simp only [zAa]
   refine wc_if (k < kids.length) (by simp +decide only [EL, reduceIte]) (fun hlt => ?_) (fun hge => ?_)
   ·refine zAm ?_
    try simp only [zAa]
    refine zAc ?_
    refine zAy ?_
    refine zAc (zAb fun Q1 hQ => ?_)
    simp (disch := omega) only [EL, ↓K3, ↓K1, reduceIte, Nat.reduceEqDiff, Nat.reduceAdd, Nat.reduceLeDiff, l2, l3, l5, ga3, gb3, zAe]
    refine (zKq H x3 hlt).to fun v h4 q => ?_
    obtain ⟨m4, w, rfl, tw⟩ := q
    have n4 := m4.next
    have ga4 := (m4.keep h.next (by omega)).trans ga3
    have gb4 := (m4.keep (h.next + 1) (by omega)).trans gb3
    have x4 : TreeR h4 F (.ptr ui 0) (.mk op name typ n pos kids) := TreeR.keep m4.stay (fun _ h _ => h) x3
    have y4 : TreeR h4 F' (.ptr uj 0) (.mk op name typ n pos' kids') := TreeR.keep m4.stay (fun _ h _ => h) y3
    simp only [Tree.kids] at tw
    simp (disch := omega) only [EL, ↓K3, ↓K1, reduceIte, Nat.reduceEqDiff, Nat.reduceAdd, Nat.reduceLeDiff, l3, gb4, zAe, zA6, zA7, zA5, zAw]
    refine (zKq H y4 (show k < kids'.length by omega)).to fun v h5 q => ?_
    obtain ⟨m5, w', rfl, tw'⟩ := q
    have n5 := m5.next
    have ga5 := (m5.keep h.next (by omega)).trans ga4
    have gb5 := (m5.keep (h.next + 1) (by omega)).trans gb4
    have x5 : TreeR h5 F (.ptr ui 0) (.mk op name typ n pos kids) := TreeR.keep m5.stay (fun _ h _ => h) x4
    have y5 : TreeR h5 F' (.ptr uj 0) (.mk op name typ n pos' kids') := TreeR.keep m5.stay (fun _ h _ => h) y4
    have tw5 : TreeR h5 F (.ptr w 0) kids[k] := TreeR.keep m5.stay (fun _ h _ => h) tw
    simp only [Tree.kids] at tw'
    simp (disch := omega) only [EL, ↓K3, ↓K1, reduceIte, Nat.reduceEqDiff, Nat.reduceAdd, Nat.reduceLeDiff]
    refine (IH _ (List.getElem_mem hlt) (ek k hlt (by omega)) tw5 tw').to fun v h6 q => ?_
    obtain ⟨rfl, m6⟩ := q
    have n6 := m6.next
    have ga6 := (m6.keep h.next (by omega)).trans ga5
    have gb6 := (m6.keep (h.next + 1) (by omega)).trans gb5
    have x6 : TreeR h6 F (.ptr ui 0) (.mk op name typ n pos kids) := TreeR.keep m6.stay (fun _ h _ => h) x5
    have y6 : TreeR h6 F' (.ptr uj 0) (.mk op name typ n pos' kids') := TreeR.keep m6.stay (fun _ h _ => h) y5
    simp (disch := omega) only [EL, ↓K3, ↓K1, reduceIte, Nat.reduceEqDiff, Nat.reduceAdd, Nat.reduceLeDiff]
    refine hQ _ ?_
    clear hQ Q1
    try simp only [zAa]
    refine wc_no (by simp +decide only [EL, reduceIte]) ?_
    refine zAm ?_
    try simp only [zAi, zAa]
    refine zAb fun Q1 hQ => ?_
    simp (disch := omega) only [EL, ↓K3, ↓K1, reduceIte, Nat.reduceEqDiff, Nat.reduceAdd, Nat.reduceLeDiff, l5]
    refine hQ _ ?_
    clear hQ Q1
    try simp only [zAa]
    exact ⟨kids.length - (k + 1), by omega, k + 1, rfl, hlt, trivial, ((((m2.trans m3).trans m4).trans m5).trans m6), ga6, gb6, by omega, x6, y6, by simp +decide only [EL, reduceIte, l2], by simp +decide only [EL, reduceIte, l3], by simp +decide only [EL, reduceIte]⟩
   ·refine zDe ?_
    simp only [zBg, zBd, if_true, zAa]
    exact ⟨trivial, m2.trans m3⟩
  ·exact ⟨0, rfl, Nat.zero_le _, rfl, m011, ga11, gb11, by omega, x11, y11, by simp +decide only [EL, reduceIte, l2'], by simp +decide only [EL, reduceIte, l3'], by simp +decide only [EL, reduceIte]⟩
 ·rintro l d1 h2 ⟨rfl, m2⟩
  refine zAc (zAb fun Q1 hQ => ?_)
  simp (disch := omega) only [EL, ↓K3, ↓K1, reduceIte, Nat.reduceEqDiff, Nat.reduceAdd, Nat.reduceLeDiff]
  refine hQ _ ?_
  clear hQ Q1
  refine zAj ?_
  try simp only [zAg, zAf]
  exact ⟨_, zBe (v := .bool true) (by simp +decide only [EL, reduceIte]) zAn, rfl, m2⟩
end
end Go.Ev
namespace Go.Pa
open Go.Ev
theorem mapT_mapT {φ ψ : Nat → Nat} : ∀ t : Tree, mapT φ (mapT ψ t) = mapT (fun p => φ (ψ p)) t := by
 intro t
 induction t using Tree.ind with
 | h op name typ n pos kids IH =>
  have : ∀ ks : List Tree, (∀ k ∈ ks, mapT φ (mapT ψ k) = mapT (fun p => φ (ψ p)) k) → mapTs φ (mapTs ψ ks) = mapTs (fun p => φ (ψ p)) ks := by
   intro ks
   induction ks with
   | nil => intro _; rfl
   | cons k ks ih =>
    intro h
    show mapT φ (mapT ψ k) :: mapTs φ (mapTs ψ ks) = mapT _ k :: mapTs _ ks
    rw [h k (by simp), ih fun k hk => h k (by simp [hk])]
  show Tree.mk op name typ n _ (mapTs φ (mapTs ψ kids)) = Tree.mk op name typ n _ (mapTs _ kids)
  rw [this kids IH]
theorem bare_map {φ : Nat → Nat} (t : Tree) : bare (mapT φ t) = bare t := mapT_mapT t
theorem mapTs_get {φ : Nat → Nat} : ∀ {ks : List Tree} {i : Nat} (h : i < ks.length), (mapTs φ ks)[i]'(by rw [zJo]; exact h) = mapT φ ks[i]
 | k :: ks, 0, _ => rfl
 | k :: ks, i + 1, h => mapTs_get (ks := ks) (i := i) (by simpa using h)
 | [], _, h => by cases h
theorem zKj : ∀ {a b : List Tree} {acc : Int}, zBw acc (a ++ b) = zBw (zBw acc a) b
 | [], _, _ => rfl
 | k :: a, b, acc => by show zBw _ (a ++ b) = zBw (zBw _ a) b; exact zKj
theorem sizeT_map {φ : Nat → Nat} : ∀ t : Tree, sizeT (mapT φ t) = sizeT t := by
 intro t
 induction t using Tree.ind with
 | h op name typ n pos kids IH =>
  have : ∀ (ks : List Tree) (acc : Int), (∀ k ∈ ks, sizeT (mapT φ k) = sizeT k) → zBw acc (mapTs φ ks) = zBw acc ks := by
   intro ks
   induction ks with
   | nil => intro _ _; rfl
   | cons k ks ih =>
    intro acc h
    show zBw (Go.IntKind.i64.wrap (acc + sizeT (mapT φ k))) (mapTs φ ks) = zBw (Go.IntKind.i64.wrap (acc + sizeT k)) ks
    rw [h k (by simp), ih _ fun k hk => h k (by simp [hk])]
  exact this kids 1 IH
theorem zKi {φ : Nat → Nat} : ∀ {ks : List Tree} {acc : Int}, zBw acc (mapTs φ ks) = zBw acc ks
 | [], _ => rfl
 | k :: ks, acc => by
  show zBw (Go.IntKind.i64.wrap (acc + sizeT (mapT φ k))) (mapTs φ ks) = zBw (Go.IntKind.i64.wrap (acc + sizeT k)) ks
  rw [sizeT_map]; exact zKi
theorem zG3 {x y : Int} : Go.IntKind.i64.wrap (x + Go.IntKind.i64.wrap y) = Go.IntKind.i64.wrap (x + y) := by
 unfold Go.IntKind.wrap
 simp [Go.IntKind.bits, Go.IntKind.signed]
 repeat' split
 all_goals omega
theorem zI6 {x y : Int} : Go.IntKind.i64.wrap (Go.IntKind.i64.wrap x + y) = Go.IntKind.i64.wrap (x + y) := by rw [Int.add_comm, zG3, Int.add_comm]
theorem wrap_idem {x : Int} : Go.IntKind.i64.wrap (Go.IntKind.i64.wrap x) = Go.IntKind.i64.wrap x := by have := @zG3 0 x; simpa using this
theorem zIg : ∀ {b : List Tree} {c acc : Int}, zBw (Go.IntKind.i64.wrap (c + acc)) b = Go.IntKind.i64.wrap (c + zBw acc b)
 | [], c, acc => rfl
 | k :: b, c, acc => by
  show zBw (Go.IntKind.i64.wrap (Go.IntKind.i64.wrap (c + acc) + sizeT k)) b = Go.IntKind.i64.wrap (c + zBw (Go.IntKind.i64.wrap (acc + sizeT k)) b)
  rw [zI6, show c + acc + sizeT k = c + (acc + sizeT k) by omega, ← zG3, zIg]
theorem zJa : ∀ {b : List Tree} {acc : Int}, Go.IntKind.i64.wrap acc = acc → Go.IntKind.i64.wrap (zBw acc b) = zBw acc b
 | [], _, h => h
 | k :: b, acc, _ => zJa (b := b) wrap_idem
theorem size_join {a b : List Tree} {φ : Nat → Nat} : zBw 1 (a ++ mapTs φ b) = Go.IntKind.i64.wrap (Go.IntKind.i64.wrap (zBw 1 a + zBw 1 b) - 1) := by
 rw [zKj, zKi]
 have h1 : Go.IntKind.i64.wrap (zBw 1 a - 1 + 1) = zBw 1 a := by rw [Int.sub_add_cancel]; exact zJa (by decide)
 have h2 := @zIg b (zBw 1 a - 1) 1
 rw [h1] at h2
 rw [h2, Int.sub_eq_add_neg (a := Go.IntKind.i64.wrap _), zI6]
 congr 1; omega
theorem parse_in2 {s : Str} {n m : Nat} (hn : s.length + 1 ≤ n) (hm : 10 * s.length + 10 ≤ m) : zEz n m s ≠ .out := by
 unfold zEz
 cases hs : scanS s with
 | ok ts =>
  have := (zLa hs).2.len
  exact progL_in (by omega) _ (by omega)
 | err p e => simp
 | out => exact absurd hs scanS_in
theorem parse_join {a b : Str} {M na nb K : Nat} {ka kb : List Tree} {i j d d' : Nat} (ha : zEz na M a = .ok ka i d) (hb : zEz nb M b = .ok kb j d') (hl : a.length + 1 + b.length ≤ 4096) (hK : nb + a.length < K) :
  ∃ i' d', zEz K M (a ++ 10 :: b) = .ok (ka ++ mapTs (fun p => p + (a.length + 1)) kb) i' d' := by
 unfold zEz at ha hb ⊢
 cases hsa : scanS a with
 | err p e => rw [hsa] at ha; cases ha
 | out => rw [hsa] at ha; cases ha
 | ok ta =>
  cases hsb : scanS b with
  | err p e => rw [hsb] at hb; cases hb
  | out => rw [hsb] at hb; cases hb
  | ok tb =>
   rw [hsa] at ha; rw [hsb] at hb
   rw [scan_join hsa hsb hl]
   have := (zLa hsa).2.len
   have hlen : (a ++ 10 :: b).length = b.length + (a.length + 1) := by simp; omega
   show ∃ i' d', progL _ _ _ _ _ _ _ = _
   rw [hlen]
   exact prog_join ha hb (by omega)
end Go.Pa
namespace Go.Ev
open Go Go.Pa
section
variable {tab : Nat → Option AFunc} (H : PT tab)
include H in
theorem zJh {h : AH} {n m : Nat} {s : Str} (hs : s.length ≤ 1000000) (hin : zEz n m s ≠ .out) : GP tab 9 [sv s] h fun v h1 => More h h1 ∧ ∃ (u : AV) (p e : Nat), v = .tup [.agg [u], .int .i64 (p : Int), .int .i64 (e : Int)] ∧ (e = 0 → ∃ ks i d, zEz n m s = .ok ks i d ∧ TreeR h1 (fun k => h.next ≤ k) u (.mk 1 [] [] 0 0 ks)) ∧ (e ≠ 0 → zEz n m s = .err p e ∧ u = .nilp) := by
 refine (parse_gp H hs rfl hin).mono fun v h1 q => ?_
 obtain ⟨m1, q⟩ := q
 refine ⟨m1, ?_⟩
 rcases q with ⟨ks, i, d, u, hy, rfl, tr⟩ | ⟨p, e, hy, rfl⟩
 ·exact ⟨u, 0, 0, rfl, fun _ => ⟨ks, i, d, hy, tr⟩, fun e => absurd rfl e⟩
 ·exact ⟨.nilp, p, e, rfl, fun e0 => absurd e0 (parse_nz hy), fun _ => ⟨hy, rfl⟩⟩
include H in
theorem zLh {h : AH} {a b : Str} : GP tab 6 [sv a, sv b] h fun v _ => v = .bool true := by
 have i0 : zAh [sv a, sv b] = zAd [sv a, sv b] := rfl
 refine GE.gp (ge_of H.t6 rfl ?_) (E := fun _ _ => False) fun _ _ hh => hh
 refine zAc (zAb fun Q1 hQ => ?_)
 simp (disch := omega) only [EL, ↓K3, ↓K1, reduceIte, Nat.reduceEqDiff, Nat.reduceAdd, Nat.reduceLeDiff, i0]
 refine hQ _ ?_
 clear hQ Q1
 refine zAc ?_
 refine zAc (zAb fun Q1 hQ => ?_)
 simp (disch := omega) only [EL, ↓K3, ↓K1, reduceIte, Nat.reduceEqDiff, Nat.reduceAdd, Nat.reduceLeDiff, i0]
 refine (gp_yes (Q := fun v h1 => v = .bool true ∧ h1 = h) H.t8 ⟨rfl, rfl⟩).to fun v h1 q => ?_
 obtain ⟨rfl, rfl⟩ := q
 simp (disch := omega) only [EL, ↓K3, ↓K1, reduceIte, Nat.reduceEqDiff, Nat.reduceAdd, Nat.reduceLeDiff]
 refine hQ _ ?_
 clear hQ Q1
 try simp only [zAa]
 refine wc_no (by simp +decide only [EL, reduceIte]) ?_
 refine zAm ?_
 try simp only [zAa]
 refine zAc ?_
 refine zAc (zAb fun Q1 hQ => ?_)
 have tru : ∀ (l : T AV) (h3 : AH), zDz [.val (.l 15)] (fun v _ => v = .bool true) (fun _ _ => False) (.ret (T.put (some (.bool true)) l 15) [] h3) := fun l h3 => ⟨_, zBe (v := .bool true) (by simp +decide only [EL, reduceIte]) zAn, rfl⟩
 by_cases hl : ¬ 1024 < a.length ∧ ¬ 1024 < b.length
 rotate_left
 ·by_cases h1a : 1024 < a.length
  ·simp (disch := omega) only [EL, ↓K3, ↓K1, reduceIte, Nat.reduceEqDiff, Nat.reduceAdd, Nat.reduceLeDiff, i0, h1a]
   refine hQ _ ?_
   clear hQ Q1
   try simp only [zAa]
   refine zAt (by simp +decide only [EL, reduceIte]) ?_
   refine zAc (zAb fun Q1 hQ => ?_)
   simp (disch := omega) only [EL, ↓K3, ↓K1, reduceIte, Nat.reduceEqDiff, Nat.reduceAdd, Nat.reduceLeDiff]
   refine hQ _ ?_
   clear hQ Q1
   refine zAj ?_
   try simp only [zAg, zAf]
   exact tru _ _
  ·have h1b : 1024 < b.length := by omega
   simp (disch := omega) only [EL, ↓K3, ↓K1, reduceIte, Nat.reduceEqDiff, Nat.reduceAdd, Nat.reduceLeDiff, i0, h1a, h1b]
   refine hQ _ ?_
   clear hQ Q1
   try simp only [zAa]
   refine zAt (by simp +decide only [EL, reduceIte]) ?_
   refine zAc (zAb fun Q1 hQ => ?_)
   simp (disch := omega) only [EL, ↓K3, ↓K1, reduceIte, Nat.reduceEqDiff, Nat.reduceAdd, Nat.reduceLeDiff]
   refine hQ _ ?_
   clear hQ Q1
   refine zAj ?_
   try simp only [zAg, zAf]
   exact tru _ _
 obtain ⟨hla, hlb⟩ := hl
 simp (disch := omega) only [EL, ↓K3, ↓K1, reduceIte, Nat.reduceEqDiff, Nat.reduceAdd, Nat.reduceLeDiff, i0, hla, hlb]
 refine hQ _ ?_
 clear hQ Q1
 try simp only [zAa]
 refine wc_no (by simp +decide only [EL, reduceIte]) ?_
 refine zAm ?_
 try simp only [zAa]
 obtain ⟨M, hM⟩ : ∃ M, M = 10 * (a.length + b.length + 1) + 20 := ⟨_, rfl⟩
 refine zAc (zAb fun Q1 hQ => ?_)
 simp (disch := omega) only [EL, ↓K3, ↓K1, reduceIte, Nat.reduceEqDiff, Nat.reduceAdd, Nat.reduceLeDiff, i0]
 refine (zJh H (n := a.length + 2) (m := M) (by omega) (parse_in2 (by omega) (by omega))).to fun v h2 q => ?_
 obtain ⟨m2, u, p, e, rfl, oka, era⟩ := q
 simp (disch := omega) only [EL, ↓K3, ↓K1, reduceIte, Nat.reduceEqDiff, Nat.reduceAdd, Nat.reduceLeDiff]
 refine hQ _ ?_
 clear hQ Q1
 refine zBp fun h3 n3 g3 m3 => ?_
 obtain ⟨ca, ga, ca0⟩ := g3
 simp only [zAa]
 refine zAc (zAb fun Q1 hQ => ?_)
 simp (disch := omega) only [EL, ↓K3, ↓K1, reduceIte, Nat.reduceEqDiff, Nat.reduceAdd, Nat.reduceLeDiff, i0]
 refine (zJh H (n := b.length + 2) (m := M) (by omega) (parse_in2 (by omega) (by omega))).to fun v h4 q => ?_
 obtain ⟨m4, u', p', e', rfl, okb, erb⟩ := q
 have n4 := m4.next
 have ga4 := (m4.keep h2.next (by omega)).trans ga
 simp (disch := omega) only [EL, ↓K3, ↓K1, reduceIte, Nat.reduceEqDiff, Nat.reduceAdd, Nat.reduceLeDiff]
 refine hQ _ ?_
 clear hQ Q1
 refine zBp fun h5 n5 g5 m5 => ?_
 obtain ⟨cb, gb, cb0⟩ := g5
 simp only [zAa]
 have ga5 := (m5.keep h2.next (by omega)).trans ga4
 refine zAc ?_
 refine zAc (zAb fun Q1 hQ => ?_)
 by_cases hea : e = 0
 rotate_left
 ·have hea' : ¬ (e : Int) = ((0 : Nat) : Int) := by omega
  simp (disch := omega) only [EL, ↓K3, ↓K1, reduceIte, Nat.reduceEqDiff, Nat.reduceAdd, Nat.reduceLeDiff, hea']
  refine hQ _ ?_
  clear hQ Q1
  try simp only [zAa]
  refine zAt (by simp +decide only [EL, reduceIte]) ?_
  refine zAc (zAb fun Q1 hQ => ?_)
  simp (disch := omega) only [EL, ↓K3, ↓K1, reduceIte, Nat.reduceEqDiff, Nat.reduceAdd, Nat.reduceLeDiff]
  refine hQ _ ?_
  clear hQ Q1
  refine zAj ?_
  try simp only [zAg, zAf]
  exact tru _ _
 by_cases heb : e' = 0
 rotate_left
 ·have heb' : ¬ (e' : Int) = ((0 : Nat) : Int) := by omega
  subst hea
  simp (disch := omega) only [EL, ↓K3, ↓K1, reduceIte, Nat.reduceEqDiff, Nat.reduceAdd, Nat.reduceLeDiff, heb']
  refine hQ _ ?_
  clear hQ Q1
  try simp only [zAa]
  refine zAt (by simp +decide only [EL, reduceIte]) ?_
  refine zAc (zAb fun Q1 hQ => ?_)
  simp (disch := omega) only [EL, ↓K3, ↓K1, reduceIte, Nat.reduceEqDiff, Nat.reduceAdd, Nat.reduceLeDiff]
  refine hQ _ ?_
  clear hQ Q1
  refine zAj ?_
  try simp only [zAg, zAf]
  exact tru _ _
 subst hea; subst heb
 obtain ⟨ka, ia, da, hya, tra⟩ := oka rfl
 obtain ⟨kb, ib, db, hyb, trb⟩ := okb rfl
 clear oka okb era erb
 simp (disch := omega) only [EL, ↓K3, ↓K1, reduceIte, Nat.reduceEqDiff, Nat.reduceAdd, Nat.reduceLeDiff]
 refine hQ _ ?_
 clear hQ Q1
 try simp only [zAa]
 refine wc_no (by simp +decide only [EL, reduceIte]) ?_
 refine zAm ?_
 try simp only [zAa]
 obtain ⟨iz, dz, hyz⟩ := parse_join (K := a.length + b.length + 3) hya hyb (by omega) (by omega)
 have add1 : ∀ h' : AH, oBin .add (.c (sv a)) (.c (sv [10])) .leaf [] h' = .val (sv (a ++ [10])) h' := fun _ => add_sv (by simp; omega)
 have add2 : ∀ h' : AH, oBin .add (.c (sv (a ++ [10]))) (.c (sv b)) .leaf [] h' = .val (sv (a ++ 10 :: b)) h' := fun _ => by rw [add_sv (by simp; omega), List.append_assoc]; rfl
 refine zAc (zAb fun Q1 hQ => ?_)
 simp (disch := omega) only [EL, ↓K3, ↓K1, reduceIte, Nat.reduceEqDiff, Nat.reduceAdd, Nat.reduceLeDiff, i0, add1, add2]
 refine (zJh H (n := a.length + b.length + 3) (m := M) (by simp; omega) (by rw [hyz]; simp)).to fun v h6 q => ?_
 obtain ⟨m6, uz, pz, ez, rfl, okz, erz⟩ := q
 have n6 := m6.next
 have hez : ez = 0 := by
  rcases Nat.decEq ez 0 with h | h
  ·have := (erz h).1; rw [hyz] at this; cases this
  ·exact h
 subst hez
 obtain ⟨kz, iz', dz', hyz', trz⟩ := okz rfl
 rw [hyz] at hyz'
 injection hyz' with hz1
 subst hz1
 clear okz erz
 simp (disch := omega) only [EL, ↓K3, ↓K1, reduceIte, Nat.reduceEqDiff, Nat.reduceAdd, Nat.reduceLeDiff]
 refine hQ _ ?_
 clear hQ Q1
 refine zBp fun h7 n7 g7 m7 => ?_
 obtain ⟨cz, gz, cz0⟩ := g7
 simp only [zAa]
 have ga7 := (m7.keep h2.next (by omega)).trans ((m6.keep h2.next (by omega)).trans ga5)
 have gb7 := (m7.keep h4.next (by omega)).trans ((m6.keep h4.next (by omega)).trans gb)
 have tx : TreeR h7 (fun _ => True) u (.mk 1 [] [] 0 0 ka) := TreeR.keep ((m3.trans (m4.trans (m5.trans (m6.trans m7)))).stay (F := fun k => h1.next ≤ k)) (fun _ _ _ => trivial) tra
 have ty : TreeR h7 (fun _ => True) u' (.mk 1 [] [] 0 0 kb) := TreeR.keep ((m5.trans (m6.trans m7)).stay (F := fun k => h3.next ≤ k)) (fun _ _ _ => trivial) trb
 have tz : TreeR h7 (fun _ => True) uz (.mk 1 [] [] 0 0 (ka ++ mapTs (fun p => p + (a.length + 1)) kb)) := TreeR.keep (m7.stay (F := fun k => h5.next ≤ k)) (fun _ _ _ => trivial) trz
 clear tra trb trz
 obtain ⟨ux, rfl, _, _⟩ := tx.ptr
 obtain ⟨uy, rfl, _, _⟩ := ty.ptr
 obtain ⟨uw, rfl, _, _⟩ := tz.ptr
 refine zAc ?_
 refine zAc (zAb fun Q1 hQ => ?_)
 simp (disch := omega) only [EL, ↓K3, ↓K1, reduceIte, Nat.reduceEqDiff, Nat.reduceAdd, Nat.reduceLeDiff, ga7, gb7, gz, ca0, cb0, cz0, zAe]
 have gz7 := gz
 have tx7 := tx
 have ty7 := ty
 have tz7 := tz
 have sa : ka.length ≤ 1000000 := tx.small
 have sb : kb.length ≤ 1000000 := ty.small
 have klen : (ka ++ mapTs (fun p => p + (a.length + 1)) kb).length = ka.length + kb.length := by rw [List.length_append, zJo]
 refine (zC6 H tz7).to fun v h8 q => ?_
 obtain ⟨rfl, m8⟩ := q
 have n8 := m8.next
 have ga8 := (m8.keep h2.next (by omega)).trans ga7
 have gb8 := (m8.keep h4.next (by omega)).trans gb7
 have gz8 := (m8.keep h6.next (by omega)).trans gz7
 have tx8 : TreeR h8 (fun _ => True) (.ptr ux 0) (.mk 1 [] [] 0 0 ka) := TreeR.keep m8.stay (fun _ h _ => h) tx7
 have ty8 : TreeR h8 (fun _ => True) (.ptr uy 0) (.mk 1 [] [] 0 0 kb) := TreeR.keep m8.stay (fun _ h _ => h) ty7
 have tz8 : TreeR h8 (fun _ => True) (.ptr uw 0) (.mk 1 [] [] 0 0 (ka ++ mapTs (fun p => p + (a.length + 1)) kb)) := TreeR.keep m8.stay (fun _ h _ => h) tz7
 try simp only [Tree.kids]
 simp (disch := omega) only [EL, ↓K3, ↓K1, reduceIte, Nat.reduceEqDiff, Nat.reduceAdd, Nat.reduceLeDiff, ga8, gb8, gz8, ca0, cb0, cz0, zAe, zA6, zBl, zA7, zA5, zAw]
 refine (zC6 H tx8).to fun v h9 q => ?_
 obtain ⟨rfl, m9⟩ := q
 have n9 := m9.next
 have ga9 := (m9.keep h2.next (by omega)).trans ga8
 have gb9 := (m9.keep h4.next (by omega)).trans gb8
 have gz9 := (m9.keep h6.next (by omega)).trans gz8
 have tx9 : TreeR h9 (fun _ => True) (.ptr ux 0) (.mk 1 [] [] 0 0 ka) := TreeR.keep m9.stay (fun _ h _ => h) tx8
 have ty9 : TreeR h9 (fun _ => True) (.ptr uy 0) (.mk 1 [] [] 0 0 kb) := TreeR.keep m9.stay (fun _ h _ => h) ty8
 have tz9 : TreeR h9 (fun _ => True) (.ptr uw 0) (.mk 1 [] [] 0 0 (ka ++ mapTs (fun p => p + (a.length + 1)) kb)) := TreeR.keep m9.stay (fun _ h _ => h) tz8
 try simp only [Tree.kids]
 simp (disch := omega) only [EL, ↓K3, ↓K1, reduceIte, Nat.reduceEqDiff, Nat.reduceAdd, Nat.reduceLeDiff, ga9, gb9, gz9, ca0, cb0, cz0, zAe, zA6, zBl, zA7, zA5, zAw]
 refine (zC6 H ty9).to fun v h10 q => ?_
 obtain ⟨rfl, m10⟩ := q
 have n10 := m10.next
 have ga10 := (m10.keep h2.next (by omega)).trans ga9
 have gb10 := (m10.keep h4.next (by omega)).trans gb9
 have gz10 := (m10.keep h6.next (by omega)).trans gz9
 have tx10 : TreeR h10 (fun _ => True) (.ptr ux 0) (.mk 1 [] [] 0 0 ka) := TreeR.keep m10.stay (fun _ h _ => h) tx9
 have ty10 : TreeR h10 (fun _ => True) (.ptr uy 0) (.mk 1 [] [] 0 0 kb) := TreeR.keep m10.stay (fun _ h _ => h) ty9
 have tz10 : TreeR h10 (fun _ => True) (.ptr uw 0) (.mk 1 [] [] 0 0 (ka ++ mapTs (fun p => p + (a.length + 1)) kb)) := TreeR.keep m10.stay (fun _ h _ => h) tz9
 try simp only [Tree.kids]
 simp (disch := omega) only [EL, ↓K3, ↓K1, reduceIte, Nat.reduceEqDiff, Nat.reduceAdd, Nat.reduceLeDiff, ga10, gb10, gz10, ca0, cb0, cz0, zAe, zA6, zBl, zA7, zA5, zAw]
 simp only [klen, decide_true, Bool.not_true, Bool.not_false]
 simp (disch := omega) only [EL, ↓K3, ↓K1, reduceIte, Nat.reduceEqDiff, Nat.reduceAdd, Nat.reduceLeDiff, ga10, gb10, gz10, ca0, cb0, cz0, zAe]
 refine (size_gp H _ tz10).to fun v h11 q => ?_
 obtain ⟨rfl, m11⟩ := q
 have n11 := m11.next
 have ga11 := (m11.keep h2.next (by omega)).trans ga10
 have gb11 := (m11.keep h4.next (by omega)).trans gb10
 have gz11 := (m11.keep h6.next (by omega)).trans gz10
 have tx11 : TreeR h11 (fun _ => True) (.ptr ux 0) (.mk 1 [] [] 0 0 ka) := TreeR.keep m11.stay (fun _ h _ => h) tx10
 have ty11 : TreeR h11 (fun _ => True) (.ptr uy 0) (.mk 1 [] [] 0 0 kb) := TreeR.keep m11.stay (fun _ h _ => h) ty10
 have tz11 : TreeR h11 (fun _ => True) (.ptr uw 0) (.mk 1 [] [] 0 0 (ka ++ mapTs (fun p => p + (a.length + 1)) kb)) := TreeR.keep m11.stay (fun _ h _ => h) tz10
 try simp only [Tree.kids]
 simp (disch := omega) only [EL, ↓K3, ↓K1, reduceIte, Nat.reduceEqDiff, Nat.reduceAdd, Nat.reduceLeDiff, ga11, gb11, gz11, ca0, cb0, cz0, zAe, zA6, zBl, zA7, zA5, zAw]
 refine (size_gp H _ tx11).to fun v h12 q => ?_
 obtain ⟨rfl, m12⟩ := q
 have n12 := m12.next
 have ga12 := (m12.keep h2.next (by omega)).trans ga11
 have gb12 := (m12.keep h4.next (by omega)).trans gb11
 have gz12 := (m12.keep h6.next (by omega)).trans gz11
 have tx12 : TreeR h12 (fun _ => True) (.ptr ux 0) (.mk 1 [] [] 0 0 ka) := TreeR.keep m12.stay (fun _ h _ => h) tx11
 have ty12 : TreeR h12 (fun _ => True) (.ptr uy 0) (.mk 1 [] [] 0 0 kb) := TreeR.keep m12.stay (fun _ h _ => h) ty11
 have tz12 : TreeR h12 (fun _ => True) (.ptr uw 0) (.mk 1 [] [] 0 0 (ka ++ mapTs (fun p => p + (a.length + 1)) kb)) := TreeR.keep m12.stay (fun _ h _ => h) tz11
 try simp only [Tree.kids]
 simp (disch := omega) only [EL, ↓K3, ↓K1, reduceIte, Nat.reduceEqDiff, Nat.reduceAdd, Nat.reduceLeDiff, ga12, gb12, gz12, ca0, cb0, cz0, zAe, zA6, zBl, zA7, zA5, zAw]
 refine (size_gp H _ ty12).to fun v h13 q => ?_
 obtain ⟨rfl, m13⟩ := q
 have n13 := m13.next
 have ga13 := (m13.keep h2.next (by omega)).trans ga12
 have gb13 := (m13.keep h4.next (by omega)).trans gb12
 have gz13 := (m13.keep h6.next (by omega)).trans gz12
 have tx13 : TreeR h13 (fun _ => True) (.ptr ux 0) (.mk 1 [] [] 0 0 ka) := TreeR.keep m13.stay (fun _ h _ => h) tx12
 have ty13 : TreeR h13 (fun _ => True) (.ptr uy 0) (.mk 1 [] [] 0 0 kb) := TreeR.keep m13.stay (fun _ h _ => h) ty12
 have tz13 : TreeR h13 (fun _ => True) (.ptr uw 0) (.mk 1 [] [] 0 0 (ka ++ mapTs (fun p => p + (a.length + 1)) kb)) := TreeR.keep m13.stay (fun _ h _ => h) tz12
 try simp only [Tree.kids]
 simp (disch := omega) only [EL, ↓K3, ↓K1, reduceIte, Nat.reduceEqDiff, Nat.reduceAdd, Nat.reduceLeDiff, ga13, gb13, gz13, ca0, cb0, cz0, zAe, zA6, zBl, zA7, zA5, zAw]
 have sj : sizeT (.mk 1 [] [] 0 0 (ka ++ mapTs (fun p => p + (a.length + 1)) kb)) = IntKind.i64.wrap (IntKind.i64.wrap (sizeT (.mk 1 [] [] 0 0 ka) + sizeT (.mk 1 [] [] 0 0 kb)) - 1) := size_join
 have q1 : ((1 : Nat) : Int) = 1 := rfl
 rw [sj]
 simp only [q1, decide_true, Bool.not_true]
 refine hQ _ ?_
 clear hQ Q1
 try simp only [zAa]
 refine wc_no (by simp +decide only [EL, reduceIte]) ?_
 refine zAm ?_
 try simp only [zAa]
 have kl : ∀ (i : Nat) (h1 : i < (ka ++ mapTs (fun p => p + (a.length + 1)) kb).length), (∀ h2 : i < ka.length, bare (ka ++ mapTs (fun p => p + (a.length + 1)) kb)[i] = bare ka[i]) ∧ (∀ (h2 : ka.length ≤ i) (h3 : i - ka.length < kb.length), bare (ka ++ mapTs (fun p => p + (a.length + 1)) kb)[i] = bare kb[i - ka.length]) := by
  intro i h1
  refine ⟨fun h2 => by rw [List.getElem_append_left h2], fun h2 h3 => ?_⟩
  rw [List.getElem_append_right h2, mapTs_get h3, bare_map]
 refine zFz (fun l d1 h2 => d1 = []) ?_ ?_
 ·refine zAc (zAb fun Q1 hQ => ?_)
  simp (disch := omega) only [EL, ↓K3, ↓K1, reduceIte, Nat.reduceEqDiff, Nat.reduceAdd, Nat.reduceLeDiff]
  refine hQ _ ?_
  clear hQ Q1
  try simp only [zAa]
  refine zAy ?_
  refine zCg (fun m l d1 h20 => ∃ k : Nat, m = ka.length + kb.length - k ∧ k ≤ ka.length + kb.length ∧ d1 = [] ∧ h13.next ≤ h20.next ∧ h20.mem.get h2.next = some (.cells ca 1 none false) ∧ h20.mem.get h4.next = some (.cells cb 1 none false) ∧ h20.mem.get h6.next = some (.cells cz 1 none false) ∧ TreeR h20 (fun _ => True) (.ptr ux 0) (.mk 1 [] [] 0 0 ka) ∧ TreeR h20 (fun _ => True) (.ptr uy 0) (.mk 1 [] [] 0 0 kb) ∧ TreeR h20 (fun _ => True) (.ptr uw 0) (.mk 1 [] [] 0 0 (ka ++ mapTs (fun p => p + (a.length + 1)) kb)) ∧ l.get 8 = some (.ptr h6.next 0) ∧ l.get 9 = some (.ptr h2.next 0) ∧ l.get 10 = some (.ptr h4.next 0) ∧ l.get 12 = some (.int .i64 (k : Int))) ?_ (ka.length + kb.length - 0) ?_
  ·rintro m l d1 h20 ⟨k, rfl, hk, rfl, n20, ga20, gb20, gz20, tx20, ty20, tz20, l8, l9, l10, l12⟩
   refine zAc ?_
   refine zAc (zAb fun Q1 hQ => ?_)
   simp (disch := omega) only [EL, ↓K3, ↓K1, reduceIte, Nat.reduceEqDiff, Nat.reduceAdd, Nat.reduceLeDiff, l8, l12, gz20, cz0, zAe]
   refine (zC6 H tz20).to fun v h21 q => ?_
   obtain ⟨rfl, m21⟩ := q
   have n21 := m21.next
   have ga21 := (m21.keep h2.next (by omega)).trans ga20
   have gb21 := (m21.keep h4.next (by omega)).trans gb20
   have gz21 := (m21.keep h6.next (by omega)).trans gz20
   have tx21 : TreeR h21 (fun _ => True) (.ptr ux 0) (.mk 1 [] [] 0 0 ka) := TreeR.keep m21.stay (fun _ h _ => h) tx20
   have ty21 : TreeR h21 (fun _ => True) (.ptr uy 0) (.mk 1 [] [] 0 0 kb) := TreeR.keep m21.stay (fun _ h _ => h) ty20
   have tz21 : TreeR h21 (fun _ => True) (.ptr uw 0) (.mk 1 [] [] 0 0 (ka ++ mapTs (fun p => p + (a.length + 1)) kb)) := TreeR.keep m21.stay (fun _ h _ => h) tz20
   try simp only [Tree.kids]
   simp (disch := omega) only [EL, ↓K3, ↓K1, reduceIte, Nat.reduceEqDiff, Nat.reduceAdd, Nat.reduceLeDiff, ga21, gb21, gz21, ca0, cb0, cz0, zAe, zA6, zBl, zA7, zA5, zAw]
   rw [klen]
   refine hQ _ ?_
   clear hQ Q1
   try simp only [zAa]
   refine wc_if (k < ka.length + kb.length) (by simp +decide only [EL, reduceIte]) (fun hlt => ?_) (fun hge => ?_)
   rotate_left
   ·refine zDe ?_
    simp only [zBg, zBd, if_true, zAa]
   refine zAm ?_
   try simp only [zAa]
   refine zAc ?_
   refine zAy ?_
   refine zAc (zAb fun Q1 hQ => ?_)
   have hk0 : k < (ka ++ mapTs (fun p => p + (a.length + 1)) kb).length := by omega
   simp (disch := omega) only [EL, ↓K3, ↓K1, reduceIte, Nat.reduceEqDiff, Nat.reduceAdd, Nat.reduceLeDiff, l8, l9, l10, l12, ga21, gb21, gz21, ca0, cb0, cz0, zAe, zA6, zBl, zA7, zA5, zAw]
   refine (zC6 H tx21).to fun v h22 q => ?_
   obtain ⟨rfl, m22⟩ := q
   have n22 := m22.next
   have ga22 := (m22.keep h2.next (by omega)).trans ga21
   have gb22 := (m22.keep h4.next (by omega)).trans gb21
   have gz22 := (m22.keep h6.next (by omega)).trans gz21
   have tx22 : TreeR h22 (fun _ => True) (.ptr ux 0) (.mk 1 [] [] 0 0 ka) := TreeR.keep m22.stay (fun _ h _ => h) tx21
   have ty22 : TreeR h22 (fun _ => True) (.ptr uy 0) (.mk 1 [] [] 0 0 kb) := TreeR.keep m22.stay (fun _ h _ => h) ty21
   have tz22 : TreeR h22 (fun _ => True) (.ptr uw 0) (.mk 1 [] [] 0 0 (ka ++ mapTs (fun p => p + (a.length + 1)) kb)) := TreeR.keep m22.stay (fun _ h _ => h) tz21
   try simp only [Tree.kids]
   by_cases hka : k < ka.length
   ·have hge : ¬ ((ka.length : Nat) : Int) ≤ (k : Int) := by omega
    simp (disch := omega) only [EL, ↓K3, ↓K1, reduceIte, Nat.reduceEqDiff, Nat.reduceAdd, Nat.reduceLeDiff, hka, hge, l8, l9, l10, l12, ga22, gb22, gz22, ca0, cb0, cz0, zAe, zA6, zBl, zA7, zA5, zAw]
    refine (zKq H tz22 hk0).to fun v h23 q => ?_
    obtain ⟨m23, w1, rfl, tw1⟩ := q
    have n23 := m23.next
    have ga23 := (m23.keep h2.next (by omega)).trans ga22
    have gb23 := (m23.keep h4.next (by omega)).trans gb22
    have gz23 := (m23.keep h6.next (by omega)).trans gz22
    have tx23 : TreeR h23 (fun _ => True) (.ptr ux 0) (.mk 1 [] [] 0 0 ka) := TreeR.keep m23.stay (fun _ h _ => h) tx22
    have ty23 : TreeR h23 (fun _ => True) (.ptr uy 0) (.mk 1 [] [] 0 0 kb) := TreeR.keep m23.stay (fun _ h _ => h) ty22
    have tz23 : TreeR h23 (fun _ => True) (.ptr uw 0) (.mk 1 [] [] 0 0 (ka ++ mapTs (fun p => p + (a.length + 1)) kb)) := TreeR.keep m23.stay (fun _ h _ => h) tz22
    simp only [Tree.kids] at tw1
    simp (disch := omega) only [EL, ↓K3, ↓K1, reduceIte, Nat.reduceEqDiff, Nat.reduceAdd, Nat.reduceLeDiff, l8, l9, l10, l12, ga23, gb23, gz23, ca0, cb0, cz0, zAe, zA6, zBl, zA7, zA5, zAw]
    refine (zKq H tx23 hka).to fun v h24 q => ?_
    obtain ⟨m24, w2, rfl, tw2⟩ := q
    have n24 := m24.next
    have ga24 := (m24.keep h2.next (by omega)).trans ga23
    have gb24 := (m24.keep h4.next (by omega)).trans gb23
    have gz24 := (m24.keep h6.next (by omega)).trans gz23
    have tx24 : TreeR h24 (fun _ => True) (.ptr ux 0) (.mk 1 [] [] 0 0 ka) := TreeR.keep m24.stay (fun _ h _ => h) tx23
    have ty24 : TreeR h24 (fun _ => True) (.ptr uy 0) (.mk 1 [] [] 0 0 kb) := TreeR.keep m24.stay (fun _ h _ => h) ty23
    have tz24 : TreeR h24 (fun _ => True) (.ptr uw 0) (.mk 1 [] [] 0 0 (ka ++ mapTs (fun p => p + (a.length + 1)) kb)) := TreeR.keep m24.stay (fun _ h _ => h) tz23
    simp only [Tree.kids] at tw2
    have tw1' := TreeR.keep (G := fun _ => True) m24.stay (fun _ h _ => h) tw1
    simp (disch := omega) only [EL, ↓K3, ↓K1, reduceIte, Nat.reduceEqDiff, Nat.reduceAdd, Nat.reduceLeDiff, l8, l9, l10, l12, ga24, gb24, gz24, ca0, cb0, cz0, zAe, zA6, zBl, zA7, zA5, zAw]
    refine (alike_gp H _ ((kl k hk0).1 hka) tw1' tw2).to fun v h25 q => ?_
    obtain ⟨rfl, m25⟩ := q
    have n25 := m25.next
    have ga25 := (m25.keep h2.next (by omega)).trans ga24
    have gb25 := (m25.keep h4.next (by omega)).trans gb24
    have gz25 := (m25.keep h6.next (by omega)).trans gz24
    have tx25 : TreeR h25 (fun _ => True) (.ptr ux 0) (.mk 1 [] [] 0 0 ka) := TreeR.keep m25.stay (fun _ h _ => h) tx24
    have ty25 : TreeR h25 (fun _ => True) (.ptr uy 0) (.mk 1 [] [] 0 0 kb) := TreeR.keep m25.stay (fun _ h _ => h) ty24
    have tz25 : TreeR h25 (fun _ => True) (.ptr uw 0) (.mk 1 [] [] 0 0 (ka ++ mapTs (fun p => p + (a.length + 1)) kb)) := TreeR.keep m25.stay (fun _ h _ => h) tz24
    simp (disch := omega) only [EL, ↓K3, ↓K1, reduceIte, Nat.reduceEqDiff, Nat.reduceAdd, Nat.reduceLeDiff, l8, l9, l10, l12, ga25, gb25, gz25, ca0, cb0, cz0, zAe, zA6, zBl, zA7, zA5, zAw]
    refine (zC6 H tx25).to fun v h26 q => ?_
    obtain ⟨rfl, m26⟩ := q
    have n26 := m26.next
    have ga26 := (m26.keep h2.next (by omega)).trans ga25
    have gb26 := (m26.keep h4.next (by omega)).trans gb25
    have gz26 := (m26.keep h6.next (by omega)).trans gz25
    have tx26 : TreeR h26 (fun _ => True) (.ptr ux 0) (.mk 1 [] [] 0 0 ka) := TreeR.keep m26.stay (fun _ h _ => h) tx25
    have ty26 : TreeR h26 (fun _ => True) (.ptr uy 0) (.mk 1 [] [] 0 0 kb) := TreeR.keep m26.stay (fun _ h _ => h) ty25
    have tz26 : TreeR h26 (fun _ => True) (.ptr uw 0) (.mk 1 [] [] 0 0 (ka ++ mapTs (fun p => p + (a.length + 1)) kb)) := TreeR.keep m26.stay (fun _ h _ => h) tz25
    try simp only [Tree.kids]
    simp (disch := omega) only [EL, ↓K3, ↓K1, reduceIte, Nat.reduceEqDiff, Nat.reduceAdd, Nat.reduceLeDiff, hge, l8, l9, l10, l12, ga26, gb26, gz26, ca0, cb0, cz0, zAe, zA6, zBl, zA7, zA5, zAw]
    refine hQ _ ?_
    clear hQ Q1
    try simp only [zAa]
    refine wc_no (by simp +decide only [EL, reduceIte]) ?_
    refine zAm ?_
    try simp only [zAi, zAa]
    refine zAb fun Q1 hQ => ?_
    simp (disch := omega) only [EL, ↓K3, ↓K1, reduceIte, Nat.reduceEqDiff, Nat.reduceAdd, Nat.reduceLeDiff, l12]
    refine hQ _ ?_
    clear hQ Q1
    try simp only [zAa]
    exact ⟨ka.length + kb.length - (k + 1), by omega, k + 1, rfl, hlt, trivial, by omega, ga26, gb26, gz26, tx26, ty26, tz26, by simp +decide only [EL, reduceIte, l8], by simp +decide only [EL, reduceIte, l9], by simp +decide only [EL, reduceIte, l10], by simp +decide only [EL, reduceIte]⟩
   ·have hge : ((ka.length : Nat) : Int) ≤ (k : Int) := by omega
    have hkb : k - ka.length < kb.length := by omega
    have hw : IntKind.i64.wrap ((k : Int) - (ka.length : Int)) = ((k - ka.length : Nat) : Int) := zHe (by omega) (by omega)
    simp (disch := omega) only [EL, ↓K3, ↓K1, reduceIte, Nat.reduceEqDiff, Nat.reduceAdd, Nat.reduceLeDiff, hka, hge, l8, l9, l10, l12, ga22, gb22, gz22, ca0, cb0, cz0, zAe, zA6, zBl, zA7, zA5, zAw]
    refine (zC6 H tx22).to fun v h23 q => ?_
    obtain ⟨rfl, m23⟩ := q
    have n23 := m23.next
    have ga23 := (m23.keep h2.next (by omega)).trans ga22
    have gb23 := (m23.keep h4.next (by omega)).trans gb22
    have gz23 := (m23.keep h6.next (by omega)).trans gz22
    have tx23 : TreeR h23 (fun _ => True) (.ptr ux 0) (.mk 1 [] [] 0 0 ka) := TreeR.keep m23.stay (fun _ h _ => h) tx22
    have ty23 : TreeR h23 (fun _ => True) (.ptr uy 0) (.mk 1 [] [] 0 0 kb) := TreeR.keep m23.stay (fun _ h _ => h) ty22
    have tz23 : TreeR h23 (fun _ => True) (.ptr uw 0) (.mk 1 [] [] 0 0 (ka ++ mapTs (fun p => p + (a.length + 1)) kb)) := TreeR.keep m23.stay (fun _ h _ => h) tz22
    try simp only [Tree.kids]
    simp (disch := omega) only [EL, ↓K3, ↓K1, reduceIte, Nat.reduceEqDiff, Nat.reduceAdd, Nat.reduceLeDiff, hge, l8, l9, l10, l12, ga23, gb23, gz23, ca0, cb0, cz0, zAe, zA6, zBl, zA7, zA5, zAw]
    refine (zKq H tz23 hk0).to fun v h24 q => ?_
    obtain ⟨m24, w1, rfl, tw1⟩ := q
    have n24 := m24.next
    have ga24 := (m24.keep h2.next (by omega)).trans ga23
    have gb24 := (m24.keep h4.next (by omega)).trans gb23
    have gz24 := (m24.keep h6.next (by omega)).trans gz23
    have tx24 : TreeR h24 (fun _ => True) (.ptr ux 0) (.mk 1 [] [] 0 0 ka) := TreeR.keep m24.stay (fun _ h _ => h) tx23
    have ty24 : TreeR h24 (fun _ => True) (.ptr uy 0) (.mk 1 [] [] 0 0 kb) := TreeR.keep m24.stay (fun _ h _ => h) ty23
    have tz24 : TreeR h24 (fun _ => True) (.ptr uw 0) (.mk 1 [] [] 0 0 (ka ++ mapTs (fun p => p + (a.length + 1)) kb)) := TreeR.keep m24.stay (fun _ h _ => h) tz23
    simp only [Tree.kids] at tw1
    simp (disch := omega) only [EL, ↓K3, ↓K1, reduceIte, Nat.reduceEqDiff, Nat.reduceAdd, Nat.reduceLeDiff, l8, l9, l10, l12, ga24, gb24, gz24, ca0, cb0, cz0, zAe, zA6, zBl, zA7, zA5, zAw]
    refine (zC6 H tx24).to fun v h25 q => ?_
    obtain ⟨rfl, m25⟩ := q
    have n25 := m25.next
    have ga25 := (m25.keep h2.next (by omega)).trans ga24
    have gb25 := (m25.keep h4.next (by omega)).trans gb24
    have gz25 := (m25.keep h6.next (by omega)).trans gz24
    have tx25 : TreeR h25 (fun _ => True) (.ptr ux 0) (.mk 1 [] [] 0 0 ka) := TreeR.keep m25.stay (fun _ h _ => h) tx24
    have ty25 : TreeR h25 (fun _ => True) (.ptr uy 0) (.mk 1 [] [] 0 0 kb) := TreeR.keep m25.stay (fun _ h _ => h) ty24
    have tz25 : TreeR h25 (fun _ => True) (.ptr uw 0) (.mk 1 [] [] 0 0 (ka ++ mapTs (fun p => p + (a.length + 1)) kb)) := TreeR.keep m25.stay (fun _ h _ => h) tz24
    try simp only [Tree.kids]
    simp (disch := omega) only [EL, ↓K3, ↓K1, reduceIte, Nat.reduceEqDiff, Nat.reduceAdd, Nat.reduceLeDiff, hw, l8, l9, l10, l12, ga25, gb25, gz25, ca0, cb0, cz0, zAe, zA6, zBl, zA7, zA5, zAw]
    refine (zKq H ty25 hkb).to fun v h26 q => ?_
    obtain ⟨m26, w2, rfl, tw2⟩ := q
    have n26 := m26.next
    have ga26 := (m26.keep h2.next (by omega)).trans ga25
    have gb26 := (m26.keep h4.next (by omega)).trans gb25
    have gz26 := (m26.keep h6.next (by omega)).trans gz25
    have tx26 : TreeR h26 (fun _ => True) (.ptr ux 0) (.mk 1 [] [] 0 0 ka) := TreeR.keep m26.stay (fun _ h _ => h) tx25
    have ty26 : TreeR h26 (fun _ => True) (.ptr uy 0) (.mk 1 [] [] 0 0 kb) := TreeR.keep m26.stay (fun _ h _ => h) ty25
    have tz26 : TreeR h26 (fun _ => True) (.ptr uw 0) (.mk 1 [] [] 0 0 (ka ++ mapTs (fun p => p + (a.length + 1)) kb)) := TreeR.keep m26.stay (fun _ h _ => h) tz25
    simp only [Tree.kids] at tw2
    have tw1' := TreeR.keep (G := fun _ => True) (m25.trans m26).stay (fun _ h _ => h) tw1
    simp (disch := omega) only [EL, ↓K3, ↓K1, reduceIte, Nat.reduceEqDiff, Nat.reduceAdd, Nat.reduceLeDiff, l8, l9, l10, l12, ga26, gb26, gz26, ca0, cb0, cz0, zAe, zA6, zBl, zA7, zA5, zAw]
    refine (alike_gp H _ ((kl k hk0).2 (by omega) hkb) tw1' tw2).to fun v h27 q => ?_
    obtain ⟨rfl, m27⟩ := q
    have n27 := m27.next
    have ga27 := (m27.keep h2.next (by omega)).trans ga26
    have gb27 := (m27.keep h4.next (by omega)).trans gb26
    have gz27 := (m27.keep h6.next (by omega)).trans gz26
    have tx27 : TreeR h27 (fun _ => True) (.ptr ux 0) (.mk 1 [] [] 0 0 ka) := TreeR.keep m27.stay (fun _ h _ => h) tx26
    have ty27 : TreeR h27 (fun _ => True) (.ptr uy 0) (.mk 1 [] [] 0 0 kb) := TreeR.keep m27.stay (fun _ h _ => h) ty26
    have tz27 : TreeR h27 (fun _ => True) (.ptr uw 0) (.mk 1 [] [] 0 0 (ka ++ mapTs (fun p => p + (a.length + 1)) kb)) := TreeR.keep m27.stay (fun _ h _ => h) tz26
    simp (disch := omega) only [EL, ↓K3, ↓K1, reduceIte, Nat.reduceEqDiff, Nat.reduceAdd, Nat.reduceLeDiff, l8, l9, l10, l12, ga27, gb27, gz27, ca0, cb0, cz0, zAe, zA6, zBl, zA7, zA5, zAw]
    refine hQ _ ?_
    clear hQ Q1
    try simp only [zAa]
    refine wc_no (by simp +decide only [EL, reduceIte]) ?_
    refine zAm ?_
    try simp only [zAi, zAa]
    refine zAb fun Q1 hQ => ?_
    simp (disch := omega) only [EL, ↓K3, ↓K1, reduceIte, Nat.reduceEqDiff, Nat.reduceAdd, Nat.reduceLeDiff, l12]
    refine hQ _ ?_
    clear hQ Q1
    try simp only [zAa]
    exact ⟨ka.length + kb.length - (k + 1), by omega, k + 1, rfl, hlt, trivial, by omega, ga27, gb27, gz27, tx27, ty27, tz27, by simp +decide only [EL, reduceIte, l8], by simp +decide only [EL, reduceIte, l9], by simp +decide only [EL, reduceIte, l10], by simp +decide only [EL, reduceIte]⟩
  ·exact ⟨0, rfl, Nat.zero_le _, rfl, Nat.le_refl _, ga13, gb13, gz13, tx13, ty13, tz13, by simp +decide only [EL, reduceIte], by simp +decide only [EL, reduceIte], by simp +decide only [EL, reduceIte], by simp +decide only [EL, reduceIte]⟩
 ·rintro l d1 h20 rfl
  refine zAc (zAb fun Q1 hQ => ?_)
  simp (disch := omega) only [EL, ↓K3, ↓K1, reduceIte, Nat.reduceEqDiff, Nat.reduceAdd, Nat.reduceLeDiff]
  refine hQ _ ?_
  clear hQ Q1
  refine zAj ?_
  try simp only [zAg, zAf]
  exact tru _ _
end
end Go.Ev
