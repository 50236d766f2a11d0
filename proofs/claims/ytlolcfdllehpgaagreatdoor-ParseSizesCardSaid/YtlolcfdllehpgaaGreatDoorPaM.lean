/- PaN PaW25 -/
import Derived.Test.YtlolcfdllehpgaaGreatDoorPaL
import Derived.Test.YtlolcfdllehpgaaGreatDoorPaK
set_option linter.unusedSimpArgs false
set_option linter.unusedVariables false
set_option linter.unusedSectionVars false
namespace Go.Pa
open Go.Ev
def NZ {α : Type} (x : PR α) : Prop := ∀ p e, x = .err p e → e ≠ 0
section
variable {ts : List Tok} {en : Nat}
theorem nz_ok {α : Type} {a : α} {i d : Nat} : NZ (PR.ok a i d) := fun _ _ h => by cases h
theorem zKc {α : Type} : NZ (PR.out : PR α) := fun _ _ h => by cases h
theorem zDo {α : Type} {i : Nat} : NZ (failP ts en i : PR α) := fun _ _ h => by injection h with _ h; subst h; decide
theorem zDp {α β : Type} {x : PR α} {k : α → Nat → Nat → PR β} (h : NZ x) (h' : ∀ a i d, NZ (k a i d)) : NZ (x.bind k) := by
 cases x with
 | ok a i d => exact h' a i d
 | err p e => intro p' e' he; injection he with h1 h2; subst h2; exact h p e rfl
 | out => exact zKc
theorem nz_deeper {α : Type} {i d : Nat} {k : Nat → Nat → PR α} (h : ∀ i d, NZ (k i d)) : NZ (zDs ts en i d k) := by
 unfold zDs
 split
 ·intro _ _ h; injection h with _ h; subst h; decide
 ·exact zDp (h _ _) fun _ _ _ => nz_ok
theorem zCj {s : Str} {i d : Nat} : NZ (zA7 ts en s i d) := by unfold zA7; split; exact nz_ok; exact zDo
theorem zEs {i d : Nat} : NZ (wordS ts en i d) := by unfold wordS; split; exact nz_ok; exact zDo
structure NE (ts : List Tok) (en n : Nat) : Prop where
 expr : ∀ {least i d}, NZ (exprS ts en n least i d)
 exprl : ∀ {least i d l}, NZ (exprL ts en n least i d l)
 unary : ∀ {i d}, NZ (zCu ts en n i d)
 post : ∀ {i d}, NZ (postS ts en n i d)
 postl : ∀ {i d x}, NZ (postL ts en n i d x)
 prim : ∀ {i d}, NZ (primS ts en n i d)
 call : ∀ {j i d}, NZ (callS ts en n j i d)
 args : ∀ {i d acc}, NZ (argsL ts en n i d acc)
 brack : ∀ {i d}, NZ (zBj ts en n i d)
theorem nz_key {i d : Nat} : NZ (keyS ts en i d) := by
 unfold keyS
 simp only
 repeat' first | split | exact nz_ok | exact zDo | exact zCj | exact zEs | (refine zDp ?_ fun _ _ _ => ?_)
theorem ne_all : ∀ n, NE ts en n := by
 intro n
 induction n with
 | zero => constructor <;> intros <;> simp only [exprS, exprL, zCu, postS, postL, primS, callS, argsL, zBj] <;> exact zKc
 | succ n IH =>
  constructor <;> intros <;> simp only [exprS, exprL, zCu, postS, postL, primS, callS, argsL, zBj] <;>
   repeat' first | split | exact nz_ok | exact zDo | exact zCj | exact zEs | exact nz_key | exact IH.expr | exact IH.exprl | exact IH.unary | exact IH.post | exact IH.postl | exact IH.prim | exact IH.call | exact IH.args | exact IH.brack | (refine nz_deeper fun _ _ => ?_) | (refine zDp ?_ fun _ _ _ => ?_)
theorem nz_typ {i d : Nat} : NZ (typS ts en i d) := by
 unfold typS
 repeat' first | split | exact nz_ok | exact zDo | exact zCj | exact zEs | (refine zDp ?_ fun _ _ _ => ?_)
theorem nz_part {op i d : Nat} : NZ (partS ts en op i d) := by
 unfold partS
 repeat' first | split | exact nz_ok | exact zDo | exact zCj | exact zEs | exact nz_typ | (refine zDp ?_ fun _ _ _ => ?_)
theorem nz_fields : ∀ (n : Nat) {i d : Nat} {acc : List Tree}, NZ (zDr ts en n i d acc)
 | 0, _, _, _ => zKc
 | n + 1, i, d, acc => by
  unfold zDr
  repeat' first | split | exact nz_ok | exact zDo | exact zCj | exact zEs | exact nz_part | exact nz_fields n | (refine zDp ?_ fun _ _ _ => ?_)
theorem nz_params : ∀ (n : Nat) {i d : Nat} {acc : List Tree}, NZ (zCp ts en n i d acc)
 | 0, _, _, _ => zKc
 | n + 1, i, d, acc => by
  unfold zCp
  repeat' first | split | exact nz_ok | exact zDo | exact zCj | exact zEs | exact nz_part | exact nz_params n | (refine zDp ?_ fun _ _ _ => ?_)
theorem nz_change {n i d : Nat} : NZ (zDt ts en n i d) := by
 have IH := ne_all (ts := ts) (en := en) n
 unfold zDt
 repeat' first | split | exact nz_ok | exact zDo | exact zCj | exact zEs | exact IH.expr | exact IH.post | (refine zDp ?_ fun _ _ _ => ?_)
theorem nz_simple {n i d : Nat} : NZ (zD9 ts en n i d) := by
 have IH := ne_all (ts := ts) (en := en) n
 unfold zD9
 repeat' first | split | exact nz_ok | exact zDo | exact zCj | exact zEs | exact nz_change | exact IH.expr | exact IH.brack | (refine zDp ?_ fun _ _ _ => ?_)
structure NS (ts : List Tok) (en n : Nat) : Prop where
 stmt : ∀ {i d}, NZ (stmtS ts en n i d)
 branch : ∀ {i d}, NZ (zCb ts en n i d)
 block : ∀ {i d}, NZ (zCg ts en n i d)
 stmts : ∀ {i d acc}, NZ (zC4 ts en n i d acc)
theorem ns_all : ∀ n, NS ts en n := by
 intro n
 induction n with
 | zero => constructor <;> intros <;> simp only [stmtS, zCb, zCg, zC4] <;> exact zKc
 | succ n IH =>
  have E := ne_all (ts := ts) (en := en) n
  constructor <;> intros <;> simp only [stmtS, zCb, zCg, zC4] <;>
   repeat' first | split | exact nz_ok | exact zDo | exact zCj | exact zEs | exact nz_simple | exact E.expr | exact IH.stmt | exact IH.branch | exact IH.block | exact IH.stmts | (refine nz_deeper fun _ _ => ?_) | (refine zDp ?_ fun _ _ _ => ?_)
theorem nz_decl {n i d : Nat} : NZ (declS ts en n i d) := by
 have IH := ns_all (ts := ts) (en := en) n
 unfold declS zEr funcS
 repeat' first | split | exact nz_ok | exact zDo | exact zCj | exact zEs | exact nz_part | exact nz_typ | exact nz_params n | exact nz_fields n | exact IH.block | (refine zDp ?_ fun _ _ _ => ?_)
theorem nz_prog {m : Nat} : ∀ (k : Nat) {i d : Nat} {acc : List Tree}, NZ (progL ts en k m i d acc)
 | 0, _, _, _ => zKc
 | k + 1, i, d, acc => by
  unfold progL
  repeat' first | split | exact nz_ok | exact nz_decl | exact nz_prog k | (refine zDp ?_ fun _ _ _ => ?_)
end
theorem scanL_nz {s : Str} : ∀ (k at_ : Nat) (acc : List Tok) (p e : Nat), scanL s k at_ acc = .err p e → e ≠ 0
 | 0, _, _, _, _, h => by cases h
 | k + 1, at_, acc, p, e, h => by
  unfold scanL at h
  split at h
  ·split at h
   ·injection h with _ h; subst h; assumption
   ·exact scanL_nz k _ _ p e h
  ·cases h
theorem scanS_nz {s : Str} {p e : Nat} (h : scanS s = .err p e) : e ≠ 0 := by
 unfold scanS at h
 split at h
 ·injection h with _ h; subst h; decide
 ·exact scanL_nz _ _ _ _ _ h
end Go.Pa
namespace Go.Ev
open Go Go.Pa
set_option linter.unusedSimpArgs false
set_option linter.unusedVariables false
set_option maxRecDepth 100000
set_option maxHeartbeats 4000000
theorem reads_g {loc : T AV} {tmp : List AV} {h : AH} {op : AOp} {i : Nat} {g : Opd × Bool} {l : List ARe} : reads loc tmp h (⟨op, i, some g⟩ :: l) = obind (zBa loc tmp (some g)) false fun q => bi q (rd1 (nth tmp i) (reads loc tmp h l) (evOp op loc tmp h)) (reads loc tmp h l) := rfl
theorem _root_.Go.Pa.FineT.op {en : Nat} {t : Tree} (h : FineT en t) : t.op ≠ 0 := by cases h; assumption
section
variable {tab : Nat → Option AFunc} (H : PT tab)
include H in
theorem kid_gp {h : AH} {F : Nat → Prop} {u : AV} {t : Tree} (x : TreeR h F u t) {k : Nat} (hk : k < t.kids.length) : GP tab 20 [.agg [u], .int .i64 (k : Int)] h fun v h1 => More h h1 ∧ ∃ w, v = .agg [.ptr w 0] ∧ TreeR h1 F (.ptr w 0) t.kids[k] := by
 refine (nkid_gp H x k).mono fun v h1 q => ?_
 obtain ⟨m1, q⟩ := q
 refine ⟨m1, ?_⟩
 rcases q with ⟨j, hj, w, e, rfl, tw⟩ | ⟨hb, _⟩
 ·obtain rfl : k = j := by omega
  obtain ⟨wi, rfl, _⟩ := tw.ptr
  exact ⟨wi, rfl, TreeR.keep m1.stay (fun _ h _ => h) tw⟩
 ·omega
include H in
theorem kidz_gp {h : AH} {F : Nat → Prop} {u : AV} {t : Tree} (x : TreeR h F u t) {k : Nat} (hk : t.kids.length ≤ k) : GP tab 20 [.agg [u], .int .i64 (k : Int)] h fun v h1 => v = .agg [.nilp] ∧ More h h1 := by
 refine (nkid_gp H x k).mono fun v h1 q => ?_
 obtain ⟨m1, q⟩ := q
 rcases q with ⟨j, hj, w, e, rfl, tw⟩ | ⟨hb, e⟩
 ·omega
 ·exact ⟨e, m1⟩
theorem TreeR.small {h : AH} {F : Nat → Prop} {u : AV} {t : Tree} (x : TreeR h F u t) : t.kids.length ≤ 1000000 := by
 obtain ⟨ia, kv, cs, rfl, hi, hF, nc, ar, tr⟩ := x.node
 rw [← tr.len]; exact ar.small
include H in
theorem sized_gp {en : Nat} : ∀ (t : Tree) {h : AH} {F : Nat → Prop} {u : AV}, FineT en t → TreeR h F u t → GP tab 11 [.agg [u], .int .i64 (en : Int)] h fun v h1 => v = .bool true ∧ More h h1 := by
 intro t
 induction t using Tree.ind with
 | h op name typ n pos kids IH =>
 intro h F u fine x
 have lsm : kids.length ≤ 1000000 := x.small
 obtain ⟨ui, rfl, hu1, hu2⟩ := x.ptr
 have i0 : zAh [.agg [.ptr ui 0], .int .i64 (en : Int)] = zAd [.agg [.ptr ui 0], .int .i64 (en : Int)] := rfl
 have fk : ∀ k ∈ kids, FineT en k := fine.kids
 have hpos : pos ≤ en := fine.pos
 refine GE.gp (ge_of H.t11 rfl ?_) (E := fun _ _ => False) fun _ _ hh => hh
 refine zAc (zAb fun Q1 hQ => ?_)
 simp (disch := omega) only [EL, ↓K3, ↓K1, reduceIte, Nat.reduceEqDiff, Nat.reduceAdd, Nat.reduceLeDiff, i0]
 refine hQ _ ?_
 clear hQ Q1
 have m1 : More h (h.add (.cells (zAd [.ptr ui 0]) 1 none false)) := More.add _ _
 have g1 : (h.add (.cells (zAd [.ptr ui 0]) 1 none false)).mem.get h.next = some (.cells (zAd [.ptr ui 0]) 1 none false) := by rw [AH.add_mem, T.get_put_self]
 have n1 : (h.add (.cells (zAd [.ptr ui 0]) 1 none false)).next = h.next + 1 := rfl
 generalize h.add (.cells (zAd [.ptr ui 0]) 1 none false) = h1 at *
 simp only [zAa]
 have x1 : TreeR h1 F (.ptr ui 0) (.mk op name typ n pos kids) := TreeR.keep m1.stay (fun _ h _ => h) x
 refine zAc (zAb fun Q1 hQ => ?_)
 simp (disch := omega) only [EL, ↓K3, ↓K1, reduceIte, Nat.reduceEqDiff, Nat.reduceAdd, Nat.reduceLeDiff]
 refine hQ _ ?_
 clear hQ Q1
 have eS : sizeT (.mk op name typ n pos kids) = zGm 1 kids := rfl
 refine zFn (fun l d1 h2 => d1 = [] ∧ More h h2 ∧ h2.mem.get h.next = some (.cells (zAd [.ptr ui 0]) 1 none false) ∧ h.next < h2.next ∧ TreeR h2 F (.ptr ui 0) (.mk op name typ n pos kids) ∧ l.get 1 = some (.int .i64 (en : Int)) ∧ l.get 3 = some (.ptr h.next 0) ∧ l.get 5 = some (.int .i64 (zGm 1 kids))) ?_ ?_
 ·refine zAc (zAb fun Q1 hQ => ?_)
  simp (disch := omega) only [EL, ↓K3, ↓K1, reduceIte, Nat.reduceEqDiff, Nat.reduceAdd, Nat.reduceLeDiff]
  refine hQ _ ?_
  clear hQ Q1
  simp only [zAa]
  refine zAy ?_
  refine zB2 (fun m l d1 h2 => ∃ (k : Nat) (acc : Int), m = kids.length - k ∧ k ≤ kids.length ∧ d1 = [] ∧ More h h2 ∧ h2.mem.get h.next = some (.cells (zAd [.ptr ui 0]) 1 none false) ∧ h.next < h2.next ∧ TreeR h2 F (.ptr ui 0) (.mk op name typ n pos kids) ∧ l.get 1 = some (.int .i64 (en : Int)) ∧ l.get 2 = some (.int .i64 (k : Int)) ∧ l.get 3 = some (.ptr h.next 0) ∧ l.get 5 = some (.int .i64 acc) ∧ zGm acc (kids.drop k) = zGm 1 kids) ?_ (kids.length - 0) ?_
  ·rintro m l d1 h2 ⟨k, acc, rfl, hk, rfl, m2, g2, n2, x2, l1, l2, l3, l5, hacc⟩
   refine zAc ?_
   refine zAc (zAb fun Q1 hQ => ?_)
   simp (disch := omega) only [EL, ↓K3, ↓K1, reduceIte, Nat.reduceEqDiff, Nat.reduceAdd, Nat.reduceLeDiff, l2, l3, g2, zAe]
   refine (zLg H x2).to fun v h3 q => ?_
   obtain ⟨rfl, m3⟩ := q
   have n3 := m3.next
   have g3 := (m3.keep h.next n2).trans g2
   have x3 : TreeR h3 F (.ptr ui 0) (.mk op name typ n pos kids) := TreeR.keep m3.stay (fun _ h _ => h) x2
   simp only [Tree.kids]
   simp (disch := omega) only [EL, ↓K3, ↓K1, reduceIte, Nat.reduceEqDiff, Nat.reduceAdd, Nat.reduceLeDiff]
   refine hQ _ ?_
   clear hQ Q1
   try simp only [zAa]
   refine wc_if (k < kids.length) (by simp (disch := omega) only [EL, ↓K3, ↓K1, reduceIte, Nat.reduceEqDiff, Nat.reduceAdd, Nat.reduceLeDiff]) (fun hlt => ?_) (fun hge => ?_)
   ·refine zAo ?_
    try simp only [zAa]
    refine zAc ?_
    refine zAy ?_
    refine zAc (zAb fun Q1 hQ => ?_)
    simp (disch := omega) only [EL, ↓K3, ↓K1, reduceIte, Nat.reduceEqDiff, Nat.reduceAdd, Nat.reduceLeDiff, l2, l3, l5, g3, zAe]
    refine (kid_gp H x3 hlt).to fun v h4 q => ?_
    obtain ⟨m4, w, rfl, tw⟩ := q
    have n4 := m4.next
    have g4 := (m4.keep h.next (by omega)).trans g3
    have x4 : TreeR h4 F (.ptr ui 0) (.mk op name typ n pos kids) := TreeR.keep m4.stay (fun _ h _ => h) x3
    simp only [Tree.kids] at tw
    simp (disch := omega) only [EL, ↓K3, ↓K1, reduceIte, Nat.reduceEqDiff, Nat.reduceAdd, Nat.reduceLeDiff]
    refine (size_gp H _ tw).to fun v h5 q => ?_
    obtain ⟨rfl, m5⟩ := q
    have n5 := m5.next
    have g5 := (m5.keep h.next (by omega)).trans g4
    have x5 : TreeR h5 F (.ptr ui 0) (.mk op name typ n pos kids) := TreeR.keep m5.stay (fun _ h _ => h) x4
    simp (disch := omega) only [EL, ↓K3, ↓K1, reduceIte, Nat.reduceEqDiff, Nat.reduceAdd, Nat.reduceLeDiff]
    refine hQ _ ?_
    clear hQ Q1
    try simp only [zAa]
    refine zAc (zAb fun Q1 hQ => ?_)
    simp (disch := omega) only [EL, ↓K3, ↓K1, reduceIte, Nat.reduceEqDiff, Nat.reduceAdd, Nat.reduceLeDiff, l2, l3, l5, g5, zAe]
    refine (kid_gp H x5 hlt).to fun v h6 q => ?_
    obtain ⟨m6, w6, rfl, tw6⟩ := q
    have n6 := m6.next
    have g6 := (m6.keep h.next (by omega)).trans g5
    have x6 : TreeR h6 F (.ptr ui 0) (.mk op name typ n pos kids) := TreeR.keep m6.stay (fun _ h _ => h) x5
    simp only [Tree.kids] at tw6
    have fk6 := fk _ (List.getElem_mem hlt)
    simp (disch := omega) only [EL, ↓K3, ↓K1, reduceIte, Nat.reduceEqDiff, Nat.reduceAdd, Nat.reduceLeDiff]
    refine (nop_gp H tw6).to fun v h7 q => ?_
    obtain ⟨rfl, m7⟩ := q
    have n7 := m7.next
    have g7 := (m7.keep h.next (by omega)).trans g6
    have x7 : TreeR h7 F (.ptr ui 0) (.mk op name typ n pos kids) := TreeR.keep m7.stay (fun _ h _ => h) x6
    have hop : ¬ (kids[k].op : Int) = ((0 : Nat) : Int) := by
     have := fk6.op
     omega
    simp (disch := omega) only [EL, ↓K3, ↓K1, reduceIte, Nat.reduceEqDiff, Nat.reduceAdd, Nat.reduceLeDiff, hop, l2, l3, g7, zAe]
    refine (kid_gp H x7 hlt).to fun v h8 q => ?_
    obtain ⟨m8, w8, rfl, tw8⟩ := q
    have n8 := m8.next
    have g8 := (m8.keep h.next (by omega)).trans g7
    have x8 : TreeR h8 F (.ptr ui 0) (.mk op name typ n pos kids) := TreeR.keep m8.stay (fun _ h _ => h) x7
    simp only [Tree.kids] at tw8
    simp (disch := omega) only [EL, ↓K3, ↓K1, reduceIte, Nat.reduceEqDiff, Nat.reduceAdd, Nat.reduceLeDiff, l1]
    refine (IH _ (List.getElem_mem hlt) fk6 tw8).to fun v h9 q => ?_
    obtain ⟨rfl, m9⟩ := q
    have n9 := m9.next
    have g9 := (m9.keep h.next (by omega)).trans g8
    have x9 : TreeR h9 F (.ptr ui 0) (.mk op name typ n pos kids) := TreeR.keep m9.stay (fun _ h _ => h) x8
    simp (disch := omega) only [EL, ↓K3, ↓K1, reduceIte, Nat.reduceEqDiff, Nat.reduceAdd, Nat.reduceLeDiff]
    refine hQ _ ?_
    clear hQ Q1
    try simp only [zAa]
    refine wc_no (by simp (disch := omega) only [EL, ↓K3, ↓K1, reduceIte, Nat.reduceEqDiff, Nat.reduceAdd, Nat.reduceLeDiff]) ?_
    refine zAo ?_
    try simp only [zAi, zAa]
    refine zAb fun Q1 hQ => ?_
    simp (disch := omega) only [EL, ↓K3, ↓K1, reduceIte, Nat.reduceEqDiff, Nat.reduceAdd, Nat.reduceLeDiff, l2]
    refine hQ _ ?_
    clear hQ Q1
    try simp only [zAa]
    refine ⟨kids.length - (k + 1), by omega, k + 1, IntKind.i64.wrap (acc + sizeT kids[k]), rfl, hlt, trivial, (((((((m2.trans m3).trans m4).trans m5).trans m6).trans m7).trans m8).trans m9), g9, by omega, x9, by simp (disch := omega) only [EL, ↓K3, ↓K1, reduceIte, Nat.reduceEqDiff, Nat.reduceAdd, Nat.reduceLeDiff, l1], by simp (disch := omega) only [EL, ↓K3, ↓K1, reduceIte, Nat.reduceEqDiff, Nat.reduceAdd, Nat.reduceLeDiff], by simp (disch := omega) only [EL, ↓K3, ↓K1, reduceIte, Nat.reduceEqDiff, Nat.reduceAdd, Nat.reduceLeDiff, l3], by simp (disch := omega) only [EL, ↓K3, ↓K1, reduceIte, Nat.reduceEqDiff, Nat.reduceAdd, Nat.reduceLeDiff], ?_⟩
    rw [← hacc, List.drop_eq_getElem_cons hlt]
    rfl
   ·refine zC5 ?_
    simp only [zA8, zA5, if_true, zAa]
    refine ⟨trivial, m2.trans m3, g3, by omega, x3, by simp (disch := omega) only [EL, ↓K3, ↓K1, reduceIte, Nat.reduceEqDiff, Nat.reduceAdd, Nat.reduceLeDiff, l1], by simp (disch := omega) only [EL, ↓K3, ↓K1, reduceIte, Nat.reduceEqDiff, Nat.reduceAdd, Nat.reduceLeDiff, l3], ?_⟩
    rw [← hacc, List.drop_eq_nil_of_le (by omega)]
    simp (disch := omega) only [EL, ↓K3, ↓K1, reduceIte, Nat.reduceEqDiff, Nat.reduceAdd, Nat.reduceLeDiff, l5]
    rfl
  ·exact ⟨0, 1, rfl, Nat.zero_le _, rfl, m1, g1, by omega, x1, by simp (disch := omega) only [EL, ↓K3, ↓K1, reduceIte, Nat.reduceEqDiff, Nat.reduceAdd, Nat.reduceLeDiff, i0], by simp (disch := omega) only [EL, ↓K3, ↓K1, reduceIte, Nat.reduceEqDiff, Nat.reduceAdd, Nat.reduceLeDiff], by simp (disch := omega) only [EL, ↓K3, ↓K1, reduceIte, Nat.reduceEqDiff, Nat.reduceAdd, Nat.reduceLeDiff], by simp (disch := omega) only [EL, ↓K3, ↓K1, reduceIte, Nat.reduceEqDiff, Nat.reduceAdd, Nat.reduceLeDiff]; rfl, by rw [List.drop_zero]⟩
 ·rintro l d1 h2 ⟨rfl, m2, g2, n2, x2, l1, l3, l5⟩
  refine zAc (zAb fun Q1 hQ => ?_)
  simp (disch := omega) only [EL, ↓K3, ↓K1, reduceIte, Nat.reduceEqDiff, Nat.reduceAdd, Nat.reduceLeDiff, l3, l5, g2, zAe]
  refine (size_gp H _ x2).to fun v h3 q => ?_
  obtain ⟨rfl, m3⟩ := q
  have n3 := m3.next
  have g3 := (m3.keep h.next (by omega)).trans g2
  have x3 : TreeR h3 F (.ptr ui 0) (.mk op name typ n pos kids) := TreeR.keep m3.stay (fun _ h _ => h) x2
  rw [eS]
  simp (disch := omega) only [EL, ↓K3, ↓K1, reduceIte, Nat.reduceEqDiff, Nat.reduceAdd, Nat.reduceLeDiff, l3, g3, zAe]
  refine (zJg H x3).to fun v h4 q => ?_
  obtain ⟨rfl, m4⟩ := q
  have n4 := m4.next
  have g4 := (m4.keep h.next (by omega)).trans g3
  have x4 : TreeR h4 F (.ptr ui 0) (.mk op name typ n pos kids) := TreeR.keep m4.stay (fun _ h _ => h) x3
  simp only [Tree.pos]
  have p0 : ((0 : Nat) : Int) ≤ (pos : Int) := by omega
  simp (disch := omega) only [EL, ↓K3, ↓K1, reduceIte, Nat.reduceEqDiff, Nat.reduceAdd, Nat.reduceLeDiff, p0, l3, l1, g4, zAe]
  refine (zJg H x4).to fun v h5 q => ?_
  obtain ⟨rfl, m5⟩ := q
  have n5 := m5.next
  have g5 := (m5.keep h.next (by omega)).trans g4
  have x5 : TreeR h5 F (.ptr ui 0) (.mk op name typ n pos kids) := TreeR.keep m5.stay (fun _ h _ => h) x4
  simp only [Tree.pos]
  have p1 : (pos : Int) ≤ (en : Int) := by omega
  simp (disch := omega) only [EL, ↓K3, ↓K1, reduceIte, Nat.reduceEqDiff, Nat.reduceAdd, Nat.reduceLeDiff, p1, l3, g5, zAe]
  refine (zLg H x5).to fun v h6 q => ?_
  obtain ⟨rfl, m6⟩ := q
  have n6 := m6.next
  have g6 := (m6.keep h.next (by omega)).trans g5
  have x6 : TreeR h6 F (.ptr ui 0) (.mk op name typ n pos kids) := TreeR.keep m6.stay (fun _ h _ => h) x5
  simp (disch := omega) only [EL, ↓K3, ↓K1, reduceIte, Nat.reduceEqDiff, Nat.reduceAdd, Nat.reduceLeDiff, l3, g6, zAe, reads_g, zBx, zI4, zB3]
  refine (kidz_gp H x6 (Nat.le_refl _)).to fun v h7 q => ?_
  obtain ⟨rfl, m7⟩ := q
  simp (disch := omega) only [EL, ↓K3, ↓K1, reduceIte, Nat.reduceEqDiff, Nat.reduceAdd, Nat.reduceLeDiff]
  refine (sizez_gp H).to fun v h8 q => ?_
  obtain ⟨rfl, m8⟩ := q
  simp (disch := omega) only [EL, ↓K3, ↓K1, reduceIte, Nat.reduceEqDiff, Nat.reduceAdd, Nat.reduceLeDiff]
  refine hQ _ ?_
  clear hQ Q1
  try simp only [zAa]
  refine zAk ?_
  try simp only [zAg, zAf]
  exact ⟨_, zA4 (v := .bool true) (by simp (disch := omega) only [EL, ↓K3, ↓K1, reduceIte, Nat.reduceEqDiff, Nat.reduceAdd, Nat.reduceLeDiff]) zAl, rfl, (((((m2.trans m3).trans m4).trans m5).trans m6).trans m7).trans m8⟩
theorem parse_in (s : Str) : zG7 (s.length + 2) (10 * s.length + 20) s ≠ .out := by
 unfold zG7
 cases hs : scanS s with
 | ok ts =>
  have := (zK4 hs).2.len
  exact progL_in (by omega) _ (by omega)
 | err p e => simp
 | out => exact absurd hs scanS_in
theorem parse_fine {s : Str} {n m : Nat} {ks : List Tree} {i d : Nat} (h : zG7 n m s = .ok ks i d) : FineT s.length (.mk 1 [] [] 0 0 ks) := by
 unfold zG7 at h
 cases hs : scanS s with
 | ok ts =>
  rw [hs] at h
  have ok := (zK4 hs).2
  refine .mk (by decide) (Nat.zero_le _) (zJ4 (fun j => ?_) _ h (by simp))
  rcases Nat.lt_or_ge j ts.length with hj | hj
  ·rw [zKd hj]; have := (ok.tok _ (List.getElem_mem hj)).1; omega
  ·rw [zEa (by omega)]; exact Nat.le_refl _
 | err p e => rw [hs] at h; cases h
 | out => rw [hs] at h; cases h
theorem parse_nz {s : Str} {n m p e : Nat} (h : zG7 n m s = .err p e) : e ≠ 0 := by
 unfold zG7 at h
 cases hs : scanS s with
 | ok ts => rw [hs] at h; exact nz_prog _ p e h
 | err p' e' => rw [hs] at h; injection h with h1 h2; subst h2; exact scanS_nz hs
 | out => rw [hs] at h; cases h
include H in
theorem zLb {h : AH} {s : Str} : GP tab 3 [sv s] h fun v _ => v = .bool true := by
 have i0 : zAh [sv s] = zAd [sv s] := rfl
 refine GE.gp (ge_of H.t3 rfl ?_) (E := fun _ _ => False) fun _ _ hh => hh
 refine zAc (zAb fun Q1 hQ => ?_)
 simp (disch := omega) only [EL, ↓K3, ↓K1, reduceIte, Nat.reduceEqDiff, Nat.reduceAdd, Nat.reduceLeDiff, i0]
 refine hQ _ ?_
 clear hQ Q1
 refine zAc ?_
 refine zAc (zAb fun Q1 hQ => ?_)
 simp (disch := omega) only [EL, ↓K3, ↓K1, reduceIte, Nat.reduceEqDiff, Nat.reduceAdd, Nat.reduceLeDiff, i0]
 refine (gp_yes (Q := fun v h1 => v = .bool true ∧ h1 = h) H.t8 ⟨rfl, rfl⟩).to fun v h1 q => ?_
 obtain ⟨rfl, rfl⟩ := q
 simp (disch := omega) only [EL, ↓K3, ↓K1, reduceIte, Nat.reduceEqDiff, Nat.reduceAdd, Nat.reduceLeDiff]
 refine hQ _ ?_
 clear hQ Q1
 try simp only [zAa]
 refine wc_no (by simp (disch := omega) only [EL, ↓K3, ↓K1, reduceIte, Nat.reduceEqDiff, Nat.reduceAdd, Nat.reduceLeDiff]) ?_
 refine zAo ?_
 try simp only [zAa]
 refine zAc ?_
 refine zAc (zAb fun Q1 hQ => ?_)
 simp (disch := omega) only [EL, ↓K3, ↓K1, reduceIte, Nat.reduceEqDiff, Nat.reduceAdd, Nat.reduceLeDiff, i0]
 refine hQ _ ?_
 clear hQ Q1
 by_cases hl : 4096 < s.length
 ·refine zAq (by simp (disch := omega) only [EL, ↓K3, ↓K1, reduceIte, Nat.reduceEqDiff, Nat.reduceAdd, Nat.reduceLeDiff, hl]) ?_
  refine zAc (zAb fun Q1 hQ => ?_)
  simp (disch := omega) only [EL, ↓K3, ↓K1, reduceIte, Nat.reduceEqDiff, Nat.reduceAdd, Nat.reduceLeDiff]
  refine hQ _ ?_
  clear hQ Q1
  refine zAk ?_
  try simp only [zAg, zAf]
  exact ⟨_, zA4 (v := .bool true) (by simp (disch := omega) only [EL, ↓K3, ↓K1, reduceIte, Nat.reduceEqDiff, Nat.reduceAdd, Nat.reduceLeDiff]) zAl, rfl⟩
 refine wc_no (by simp (disch := omega) only [EL, ↓K3, ↓K1, reduceIte, Nat.reduceEqDiff, Nat.reduceAdd, Nat.reduceLeDiff, hl]) ?_
 refine zAo ?_
 try simp only [zAa]
 refine zAc (zAb fun Q1 hQ => ?_)
 simp (disch := omega) only [EL, ↓K3, ↓K1, reduceIte, Nat.reduceEqDiff, Nat.reduceAdd, Nat.reduceLeDiff, i0]
 refine (parse_gp H (by omega) rfl (parse_in s)).to fun v h2 q => ?_
 obtain ⟨m2, q⟩ := q
 rcases q with ⟨ks, i, d, u, hy, rfl, tr⟩ | ⟨p, e, hy, rfl⟩
 ·obtain ⟨ui, rfl, hu1, hu2⟩ := tr.ptr
  have fine := parse_fine hy
  simp (disch := omega) only [EL, ↓K3, ↓K1, reduceIte, Nat.reduceEqDiff, Nat.reduceAdd, Nat.reduceLeDiff]
  refine hQ _ ?_
  clear hQ Q1
  refine zBk fun h3 n3 g3 m3 => ?_
  obtain ⟨cb, gb, cb0⟩ := g3
  simp only [zAa]
  have tr3 := TreeR.keep (G := fun k => h1.next ≤ k) m3.stay (fun _ h _ => h) tr
  refine zAc (zAb fun Q1 hQ => ?_)
  simp (disch := omega) only [EL, ↓K3, ↓K1, reduceIte, Nat.reduceEqDiff, Nat.reduceAdd, Nat.reduceLeDiff, i0, gb, cb0, zAe]
  refine (sized_gp H _ fine tr3).to fun v h4 q => ?_
  obtain ⟨rfl, m4⟩ := q
  simp (disch := omega) only [EL, ↓K3, ↓K1, reduceIte, Nat.reduceEqDiff, Nat.reduceAdd, Nat.reduceLeDiff]
  refine hQ _ ?_
  clear hQ Q1
  try simp only [zAa]
  refine zAk ?_
  try simp only [zAg, zAf]
  exact ⟨_, zA4 (v := .bool true) (by simp (disch := omega) only [EL, ↓K3, ↓K1, reduceIte, Nat.reduceEqDiff, Nat.reduceAdd, Nat.reduceLeDiff]) zAl, rfl⟩
 ·have he0 : ¬ (e : Int) = ((0 : Nat) : Int) := by have := parse_nz hy; omega
  simp (disch := omega) only [EL, ↓K3, ↓K1, reduceIte, Nat.reduceEqDiff, Nat.reduceAdd, Nat.reduceLeDiff]
  refine hQ _ ?_
  clear hQ Q1
  refine zBk fun h3 n3 g3 m3 => ?_
  obtain ⟨cb, gb, cb0⟩ := g3
  simp only [zAa]
  refine zAc (zAb fun Q1 hQ => ?_)
  simp (disch := omega) only [EL, ↓K3, ↓K1, reduceIte, Nat.reduceEqDiff, Nat.reduceAdd, Nat.reduceLeDiff, i0, gb, cb0, zAe, he0]
  refine (sizez_gp H).to fun v h4 q => ?_
  obtain ⟨rfl, m4⟩ := q
  simp (disch := omega) only [EL, ↓K3, ↓K1, reduceIte, Nat.reduceEqDiff, Nat.reduceAdd, Nat.reduceLeDiff, he0]
  refine hQ _ ?_
  clear hQ Q1
  try simp only [zAa]
  refine zAk ?_
  try simp only [zAg, zAf]
  exact ⟨_, zA4 (v := .bool true) (by simp (disch := omega) only [EL, ↓K3, ↓K1, reduceIte, Nat.reduceEqDiff, Nat.reduceAdd, Nat.reduceLeDiff]) zAl, rfl⟩
end
end Go.Ev
