/- EvO7 EvO8 EvO9 EvO10 EvO11 EvO11b EvO12 EvO7z -/
import Derived.Test.YtlolcfdllehpgaaGreatDoorPaB
import Derived.ChangeKeysEq
import Derived.MapKept
import Derived.Laws.IdiomRangeMap
set_option linter.unusedSimpArgs false
set_option linter.unusedVariables false
set_option linter.unusedSectionVars false
set_option linter.defProp false
set_option maxRecDepth 100000
set_option maxHeartbeats 4000000
namespace Go.Ev
open Go
variable [Glob]
section
variable {P : Program} {ρ : Rho} {h : AH} {w : World} {loc : T AV} {tmp : List AV}
theorem zEz : ∀ (l : List UInt8), VCs ρ (zDb l.length (encB l)) (l.map fun b => .int .u8 b.toNat)
 | [] => .nil
 | c :: l => by
  have e : zDb (c :: l).length (encB (c :: l)) = AV.int .u8 (Int.ofNat (Nat.mod (encB (c :: l)) 256)) :: zDb l.length (Nat.div (encB (c :: l)) 256) := rfl
  have h1 : Nat.mod (encB (c :: l)) 256 = c.toNat := by
   show (encB (c :: l)) % 256 = _
   rw [zCm]; have := c.toNat_lt; omega
  have h2 : Nat.div (encB (c :: l)) 256 = encB l := by
   show (encB (c :: l)) / 256 = _
   rw [zCm]; have := c.toNat_lt; omega
  rw [e, h1, h2]
  exact .cons rfl (.int _ _) (zEz l)
theorem zK4 {m : Nat} (l : List UInt8) : (zDb l.length (encB l)).take m = zDb (l.take m).length (encB (l.take m)) := by
 induction l generalizing m with
 | nil => show List.take m [] = _; simp; rfl
 | cons c l ih =>
  cases m with
  | zero => simp; rfl
  | succ m =>
   have e : ∀ l : List UInt8, zDb (c :: l).length (encB (c :: l)) = AV.int .u8 c.toNat :: zDb l.length (encB l) := by
    intro l
    have h1 : Nat.mod (encB (c :: l)) 256 = c.toNat := by
     show (encB (c :: l)) % 256 = _
     rw [zCm]; have := c.toNat_lt; omega
    have h2 : Nat.div (encB (c :: l)) 256 = encB l := by
     show (encB (c :: l)) / 256 = _
     rw [zCm]; have := c.toNat_lt; omega
    show AV.int .u8 (Int.ofNat (Nat.mod (encB (c :: l)) 256)) :: zDb l.length (Nat.div (encB (c :: l)) 256) = _
    rw [h1, h2]; rfl
   rw [e, List.take_succ_cons, List.take_succ_cons, e, ih]
theorem run_seg {b p n : Nat} {cs : Array Value} {e : TypeId} {fr : Nat × Nat} (hb : w.heap[b]? = some (.cells cs e fr)) (hn : p + n ≤ cs.size) :
  (loadCells ⟨b, p, none⟩ n).run P w = .ok ((cs.toList.drop p).take n).toArray w := by
 have hlen : ((cs.toList.drop p).take n).length = n := by simp; omega
 have := run_loadCells_list (P := P) w ⟨b, p, none⟩ ((cs.toList.drop p).take n) (fun j v hj => by
  rw [zDt]
  have hj' : j < n := by
   rcases Nat.lt_or_ge j n with h | h
   ·exact h
   ·rw [List.getElem?_eq_none (by omega)] at hj; cases hj
  rw [List.getElem?_take_of_lt hj', List.getElem?_drop, Array.getElem?_toList] at hj
  exact zHc hb hj)
 rwa [hlen] at this
theorem seg_get {cs : Array Value} {p n i : Nat} (hi : i < n) : ((cs.toList.drop p).take n)[i]? = cs[p + i]? := by
 rw [List.getElem?_take_of_lt hi, List.getElem?_drop, Array.getElem?_toList]
theorem seg_rel {c : T AV} {size o p : Nat} {opn : Option Nat} {ro : Bool} {x : Obj} {b n off : Nat} {l : List AV} (hb : w.heap[b]? = some x) (hx : ObjR ρ (.cells c size opn ro) x o p) (hl : loadL c n off = some l) :
  ∃ l', (∀ w1 : World, w1.heap = w.heap → ∀ m, m ≤ n → (loadCells ⟨b, o + off, none⟩ m).run P w1 = .ok (l'.take m).toArray w1) ∧ VCs ρ l l' := by
 obtain ⟨hlen, hget⟩ := zEn hl
 cases hx with
 | cells a1 a2 a3 a4 a5 =>
  rename_i cs e fr
  have hin : ∀ i, i < n → off + i < size := by
   intro i hi
   have : l[i]? = some l[i] := by rw [List.getElem?_eq_getElem (by omega)]
   rw [← hget i hi] at this
   exact (a3 _ _ this).1
  have hfit : n = 0 ∨ o + off + n ≤ cs.size := by
   rcases Nat.eq_zero_or_pos n with h | h
   ·exact .inl h
   ·have := hin (n - 1) (by omega); right; omega
  refine ⟨(cs.toList.drop (o + off)).take n, fun w1 hw m hm => ?_, ?_⟩
  ·rcases hfit with h | h
   ·obtain rfl : m = 0 := by omega
    simpa using run_loadCells_list (P := P) w1 ⟨b, o + off, none⟩ [] (by simp)
   ·have := run_seg (P := P) (w := w1) (b := b) (p := o + off) (n := m) (by rw [hw]; exact hb) (by omega)
    rw [List.take_take, Nat.min_eq_left hm]; exact this
  ·refine VCs.of_get ?_ fun i a ha => ?_
   ·rcases hfit with h | h
    ·subst h; simp [hlen]
    ·simp; omega
   ·have hi : i < n := by
     rcases Nat.lt_or_ge i n with h | h
     ·exact h
     ·rw [List.getElem?_eq_none (by omega)] at ha; cases ha
    rw [← hget i hi] at ha
    obtain ⟨_, hc, v, hv, hr⟩ := a3 _ _ ha
    exact ⟨v, by rw [seg_get hi, Nat.add_assoc]; exact hv, hr, hc⟩
structure Src (P : Program) (ρ : Rho) (w : World) (es : Nat) (v : Value) (n : Nat) (l : List AV) : Prop where
 len : (Builtin.lenOf v).run P w = .ok n w
 all : l.length = n * es
 cells : ∀ m, m ≤ n → ∃ l', VCs ρ (l.take (m * es)) l' ∧ ∀ w1 : World, w1.heap = w.heap → (Builtin.firstCells es m v).run P w1 = .ok l'.toArray w1
theorem lift_src {G : OR → Prop} (hF : ∀ n, G (.fail n)) (W : WR ρ h w) {es : Nat} {a : AV} {v : Value} (hv : VR ρ a v) {k : Nat → List AV → OR}
  (hk : ∀ n l, Src P ρ w es v n l → G (k n l)) : G (zBz es a h k) := by
 unfold zBz
 cases a with
 | str len b =>
  cases hv with
  | str s e1 e2 =>
   refine zAp hF fun he => ?_
   have he : es = 1 := Nat.eq_of_beq_eq_true he
   subst he
   refine hk _ _ ⟨by simp [Builtin.lenOf, e1, size_eq], ?_, fun m hm => ?_⟩
   ·have := (zEz (ρ := ρ) s.data.toList).length
    rw [e1, e2, this]; simp
   ·refine ⟨(s.data.toList.take m).map fun b => .int .u8 b.toNat, ?_, fun w1 hw => ?_⟩
    ·rw [e1, e2, Nat.mul_one, zK4]
     exact zEz _
    ·simp only [Builtin.firstCells, Sem.run_pure]
     congr 1
     apply Array.ext'
     rw [ByteArray.data_extract]
     simp
 | nils =>
  cases hv
  refine hk _ _ ⟨rfl, by show 0 = 0 * es; omega, fun m hm => ⟨[], by simp; exact .nil, fun w1 hw => ?_⟩⟩
  have : m = 0 := Nat.le_zero.1 hm
  simp [Builtin.firstCells]
 | sl id off len cap =>
  refine zBm (fun h0 => ?_) (fun h0 => ?_)
  ·have h0 : len = 0 := Nat.eq_of_beq_eq_true h0
   subst h0
   obtain ⟨a, c, rfl⟩ : ∃ a c, v = .slice (some a) 0 c := by
    cases hv with
    | sl _ _ _ => exact ⟨_, _, rfl⟩
    | slz => exact ⟨_, _, rfl⟩
    | sle => exact ⟨_, _, rfl⟩
   refine hk _ _ ⟨rfl, by show 0 = 0 * es; omega, fun m hm => ⟨[], by simp; exact .nil, fun w1 hw => ?_⟩⟩
   obtain rfl : m = 0 := Nat.le_zero.1 hm
   simp [Builtin.firstCells, loadCells, loadCellsFrom]
  cases hv with
  | slz => cases h0
  | sle => cases h0
  | sl hr hp hc =>
   rename_i b o s p c
   subst hp
   refine zCs hF fun cs size opn ro hg => zAx hF fun l hl => hk _ _ ?_
   rw [AH.get_eq] at hg
   obtain ⟨y, hy, hyr⟩ := W.obj hg hr
   have hlen := (zEn hl).1
   refine ⟨rfl, hlen, fun m hm => ?_⟩
   have hle : m * es ≤ len * es := Nat.mul_le_mul_right es hm
   obtain ⟨l', h1, h2⟩ := seg_rel (P := P) hy hyr hl
   refine ⟨l'.take (m * es), h2.take _, fun w1 hw => ?_⟩
   have := h1 w1 hw (m * es) hle
   simpa [Builtin.firstCells] using this
 | _ => exact hF _
theorem growBy_le (need : Nat) : ∀ (r c : Nat), c ≤ 2 * need + 512 → c < need ∨ c ≤ 2 * need + 512 → Builtin.growBy need r c ≤ 2 * need + 512
 | 0, c, h, _ => h
 | r + 1, c, h, _ => by
  simp only [Builtin.growBy]
  split
  ·exact h
  ·have : c + (c + 768) / 4 ≤ 2 * need + 512 := by omega
   exact growBy_le need r _ this (.inr this)
theorem next_le {need cap : Nat} (h : cap < need) : Builtin.nextslicecap need cap ≤ 2 * need + 512 := by
 unfold Builtin.nextslicecap
 split
 ·omega
 ·split
  ·omega
  ·exact growBy_le _ _ _ (by omega) (.inl h)
theorem room_spec {need b cap : Nat} (h : room need b = true) (hc : cap < need) : ¬ (2 ^ 48 < Builtin.nextslicecap need cap * b) ∧ need ≤ 1099511627776 := by
 unfold room at h
 rw [bi_eq] at h
 split at h
 ·rename_i h0
  have h : (2 * need + 512) * b ≤ 1099511627776 := Nat.le_of_ble_eq_true h
  have := Nat.mul_le_mul_right b (next_le hc)
  have e : (2 : Nat) ^ 48 = 281474976710656 := by decide
  exact ⟨by omega, Nat.le_of_ble_eq_true h0⟩
 ·cases h
structure App (P : Program) (ats : Array TypeId) (e : TypeId) (es b : Nat) (zs : Array Value) : Prop where
 ex : ∃ sT xT, ats[0]? = some sT ∧ ats[1]? = some xT ∧ P.underlying sT = some (.slice e) ∧ ((∃ d, P.underlying xT = some (.slice d)) ∨ P.underlying xT = some .string)
 size : zA2 P e = some es
 bytes : zD0 P e = some b
 zero : ∃ zv, zB5 P e = some zv ∧ zv.cells = zs
 zsize : zs.size = es
theorem zJ6 {ats : Array TypeId} {e ty : TypeId} {es b n sLen sCap : Nat} {zs : Array Value} {x : Value} {new : List Value} {a : Addr} {w' : World} (A : App P ats e es b zs) (hl : (Builtin.lenOf x).run P w = .ok n w) (hneed : sLen + n ≤ sCap)
  (hnew : (Builtin.firstCells es n x).run P w = .ok new.toArray w) (hst : (storeCells (a.add (sLen * es)) new).run P w = .ok () w') :
  (Builtin.append_ ats ty #[.slice (some a) sLen sCap, x]).run P w = .ok (.slice (some a) (sLen + n) sCap) w' := by
 obtain ⟨sT, xT, h0, h1, hu, hx⟩ := A.ex
 rcases hx with ⟨d, hx⟩ | hx <;>
  simp [Builtin.append_, h0, h1, run_underlying hu, run_underlying hx, zAw A.size, hl, hneed, hnew, hst]
theorem append_nil {ats : Array TypeId} {e ty : TypeId} {es b : Nat} {zs : Array Value} {x : Value} (A : App P ats e es b zs) (hl : (Builtin.lenOf x).run P w = .ok 0 w) {new : List Value}
  (hnew : (Builtin.firstCells es 0 x).run P w = .ok new.toArray w) :
  (Builtin.append_ ats ty #[.slice none 0 0, x]).run P w = .ok (.slice none 0 0) w := by
 obtain ⟨sT, xT, h0, h1, hu, hx⟩ := A.ex
 rcases hx with ⟨d, hx⟩ | hx <;>
  simp [Builtin.append_, h0, h1, run_underlying hu, run_underlying hx, zAw A.size, hl, hnew]
theorem zHe {ats : Array TypeId} {e ty : TypeId} {es b n sLen sCap : Nat} {zs : Array Value} {x : Value} {base : Option Addr} {old new : List Value} (A : App P ats e es b zs) (hl : (Builtin.lenOf x).run P w = .ok n w) (hneed : sCap < sLen + n) (hroom : room (sLen + n) b = true)
  (hold : ∀ w1 : World, w1.heap = w.heap → (Builtin.firstCells es sLen (.slice base sLen sCap)).run P w1 = .ok old.toArray w1) (hnew : ∀ w1 : World, w1.heap = w.heap → (Builtin.firstCells es n x).run P w1 = .ok new.toArray w1) :
  ∃ newCap, sLen + n ≤ newCap ∧ (Builtin.append_ ats ty #[.slice base sLen sCap, x]).run P w = .ok (.slice (some ⟨w.heap.size, 0, none⟩) (sLen + n) newCap)
   { w with drawn := w.drawn + 1, heap := w.heap.push (.cells (old.toArray ++ new.toArray ++ Builtin.zeroCells zs (newCap - (sLen + n))) e) } := by
 obtain ⟨sT, xT, h0, h1, hu, hx⟩ := A.ex
 obtain ⟨zv, hz, hzs⟩ := A.zero
 obtain ⟨r1, r2⟩ := room_spec hroom hneed
 obtain ⟨i, hi, hib⟩ : ∃ i, P.info? e = some i ∧ i.bytes = b := by
  have hb := A.bytes
  unfold zD0 at hb
  cases hi : P.info? e with
  | none => rw [hi] at hb; cases hb
  | some i => rw [hi] at hb; injection hb with hb; exact ⟨i, rfl, hb⟩
 have hti : ∀ w1 : World, (typeInfo e).run P w1 = .ok i w1 := fun w1 => by simp [typeInfo, hi]
 have hmax : ¬ (IntKind.i64.max < ((sLen + n : Nat) : Int)) := by
  simp [IntKind.max, IntKind.signed, IntKind.bits]; omega
 have hle : ¬ (sLen + n ≤ sCap) := by omega
 have hforced : (Question.appendCap (sLen + n) sCap e).forced = false := rfl
 refine ⟨(Question.appendCap (sLen + n) sCap e).cut (w.tape w.drawn (Question.appendCap (sLen + n) sCap e)), by simp [Question.cut], ?_⟩
 generalize hcap : (Question.appendCap (sLen + n) sCap e).cut (w.tape w.drawn (Question.appendCap (sLen + n) sCap e)) = newCap
 have ho := hold w.drew rfl
 have hn := hnew w.drew rfl
 have r1' : ¬ (281474976710656 < Builtin.nextslicecap (sLen + n) sCap * i.bytes) := by rw [hib]; simpa using r1
 subst hzs
 have hmax2 : ¬ (9223372036854775807 < (sLen : Int) + (n : Int)) := by omega
 have hmax3 : IntKind.i64.max = 9223372036854775807 := by decide
 rcases hx with ⟨d, hx⟩ | hx <;>
  simp [Builtin.append_, h0, h1, run_underlying hu, run_underlying hx, zAw A.size, hl, hle, hti, hmax2, hmax3, r1', hforced, hcap, ho, hn, zBf hz, zBl] <;>
  exact congrArg (fun c => ({ w with drawn := w.drawn + 1, heap := w.heap.push (.cells c e) } : World)) (by apply Array.ext'; simp)
theorem tgm_spec {o tg : Option Nat} {t : Nat} (h : tgm o tg = some t) : o = some t ∧ tg = some t := by
 cases o with
 | none => cases h
 | some a =>
  cases tg with
  | none => cases h
  | some b =>
   have h : bi (Nat.beq a b) (some a) Option.none = some t := h
   rw [bi_eq] at h
   split at h
   ·rename_i e
    injection h with h
    subst h
    exact ⟨rfl, by rw [Nat.eq_of_beq_eq_true e]⟩
   ·cases h
theorem zJm {c'' : T AV} {es len n newCap : Nat} {new : List AV} {old' new' : List Value} {zs : Array Value} {e : TypeId} (hnl : new.length = n * es) (hnew : VCs ρ new new') (hol : old'.length = len * es) (hz : zs.size = es) (hcap : len + n ≤ newCap) {tg : Option Nat} (htg : ∀ t, tg = some t → e = t)
  (hc : ∀ i a, c''.get i = some a → (i < len * es ∧ a.isCell = true ∧ ∃ v, old'[i]? = some v ∧ VR ρ a v) ∨ (len * es ≤ i ∧ i < (len + n) * es ∧ new[i - len * es]? = some a)) :
  ObjR ρ (.cells c'' ((len + n) * es) tg false) (.cells (old'.toArray ++ new'.toArray ++ Builtin.zeroCells zs (newCap - (len + n))) e) 0 (newCap * es) := by
 have hnl' := hnew.length
 have hsum : (len + n) * es = len * es + n * es := Nat.add_mul _ _ _
 have hsz : (old'.toArray ++ new'.toArray ++ Builtin.zeroCells zs (newCap - (len + n))).size = newCap * es := by
  simp [Builtin.zeroCells, hol, hz]
  have : (newCap - (len + n)) * es = newCap * es - (len + n) * es := Nat.sub_mul _ _ _
  have h2 : (len + n) * es ≤ newCap * es := Nat.mul_le_mul_right es hcap
  omega
 refine .cells (by rw [hsz]; omega) (Nat.mul_le_mul_right es hcap) (fun i a ha => ?_) (fun _ => rfl) (fun t ht => ⟨htg t ht, rfl⟩)
 rcases hc i a ha with ⟨h1, h2, v, h3, h4⟩ | ⟨h1, h2, h3⟩
 ·refine ⟨by omega, h2, v, ?_, h4⟩
  rw [Nat.zero_add, Array.getElem?_append_left (by simp; omega), Array.getElem?_append_left (by simp; omega)]
  simpa using h3
 ·obtain ⟨v, hv, hr, hc⟩ := hnew.get h3
  refine ⟨h2, hc, v, ?_, hr⟩
  rw [Nat.zero_add, Array.getElem?_append_left (by simp; omega), Array.getElem?_append_right (by simp; omega)]
  simpa [hol] using hv
theorem zJo {l : List AV} {c : T AV} {es len n i : Nat} {a : AV} (hl : l.length = n * es) (h : (putL l c (len * es)).get i = some a) : (len * es ≤ i ∧ i < (len + n) * es ∧ l[i - len * es]? = some a) ∨ (¬ (len * es ≤ i ∧ i < len * es + n * es) ∧ c.get i = some a) := by
 rw [zEd, hl] at h
 split at h
 ·rename_i hi; exact .inl ⟨hi.1, by rw [Nat.add_mul]; exact hi.2, h⟩
 ·exact .inr ⟨‹_›, h⟩
theorem zGo {ats : Array TypeId} {e ty : TypeId} {es b n : Nat} {zs : Array Value} {vx : Value} {new : List AV} {base : Option Addr} (W : WR ρ h w) (A : App P ats e es b zs) (S : Src P ρ w es vx n new) (h0 : n ≠ 0) {tg : Option Nat} (htg : ∀ t, tg = some t → e = t)
  (hb : ∀ w1 : World, w1.heap = w.heap → (Builtin.firstCells es 0 (.slice base 0 0)).run P w1 = .ok ([] : List Value).toArray w1) :
  Good P ρ h w (vv (Builtin.append_ ats ty #[.slice base 0 0, vx])) (bi (room n b) (AH.new h (AObj.cells (zAc new) (Nat.mul n es) tg false) fun id h => OR.val (AV.sl id (nat_lit 0) n (ACap.rest es)) h) (F 48)) := by
 refine zAp Good.hF fun hroom => ?_
 obtain ⟨new', hnew, hn2⟩ := S.cells n (Nat.le_refl _)
 rw [← S.all, List.take_length] at hnew
 obtain ⟨newCap, hc1, hrun⟩ := zHe (ty := ty) (base := base) (sLen := 0) (sCap := 0) (old := []) A S.len (by omega) (by rw [Nat.zero_add]; exact hroom) hb hn2
 rw [AH.new_eq]
 rw [Nat.zero_add] at hrun hc1
 have hobj := zJm (e := e) (c'' := zAc new) (len := 0) (old' := []) (newCap := newCap) S.all hnew (by simp) A.zsize (by omega) htg (fun i a ha => by
  rw [zAk] at ha
  have hi : i < new.length := by
   rcases Nat.lt_or_ge i new.length with h | h
   ·exact h
   ·rw [List.getElem?_eq_none h] at ha; cases ha
  exact .inr ⟨by omega, by rw [Nat.zero_add, ← S.all]; exact hi, by simpa using ha⟩)
 rw [Nat.zero_add] at hobj
 obtain ⟨W', S'⟩ := W.alloc hobj (w' := { w with drawn := w.drawn + 1, heap := w.heap.push (.cells (([] : List Value).toArray ++ new'.toArray ++ Builtin.zeroCells zs (newCap - n)) e) }) rfl ⟨rfl, rfl, rfl⟩
 exact ⟨_, _, _, .inl (zAn hrun), .sl (Rho.ext_self _ _ _) rfl (.rest (by show 0 + newCap * es = newCap * es; omega) hc1), W', S'⟩
theorem s_append {ats : Array TypeId} {s x : Opd} {e ty : TypeId} {es b : Nat} {zs : Array Value} {vs vx : Value} (W : WR ρ h w) (A : App P ats e es b zs) {tg : Option Nat} (htg : ∀ t, tg = some t → e = t) (hs : VR ρ (ev loc tmp s) vs) (hx : VR ρ (ev loc tmp x) vx) :
  Good P ρ h w (vv (Builtin.append_ ats ty #[vs, vx])) (zDl tg es b s x loc tmp h) := by
 unfold zDl
 refine lift_src (P := P) Good.hF W hx fun n new S => zGf Good.hF (fun ex => ?_) fun id off len cap ex => ?_
 ·rw [ex] at hs
  cases hs
  refine zBm (fun h0 => ?_) (fun h0 => ?_)
  ·have h0 : n = 0 := Nat.eq_of_beq_eq_true h0
   subst h0
   obtain ⟨l', _, h1⟩ := S.cells 0 (Nat.le_refl _)
   exact .same W (zAn (append_nil A S.len (h1 w rfl))) .nils
  ·have h0 : n ≠ 0 := fun e => by rw [e] at h0; cases h0
   exact zGo W A S h0 htg (fun w1 _ => by simp [Builtin.firstCells])
 ·rw [ex] at hs
  refine zBm (fun h0 => ?_) (fun hn0 => ?_)
  ·have h0 : n = 0 := Nat.eq_of_beq_eq_true h0
   subst h0
   obtain ⟨l', hl', h1⟩ := S.cells 0 (Nat.le_refl _)
   rw [Nat.zero_mul, List.take_zero] at hl'
   cases hl'
   obtain ⟨a, C, rfl, hle⟩ : ∃ a C, vs = .slice (some a) len C ∧ len ≤ C := by
    cases hs with
    | sl _ _ hc => exact ⟨_, _, rfl, hc.le⟩
    | slz => exact ⟨_, _, rfl, Nat.le_refl _⟩
    | sle => exact ⟨_, _, rfl, Nat.zero_le _⟩
   exact .same W (zAn (zJ6 (ty := ty) A S.len (by omega) (h1 w rfl) rfl)) hs
  have hn0 : n ≠ 0 := fun e => by rw [e] at hn0; cases hn0
  have fresh : ∀ (a : Addr) (OLD : OR) (cp : Nat), (cp = 0 → vs = .slice (some a) 0 0) → Good P ρ h w (vv (Builtin.append_ ats ty #[vs, vx])) OLD →
    Good P ρ h w (vv (Builtin.append_ ats ty #[vs, vx])) (bi (Nat.beq cp 0) (bi (room n b) (AH.new h (AObj.cells (zAc new) (Nat.mul n es) tg false) fun id h => OR.val (AV.sl id (nat_lit 0) n (ACap.rest es)) h) (F 48)) OLD) := by
   intro a OLD cp hv0 hold
   refine zBm (fun h0 => ?_) (fun _ => hold)
   rw [hv0 (Nat.eq_of_beq_eq_true h0)]
   exact zGo W A S hn0 htg (fun w1 _ => by simp [Builtin.firstCells, loadCells, loadCellsFrom])
  cases hs with
  | sle => exact zCs Good.hF fun c size opn ro hg => zAp Good.hF fun h1 => zDs Good.hF fun _ => zAp Good.hF fun h2 => absurd (Nat.le_of_ble_eq_true h2) (by rw [Nat.eq_of_beq_eq_true h1]; decide)
  | slz =>
   rename_i a
   refine zBm (fun _ => ?_) (fun h0 => by cases h0)
   exact zGo W A S hn0 htg (fun w1 _ => by simp [Builtin.firstCells, loadCells, loadCellsFrom])
  | sl hr hp hc =>
  rename_i bb o s' p C
  subst hp
  suffices hsuf : Good P ρ h w (vv (Builtin.append_ ats ty #[.slice (some ⟨bb, o + off, none⟩) len C, vx])) (zBx (AH.get h id) fun c size o r =>
   fN (Nat.add len n) fun need =>
   ACap.rec (motive := fun _ => OR)
    (fun cp => bi (Nat.ble need cp)
     (bi r (F 49) (obind (zCh new c (Nat.add off (Nat.mul len es))) (F 49) fun c' => OR.val (AV.sl id off need cap) (AH.set h id (AObj.cells c' size o r))))
     (bi (room need b) (obind (loadL c (Nat.mul len es) off) (F 50) fun old => AH.new h (AObj.cells (putL new (zAc old) (Nat.mul len es)) (Nat.mul need es) tg false) fun id h => OR.val (AV.sl id (nat_lit 0) need (ACap.rest es)) h) (F 50)))
    (fun es' => bi (Nat.beq es es') (bi r (F 51) (bi (Nat.ble (nat_lit 1) es) (bi (Nat.ble (Nat.add off (Nat.mul need es)) size)
     (obind (zCh new c (Nat.add off (Nat.mul len es))) (F 51) fun c' => OR.val (AV.sl id off need cap) (AH.set h id (AObj.cells c' size o r)))
     (bi (room need b) (bi (Nat.beq off (nat_lit 0))
      (AH.new (AH.kill h id) (AObj.cells (putL new c (Nat.mul len es)) (Nat.mul need es) (tgm o tg) false) fun id h => OR.val (AV.sl id (nat_lit 0) need (ACap.rest es)) h)
      (obind (loadL c (Nat.mul len es) off) (F 52) fun old => AH.new (AH.kill h id) (AObj.cells (putL new (zAc old) (Nat.mul len es)) (Nat.mul need es) none false) fun id h => OR.val (AV.sl id (nat_lit 0) need (ACap.rest es)) h)) (F 52))) (F 52))) (F 52)) cap) by
   cases cap with
   | known cp =>
    have hv0 : cp = 0 → Value.slice (some ⟨bb, o + off, none⟩) len C = .slice (some ⟨bb, o + off, none⟩) 0 0 := fun h0 => by
     have h1 : C = cp := by cases hc; rfl
     have h2 := hc.le
     have h3 : C = 0 := by omega
     have h4 : len = 0 := by omega
     rw [h3, h4]
    show Good P ρ h w _ (bi (Nat.beq cp 0) _ _)
    exact fresh ⟨bb, o + off, none⟩ _ cp hv0 hsuf
   | rest es' => exact hsuf
  refine zCs Good.hF fun c size opn ro hg => ?_
  rw [fN_eq]
  show Good P ρ h w _ (ACap.rec (motive := fun _ => OR) _ _ cap)
  rw [AH.get_eq] at hg
  obtain ⟨new', hnew, hn2⟩ := S.cells n (Nat.le_refl _)
  rw [← S.all, List.take_length] at hnew
  obtain ⟨y, hy, hyr⟩ := W.obj hg hr
  have hcl := hc.le
  have inplace : ∀ (c' : T AV) (cap' : ACap), ro = false → len + n ≤ C → zCh new c (off + len * es) = some c' → CapR cap' off s' (len + n) C → Good P ρ h w (vv (Builtin.append_ ats ty #[.slice (some ⟨bb, o + off, none⟩) len C, vx])) (OR.val (AV.sl id off (len + n) cap') (AH.set h id (AObj.cells c' size opn ro))) := by
   intro c' cap' hro hle hst hcr
   subst hro
   obtain ⟨hrun, W', S'⟩ := zCf (P := P) W hg hr hnew hst
   have happ := zJ6 (ty := ty) (a := ⟨bb, o + off, none⟩) A S.len hle (hn2 w rfl) (by rw [zDt, Nat.add_assoc]; exact hrun)
   exact ⟨ρ, _, _, .inl (zAn happ), .sl hr rfl hcr, W', S'⟩
  cases cap with
  | known cp =>
   obtain ⟨hcc, hlc⟩ : C = cp ∧ len ≤ cp := by cases hc; exact ⟨rfl, ‹_›⟩
   subst hcc
   refine zBm (fun h0 => zDs Good.hF fun hro => zAx Good.hF fun c' hst => ?_) (fun h0 => zAp Good.hF fun hroom => zAx Good.hF fun old hold => ?_)
   ·have h0 : len + n ≤ C := Nat.le_of_ble_eq_true h0
    exact inplace c' _ hro h0 hst (.known h0)
   ·have h0 : C < len + n := by
     rcases Nat.lt_or_ge C (len + n) with h | h
     ·exact h
     ·rw [show Nat.ble (Nat.add len n) C = true from by rw [Nat.ble_eq]; exact h] at h0; cases h0
    obtain ⟨old', h1, h2⟩ := seg_rel (P := P) hy hyr hold
    have hol := (zEn hold).1
    have hol' : old'.length = len * es := by rw [← h2.length]; exact hol
    obtain ⟨newCap, hc1, hrun⟩ := zHe (ty := ty) (base := some ⟨bb, o + off, none⟩) (sLen := len) (sCap := C) (old := old') A S.len h0 hroom (fun w1 hw => by
     have := h1 w1 hw (len * es) (Nat.le_refl _)
     rw [← hol', List.take_length] at this
     simpa [Builtin.firstCells, hol'] using this) hn2
    rw [AH.new_eq]
    have hobj := zJm (e := e) (c'' := putL new (zAc old) (len * es)) (len := len) (newCap := newCap) S.all hnew hol' A.zsize hc1 htg (fun i a ha => by
     rcases zJo S.all ha with q | ⟨q1, q2⟩
     ·exact .inr q
     ·rw [zAk] at q2
      obtain ⟨v, hv, hr, hcc⟩ := h2.get q2
      refine .inl ⟨?_, hcc, v, hv, hr⟩
      rcases Nat.lt_or_ge i old.length with h | h
      ·rw [hol] at h; exact h
      ·rw [List.getElem?_eq_none h] at q2; cases q2)
    obtain ⟨W', S'⟩ := W.alloc hobj (w' := { w with drawn := w.drawn + 1, heap := w.heap.push (.cells (old'.toArray ++ new'.toArray ++ Builtin.zeroCells zs (newCap - (len + n))) e) }) rfl ⟨rfl, rfl, rfl⟩
    exact ⟨_, _, _, .inl (zAn hrun), .sl (Rho.ext_self _ _ _) rfl (.rest (by show 0 + newCap * es = newCap * es; omega) hc1), W', S'⟩
  | rest es' =>
   refine zAp Good.hF fun hes => zDs Good.hF fun hro => zAp Good.hF fun hpos => ?_
   have hes : es = es' := Nat.eq_of_beq_eq_true hes
   have hpos : 1 ≤ es := Nat.le_of_ble_eq_true hpos
   subst hes
   obtain ⟨hcs, hlc⟩ : off + C * es = s' ∧ len ≤ C := by cases hc; exact ⟨‹_›, ‹_›⟩
   have hsize : size ≤ s' := by cases hyr; assumption
   have hsum : (len + n) * es = len * es + n * es := Nat.add_mul _ _ _
   refine zBm (fun hfit => zAx Good.hF fun c' hst => ?_) (fun hfit => zAp Good.hF fun hroom => ?_)
   ·have hfit : off + (len + n) * es ≤ size := Nat.le_of_ble_eq_true hfit
    have hle : len + n ≤ C := by
     have : (len + n) * es ≤ C * es := by omega
     exact Nat.le_of_mul_le_mul_right this (by omega)
    exact inplace c' _ hro hle hst (.rest hcs hle)
   ·have hfit : size < off + (len + n) * es := by
     rcases Nat.lt_or_ge size (off + (len + n) * es) with h | h
     ·exact h
     ·rw [show Nat.ble (Nat.add off (Nat.mul (Nat.add len n) es)) size = true from by rw [Nat.ble_eq]; exact h] at hfit; cases hfit
    subst hro
    have fin : ∀ (tg' : Option Nat) (c'' : T AV), (∀ t, tg' = some t → opn = some t ∧ tg = some t ∧ off = 0) → (∀ i a, c''.get i = some a → (i < len * es ∧ c.get (off + i) = some a) ∨ (len * es ≤ i ∧ i < (len + n) * es ∧ new[i - len * es]? = some a)) →
      Good P ρ h w (vv (Builtin.append_ ats ty #[.slice (some ⟨bb, o + off, none⟩) len C, vx])) (AH.new (AH.kill h id) (AObj.cells c'' (Nat.mul (Nat.add len n) es) tg' false) fun id h => OR.val (AV.sl id 0 (Nat.add len n) (ACap.rest es)) h) := by
     intro tg' c'' ht' hc''
     rw [AH.new_eq, AH.kill_next]
     cases hyr with
     | cells a1 a2 a3 a4 a5 =>
     rename_i cs te fr
     by_cases hle : len + n ≤ C
     ·
      have hCs : (len + n) * es ≤ C * es := Nat.mul_le_mul_right es hle
      have hnl := hnew.length
      have hall := S.all
      have hrun := run_storeCells_cells (P := P) bb (o + off + len * es) new' 0 w (fun j hj => by
        simp only [Nat.add_zero]
        rw [zHc hy (Array.getElem?_eq_getElem (by omega))]; rfl)
       (fun j hj => by
        simp only [Nat.add_zero]
        refine zHt hy ?_
        have := a4 rfl
        omega) hnew.oneCell
      rw [Nat.add_zero] at hrun
      have happ := zJ6 (ty := ty) (a := ⟨bb, o + off, none⟩) A S.len hle (hn2 w rfl) (by rw [zDt]; exact hrun)
      obtain ⟨cs', e1, e2, e3⟩ := zFp new' (o + off + len * es) hy
      obtain ⟨W', S'⟩ := W.adopt (w' := w.setCells bb (o + off + len * es) new') (o' := .cells c'' ((len + n) * es) tg' false) hg rfl hr rfl (p' := o + off) (s' := C * es) (x := .cells cs' te fr)
       (ObjR.cells (by omega) hCs (fun i a ha => by
        rcases hc'' i a ha with ⟨q1, q2⟩ | ⟨q1, q2, q3⟩
        ·obtain ⟨_, r2, v, r3, r4⟩ := a3 _ _ q2
         refine ⟨by omega, r2, v, ?_, r4⟩
         rw [e3, if_neg (by omega), Nat.add_assoc]; exact r3
        ·obtain ⟨v, hv, hrv, hcv⟩ := hnew.get q3
         refine ⟨q2, hcv, v, ?_, hrv⟩
         rw [e3, if_pos (by omega), ← hv]; congr 1; omega)
        (fun _ => a4 rfl) (fun t ht => by obtain ⟨q1, q2, q3⟩ := ht' t ht; obtain ⟨q4, q5⟩ := a5 t q1; exact ⟨q4, by omega⟩))
       e1 (fun k hk => zD5 _ _ hk) (zDg _ _) (zFm _ _)
      exact ⟨_, _, _, .inl (zAn happ), .sl (Rho.ext_self _ _ _) rfl (.rest (by show 0 + C * es = C * es; omega) hle), W', S'⟩
     ·
      have hlen : len * es ≤ C * es := Nat.mul_le_mul_right es hlc
      have hol' : ((cs.toList.drop (o + off)).take (len * es)).length = len * es := by simp; omega
      obtain ⟨newCap, hc1, hrun⟩ := zHe (ty := ty) (base := some ⟨bb, o + off, none⟩) (sLen := len) (sCap := C) (old := (cs.toList.drop (o + off)).take (len * es)) A S.len (by omega) hroom (fun w1 hw => by
       have := run_seg (P := P) (w := w1) (b := bb) (p := o + off) (n := len * es) (cs := cs) (e := te) (fr := fr) (by rw [hw]; exact hy) (by omega)
       simpa [Builtin.firstCells] using this) hn2
      have hobj := zJm (ρ := ρ) (e := e) (c'' := c'') (len := len) (newCap := newCap) S.all hnew hol' A.zsize hc1 (tg := tg') (fun t ht => htg t (ht' t ht).2.1) (fun i a ha => by
       rcases hc'' i a ha with ⟨q1, q2⟩ | q
       ·obtain ⟨_, r2, v, r3, r4⟩ := a3 _ _ q2
        exact .inl ⟨q1, r2, v, by rw [seg_get q1, Nat.add_assoc]; exact r3, r4⟩
       ·exact .inr q)
      obtain ⟨W1, S1⟩ := W.kill hr
      obtain ⟨W', S'⟩ := W1.alloc hobj (w' := { w with drawn := w.drawn + 1, heap := w.heap.push (.cells (((cs.toList.drop (o + off)).take (len * es)).toArray ++ new'.toArray ++ Builtin.zeroCells zs (newCap - (len + n))) e) }) rfl ⟨rfl, rfl, rfl⟩
      rw [AH.kill_next] at W' S'
      exact ⟨_, _, _, .inl (zAn hrun), .sl (Rho.ext_self _ _ _) rfl (.rest (by show 0 + newCap * es = newCap * es; omega) hc1), W', S1.trans S'⟩
    have hkeys : ∀ i a, c.get i = some a → i < size := by
     intro i a ha
     cases hyr with
     | cells a1 a2 a3 a4 a5 => exact (a3 _ _ ha).1
    refine zBm (fun h0 => ?_) (fun h0 => zAx Good.hF fun old hold => ?_)
    ·have h0 : off = 0 := Nat.eq_of_beq_eq_true h0
     refine fin (tgm opn tg) _ (fun t ht => ⟨(tgm_spec ht).1, (tgm_spec ht).2, h0⟩) fun i a ha => ?_
     rcases zJo S.all ha with q | ⟨q1, q2⟩
     ·exact .inr q
     ·have := hkeys _ _ q2
      exact .inl ⟨by omega, by rw [h0, Nat.zero_add]; exact q2⟩
    ·obtain ⟨hol, hog⟩ := zEn hold
     have hol : old.length = len * es := hol
     refine fin none _ (fun _ h => by cases h) fun i a ha => ?_
     rcases zJo S.all ha with q | ⟨q1, q2⟩
     ·exact .inr q
     ·rw [zAk] at q2
      have hi : i < len * es := by
       rcases Nat.lt_or_ge i old.length with h | h
       ·omega
       ·rw [List.getElem?_eq_none h] at q2; cases q2
      exact .inl ⟨hi, by rw [hog i hi]; exact q2⟩
end
end Go.Ev
namespace Go.Ev
open Go
variable [Glob]
section
variable {P : Program} {ρ : Rho} {h : AH} {w : World} {loc : T AV} {tmp : List AV}
theorem s_copy {ats : Array TypeId} {d s : Opd} {dT e ty : TypeId} {es : Nat} {vd vs : Value} (W : WR ρ h w) (h0 : ats[0]? = some dT) (hu : P.underlying dT = some (.slice e)) (hes : zA2 P e = some es) (hd : VR ρ (ev loc tmp d) vd) (hs : VR ρ (ev loc tmp s) vs) :
  Good P ρ h w (vv (Builtin.copy_ ats ty #[vd, vs])) (oCopy es d s loc tmp h) := by
 unfold oCopy
 refine lift_src (P := P) Good.hF W hs fun n new S => zGf Good.hF (fun ex => ?_) fun id off len cap ex => ?_
 ·rw [ex] at hd
  cases hd
  rw [zDm]
  obtain ⟨l', _, h1⟩ := S.cells 0 (Nat.zero_le _)
  refine .same W (zAn ?_) (.int _ _)
  have := h1 w rfl
  simp [Builtin.copy_, h0, run_underlying hu, zAw hes, S.len, this, goInt]
 ·rw [ex] at hd
  refine zBm (fun hz => ?_) (fun hz => ?_)
  ·have hz : len = 0 := Nat.eq_of_beq_eq_true hz
   subst hz
   obtain ⟨a, C, rfl⟩ : ∃ a C, vd = .slice (some a) 0 C := by
    cases hd with
    | sl _ _ _ => exact ⟨_, _, rfl⟩
    | slz => exact ⟨_, _, rfl⟩
    | sle => exact ⟨_, _, rfl⟩
   obtain ⟨l', hl', h1⟩ := S.cells 0 (Nat.zero_le _)
   rw [Nat.zero_mul, List.take_zero] at hl'
   cases hl'
   rw [zDm]
   refine .same W (zAn ?_) (.int _ _)
   have := h1 w rfl
   simp [Builtin.copy_, h0, run_underlying hu, zAw hes, S.len, this, goInt, storeCells]
  refine zCs Good.hF fun c size opn ro hg => zDs Good.hF fun hro => zAx Good.hF fun c' hst => ?_
  subst hro
  rw [zDm]
  rw [AH.get_eq] at hg
  have hmin : nmin n len = Nat.min n len := by unfold nmin; rw [bi_eq]; simp only [Nat.ble_eq]; show _ = min n len; rw [Nat.min_def]
  cases hd with
  | slz => cases hz
  | sle => cases hz
  | sl hr hp hc =>
   rename_i bb o s' p C
   subst hp
   obtain ⟨l', hl', h1⟩ := S.cells (Nat.min n len) (Nat.min_le_left _ _)
   rw [hmin, zHo] at hst
   obtain ⟨hrun, W', S'⟩ := zCf (P := P) W hg hr hl' hst
   rw [hmin]
   refine ⟨ρ, _, _, .inl (zAn ?_), .int _ _, W', S'⟩
   have := h1 w rfl
   simp [Builtin.copy_, h0, run_underlying hu, zAw hes, S.len, this, hrun, goInt]
theorem s_clear {ats : Array TypeId} {x : Opd} {t e ty : TypeId} {z : List AV} {zv v : Value} (W : WR ρ h w) (h0 : ats[0]? = some t) (hu : P.underlying t = some (.slice e)) (hz : zB5 P e = some zv) (hzc : zB4 zv = some z) (hv : VR ρ (ev loc tmp x) v) :
  Good P ρ h w (vv (Builtin.clear_ ats ty #[v])) (oClear z x loc tmp h) := by
 unfold oClear
 refine zGf Good.hF (fun ex => ?_) fun id off len cap ex => ?_
 ·rw [ex] at hv
  cases hv
  exact .same W (zAn (by simp [Builtin.clear_, h0, run_underlying hu])) (.tup .nil rfl)
 ·rw [ex] at hv
  refine zBm (fun hl0 => ?_) (fun hl0 => ?_)
  ·have hl0 : len = 0 := Nat.eq_of_beq_eq_true hl0
   subst hl0
   obtain ⟨a, C, rfl⟩ : ∃ a C, v = .slice (some a) 0 C := by
    cases hv with
    | sl _ _ _ => exact ⟨_, _, rfl⟩
    | slz => exact ⟨_, _, rfl⟩
    | sle => exact ⟨_, _, rfl⟩
   refine .same W (zAn ?_) (.tup .nil rfl)
   simp [Builtin.clear_, h0, run_underlying hu, zBf hz, Builtin.zeroCells, storeCells]
  refine zCs Good.hF fun c size opn ro hg => zDs Good.hF fun hro => zAx Good.hF fun c' hst => ?_
  subst hro
  rw [AH.get_eq] at hg
  cases hv with
  | slz => cases hl0
  | sle => cases hl0
  | sl hr hp hc =>
   rename_i bb o s' p C
   subst hp
   rw [zHa] at hst
   have hrep := zEk (n := len) (zBv (ρ := ρ) hzc)
   obtain ⟨hrun, W', S'⟩ := zCf (P := P) W hg hr hrep hst
   have hzz : (Builtin.zeroCells zv.cells len) = (Array.range (len * zv.cells.size)).map (zv.cells[· % zv.cells.size]!) := rfl
   rw [← hzz] at hrun W' S'
   refine ⟨ρ, _, _, .inl (zAn ?_), .tup .nil rfl, W', S'⟩
   cases len with
   | zero =>
    have e0 : Builtin.zeroCells zv.cells 0 = #[] := by simp [Builtin.zeroCells]
    rw [e0]
    simp [Builtin.clear_, h0, run_underlying hu]
    rfl
   | succ len =>
    simp [Builtin.clear_, h0, run_underlying hu, zBf hz, hrun]
theorem zDy (t : TypeId) (u v : Value) : Op.equal t u v = Op.equalIn (9999 + 1) t u v := rfl
theorem equal_int {t : TypeId} {k k' : IntKind} {a b : Int} {x y : Operand} {op : BinOp} (neg : Bool) (hop : op = if neg then .neq else .eql) (hk : k = k') :
  (do eqGuard op t x y (.int k a) (.int k' b); binOp op t (.int k a) (.int k' b) : Sem Value).run P w = .ok (.bool (if neg then a != b else a == b)) w := by
 subst hk
 cases neg <;> subst hop <;> simp [eqGuard, binOp, Op.intCmp]
theorem equal_str {t : TypeId} {a b : ByteArray} {x y : Operand} {op : BinOp} (neg : Bool) (hop : op = if neg then .neq else .eql) :
  (do eqGuard op t x y (.string a) (.string b); binOp op t (.string a) (.string b) : Sem Value).run P w = .ok (.bool (if neg then !(a.data.toList == b.data.toList) else a.data.toList == b.data.toList)) w := by
 cases neg <;> subst hop <;> simp [eqGuard, binOp, Op.stringOp, ByteArray.toList_eq]
theorem str_eq {ρ : Rho} {l b l' b' : Nat} {s s' : ByteArray} (h1 : VR ρ (.str l b) (.string s)) (h2 : VR ρ (.str l' b') (.string s')) : bi (Nat.beq l l') (Nat.beq b b') false = (s.data.toList == s'.data.toList) := by
 cases h1 with
 | str _ e1 e2 =>
 cases h2 with
 | str _ e3 e4 =>
  rw [bi_eq, Bool.eq_iff_iff]
  constructor
  ·intro h
   split at h
   ·rename_i hl
    have hl : l = l' := Nat.eq_of_beq_eq_true hl
    have hb : b = b' := Nat.eq_of_beq_eq_true h
    have := zLw (a := s.data.toList) (b := s'.data.toList) (by omega) (by rw [← e2, ← e4, hb])
    rw [this]; exact beq_self_eq_true _
   ·cases h
  ·intro h
   have h : s.data.toList = s'.data.toList := eq_of_beq h
   have hl : l = l' := by rw [e1, e3, h]
   have hb : b = b' := by rw [e2, e4, h]
   rw [hl, hb, if_pos (Nat.beq_refl _)]
   exact Nat.beq_refl _
theorem zFu {t : TypeId} {u v : Value} {x y : Operand} {op : BinOp} {q : Bool} (neg : Bool) (hop : op = if neg then .neq else .eql) (hg : (eqGuard op t x y u v).run P w = .ok () w) (he : (Op.equal t u v).run P w = .ok q w)
  (hn : ∀ o : BinOp, o = .eql ∨ o = .neq → binOp o t u v = (if o = .eql then do pure (.bool (← Op.equal t u v)) else do pure (.bool (!(← Op.equal t u v))))) :
  (do eqGuard op t x y u v; binOp op t u v : Sem Value).run P w = .ok (.bool (if neg then !q else q)) w := by
 cases neg <;> subst hop
 ·simp only [Bool.false_eq_true, if_false] at hg ⊢
  simp [hg, hn _ (.inl rfl), he]
 ·simp only [if_true] at hg ⊢
  simp [hg, hn _ (.inr rfl), he]
theorem zHu {neg q : Bool} {s : Sem Value} (W : WR ρ h w) (hs : s.run P w = .ok (.bool (if neg then !q else q)) w) : Good P ρ h w (vv s) (Ev.bool (bi neg (bi q false true) q) h) := by
 rw [zC5]
 have : bi neg (bi q false true) q = (if neg then !q else q) := by cases neg <;> cases q <;> rfl
 rw [this]
 exact .same W (zAn hs) (.bool _)
theorem zGg {G : OR → Prop} (hF : ∀ n, G (.fail n)) {o : Option Bool} {neg : Bool} (hk : ∀ q, o = some q → G (Ev.bool (bi neg (bi q false true) q) h)) : G (obind o (F 29) fun q => Ev.bool (bi neg (bi q false true) q) h) := zAx hF hk
variable {x y : Opd} {u v : Value} {t : TypeId} {x' y' : Operand} {op : BinOp} {neg : Bool}
theorem s_eqNum (W : WR ρ h w) (hop : op = if neg then .neq else .eql) (hx : VR ρ (ev loc tmp x) u) (hy : VR ρ (ev loc tmp y) v) :
  Good P ρ h w (vv (do eqGuard op t x' y' u v; binOp op t u v)) (oEq neg .num x y loc tmp h) := by
 refine zGg Good.hF fun q hq => ?_
 have hq : eqNum h (ev loc tmp x) (ev loc tmp y) = some q := hq
 cases ex : ev loc tmp x with
 | int k m =>
  cases ey : ev loc tmp y with
  | int k' n =>
   rw [ex] at hx; rw [ey] at hy; rw [ex, ey] at hq
   cases hx; cases hy
   have hq : bi (eqK k k') (some (eqI m n)) none = some q := hq
   rw [bi_eq] at hq
   split at hq
   ·rename_i hk
    injection hq with hq
    refine zHu W ?_
    rw [equal_int neg hop (zIb hk)]
    rw [← hq, zF0]
    cases neg <;> simp [bne, BEq.beq]
   ·cases hq
  | _ => rw [ex, ey] at hq; cases hq
 | str l b =>
  cases ey : ev loc tmp y with
  | str l' b' =>
   rw [ex] at hx; rw [ey] at hy; rw [ex, ey] at hq
   have hq : some (bi (Nat.beq l l') (Nat.beq b b') false) = some q := hq
   injection hq with hq
   have h1 := hx; have h2 := hy
   cases hx; cases hy
   refine zHu W ?_
   rw [equal_str neg hop, ← hq, str_eq h1 h2]
  | _ => rw [ex, ey] at hq; cases hq
 | _ => rw [ex] at hq; cases hq
theorem s_eqBool (W : WR ρ h w) (hop : op = if neg then .neq else .eql) (hu : P.underlying t = some .bool) (hx : VR ρ (ev loc tmp x) u) (hy : VR ρ (ev loc tmp y) v) :
  Good P ρ h w (vv (do eqGuard op t x' y' u v; binOp op t u v)) (oEq neg .bool x y loc tmp h) := by
 refine zGg Good.hF fun q hq => ?_
 have hq : eqBool h (ev loc tmp x) (ev loc tmp y) = some q := hq
 cases ex : ev loc tmp x with
 | bool a =>
  cases ey : ev loc tmp y with
  | bool b =>
   rw [ex] at hx; rw [ey] at hy; rw [ex, ey] at hq
   cases hx; cases hy
   have hq : some (bi a b (bi b false true)) = some q := hq
   injection hq with hq
   have hq : (a == b) = q := by rw [← hq]; cases a <;> cases b <;> rfl
   refine zHu W (zFu neg hop (by simp [eqGuard]) (q := q) ?_ ?_)
   ·rw [zDy, Op.equalIn]; simp only [Sem.run_bind, run_underlying hu, Result.andThen_ok, Sem.run_pure, hq]
   ·rintro o (rfl | rfl) <;> simp [binOp]
  | _ => rw [ex, ey] at hq; cases hq
 | _ => rw [ex] at hq; cases hq
theorem s_eqSl {e : TypeId} (W : WR ρ h w) (hop : op = if neg then .neq else .eql) (hu : P.underlying t = some (.slice e)) (hx : VR ρ (ev loc tmp x) u) (hy : VR ρ (ev loc tmp y) v) :
  Good P ρ h w (vv (do eqGuard op t x' y' u v; binOp op t u v)) (oEq neg .sl x y loc tmp h) := by
 refine zGg Good.hF fun q hq => ?_
 have hq : eqSl h (ev loc tmp x) (ev loc tmp y) = some q := hq
 have fin : (eqGuard op t x' y' u v).run P w = .ok () w → (Op.equal t u v).run P w = .ok q w → (∀ o : BinOp, o = .eql ∨ o = .neq → binOp o t u v = (if o = .eql then do pure (.bool (← Op.equal t u v)) else do pure (.bool (!(← Op.equal t u v))))) → Good P ρ h w (vv (do eqGuard op t x' y' u v; binOp op t u v)) (Ev.bool (bi neg (bi q false true) q) h) :=
  fun a b c => zHu W (zFu neg hop a b c)
 cases ex : ev loc tmp x <;> rw [ex] at hx hq <;> try (cases hq; done)
 all_goals (cases ey : ev loc tmp y <;> rw [ey] at hy hq <;> try (cases hq; done))
 all_goals
  cases hx <;> cases hy <;> (
  injection hq with hq; subst hq
  exact fin (by simp [eqGuard]) (by rw [zDy, Op.equalIn]; (first | (simp only [Sem.run_bind, run_underlying hu, Result.andThen_ok, Sem.run_pure]; done) | (simp only [Sem.run_bind, run_underlying hu, Result.andThen_ok, Sem.run_pure]; rfl))) (by rintro o (rfl | rfl) <;> simp [binOp]))
theorem s_eqMap {k e : TypeId} (W : WR ρ h w) (hop : op = if neg then .neq else .eql) (hu : P.underlying t = some (.map k e)) (hx : VR ρ (ev loc tmp x) u) (hy : VR ρ (ev loc tmp y) v) :
  Good P ρ h w (vv (do eqGuard op t x' y' u v; binOp op t u v)) (oEq neg .map x y loc tmp h) := by
 refine zGg Good.hF fun q hq => ?_
 have hq : eqMap h (ev loc tmp x) (ev loc tmp y) = some q := hq
 have fin : (eqGuard op t x' y' u v).run P w = .ok () w → (Op.equal t u v).run P w = .ok q w → (∀ o : BinOp, o = .eql ∨ o = .neq → binOp o t u v = (if o = .eql then do pure (.bool (← Op.equal t u v)) else do pure (.bool (!(← Op.equal t u v))))) → Good P ρ h w (vv (do eqGuard op t x' y' u v; binOp op t u v)) (Ev.bool (bi neg (bi q false true) q) h) :=
  fun a b c => zHu W (zFu neg hop a b c)
 cases ex : ev loc tmp x <;> rw [ex] at hx hq <;> try (cases hq; done)
 all_goals (cases ey : ev loc tmp y <;> rw [ey] at hy hq <;> try (cases hq; done))
 all_goals
  cases hx; cases hy
  injection hq with hq; subst hq
  exact fin (by simp [eqGuard]) (by rw [zDy, Op.equalIn]; (first | (simp only [Sem.run_bind, run_underlying hu, Result.andThen_ok, Sem.run_pure]; done) | (simp only [Sem.run_bind, run_underlying hu, Result.andThen_ok, Sem.run_pure]; rfl))) (by rintro o (rfl | rfl) <;> simp [binOp])
theorem s_eqFn {a b : Array TypeId} {c : Bool} (W : WR ρ h w) (hop : op = if neg then .neq else .eql) (hu : P.underlying t = some (.func a b c)) (hx : VR ρ (ev loc tmp x) u) (hy : VR ρ (ev loc tmp y) v) :
  Good P ρ h w (vv (do eqGuard op t x' y' u v; binOp op t u v)) (oEq neg .fn x y loc tmp h) := by
 refine zGg Good.hF fun q hq => ?_
 have hq : eqFn h (ev loc tmp x) (ev loc tmp y) = some q := hq
 have fin : (eqGuard op t x' y' u v).run P w = .ok () w → (Op.equal t u v).run P w = .ok q w → (∀ o : BinOp, o = .eql ∨ o = .neq → binOp o t u v = (if o = .eql then do pure (.bool (← Op.equal t u v)) else do pure (.bool (!(← Op.equal t u v))))) → Good P ρ h w (vv (do eqGuard op t x' y' u v; binOp op t u v)) (Ev.bool (bi neg (bi q false true) q) h) :=
  fun a b c => zHu W (zFu neg hop a b c)
 cases ex : ev loc tmp x <;> rw [ex] at hx hq <;> try (cases hq; done)
 all_goals (cases ey : ev loc tmp y <;> rw [ey] at hy hq <;> try (cases hq; done))
 all_goals
  cases hx; cases hy
  injection hq with hq; subst hq
  exact fin (by simp [eqGuard]) (by rw [zDy, Op.equalIn]; simp only [Sem.run_bind, run_underlying hu, Result.andThen_ok, Sem.run_pure]) (by rintro o (rfl | rfl) <;> simp [binOp])
theorem s_eqIfc {ms : Array (String × TypeId)} (W : WR ρ h w) (hop : op = if neg then .neq else .eql) (hu : P.underlying t = some (.interface ms)) (hc : (x' matches .const _) = true ∨ (y' matches .const _) = true) (hx : VR ρ (ev loc tmp x) u) (hy : VR ρ (ev loc tmp y) v) :
  Good P ρ h w (vv (do eqGuard op t x' y' u v; binOp op t u v)) (oEq neg .ifc x y loc tmp h) := by
 refine zGg Good.hF fun q hq => ?_
 have hq : eqIfc h (ev loc tmp x) (ev loc tmp y) = some q := hq
 have fin : (eqGuard op t x' y' u v).run P w = .ok () w → (Op.equal t u v).run P w = .ok q w → (∀ o : BinOp, o = .eql ∨ o = .neq → binOp o t u v = (if o = .eql then do pure (.bool (← Op.equal t u v)) else do pure (.bool (!(← Op.equal t u v))))) → Good P ρ h w (vv (do eqGuard op t x' y' u v; binOp op t u v)) (Ev.bool (bi neg (bi q false true) q) h) :=
  fun a b c => zHu W (zFu neg hop a b c)
 cases ex : ev loc tmp x <;> rw [ex] at hx hq <;> try (cases hq; done)
 all_goals (cases ey : ev loc tmp y <;> rw [ey] at hy hq <;> try (cases hq; done))
 all_goals
  cases hx; cases hy
  injection hq with hq; subst hq
  refine fin ?_ (by rw [zDy, Op.equalIn]; simp only [Sem.run_bind, run_underlying hu, Result.andThen_ok, Sem.run_pure]) (by rintro o (rfl | rfl) <;> simp [binOp])
  first
   | (cases op <;> simp [eqGuard]; done)
   | (cases op <;> simp [eqGuard] <;> (intro h1 h2; rcases hc with hc | hc <;> first | exact Bool.noConfusion (hc.symm.trans h1) | exact Bool.noConfusion (hc.symm.trans h2)))
theorem s_eqPtr {e : TypeId} {n : Nat} (W : WR ρ h w) (hop : op = if neg then .neq else .eql) (hu : P.underlying t = some (.pointer e)) (hn : zA2 P e = some (n + 1)) (hx : VR ρ (ev loc tmp x) u) (hy : VR ρ (ev loc tmp y) v) :
  Good P ρ h w (vv (do eqGuard op t x' y' u v; binOp op t u v)) (oEq neg .ptr x y loc tmp h) := by
 refine zGg Good.hF fun q hq => ?_
 have hq : eqPtr h (ev loc tmp x) (ev loc tmp y) = some q := hq
 have fin : (eqGuard op t x' y' u v).run P w = .ok () w → (Op.equal t u v).run P w = .ok q w → (∀ o : BinOp, o = .eql ∨ o = .neq → binOp o t u v = (if o = .eql then do pure (.bool (← Op.equal t u v)) else do pure (.bool (!(← Op.equal t u v))))) → Good P ρ h w (vv (do eqGuard op t x' y' u v; binOp op t u v)) (Ev.bool (bi neg (bi q false true) q) h) :=
  fun a b c => zHu W (zFu neg hop a b c)
 cases ex : ev loc tmp x <;> rw [ex] at hx hq <;> try (cases hq; done)
 all_goals (cases ey : ev loc tmp y <;> rw [ey] at hy hq <;> try (cases hq; done))
 case ptr.ptr i o i' o' =>
  cases hx with
  | ptr r1 p1 =>
  cases hy with
  | ptr r2 p2 =>
  rename_i b1 o1 s1 q1 b2 o2 s2 q2
  have hq2 : bi (Nat.beq i i') (some (Nat.beq o o')) (obind (AH.get h i) none fun p => obind (AH.get h i') none fun q => AObj.rec (motive := fun _ => Option Bool) (fun _ _ _ r => AObj.rec (motive := fun _ => Option Bool) (fun _ _ _ r' => bi r none (bi r' none (some false))) (fun _ _ => none) (fun _ _ _ _ => none) q) (fun _ _ => none) (fun _ _ _ _ => none) p) = some q := hq
  have hmain : (sameAddr ⟨b1, q1, none⟩ ⟨b2, q2, none⟩).run P w = .ok q w := by
   clear hq
   rw [bi_eq] at hq2
   split at hq2
   ·rename_i hi
    have hi : i = i' := Nat.eq_of_beq_eq_true hi
    subst hi
    rw [r1] at r2; injection r2 with r2; injection r2 with e1 r2; injection r2 with e2 e3
    subst e1; subst e2; subst p1; subst p2
    injection hq2 with hq2
    simp only [sameAddr, beq_self_eq_true, if_true, Sem.run_pure]
    congr 1
    rw [← hq2, Bool.eq_iff_iff, beq_iff_eq, Nat.beq_eq]
    constructor
    ·intro h; injection h with _ h _; omega
    ·intro h; rw [h]
   ·rename_i hi
    have hi : i ≠ i' := fun e => hi (by rw [e]; exact Nat.beq_refl _)
    cases g1 : AH.get h i with
    | none => rw [g1] at hq2; cases hq2
    | some a =>
    cases g2 : AH.get h i' with
    | none => rw [g1, g2] at hq2; cases hq2
    | some a' =>
    rw [g1, g2] at hq2
    rw [AH.get_eq] at g1 g2
    cases a with
    | map _ _ => cases hq2
    | iter _ _ _ _ => cases hq2
    | cells c1 z1 o1' r =>
    cases a' with
    | map _ _ => cases hq2
    | iter _ _ _ _ => cases hq2
    | cells c2 z2 o2' r' =>
    have hq2 : bi r none (bi r' none (some false)) = some q := hq2
    cases r with
    | true => cases hq2
    | false =>
    cases r' with
    | true => cases hq2
    | false =>
    injection hq2 with hq2
    have hne : b1 ≠ b2 := by
     intro e; subst e
     have := (W.inj g1 g2 hi r1 r2).1
     cases this
    obtain ⟨y1, hy1, hr1⟩ := W.obj g1 r1
    obtain ⟨y2, hy2, hr2⟩ := W.obj g2 r2
    cases hr1 with
    | cells a1 a2 a3 a4 a5 =>
    cases hr2 with
    | cells b1' b2' b3' b4' b5' =>
    rename_i cs1 te1 fr1 cs2 te2 fr2
    have f1 := a4 rfl
    have f2 := b4' rfl
    have z1 : ∀ i, w.frozen? ⟨b1, i, none⟩ = false := fun i => zHt hy1 (by omega)
    have z2 : ∀ i, w.frozen? ⟨b2, i, none⟩ = false := fun i => zHt hy2 (by omega)
    have n1 : w.shape? b1 = some (te1, cs1.size) := by simp [World.shape?, hy1]
    have n2 : w.shape? b2 = some (te2, cs2.size) := by simp [World.shape?, hy2]
    subst hq2
    have hbb : (b1 == b2) = false := by simpa using hne
    simp [sameAddr, hne, z1, noView, viewAt, n1, n2, mayBeOne, stringish, z2]
  refine fin (by simp [eqGuard]) ?_ (by rintro o (rfl | rfl) <;> simp [binOp])
  rw [zDy, Op.equalIn]
  simp only [Sem.run_bind, run_underlying hu, Result.andThen_ok, zAw hn]
  rw [if_pos (by omega)]
  exact hmain
 all_goals
  cases hx; cases hy
  injection hq with hq; subst hq
  exact fin (by simp [eqGuard]) (by rw [zDy, Op.equalIn]; (first | (simp only [Sem.run_bind, run_underlying hu, Result.andThen_ok, Sem.run_pure]; done) | (simp only [Sem.run_bind, run_underlying hu, Result.andThen_ok, Sem.run_pure]; rfl))) (by rintro o (rfl | rfl) <;> simp [binOp])
end
end Go.Ev
namespace Go.Ev
open Go
variable [Glob]
section
variable {P : Program} {ρ : Rho} {h : AH} {w : World} {loc : T AV} {tmp : List AV}
theorem zJy {l l' : List AV} {q : Bool} (hq : eqL [] l l' = some q) : l = [] ∧ l' = [] ∧ q = true := by
 cases l with
 | cons _ _ => cases hq
 | nil =>
  cases l' with
  | cons _ _ => cases hq
  | nil => injection hq with hq; exact ⟨rfl, rfl, hq.symm⟩
theorem zI2 {k : SK} {ks : List SK} {l l' : List AV} {q : Bool} (hq : eqL (k :: ks) l l' = some q) : ∃ a r b r' q1 q2, l = a :: r ∧ l' = b :: r' ∧ eqS k a b = some q1 ∧ eqL ks r r' = some q2 ∧ q = (q1 && q2) := by
 cases l with
 | nil => cases hq
 | cons a l =>
  cases l' with
  | nil => cases hq
  | cons b l' =>
   have hq : obind (eqS k a b) none (fun q => bi q (eqL ks l l') (obind (eqL ks l l') none fun _ => some false)) = some q := hq
   cases h1 : eqS k a b with
   | none => rw [h1] at hq; cases hq
   | some q1 =>
    rw [h1] at hq
    have hq : bi q1 (eqL ks l l') (obind (eqL ks l l') none fun _ => some false) = some q := hq
    cases h2 : eqL ks l l' with
    | none => rw [h2] at hq; cases q1 <;> cases hq
    | some q2 =>
     rw [h2] at hq
     refine ⟨a, l, b, l', q1, q2, rfl, rfl, h1, h2, ?_⟩
     cases q1 <;> (injection hq with hq; subst hq; simp)
theorem zIa : ∀ {ks ks' : List SK} {l l' : List AV} {q : Bool}, eqL (ks ++ ks') l l' = some q → ∃ q1 q2, eqL ks (l.take ks.length) (l'.take ks.length) = some q1 ∧ eqL ks' (l.drop ks.length) (l'.drop ks.length) = some q2 ∧ q = (q1 && q2)
 | [], ks', l, l', q, hq => ⟨true, q, by simp; rfl, by simpa using hq, by simp⟩
 | k :: ks, ks', l, l', q, hq => by
  obtain ⟨a, r, b, r', q1, q2, rfl, rfl, h1, h2, e⟩ := zI2 hq
  obtain ⟨q3, q4, h3, h4, e2⟩ := zIa h2
  refine ⟨q1 && q3, q4, ?_, by simpa using h4, by rw [e, e2, Bool.and_assoc]⟩
  simp only [List.length_cons, List.take_succ_cons]
  show obind (eqS k a b) none (fun q => bi q (eqL ks (r.take ks.length) (r'.take ks.length)) (obind (eqL ks (r.take ks.length) (r'.take ks.length)) none fun _ => some false)) = _
  rw [h1, h3]
  cases q1 <;> rfl
theorem zLu : ∀ {ks : List SK} {l l' : List AV} {q : Bool}, eqL ks l l' = some q → l.length = ks.length ∧ l'.length = ks.length
 | [], l, l', q, hq => by obtain ⟨rfl, rfl, _⟩ := zJy hq; simp
 | k :: ks, l, l', q, hq => by
  obtain ⟨a, r, b, r', q1, q2, rfl, rfl, h1, h2, e⟩ := zI2 hq
  have := zLu h2
  simp [this]
def VCell (ρ : Rho) (g : Bool) (u : Value) (l : List AV) : Prop := (g = true ∧ ∃ xs : List Value, u = .agg xs.toArray ∧ VCs ρ l xs) ∨ (g = false ∧ ∃ a, l = [a] ∧ VR ρ a u)
theorem zJq {n : Nat} {k : List SK} : (List.replicate n k).flatten.length = n * k.length := by
 induction n with
 | zero => simp
 | succ n ih => rw [List.replicate_succ, List.flatten_cons, List.length_append, Nat.succ_mul, ih, Nat.add_comm]
theorem zKe {d : Nat} {t : TypeId} {k : SK} {a b : AV} {u v : Value} {q : Bool} (hk : tySK P t = some k) (ha : VR ρ a u) (hb : VR ρ b v) (hq : eqS k a b = some q) (w : World) : (Op.equalIn (d + 1) t u v).run P w = .ok q w := by
 unfold tySK at hk
 cases k with
 | bool =>
  have hu : P.underlying t = some .bool := by split at hk <;> first | assumption | cases hk
  have hq1 : eqB1 a b = some q := hq
  clear hq
  have hq := hq1; clear hq1
  cases a <;> try (cases hq; done)
  cases b <;> try (cases hq; done)
  rename_i p p'
  cases ha; cases hb
  rw [run_equalIn_bool w d t p p' hu]
  injection hq with hq
  rw [← hq]; cases p <;> cases p' <;> rfl
 | int =>
  obtain ⟨k1, hu⟩ : ∃ k, P.underlying t = some (.int k) := by
   split at hk
   ·cases hk
   ·exact ⟨_, ‹_›⟩
   ·cases hk
   ·cases hk
  have hq1 : eqI1 a b = some q := hq
  clear hq
  have hq := hq1; clear hq1
  cases a <;> try (cases hq; done)
  cases b <;> try (cases hq; done)
  rename_i k m k' n
  have hq2 : bi (eqK k k') (some (eqI m n)) none = some q := hq
  clear hq
  rw [bi_eq] at hq2
  split at hq2
  ·rename_i hk
   have := zIb hk
   subst this
   cases ha; cases hb
   injection hq2 with hq2
   rw [run_equalIn_int (P := P) w d t k k1 m n hu, ← hq2, zF0]
   congr 1
  ·cases hq2
 | str =>
  have hu : P.underlying t = some .string := by split at hk <;> first | assumption | cases hk
  have hq1 : eqS1 a b = some q := hq
  clear hq
  have hq := hq1; clear hq1
  cases a <;> try (cases hq; done)
  cases b <;> try (cases hq; done)
  rename_i l s l' s'
  have hq2 : some (bi (Nat.beq l l') (Nat.beq s s') false) = some q := hq
  clear hq
  injection hq2 with hq2
  have h1 := ha; have h2 := hb
  cases ha; cases hb
  rw [run_equalIn_string w d t _ _ hu, ← hq2, str_eq h1 h2, ByteArray.toList_eq, ByteArray.toList_eq]
theorem tySK_agg {t : TypeId} {k : SK} (h : tySK P t = some k) : tyAgg P t = some false := by
 unfold tySK at h
 unfold tyAgg
 split at h <;> first | (rename_i hu; rw [hu]) | cases h
theorem zFd {t : TypeId} {g : Bool} {n off : Nat} {l : List AV} {l' : List Value} (hg : tyAgg P t = some g) (hn : zA2 P t = some n) (hl : VCs ρ l l') (hb : off + n ≤ l.length) (h1 : g = false → n = 1) (w : World) :
  ∃ u, (part t l'.toArray off).run P w = .ok u w ∧ VCell ρ g u ((l.drop off).take n) := by
 cases g with
 | true =>
  refine ⟨.agg ((l'.drop off).take n).toArray, ?_, .inl ⟨rfl, _, rfl, (hl.drop off).take n⟩⟩
  simp only [part, Sem.run_bind, zDu hg, Result.andThen_ok, if_true, zAw hn, Sem.run_pure]
  congr 2
  apply Array.ext'
  simp
 | false =>
  obtain rfl := h1 rfl
  have hlt : off < l.length := by omega
  have hx : l[off]? = some l[off] := List.getElem?_eq_getElem hlt
  obtain ⟨v, hv, hr, hc⟩ := hl.get hx
  refine ⟨v, by simp [part, zDu hg, hv], .inr ⟨rfl, l[off], ?_, hr⟩⟩
  rw [List.drop_eq_getElem_cons hlt]; rfl
theorem zI0 {d : Nat} {t : TypeId} {ks : List SK} (h : zB8 P d t = some ks) : ∃ g, tyAgg P t = some g ∧ (g = false → ks.length = 1) := by
 cases d with
 | zero => cases h
 | succ d =>
  unfold zB8 at h
  split at h
  ·rename_i k hk
   injection h with h
   exact ⟨false, tySK_agg hk, fun _ => by rw [← h]; rfl⟩
  ·split at h
   ·rename_i hu; exact ⟨true, by simp [tyAgg, hu], fun e => by cases e⟩
   ·rename_i hu; exact ⟨true, by simp [tyAgg, hu], fun e => by cases e⟩
   ·cases h
def FlatAt (P : Program) (ρ : Rho) (D : Nat) (t : TypeId) (ks : List SK) : Prop :=
 ∀ (g : Bool) (u v : Value) (l l' : List AV) (q : Bool) (w : World), tyAgg P t = some g → VCell ρ g u l → VCell ρ g v l' → eqL ks l l' = some q → (Op.equalIn D t u v).run P w = .ok q w
theorem flatF_run {d D : Nat} (ih : ∀ t ks, zB8 P d t = some ks → FlatAt P ρ D t ks) : ∀ (fs : List Field) (off : Nat) (ks : List SK), flatF P (zB8 P d) fs off = some ks →
  ∀ (l l' : List AV) (xs ys : List Value) (q : Bool) (w : World), VCs ρ l xs → VCs ρ l' ys → l.length = off + ks.length → l'.length = off + ks.length → eqL ks (l.drop off) (l'.drop off) = some q → (Op.eqFields D xs.toArray ys.toArray fs).run P w = .ok q w
 | [], off, ks, hf, l, l', xs, ys, q, w, hl, hl', h1, h2, hq => by
  injection hf with hf; subst hf
  obtain ⟨_, _, rfl⟩ := zJy hq
  rfl
 | f :: fs, off, ks, hf, l, l', xs, ys, q, w, hl, hl', h1, h2, hq => by
  unfold flatF at hf
  split at hf
  ·rename_i hc
   obtain ⟨hoff, hname⟩ := hc
   cases hfe : zB8 P d f.type with
   | none => rw [hfe] at hf; cases hf
   | some k1 =>
    rw [hfe] at hf
    have hf : (if zA2 P f.type = some k1.length then (flatF P (zB8 P d) fs (off + k1.length)).map (k1 ++ ·) else none) = some ks := hf
    split at hf
    ·rename_i hsz
     cases hrest : flatF P (zB8 P d) fs (off + k1.length) with
     | none => rw [hrest] at hf; cases hf
     | some k2 =>
      rw [hrest] at hf
      have hf : some (k1 ++ k2) = some ks := hf
      injection hf with hf; subst hf
      rw [List.length_append] at h1 h2
      obtain ⟨q1, q2, e1, e2, rfl⟩ := zIa hq
      obtain ⟨g, hg, hg1⟩ := zI0 hfe
      obtain ⟨u, hu, hcu⟩ := zFd (P := P) hg hsz hl (off := off) (by omega) hg1 w
      obtain ⟨v, hv, hcv⟩ := zFd (P := P) hg hsz hl' (off := off) (by omega) hg1 w
      have hrun := ih _ _ hfe g u v _ _ q1 w hg hcu hcv e1
      rw [List.drop_drop, List.drop_drop] at e2
      have hnext := flatF_run ih fs (off + k1.length) k2 hrest l l' xs ys q2 w hl hl' (by omega) (by omega) e2
      unfold Op.eqFields
      rw [if_pos hname, hoff]
      simp only [Sem.run_bind, hu, hv, hrun, Result.andThen_ok]
      cases q1
      ·simp
      ·simpa using hnext
    ·cases hf
  ·cases hf
theorem items_run {D e n : Nat} {ks : List SK} (hsz : zA2 P e = some ks.length) (ih : FlatAt P ρ D e ks) {g : Bool} (hg : tyAgg P e = some g) (hg1 : g = false → ks.length = 1) : ∀ (m i : Nat) (l l' : List AV) (xs ys : List Value) (q : Bool) (w : World), VCs ρ l xs → VCs ρ l' ys → l.length = (i + m) * ks.length → l'.length = (i + m) * ks.length →
  eqL (List.replicate m ks).flatten (l.drop (i * ks.length)) (l'.drop (i * ks.length)) = some q → (Op.eqItems D e ks.length xs.toArray ys.toArray (List.range' i m)).run P w = .ok q w
 | 0, i, l, l', xs, ys, q, w, hl, hl', h1, h2, hq => by
  obtain ⟨_, _, rfl⟩ := zJy (by simpa using hq)
  rfl
 | m + 1, i, l, l', xs, ys, q, w, hl, hl', h1, h2, hq => by
  rw [List.replicate_succ, List.flatten_cons] at hq
  obtain ⟨q1, q2, e1, e2, rfl⟩ := zIa hq
  have hm : (i + (m + 1)) * ks.length = i * ks.length + (m + 1) * ks.length := Nat.add_mul _ _ _
  have hm2 : (m + 1) * ks.length = m * ks.length + ks.length := Nat.succ_mul _ _
  obtain ⟨u, hu, hcu⟩ := zFd (P := P) hg hsz hl (off := i * ks.length) (by omega) hg1 w
  obtain ⟨v, hv, hcv⟩ := zFd (P := P) hg hsz hl' (off := i * ks.length) (by omega) hg1 w
  have hrun := ih g u v _ _ q1 w hg hcu hcv e1
  rw [List.drop_drop, List.drop_drop, ← Nat.succ_mul] at e2
  have hnext := items_run (n := n) hsz ih hg hg1 m (i + 1) l l' xs ys q2 w hl hl' (by rw [h1]; congr 1; omega) (by rw [h2]; congr 1; omega) e2
  rw [List.range'_succ]
  unfold Op.eqItems
  simp only [Sem.run_bind, hu, hv, hrun, Result.andThen_ok]
  cases q1
  ·simp
  ·simpa using hnext
theorem zIz : ∀ (d : Nat) (t : TypeId) (ks : List SK), zB8 P d t = some ks → ∀ D, d ≤ D → FlatAt P ρ D t ks
 | 0, t, ks, h, D, hD => by cases h
 | d + 1, t, ks, h, D, hD => by
  obtain ⟨D, rfl⟩ : ∃ k, D = k + 1 := ⟨D - 1, by omega⟩
  intro g u v l l' q w hg hu hv hq
  unfold zB8 at h
  split at h
  ·rename_i k hk
   injection h with h; subst h
   rw [tySK_agg hk] at hg
   injection hg with hg; subst hg
   rcases hu with ⟨e, _⟩ | ⟨_, a, rfl, ha⟩
   ·cases e
   ·rcases hv with ⟨e, _⟩ | ⟨_, b, rfl, hb⟩
    ·cases e
    ·obtain ⟨_, _, _, _, q1, q2, e1, e2, h1, h2, rfl⟩ := zI2 hq
     injection e1 with e1 e1'; injection e2 with e2 e2'
     subst e1; subst e2; subst e1'; subst e2'
     obtain ⟨_, _, rfl⟩ := zJy h2
     rw [zKe hk ha hb h1 w]; simp
  ·split at h
   ·rename_i fs hus
    split at h
    ·cases h
    ·rename_i hst
     have hgt : g = true := by
      have : tyAgg P t = some true := by simp [tyAgg, hus]
      rw [this] at hg; injection hg with hg; exact hg.symm
     subst hgt
     rcases hu with ⟨_, xs, rfl, hxs⟩ | ⟨e, _⟩
     ·rcases hv with ⟨_, ys, rfl, hys⟩ | ⟨e, _⟩
      ·have hfo : P.fieldsOf t = fs := by simp [Program.fieldsOf, hus]
       have hl := zLu hq
       rw [run_equalIn_struct w D t _ _ (by rw [hfo]; exact hus) (by simpa using hst), hfo]
       exact flatF_run (fun t ks hh => zIz d t ks hh D (by omega)) fs.toList 0 ks h l l' xs ys q w hxs hys (by omega) (by omega) (by simpa using hq)
      ·cases e
     ·cases e
   ·rename_i len e hus
    cases hfe : zB8 P d e with
    | none => rw [hfe] at h; cases h
    | some k1 =>
     rw [hfe] at h
     have h : (if zA2 P e = some k1.length then some (List.replicate len k1).flatten else none) = some ks := h
     split at h
     ·rename_i hsz
      injection h with h; subst h
      have hgt : g = true := by
       have : tyAgg P t = some true := by simp [tyAgg, hus]
       rw [this] at hg; injection hg with hg; exact hg.symm
      subst hgt
      rcases hu with ⟨_, xs, rfl, hxs⟩ | ⟨e, _⟩
      ·rcases hv with ⟨_, ys, rfl, hys⟩ | ⟨e, _⟩
       ·obtain ⟨i, hi, his⟩ : ∃ i, P.info? e = some i ∧ i.size = k1.length := by
         unfold zA2 at hsz
         cases hi : P.info? e with
         | none => rw [hi] at hsz; cases hsz
         | some i => rw [hi] at hsz; injection hsz with hsz; exact ⟨i, rfl, hsz⟩
        have hco : P.cellsOf e = k1.length := by simp [Program.cellsOf, hi, his]
        have hl := zLu hq
        have hfl : (List.replicate len k1).flatten.length = len * k1.length := zJq
        obtain ⟨g1, hg1, hg2⟩ := zI0 hfe
        rw [run_equalIn_array w D _ _ hus hi, hco, List.range_eq_range']
        exact items_run (n := 0) hsz (zIz d e k1 hfe D (by omega)) hg1 hg2 len 0 l l' xs ys q w hxs hys (by rw [Nat.zero_add]; omega) (by rw [Nat.zero_add]; omega) (by simpa using hq)
       ·cases e
      ·cases e
     ·cases h
   ·cases h
end
end Go.Ev
namespace Go.Ev
open Go
variable [Glob]
section
variable {P : Program} {ρ : Rho} {h : AH} {w : World} {loc : T AV} {tmp : List AV}
theorem zGy {ks : List SK} {h : AH} {a b : AV} {q : Bool} (e : eqAgg ks h a b = some q) : ∃ l l', a = .agg l ∧ b = .agg l' ∧ eqL ks l l' = some q := by
 cases a <;> try (cases e; done)
 cases b <;> try (cases e; done)
 exact ⟨_, _, rfl, rfl, e⟩
theorem zFs {d : Nat} {t : TypeId} {ks : List SK} (h : zB8 P d t = some ks) (hn : tySK P t = none) : tyAgg P t = some true := by
 cases d with
 | zero => cases h
 | succ d =>
  unfold zB8 at h
  rw [hn] at h
  simp only at h
  split at h
  ·rename_i hu; simp [tyAgg, hu]
  ·rename_i hu; simp [tyAgg, hu]
  ·cases h
theorem VR.aggCell {l : List AV} {u : Value} (hv : VR ρ (.agg l) u) : VCell ρ true u l := by
 cases hv with
 | agg a b => subst b; exact .inl ⟨rfl, _, rfl, a⟩
variable {x y : Opd} {u v : Value} {t : TypeId} {x' y' : Operand} {op : BinOp} {neg : Bool}
theorem s_eqAgg {ks : List SK} (W : WR ρ h w) (hop : op = if neg then .neq else .eql) (hg : tyAgg P t = some true) (hm : P.eqGuardType P.depth t = false) (hf : zB8 P 20 t = some ks) (hx : VR ρ (ev loc tmp x) u) (hy : VR ρ (ev loc tmp y) v) :
  Good P ρ h w (vv (do eqGuard op t x' y' u v; binOp op t u v)) (oEq neg (.agg ks) x y loc tmp h) := by
 refine zGg Good.hF fun q hq => ?_
 have hq : eqAgg ks h (ev loc tmp x) (ev loc tmp y) = some q := hq
 obtain ⟨l, l', e1, e2, hq⟩ := zGy hq
 rw [e1] at hx; rw [e2] at hy
 have hxc := hx.aggCell
 have hyc := hy.aggCell
 have hrun := zIz (P := P) (ρ := ρ) 20 t ks hf 10000 (by omega) true u v l l' q w hg hxc hyc hq
 cases hx with
 | agg a1 a2 =>
 cases hy with
 | agg b1 b2 =>
  refine zHu W (zFu neg hop (run_eqGuard_agg _ op t x' y' _ _ hm) hrun ?_)
  rintro o (rfl | rfl) <;> simp [binOp]
theorem zHq {kt : KT} {a b : AV} {q : Bool} (hk : keyT P t = some kt) (ha : VR ρ a u) (hb : VR ρ b v) (hq : keyEq kt a b = some q) (w : World) : (Op.equal t u v).run P w = .ok q w := by
 rw [zDy]
 unfold keyT at hk
 split at hk
 ·rename_i k hsk
  injection hk with hk; subst hk
  exact zKe hsk ha hb hq w
 ·rename_i hsk
  cases hf : zB8 P 20 t with
  | none => rw [hf] at hk; cases hk
  | some ks =>
   rw [hf] at hk; injection hk with hk; subst hk
   have hq : eqAgg ks (AH.mk T.leaf 0) a b = some q := hq
   obtain ⟨l, l', rfl, rfl, hq⟩ := zGy hq
   exact zIz 20 t ks hf _ (by omega) true u v l l' q w (zFs hf hsk) ha.aggCell hb.aggCell hq
theorem tySK_desc {k : SK} (h : tySK P t = some k) : ∃ d, P.underlying t = some d ∧ (k = .bool ∧ d = .bool ∨ (∃ i, k = .int ∧ d = .int i) ∨ k = .str ∧ d = .string) := by
 unfold tySK at h
 split at h <;> first | cases h | skip
 ·exact ⟨_, ‹_›, .inl ⟨rfl, rfl⟩⟩
 ·exact ⟨_, ‹_›, .inr (.inl ⟨_, rfl, rfl⟩)⟩
 ·exact ⟨_, ‹_›, .inr (.inr ⟨rfl, rfl⟩)⟩
theorem tyAgg_desc (h : tyAgg P t = some true) : ∃ d, P.underlying t = some d ∧ ∀ u v, Instr.sameNow d u v = none := by
 unfold tyAgg at h
 split at h
 ·exact ⟨_, ‹_›, fun u v => rfl⟩
 ·exact ⟨_, ‹_›, fun u v => rfl⟩
 ·injection h with h; cases h
 ·cases h
theorem zG3 (a b : ByteArray) : (a == b) = (a.data.toList == b.data.toList) := by
 rw [Bool.eq_iff_iff, MapKept.bytes_beq]
 constructor
 ·intro h; subst h; exact beq_self_eq_true _
 ·intro h
  have h : a.data.toList = b.data.toList := eq_of_beq h
  cases a; cases b
  simp at h
  congr 1
theorem key_now {kt : KT} (hk : keyT P t = some kt) : ∃ d, P.underlying t = some d ∧ ∀ {a b : AV} {u v : Value} {q : Bool}, VR ρ a u → VR ρ b v → keyEq kt a b = some q → Instr.sameNow d u v = none ∨ Instr.sameNow d u v = some q := by
 unfold keyT at hk
 split at hk
 ·rename_i k hsk
  injection hk with hk; subst hk
  obtain ⟨d, hd, hc⟩ := tySK_desc hsk
  refine ⟨d, hd, ?_⟩
  intro a b u v q ha hb hq
  rcases hc with ⟨rfl, rfl⟩ | ⟨i, rfl, rfl⟩ | ⟨rfl, rfl⟩
  ·have hq1 : eqB1 a b = some q := hq
   clear hq
   cases a <;> try (cases hq1; done)
   cases b <;> try (cases hq1; done)
   rename_i p p'
   cases ha; cases hb
   injection hq1 with hq
   right
   rw [← hq]; cases p <;> cases p' <;> rfl
  ·have hq1 : eqI1 a b = some q := hq
   clear hq
   cases a <;> try (cases hq1; done)
   cases b <;> try (cases hq1; done)
   rename_i k m k' n
   have hq2 : bi (eqK k k') (some (eqI m n)) none = some q := hq1
   clear hq1
   rw [bi_eq] at hq2
   split at hq2
   ·rename_i hkk
    have := zIb hkk
    subst this
    cases ha; cases hb
    injection hq2 with hq2
    right
    rw [← hq2, zF0]
    simp [Instr.sameNow, BEq.beq]
   ·cases hq2
  ·have hq1 : eqS1 a b = some q := hq
   clear hq
   cases a <;> try (cases hq1; done)
   cases b <;> try (cases hq1; done)
   rename_i l s l' s'
   have hq2 : some (bi (Nat.beq l l') (Nat.beq s s') false) = some q := hq1
   clear hq1
   injection hq2 with hq2
   have h1 := ha; have h2 := hb
   cases ha; cases hb
   right
   rw [← hq2, str_eq h1 h2]
   simp only [Instr.sameNow, zG3]
 ·rename_i hsk
  cases hf : zB8 P 20 t with
  | none => rw [hf] at hk; cases hk
  | some ks =>
   obtain ⟨d, hd, hn⟩ := tyAgg_desc (zFs hf hsk)
   exact ⟨d, hd, fun _ _ _ => .inl (hn _ _)⟩
def Found (ρ : Rho) (es : List MapEntry) (i : Nat) : Option AV → Option (Nat × Value) → Prop
 | none, o => o = none
 | some v, o => ∃ j e, o = some (i + j, e.val) ∧ es[j]? = some e ∧ VR ρ v e.val
theorem find_cons {kt : KT} {k a v : AV} {n : Nat} {es : List (AV × AV × Nat)} {r : Option AV} (h : find kt k ((a, v, n) :: es) = some r) :
  ∃ q, keyEq kt k a = some q ∧ (q = true ∧ r = some v ∨ q = false ∧ find kt k es = some r) := by
 have h : obind (keyEq kt k a) none (fun q => bi q (some (some v)) (find kt k es)) = some r := h
 cases hk : keyEq kt k a with
 | none => rw [hk] at h; cases h
 | some q =>
  rw [hk] at h
  have h : bi q (some (some v)) (find kt k es) = some r := h
  cases q
  ·exact ⟨false, rfl, .inr ⟨rfl, h⟩⟩
  ·injection h with h; exact ⟨true, rfl, .inl ⟨rfl, h.symm⟩⟩
theorem zG2 {kt : KT} {k : AV} (hkt : keyT P t = some kt) (hk : VR ρ k u) {d : TypeDesc} (hd : ∀ {a b : AV} {u v : Value} {q : Bool}, VR ρ a u → VR ρ b v → keyEq kt a b = some q → Instr.sameNow d u v = none ∨ Instr.sameNow d u v = some q) (w : World) :
  ∀ {es : List (AV × AV × Nat)} {es' : List MapEntry} (i : Nat) {r : Option AV}, ERs ρ es es' → find kt k es = some r →
   ∃ o, (Instr.findAsking t u es' i).run P w = .ok o w ∧ (Instr.findNow d u es' i = none ∨ Instr.findNow d u es' i = some o) ∧ Found ρ es' i r o
 | _, _, i, r, .nil, h => by injection h with h; subst h; exact ⟨none, rfl, .inr rfl, rfl⟩
 | _, _, i, r, .cons (e := e) hkey hval hborn hrest, h => by
  obtain ⟨q, hq, hc⟩ := find_cons h
  have hrun := zHq hkt hk hkey hq w
  have hnow := hd hk hkey hq
  rcases hc with ⟨rfl, rfl⟩ | ⟨rfl, hf⟩
  ·refine ⟨some (i, e.val), by simp [Instr.findAsking, hrun], ?_, 0, e, rfl, rfl, hval⟩
   rcases hnow with hn | hn
   ·left; simp [Instr.findNow, hn]
   ·right; simp [Instr.findNow, hn]
  ·obtain ⟨o, h1, h2, h3⟩ := zG2 hkt hk hd w (i + 1) hrest hf
   refine ⟨o, by simp [Instr.findAsking, hrun, h1], ?_, ?_⟩
   ·rcases hnow with hn | hn
    ·left; simp [Instr.findNow, hn]
    ·rcases h2 with h2 | h2
     ·left; simp [Instr.findNow, hn, h2]
     ·right; simp [Instr.findNow, hn, h2]
   ·cases r with
    | none => exact h3
    | some v =>
     obtain ⟨j, e', h4, h5, h6⟩ := h3
     exact ⟨j + 1, e', by rw [h4]; congr 2; omega, by simpa using h5, h6⟩
theorem zJr {kt : KT} {k : AV} (hkt : keyT P t = some kt) (hk : VR ρ k u) {es : List (AV × AV × Nat)} {es' : List MapEntry} {r : Option AV} (he : ERs ρ es es') (hf : find kt k es = some r) (w : World) :
  ∃ o, (Instr.findKey t u es').run P w = .ok o w ∧ Found ρ es' 0 r o := by
 obtain ⟨d, hd, hn⟩ := key_now (ρ := ρ) hkt
 obtain ⟨o, h1, h2, h3⟩ := zG2 hkt hk hn w 0 he hf
 refine ⟨o, ?_, h3⟩
 rcases h2 with h2 | h2
 ·simp [Instr.findKey, run_underlying hd, h2, h1]
 ·simp [Instr.findKey, run_underlying hd, h2]
theorem zIm {k : SK} (hk : tySK P t = some k) (e : Bool) (n : Nat) (u : Value) (w : World) : (Instr.checkKey e (n + 1) t u).run P w = .ok () w := by
 obtain ⟨d, hd, hc⟩ := tySK_desc hk
 unfold Instr.checkKey
 simp only [Sem.run_bind, run_underlying hd, Result.andThen_ok]
 rcases hc with ⟨_, rfl⟩ | ⟨i, _, rfl⟩ | ⟨_, rfl⟩ <;> simp
def CheckFlat (P : Program) (ρ : Rho) (D : Nat) (t : TypeId) (ks : List SK) : Prop :=
 ∀ (e g : Bool) (u : Value) (l : List AV) (w : World), tyAgg P t = some g → VCell ρ g u l → l.length = ks.length → (Instr.checkKey e D t u).run P w = .ok () w
theorem checkF {d D : Nat} (e : Bool) (ih : ∀ t ks, zB8 P d t = some ks → CheckFlat P ρ D t ks) : ∀ (fs : List Field) (off : Nat) (ks : List SK), flatF P (zB8 P d) fs off = some ks →
  ∀ (l : List AV) (xs : List Value) (w : World) (B : Field → PUnit → Sem (ForInStep PUnit)), VCs ρ l xs → l.length = off + ks.length →
   (∀ f u, f.name ≠ "_" → (part f.type xs.toArray f.offset).run P w = .ok u w → (Instr.checkKey e D f.type u).run P w = .ok () w → (B f ⟨⟩).run P w = .ok (.yield ⟨⟩) w) → (forIn fs PUnit.unit B : Sem PUnit).run P w = .ok PUnit.unit w
 | [], off, ks, hf, l, xs, w, B, hl, h1, hB => by simp
 | f :: fs, off, ks, hf, l, xs, w, B, hl, h1, hB => by
  unfold flatF at hf
  split at hf
  ·rename_i hc
   obtain ⟨hoff, hname⟩ := hc
   cases hfe : zB8 P d f.type with
   | none => rw [hfe] at hf; cases hf
   | some k1 =>
    rw [hfe] at hf
    have hf : (if zA2 P f.type = some k1.length then (flatF P (zB8 P d) fs (off + k1.length)).map (k1 ++ ·) else none) = some ks := hf
    split at hf
    ·rename_i hsz
     cases hrest : flatF P (zB8 P d) fs (off + k1.length) with
     | none => rw [hrest] at hf; cases hf
     | some k2 =>
      rw [hrest] at hf
      have hf : some (k1 ++ k2) = some ks := hf
      injection hf with hf; subst hf
      rw [List.length_append] at h1
      obtain ⟨g, hg, hg1⟩ := zI0 hfe
      obtain ⟨u, hu, hcu⟩ := zFd (P := P) hg hsz hl (off := off) (by omega) hg1 w
      have hrun := ih _ _ hfe e g u _ w hg hcu (by rw [List.length_take, List.length_drop]; omega)
      have hnext := checkF e ih fs (off + k1.length) k2 hrest l xs w B hl (by omega) hB
      have hb := hB f u hname (by rw [hoff]; exact hu) hrun
      simp only [List.forIn_cons, Sem.run_bind, hb, Result.andThen_ok]
      exact hnext
    ·cases hf
  ·cases hf
theorem zIc : ∀ (d : Nat) (t : TypeId) (ks : List SK), zB8 P d t = some ks → ∀ D, d ≤ D → CheckFlat P ρ D t ks
 | 0, t, ks, h, D, hD => by cases h
 | d + 1, t, ks, h, D, hD => by
  obtain ⟨D, rfl⟩ : ∃ k, D = k + 1 := ⟨D - 1, by omega⟩
  intro e g u l w hg hu hlen
  unfold zB8 at h
  split at h
  ·rename_i k hk
   exact zIm hk e D u w
  ·split at h
   ·rename_i fs hus
    split at h
    ·cases h
    ·have hgt : g = true := by
      have : tyAgg P t = some true := by simp [tyAgg, hus]
      rw [this] at hg; injection hg with hg; exact hg.symm
     subst hgt
     rcases hu with ⟨_, xs, rfl, hxs⟩ | ⟨e, _⟩
     ·have := checkF e (fun t ks hh => zIc d t ks hh D (by omega)) fs.toList 0 ks h l xs w
      rw [Instr.checkKey]
      simp only [Sem.run_bind, run_underlying hus, Result.andThen_ok]
      rw [← Array.forIn_toList]
      rw [this _ hxs (by omega) (fun f u h1 h2 h3 => by simp [h1, h2, h3])]
      rfl
     ·cases e
   ·rename_i len el hus
    cases hfe : zB8 P d el with
    | none => rw [hfe] at h; cases h
    | some k1 =>
     rw [hfe] at h
     have h : (if zA2 P el = some k1.length then some (List.replicate len k1).flatten else none) = some ks := h
     split at h
     ·rename_i hsz
      injection h with h; subst h
      have hgt : g = true := by
       have : tyAgg P t = some true := by simp [tyAgg, hus]
       rw [this] at hg; injection hg with hg; exact hg.symm
      subst hgt
      rcases hu with ⟨_, xs, rfl, hxs⟩ | ⟨e, _⟩
      ·rw [zJq] at hlen
       obtain ⟨g1, hg1, hg2⟩ := zI0 hfe
       rw [Instr.checkKey]
       simp only [Sem.run_bind, run_underlying hus, Result.andThen_ok]
       simp only [Std.Legacy.Range.forIn_eq_forIn_range', Std.Legacy.Range.size, Nat.sub_zero, Nat.add_one_sub_one, Nat.div_one]
       have hall : ∀ j ∈ List.range' 0 len, j < len := fun j hj => by simp at hj; omega
       generalize List.range' 0 len = is at hall
       induction is with
       | nil => simp
       | cons j is ih =>
        have hj := hall j (by simp)
        have hmul : (j + 1) * k1.length ≤ len * k1.length := Nat.mul_le_mul_right _ hj
        rw [Nat.succ_mul] at hmul
        obtain ⟨u, hu, hcu⟩ := zFd (P := P) hg1 hsz hxs (off := j * k1.length) (by omega) hg2 w
        have hrun := zIc d el k1 hfe D (by omega) e g1 u _ w hg1 hcu (by rw [List.length_take, List.length_drop]; omega)
        simp only [List.forIn_cons, Sem.run_bind, zAw hsz, Result.andThen_ok, hu, hrun, Sem.run_pure]
        exact ih (fun y hy => hall y (by simp [hy]))
      ·cases e
     ·cases h
   ·cases h
theorem zCy {kt : KT} {k : AV} {q : Bool} (hkt : keyT P t = some kt) (hk : VR ρ k u) (hq : keyEq kt k k = some q) (e : Bool) (w : World) : (Instr.checkKey e 10000 t u).run P w = .ok () w := by
 unfold keyT at hkt
 split at hkt
 ·rename_i sk hsk
  exact zIm hsk e 9999 u w
 ·rename_i hsk
  cases hf : zB8 P 20 t with
  | none => rw [hf] at hkt; cases hkt
  | some ks =>
   rw [hf] at hkt; injection hkt with hkt; subst hkt
   have hq : eqAgg ks (AH.mk T.leaf 0) k k = some q := hq
   obtain ⟨l, l', rfl, _, hq⟩ := zGy hq
   exact zIc 20 t ks hf 10000 (by omega) e true u l w (zFs hf hsk) hk.aggCell (zLu hq).1
end
end Go.Ev
namespace Go.Ev
open Go
variable [Glob]
section
variable {P : Program} {ρ : Rho} {h : AH} {w : World} {loc : T AV} {tmp : List AV}
theorem WR.getMap {id b o s : Nat} {es : List (AV × AV × Nat)} {clock : Nat} (W : WR ρ h w) (hg : h.mem.get id = some (.map es clock)) (hr : ρ id = some (b, o, s)) :
  ∃ es', w.heap[b]? = some (.map es' clock) ∧ ERs ρ es es'.toList ∧ o = 0 := by
 obtain ⟨x, hx, hr'⟩ := W.obj hg hr
 cases hr' with
 | map he => exact ⟨_, hx, he, rfl⟩
theorem ERs_nil {es' : List MapEntry} (he : ERs ρ [] es') : es' = [] := by cases he; rfl
variable {x m k : Opd} {vm vk vx : Value} {t kty et ty : TypeId}
theorem s_lookup {kt : KT} {ok : Bool} {z : Value} {za : AV} (W : WR ρ h w) (hu : P.underlying t = some (.map kty et)) (hkt : keyT P kty = some kt) (hz : zB5 P et = some z) (hza : cvVal z = some za)
  (hm : VR ρ (ev loc tmp m) vm) (hk : VR ρ (ev loc tmp k) vk) : Good P ρ h w (vv (Instr.lookup t vm vk ok)) (zJh kt za ok m k loc tmp h) := by
 unfold zJh
 cases em : ev loc tmp m with
 | mp id =>
  refine zDf Good.hF fun es clock hg => zAx Good.hF fun q hq => zAx Good.hF fun r hr => ?_
  rw [em] at hm
  cases hm with
  | mp hrho =>
   rename_i blk sblk
   rw [AH.get_eq] at hg
   obtain ⟨es', hb, he, _⟩ := W.getMap hg hrho
   obtain ⟨o, hf, hfd⟩ := zJr (P := P) hkt hk he hr w
   cases r with
   | none =>
    have hfd : o = none := hfd
    subst hfd
    have hrun : (Instr.lookup t (.map (some blk)) vk ok).run P w = .ok (if ok then .tuple #[z, .bool false] else z) w := by
     simp [Instr.lookup, run_underlying hu, MapKept.run_getObj_map hb, zCy hkt hk hq, hf, zBf hz]
    cases ok
    ·exact .same W (zAn hrun) (zCx hza)
    ·exact .same W (zAn hrun) (.tup (.cons (zCx hza) (.cons (.bool _) .nil)) rfl)
   | some v =>
    obtain ⟨j, e, rfl, _, hv⟩ := hfd
    have hrun : (Instr.lookup t (.map (some blk)) vk ok).run P w = .ok (if ok then .tuple #[e.val, .bool true] else e.val) w := by
     simp [Instr.lookup, run_underlying hu, MapKept.run_getObj_map hb, zCy hkt hk hq, hf]
    cases ok
    ·exact .same W (zAn hrun) hv
    ·exact .same W (zAn hrun) (.tup (.cons hv (.cons (.bool _) .nil)) rfl)
 | nilm =>
  refine zAx Good.hF fun q hq => ?_
  rw [em] at hm
  cases hm
  obtain ⟨o, hf, hfd⟩ := zJr (P := P) hkt hk (ERs.nil) (kt := kt) (r := none) rfl w
  have hfd : o = none := hfd
  subst hfd
  have hrun : (Instr.lookup t (.map none) vk ok).run P w = .ok (if ok then .tuple #[z, .bool false] else z) w := by
   simp [Instr.lookup, run_underlying hu, zCy hkt hk hq, hf, zBf hz]
  cases ok
  ·exact .same W (zAn hrun) (zCx hza)
  ·exact .same W (zAn hrun) (.tup (.cons (zCx hza) (.cons (.bool _) .nil)) rfl)
 | _ => trivial
theorem zJc {kt : KT} {k x a v : AV} {n clock : Nat} {es : List (AV × AV × Nat)} {l : List (AV × AV × Nat)} {b : Bool} (h : putE kt k x clock ((a, v, n) :: es) = some (l, b)) :
  ∃ q, keyEq kt k a = some q ∧ (q = true ∧ l = (k, x, n) :: es ∧ b = false ∨ q = false ∧ ∃ l1, putE kt k x clock es = some (l1, b) ∧ l = (a, v, n) :: l1) := by
 have h : obind (keyEq kt k a) none (fun q => bi q (some ((k, x, n) :: es, false)) (obind (putE kt k x clock es) none fun p => Prod.rec (motive := fun _ => Option (List (AV × AV × Nat) × Bool)) (fun l b => some ((a, v, n) :: l, b)) p)) = some (l, b) := h
 cases hk : keyEq kt k a with
 | none => rw [hk] at h; cases h
 | some q =>
  rw [hk] at h
  cases q
  ·refine ⟨false, rfl, .inr ⟨rfl, ?_⟩⟩
   have h : obind (putE kt k x clock es) none (fun p => Prod.rec (motive := fun _ => Option (List (AV × AV × Nat) × Bool)) (fun l b => some ((a, v, n) :: l, b)) p) = some (l, b) := h
   cases hp : putE kt k x clock es with
   | none => rw [hp] at h; cases h
   | some p =>
    rw [hp] at h
    obtain ⟨l1, b1⟩ := p
    injection h with h; injection h with h1 h2
    subst h1; subst h2
    exact ⟨l1, rfl, rfl⟩
  ·injection h with h; injection h with h1 h2
   exact ⟨true, rfl, .inl ⟨rfl, h1.symm, h2.symm⟩⟩
theorem zJ2 {k : SK} {a b : AV} {u v : Value} (ha : VR ρ a u) (hb : VR ρ b v) (hq : eqS k a b = some true) (n : Nat) : Instr.sameBits n v u = true := by
 cases k with
 | bool =>
  have hq1 : eqB1 a b = some true := hq
  clear hq
  cases a <;> try (cases hq1; done)
  cases b <;> try (cases hq1; done)
  rename_i p p'
  cases ha; cases hb
  injection hq1 with hq
  cases p <;> cases p' <;> first | (cases hq; done) | (cases n <;> rfl)
 | int =>
  have hq1 : eqI1 a b = some true := hq
  clear hq
  cases a <;> try (cases hq1; done)
  cases b <;> try (cases hq1; done)
  rename_i k m k' n'
  have hq2 : bi (eqK k k') (some (eqI m n')) none = some true := hq1
  clear hq1
  rw [bi_eq] at hq2
  split at hq2
  ·rename_i hkk
   have := zIb hkk
   subst this
   cases ha; cases hb
   injection hq2 with hq2
   rw [zF0] at hq2
   have := of_decide_eq_true hq2
   subst this
   cases n <;> simp [Instr.sameBits]
  ·cases hq2
 | str =>
  have hq1 : eqS1 a b = some true := hq
  clear hq
  cases a <;> try (cases hq1; done)
  cases b <;> try (cases hq1; done)
  rename_i l s l' s'
  have hq2 : some (bi (Nat.beq l l') (Nat.beq s s') false) = some true := hq1
  clear hq1
  injection hq2 with hq2
  have h1 := ha; have h2 := hb
  cases ha; cases hb
  rw [str_eq h1 h2, ← zG3] at hq2
  rw [MapKept.bytes_beq] at hq2; subst hq2; cases n <;> simp [Instr.sameBits, MapKept.bytes_beq]
theorem bits_list (n : Nat) : ∀ {ks : List SK} {l l' : List AV} {xs ys : List Value}, VCs ρ l xs → VCs ρ l' ys → eqL ks l l' = some true → xs.length = ys.length ∧ ((ys.zip xs).all fun (x, y) => Instr.sameBits n x y) = true
 | [], l, l', xs, ys, h1, h2, hq => by
  obtain ⟨rfl, rfl, _⟩ := zJy hq
  cases h1; cases h2
  simp
 | k :: ks, l, l', xs, ys, h1, h2, hq => by
  obtain ⟨a, r, b, r', q1, q2, rfl, rfl, e1, e2, e3⟩ := zI2 hq
  have hqq : q1 = true ∧ q2 = true := by simpa using e3.symm
  obtain ⟨rfl, rfl⟩ := hqq
  cases h1 with
  | cons _ p1 p2 =>
  cases h2 with
  | cons _ p3 p4 =>
   obtain ⟨i1, i2⟩ := bits_list n p2 p4 e2
   exact ⟨by simp [i1], by simp only [List.zip_cons_cons, List.all_cons, zJ2 p1 p3 e1, i2, Bool.and_self]⟩
theorem key_bits {kt : KT} {a b : AV} {u v : Value} (ha : VR ρ a u) (hb : VR ρ b v) (hq : keyEq kt a b = some true) : Instr.sameBits 10000 v u = true := by
 cases kt with
 | one k => exact zJ2 ha hb hq _
 | agg ks =>
  have hq : eqAgg ks (AH.mk T.leaf 0) a b = some true := hq
  obtain ⟨l, l', rfl, rfl, hq⟩ := zGy hq
  cases ha with
  | agg a1 a2 =>
  cases hb with
  | agg b1 b2 =>
   subst a2; subst b2
   obtain ⟨i1, i2⟩ := bits_list (ρ := ρ) 9999 a1 b1 hq
   show Instr.sameBits (9999 + 1) _ _ = true
   simp only [Instr.sameBits]
   simp only [List.size_toArray, i1, beq_self_eq_true, Bool.true_and]
   exact i2
inductive First (kt : KT) (k : AV) : List (AV × AV × Nat) → Nat → Prop
 | here {a v : AV} {n : Nat} {es : List (AV × AV × Nat)} : keyEq kt k a = some true → First kt k ((a, v, n) :: es) 0
 | there {a v : AV} {n j : Nat} {es : List (AV × AV × Nat)} : keyEq kt k a = some false → First kt k es j → First kt k ((a, v, n) :: es) (j + 1)
inductive AllNo (kt : KT) (k : AV) : List (AV × AV × Nat) → Prop
 | nil : AllNo kt k []
 | cons {a v : AV} {n : Nat} {es : List (AV × AV × Nat)} : keyEq kt k a = some false → AllNo kt k es → AllNo kt k ((a, v, n) :: es)
theorem asking_no {kt : KT} {k : AV} {u : Value} (hkt : keyT P t = some kt) (hk : VR ρ k u) (w : World) {d : TypeDesc} (hd : ∀ {a b : AV} {u v : Value} {q : Bool}, VR ρ a u → VR ρ b v → keyEq kt a b = some q → Instr.sameNow d u v = none ∨ Instr.sameNow d u v = some q) :
  ∀ {es : List (AV × AV × Nat)} {es' : List MapEntry} (i : Nat), AllNo kt k es → ERs ρ es es' → (Instr.findAsking t u es' i).run P w = .ok none w ∧ (Instr.findNow d u es' i = none ∨ Instr.findNow d u es' i = some none)
 | _, _, i, .nil, .nil => ⟨rfl, .inr rfl⟩
 | _, _, i, .cons hq hr, .cons (e := e) hkey hval hborn hrest => by
  have hrun := zHq hkt hk hkey hq w
  obtain ⟨h1, h2⟩ := asking_no hkt hk w hd (i + 1) hr hrest
  refine ⟨by simp [Instr.findAsking, hrun, h1], ?_⟩
  rcases hd hk hkey hq with hn | hn
  ·left; simp [Instr.findNow, hn]
  ·rcases h2 with h2 | h2
   ·left; simp [Instr.findNow, hn, h2]
   ·right; simp [Instr.findNow, hn, h2]
theorem zIn {kt : KT} {k : AV} {u : Value} (hkt : keyT P t = some kt) (hk : VR ρ k u) (w : World) {d : TypeDesc} (hd : ∀ {a b : AV} {u v : Value} {q : Bool}, VR ρ a u → VR ρ b v → keyEq kt a b = some q → Instr.sameNow d u v = none ∨ Instr.sameNow d u v = some q) :
  ∀ {es : List (AV × AV × Nat)} {es' : List MapEntry} (i : Nat) {j : Nat}, First kt k es j → ERs ρ es es' → ∃ e, es'[j]? = some e ∧ Instr.sameBits 10000 e.key u = true ∧ (Instr.findAsking t u es' i).run P w = .ok (some (i + j, e.val)) w ∧ (Instr.findNow d u es' i = none ∨ Instr.findNow d u es' i = some (some (i + j, e.val)))
 | _, _, i, _, .here hq, .cons (e := e) hkey hval hborn hrest => by
  have hrun := zHq hkt hk hkey hq w
  refine ⟨e, rfl, key_bits hk hkey hq, by simp [Instr.findAsking, hrun], ?_⟩
  rcases hd hk hkey hq with hn | hn
  ·left; simp [Instr.findNow, hn]
  ·right; simp [Instr.findNow, hn]
 | _, _, i, _, .there (j := j) hq hr, .cons (e := e) hkey hval hborn hrest => by
  have hrun := zHq hkt hk hkey hq w
  obtain ⟨e', h0, hb, h1, h2⟩ := zIn hkt hk w hd (i + 1) hr hrest
  have hij : i + 1 + j = i + (j + 1) := by omega
  rw [hij] at h1 h2
  refine ⟨e', by simpa using h0, hb, by simp [Instr.findAsking, hrun, h1], ?_⟩
  rcases hd hk hkey hq with hn | hn
  ·left; simp [Instr.findNow, hn]
  ·rcases h2 with h2 | h2
   ·left; simp [Instr.findNow, hn, h2]
   ·right; simp [Instr.findNow, hn, h2]
theorem zH8 {kt : KT} {k : AV} {u : Value} (hkt : keyT P t = some kt) (hk : VR ρ k u) (w : World) {es : List (AV × AV × Nat)} {es' : List MapEntry} (hn : AllNo kt k es) (he : ERs ρ es es') : (Instr.findKey t u es').run P w = .ok none w := by
 obtain ⟨d, hd, hd2⟩ := key_now (ρ := ρ) hkt
 obtain ⟨h1, h2⟩ := asking_no hkt hk w hd2 0 hn he
 rcases h2 with h2 | h2
 ·simp [Instr.findKey, run_underlying hd, h2, h1]
 ·simp [Instr.findKey, run_underlying hd, h2]
theorem zFt {kt : KT} {k : AV} {u : Value} (hkt : keyT P t = some kt) (hk : VR ρ k u) (w : World) {es : List (AV × AV × Nat)} {es' : List MapEntry} {j : Nat} (hn : First kt k es j) (he : ERs ρ es es') :
  ∃ e, es'[j]? = some e ∧ Instr.sameBits 10000 e.key u = true ∧ (Instr.findKey t u es').run P w = .ok (some (j, e.val)) w := by
 obtain ⟨d, hd, hd2⟩ := key_now (ρ := ρ) hkt
 obtain ⟨e, h0, hb, h1, h2⟩ := zIn hkt hk w hd2 0 hn he
 rw [Nat.zero_add] at h1 h2
 refine ⟨e, h0, hb, ?_⟩
 rcases h2 with h2 | h2
 ·simp [Instr.findKey, run_underlying hd, h2, h1]
 ·simp [Instr.findKey, run_underlying hd, h2]
theorem ERs.modify {kt : KT} {k x : AV} {u v : Value} (hk : VR ρ k u) (hx : VR ρ x v) : ∀ {es : List (AV × AV × Nat)} {es' : List MapEntry} {j : Nat} {l : List (AV × AV × Nat)}, First kt k es j → ERs ρ es es' → (∃ c b, putE kt k x c es = some (l, b)) →
  ERs ρ l (es'.modify j fun e => { e with key := u, val := v })
 | _, _, _, l, .here hq, .cons (e := e) hkey hval hborn hrest, ⟨c, b, h⟩ => by
  obtain ⟨q, h1, h2⟩ := zJc h
  rw [hq] at h1; injection h1 with h1; subst h1
  rcases h2 with ⟨_, rfl, _⟩ | ⟨h2, _⟩
  ·exact .cons hk hx hborn hrest
  ·cases h2
 | _, _, _, l, .there hq hr, .cons (e := e) hkey hval hborn hrest, ⟨c, b, h⟩ => by
  obtain ⟨q, h1, h2⟩ := zJc h
  rw [hq] at h1; injection h1 with h1; subst h1
  rcases h2 with ⟨h2, _⟩ | ⟨_, l1, h3, rfl⟩
  ·cases h2
  ·simp only [List.modify_succ_cons]
   exact .cons hkey hval hborn (ERs.modify hk hx hr hrest ⟨c, b, h3⟩)
theorem zJb {kt : KT} {k x : AV} {clock : Nat} : ∀ {es l : List (AV × AV × Nat)} {b : Bool}, putE kt k x clock es = some (l, b) → (b = true ∧ AllNo kt k es ∧ l = es ++ [(k, x, clock)]) ∨ (b = false ∧ ∃ j, First kt k es j)
 | [], l, b, h => by injection h with h; injection h with h1 h2; exact .inl ⟨h2.symm, .nil, h1.symm⟩
 | (a, v, n) :: es, l, b, h => by
  obtain ⟨q, h1, h2⟩ := zJc h
  rcases h2 with ⟨rfl, _, rfl⟩ | ⟨rfl, l1, h3, rfl⟩
  ·exact .inr ⟨rfl, 0, .here h1⟩
  ·rcases zJb h3 with ⟨h4, h5, h6⟩ | ⟨h4, j, h5⟩
   ·exact .inl ⟨h4, .cons h1 h5, by rw [h6]; rfl⟩
   ·exact .inr ⟨h4, j + 1, .there h1 h5⟩
theorem ERs.append : ∀ {es es2 : List (AV × AV × Nat)} {l l2 : List MapEntry}, ERs ρ es l → ERs ρ es2 l2 → ERs ρ (es ++ es2) (l ++ l2)
 | _, _, _, _, .nil, h => h
 | _, _, _, _, .cons a b c r, h => .cons a b c (ERs.append r h)
theorem WR.setMap {id b s clock clock2 : Nat} {es es2 : List (AV × AV × Nat)} {es' es2' : Array MapEntry} (W : WR ρ h w) (hg : h.mem.get id = some (.map es clock)) (hr : ρ id = some (b, 0, s)) (hb : w.heap[b]? = some (.map es' clock))
  (he : ERs ρ es2 es2'.toList) : WR ρ (h.set id (.map es2 clock2)) { w with heap := w.heap.setIfInBounds b (.map es2' clock2) } ∧ Step ρ h w ρ (h.set id (.map es2 clock2)) { w with heap := w.heap.setIfInBounds b (.map es2' clock2) } :=
 W.set hg rfl hr rfl (.map he) (MapKept.heap_set hb).1 (fun k hk => (MapKept.heap_set hb).2 k hk) (by simp) ⟨rfl, rfl, rfl⟩
theorem zIi {x : Opd} {h : AH} {G : OR → Prop} (hF : ∀ n, G (.fail n)) {k : AV → AH → OR} (hk : G (k (ev loc tmp x) h)) :
  G (OR.rec (motive := fun _ => OR) k (fun _ _ => F 56) (fun _ => F 56) (fun _ => F 56) OR.fail (oMove x loc tmp h)) := by
 unfold oMove
 cases e : ev loc tmp x <;> first | (rw [e] at hk; exact hk) | exact hF _
theorem s_mapUpd {kt : KT} (W : WR ρ h w) (hu : P.underlying t = some (.map kty et)) (hkt : keyT P kty = some kt) (hm : VR ρ (ev loc tmp m) vm) (hk : VR ρ (ev loc tmp k) vk) (hx : VR ρ (ev loc tmp x) vx) :
  Good P ρ h w (uu (Instr.mapUpdate t vm vk vx)) (oMapUpd kt m k x loc tmp h) := by
 unfold oMapUpd
 refine lift_mp Good.hF fun id em => zDf Good.hF fun es clock hg => zAx Good.hF fun q hq => zIi Good.hF (zAx Good.hF fun p hp => ?_)
 obtain ⟨l, b⟩ := p
 rw [em] at hm
 rw [AH.get_eq] at hg
 cases hm with
 | mp hrho =>
  obtain ⟨es', hb, he, _⟩ := W.getMap hg hrho
  rcases zJb hp with ⟨rfl, hn, rfl⟩ | ⟨rfl, j, hf⟩
  ·have hrun := zH8 (P := P) hkt hk w hn he
   have he2 : ERs ρ (es ++ [(ev loc tmp k, ev loc tmp x, clock)]) (es'.push { key := vk, val := vx, born := clock }).toList := by
    rw [Array.toList_push]; exact he.append (.cons hk hx rfl .nil)
   obtain ⟨W', S'⟩ := W.setMap (clock2 := clock + 1) hg hrho hb he2
   refine ⟨ρ, undef, _, .inr ⟨uu_run ?_, rfl⟩, .tup .nil rfl, W', S'⟩
   simp [Instr.mapUpdate, run_underlying hu, MapKept.run_getObj_map hb, zCy hkt hk hq, hrun, MapKept.run_setObj_map _ hb]
  ·obtain ⟨e, h1, h2, hrun⟩ := zFt (P := P) hkt hk w hf he
   have he2 : ERs ρ l (es'.modify j fun e => { e with key := vk, val := vx }).toList := by
    rw [Array.toList_modify]; exact ERs.modify hk hx hf he ⟨_, _, hp⟩
   obtain ⟨W', S'⟩ := W.setMap (clock2 := clock) hg hrho hb he2
   refine ⟨ρ, undef, _, .inr ⟨uu_run ?_, rfl⟩, .tup .nil rfl, W', S'⟩
   have h1' : es'[j]? = some e := by simpa using h1
   simp [Instr.mapUpdate, run_underlying hu, MapKept.run_getObj_map hb, zCy hkt hk hq, hrun, MapKept.run_setObj_map _ hb, h1', Instr.keyThatStays, h2]
theorem delE_some {kt : KT} {k : AV} : ∀ {es l : List (AV × AV × Nat)}, delE kt k es = some l → (AllNo kt k es ∧ l = es) ∨ ∃ j, First kt k es j ∧ l = es.eraseIdx j
 | [], l, h => by injection h with h; exact .inl ⟨.nil, h.symm⟩
 | (a, v, n) :: es, l, h => by
  have h : obind (keyEq kt k a) none (fun q => bi q (some es) (obind (delE kt k es) none fun l => some ((a, v, n) :: l))) = some l := h
  cases hk : keyEq kt k a with
  | none => rw [hk] at h; cases h
  | some q =>
   rw [hk] at h
   cases q
   ·have h : obind (delE kt k es) none (fun l => some ((a, v, n) :: l)) = some l := h
    cases hd : delE kt k es with
    | none => rw [hd] at h; cases h
    | some l1 =>
     rw [hd] at h
     injection h with h; subst h
     rcases delE_some hd with ⟨h1, rfl⟩ | ⟨j, h1, rfl⟩
     ·exact .inl ⟨.cons hk h1, rfl⟩
     ·exact .inr ⟨j + 1, .there hk h1, rfl⟩
   ·injection h with h; exact .inr ⟨0, .here hk, h.symm⟩
theorem ERs.erase : ∀ {es : List (AV × AV × Nat)} {l : List MapEntry} (j : Nat), ERs ρ es l → ERs ρ (es.eraseIdx j) (l.eraseIdx j)
 | _, _, _, .nil => .nil
 | _, _, 0, .cons a b c r => r
 | _, _, j + 1, .cons a b c r => .cons a b c (ERs.erase j r)
theorem s_delete {kt : KT} {ats : Array TypeId} (W : WR ρ h w) (h0 : ats[0]? = some t) (hu : P.underlying t = some (.map kty et)) (hkt : keyT P kty = some kt) (hm : VR ρ (ev loc tmp m) vm) (hk : VR ρ (ev loc tmp k) vk) :
  Good P ρ h w (vv (Builtin.delete_ ats ty #[vm, vk])) (oDelete kt m k loc tmp h) := by
 unfold oDelete
 refine zAx Good.hF fun q hq => ?_
 cases em : ev loc tmp m with
 | mp id =>
  refine zDf Good.hF fun es clock hg => zAx Good.hF fun l hl => ?_
  rw [em] at hm
  rw [AH.get_eq] at hg
  cases hm with
  | mp hrho =>
   obtain ⟨es', hb, he, _⟩ := W.getMap hg hrho
   rcases delE_some hl with ⟨hn, rfl⟩ | ⟨j, hf, rfl⟩
   ·have hrun := zH8 (P := P) hkt hk w hn he
    obtain ⟨W', S'⟩ := W.setMap (clock2 := clock) hg hrho hb he
    refine ⟨ρ, .tuple #[], _, .inl (zAn ?_), .tup .nil rfl, W', S'⟩
    simp [Builtin.delete_, h0, run_underlying hu, MapKept.run_getObj_map hb, zCy hkt hk hq, hrun, MapKept.run_setObj_map _ hb]
   ·obtain ⟨e, h1, h2, hrun⟩ := zFt (P := P) hkt hk w hf he
    have he2 : ERs ρ (es.eraseIdx j) (es'.eraseIdxIfInBounds j).toList := by
     have hlt : j < es'.size := by
      rcases Nat.lt_or_ge j es'.size with h | h
      ·exact h
      ·rw [List.getElem?_eq_none (by simpa using h)] at h1; cases h1
     unfold Array.eraseIdxIfInBounds
     rw [dif_pos hlt, Array.toList_eraseIdx]
     exact he.erase j
    obtain ⟨W', S'⟩ := W.setMap (clock2 := clock) hg hrho hb he2
    refine ⟨ρ, .tuple #[], _, .inl (zAn ?_), .tup .nil rfl, W', S'⟩
    simp [Builtin.delete_, h0, run_underlying hu, MapKept.run_getObj_map hb, zCy hkt hk hq, hrun, MapKept.run_setObj_map _ hb]
 | nilm =>
  rw [em] at hm
  cases hm
  exact .same W (zAn (by simp [Builtin.delete_, h0, run_underlying hu, zCy hkt hk hq])) (.tup .nil rfl)
 | _ => trivial
theorem s_range (W : WR ρ h w) (hu : P.underlying t = some (.map kty et)) (hx : VR ρ (ev loc tmp x) vx) : Good P ρ h w (vv (Instr.range t vx)) (oRange x loc tmp h) := by
 unfold oRange
 cases ex : ev loc tmp x with
 | mp id =>
  refine zDf Good.hF fun es clock hg => ?_
  rw [ex] at hx
  rw [AH.get_eq] at hg
  rw [AH.new_eq]
  cases hx with
  | mp hrho =>
   rename_i blk sb
   obtain ⟨es', hb, he, _⟩ := W.getMap hg hrho
   obtain ⟨W', S'⟩ := W.alloc (x := .mapIter (some blk) clock #[] clock) (o := .iter (some id) clock [] clock) (s := 0) (w' := w.alloc (.mapIter (some blk) clock #[] clock)) (.iter hrho rfl) rfl ⟨rfl, rfl, rfl⟩
   exact ⟨_, _, _, .inl (zAn (run_range_map w t kty et blk es' clock hu hb)), .ptr (Rho.ext_self _ _ _) rfl, W', S'⟩
 | nilm =>
  rw [ex] at hx
  cases hx
  show Good P ρ h w _ (AH.new h (AObj.iter Option.none 0 [] 0) fun it h => OR.val (AV.ptr it 0) h)
  rw [AH.new_eq]
  obtain ⟨W', S'⟩ := W.alloc (x := .mapIter none 0 #[] 0) (o := .iter none 0 [] 0) (s := 0) (w' := w.alloc (.mapIter none 0 #[] 0)) .iterN rfl ⟨rfl, rfl, rfl⟩
  exact ⟨_, _, _, .inl (zAn (run_range_nilMap w t kty et hu)), .ptr (Rho.ext_self _ _ _) rfl, W', S'⟩
 | _ => trivial
theorem lift_iter {G : OR → Prop} (hF : ∀ n, G (.fail n)) {o : Option AObj} {k : Option Nat → Nat → List Nat → Nat → OR} (hk : ∀ a b c d, o = some (.iter a b c d) → G (k a b c d)) : G (onIter o k) := by
 cases o with
 | none => exact hF _
 | some o => cases o <;> first | exact hk _ _ _ _ rfl | exact hF _
theorem nmem_eq (n : Nat) (l : List Nat) : nmem n l = l.contains n := by
 induction l with
 | nil => rfl
 | cons m l ih =>
  show bi (Nat.beq n m) true (nmem n l) = _
  rw [ih, bi_eq, List.contains_cons]
  by_cases hnm : n = m
  ·subst hnm; simp
  ·have : Nat.beq n m = false := by cases e : Nat.beq n m with | false => rfl | true => exact absurd (Nat.eq_of_beq_eq_true e) hnm
   rw [this]
   have h2 : (n == m) = false := by simpa using hnm
   simp [h2]
theorem zLp {since : Nat} {seen : List Nat} : ∀ {es : List (AV × AV × Nat)} {es' : List MapEntry} {r : Option (AV × AV × Nat)}, ERs ρ es es' → left since seen es = some r →
  match r with
  | none => es'.filter (fun e => !seen.contains e.born) = []
  | some (a, v, n) => ∃ e, es'.filter (fun e => !seen.contains e.born) = [e] ∧ VR ρ a e.key ∧ VR ρ v e.val ∧ e.born = n ∧ n < since
 | _, _, r, .nil, h => by injection h with h; subst h; rfl
 | _, _, r, .cons (k := a) (x := v) (n := n) (e := e) (l := es) hkey hval hborn hrest, h => by
  have h : bi (nmem n seen) (left since seen es) (bi (Nat.ble (n + 1) since) (obind (left since seen es) none fun r => Option.rec (motive := fun _ => Option (Option (AV × AV × Nat))) (some (some (a, v, n))) (fun _ => none) r) none) = some r := h
  rw [nmem_eq] at h
  rw [List.filter_cons, hborn]
  cases hc : seen.contains n with
  | true =>
   rw [hc] at h
   simp only [Bool.not_true, Bool.false_eq_true, if_false]
   exact zLp hrest h
  | false =>
   rw [hc] at h
   have h : bi (Nat.ble (n + 1) since) (obind (left since seen es) none fun r => Option.rec (motive := fun _ => Option (Option (AV × AV × Nat))) (some (some (a, v, n))) (fun _ => none) r) none = some r := h
   rw [bi_eq] at h
   split at h
   ·rename_i hlt
    cases hl : left since seen es with
    | none => rw [hl] at h; cases h
    | some r1 =>
     rw [hl] at h
     cases r1 with
     | some _ => cases h
     | none =>
      injection h with h; subst h
      have := zLp hrest hl
      have this : _ = [] := this
      simp only [Bool.not_false, if_true]
      refine ⟨e, by rw [this], hkey, hval, hborn, ?_⟩
      have := Nat.le_of_ble_eq_true hlt
      omega
   ·cases h
theorem older_run {last : Nat} : ∀ {es : List (AV × AV × Nat)} {es' : List MapEntry}, ERs ρ es es' → older last es = true → (es'.all fun e => decide (e.born ≥ last)) = false
 | _, _, .nil, h => by cases h
 | _, _, .cons (n := n) (e := e) (l := es) hkey hval hborn hrest, h => by
  have h : bi (Nat.ble (n + 1) last) true (older last es) = true := h
  rw [bi_eq] at h
  split at h
  ·rename_i hlt
   have := Nat.le_of_ble_eq_true hlt
   simp only [List.all_cons, Bool.and_eq_false_iff]
   left
   simp; omega
  ·simp only [List.all_cons, older_run hrest h, Bool.and_false]
theorem guard_iter {G : OR → Prop} (hF : ∀ n, G (.fail n)) {seen : List Nat} {es : List (AV × AV × Nat)} {last : Nat} {go : OR} (h1 : seen = [] → G go) (h2 : es = [] → G go) (h3 : older last es = true → G go) :
  G (List.rec (motive := fun _ => OR) go (fun _ _ _ => List.rec (motive := fun _ => OR) go (fun _ _ _ => bi (older last es) go (F 62)) es) seen) := by
 cases seen with
 | nil => exact h1 rfl
 | cons a b =>
  cases es with
  | nil => exact h2 rfl
  | cons c d => exact zAp hF h3
theorem s_next {it : Opd} {vi : Value} (W : WR ρ h w) (hi : VR ρ (ev loc tmp it) vi) : Good P ρ h w (vv (Instr.next vi false ty)) (oNext it loc tmp h) := by
 unfold oNext
 refine zE3 Good.hF fun id off ei => zAp Good.hF fun hoff => lift_iter Good.hF fun m since seen last hg => ?_
 have hoff : off = 0 := Nat.eq_of_beq_eq_true hoff
 subst hoff
 rw [ei] at hi
 rw [AH.get_eq] at hg
 cases hi with
 | ptr hrho hp =>
  obtain ⟨y, hy, hyr⟩ := W.obj hg hrho
  subst hp
  cases hyr with
  | iterN =>
   refine .same W (zAn ?_) (.tup (.cons (.bool _) .nil) rfl)
   simp [Instr.next, zFf hy]
  | iter hm hseen =>
   rename_i ib isz mid seen2 blk sblk
   subst hseen
   refine zDf Good.hF fun es clock hgm => ?_
   rw [AH.get_eq] at hgm
   obtain ⟨es', hb, he, _⟩ := W.getMap hgm hm
   have key : ∀ (htest : (!seen.reverse.toArray.isEmpty && !es'.isEmpty && es'.all (fun x => decide (x.born ≥ last))) = false),
     Good P ρ h w (vv (Instr.next (.pointer (some ⟨ib, 0 + 0, none⟩)) false ty)) (obind (left since seen es) (F 63) fun r => Option.rec (motive := fun _ => OR) (OR.val (AV.tup [AV.bool false]) h)
      (fun e => onEnt e fun a v n => OR.val (AV.tup [AV.bool true, a, v]) (AH.set h id (AObj.iter (some mid) since (n :: seen) clock))) r) := by
    intro htest
    refine zAx Good.hF fun r hr => ?_
    have hl := zLp he hr
    have hseen : ∀ n, seen.reverse.toArray.contains n = seen.contains n := fun n => by simp
    have hfil : (es'.filter fun e => !seen.reverse.toArray.contains e.born) = (es'.toList.filter fun e => !seen.contains e.born).toArray := by
     apply Array.ext'
     simp
    cases r with
    | none =>
     have hl : es'.toList.filter (fun e => !seen.contains e.born) = [] := hl
     refine .same W (zAn ?_) (.tup (.cons (.bool _) .nil) rfl)
     simp only [Instr.next, Sem.run_bind, zFf hy (fun _ _ _ => Obj.noConfusion), Result.andThen_ok, MapKept.run_getObj_map hb, htest, Bool.false_eq_true, if_false, hfil, hl]
     simp [choose, Sem.run, Question.forced]
    | some e3 =>
     obtain ⟨a, v, n⟩ := e3
     obtain ⟨e, hl, hka, hva, hbn, hlt⟩ := hl
     have hset := W.set (o' := .iter (some mid) since (n :: seen) clock) (x := .mapIter (some blk) since (seen.reverse.toArray.push e.born) clock) (w' := { w with heap := w.heap.setIfInBounds ib (.mapIter (some blk) since (seen.reverse.toArray.push e.born) clock) }) hg rfl hrho rfl (.iter hm (by simp [hbn])) (MapKept.heap_set hy).1 (fun k hk => (MapKept.heap_set hy).2 k hk) (by simp) ⟨rfl, rfl, rfl⟩
     refine ⟨ρ, .tuple #[.bool true, e.key, e.val], _, .inl (zAn ?_), .tup (.cons (.bool _) (.cons hka (.cons hva .nil))) rfl, hset.1, hset.2⟩
     have hlt' : e.born < since := by omega
     simp only [Instr.next, Sem.run_bind, zFf hy (fun _ _ _ => Obj.noConfusion), Result.andThen_ok, MapKept.run_getObj_map hb, htest, Bool.false_eq_true, if_false, hfil, hl]
     simp [choose, Sem.run, Question.forced, hlt', setObj, hy]
   refine guard_iter Good.hF (fun h => key ?_) (fun h => key ?_) (fun h => key ?_)
   ·subst h; simp
   ·subst h
    have := ERs_nil he
    have he0 : es' = #[] := by apply Array.ext'; simpa using this
    rw [he0]; simp
   ·have := older_run he h
    have h2 : es'.all (fun x => decide (x.born ≥ last)) = false := by rw [← Array.all_toList]; exact this
    rw [h2, Bool.and_false]
theorem findB_run {n : Nat} : ∀ {es : List (AV × AV × Nat)} {es' : List MapEntry} {v : AV}, ERs ρ es es' → findB n es = some v → ∃ e, es'.find? (·.born == n) = some e ∧ VR ρ v (.tuple #[e.key, e.val])
 | _, _, v, .nil, h => by cases h
 | _, _, v, .cons (k := a) (x := x) (n := m) (e := e) (l := es) hkey hval hborn hrest, h => by
  have h : bi (Nat.beq n m) (some (AV.tup [a, x])) (findB n es) = some v := h
  rw [bi_eq] at h
  split at h
  ·rename_i hnm
   have := Nat.eq_of_beq_eq_true hnm
   injection h with h; subst h
   exact ⟨e, by rw [List.find?_cons]; simp [hborn, this], .tup (.cons hkey (.cons hval .nil)) rfl⟩
  ·rename_i hnm
   obtain ⟨e', h1, h2⟩ := findB_run hrest h
   refine ⟨e', ?_, h2⟩
   rw [List.find?_cons]
   have : (e.born == n) = false := by
    rw [hborn]
    cases hh : (m == n) with
    | false => rfl
    | true => exact absurd (by rw [eq_of_beq hh]; exact Nat.beq_refl _) hnm
   rw [this]; exact h1
theorem s_entry {it : Opd} {vi : Value} (W : WR ρ h w) (hi : VR ρ (ev loc tmp it) vi) : Good P ρ h w (vv (Instr.entry vi)) (oEntry it loc tmp h) := by
 unfold oEntry
 refine zE3 Good.hF fun id off ei => zAp Good.hF fun hoff => lift_iter Good.hF fun m since seen last hg => ?_
 have hoff : off = 0 := Nat.eq_of_beq_eq_true hoff
 subst hoff
 rw [ei] at hi
 rw [AH.get_eq] at hg
 cases hi with
 | ptr hrho hp =>
  obtain ⟨y, hy, hyr⟩ := W.obj hg hrho
  subst hp
  cases hyr with
  | iterN => trivial
  | iter hm hseen =>
   rename_i ib isz mid seen2 blk sblk
   subst hseen
   cases seen with
   | nil => trivial
   | cons n r =>
    refine zDf Good.hF fun es clock hgm => zAp Good.hF fun hc => zAx Good.hF fun v hv => ?_
    have hc : clock = last := Nat.eq_of_beq_eq_true hc
    subst hc
    rw [AH.get_eq] at hgm
    obtain ⟨es', hb, he, _⟩ := W.getMap hgm hm
    obtain ⟨e, h1, h2⟩ := findB_run he hv
    refine .same W (zAn ?_) h2
    rw [Array.find?_toList] at h1
    have hy' := zFf (P := P) hy (fun _ _ _ => Obj.noConfusion)
    simp only [Instr.entry, Sem.run_bind, hy', Result.andThen_ok]
    have hback : (n :: r).reverse.toArray.back? = some n := by simp
    simp only [hback, Sem.run_bind, MapKept.run_getObj_map hb, Result.andThen_ok, bne_self_eq_false, Bool.false_eq_true, if_false, h1, Sem.run_pure]
end
end Go.Ev
namespace Go.Ev
open Go
variable [Glob]
section
variable {P : Program} {ρ : Rho} {h : AH} {w : World} {loc : T AV} {tmp : List AV} {t kty et : TypeId} {m k : Opd} {vm vk vx : Value}
theorem isU8_eq {e : TypeId} (h : isU8 P e = true) : P.underlying e = some (.int .u8) := by
 unfold isU8 at h
 split at h
 ·assumption
 ·cases h
theorem findN_cons {kt : KT} {k a v : AV} {n : Nat} {es : List (AV × AV × Nat)} : findN kt k ((a, v, n) :: es) = obind (keyEq kt k a) none (fun q => bi q (some (some (v, n))) (findN kt k es)) := rfl
theorem zKo {kt : KT} {k v : AV} {n : Nat} : ∀ {es : List (AV × AV × Nat)}, findN kt k es = some (some (v, n)) → ∃ j a, First kt k es j ∧ es[j]? = some (a, v, n)
 | [], h => by cases h
 | (a, v', n') :: es, h => by
  rw [findN_cons] at h
  cases hk : keyEq kt k a with
  | none => rw [hk] at h; cases h
  | some q =>
   rw [hk] at h
   cases q with
   | true => injection h with h; injection h with h; injection h with h1 h2; subst h1; subst h2; exact ⟨0, a, .here hk, rfl⟩
   | false => obtain ⟨j, a', h1, h2⟩ := zKo (es := es) h; exact ⟨j + 1, a', .there hk h1, by simpa using h2⟩
theorem First.inj {kt : KT} {k : AV} : ∀ {es : List (AV × AV × Nat)} {i j : Nat}, First kt k es i → First kt k es j → i = j
 | _, _, _, .here _, .here _ => rfl
 | _, _, _, .here h, .there h' _ => by rw [h] at h'; cases h'
 | _, _, _, .there h _, .here h' => by rw [h] at h'; cases h'
 | _, _, _, .there _ a, .there _ b => by rw [First.inj a b]
theorem ERs.get : ∀ {es : List (AV × AV × Nat)} {l : List MapEntry} {j : Nat} {a v : AV} {n : Nat}, ERs ρ es l → es[j]? = some (a, v, n) → ∃ e, l[j]? = some e ∧ VR ρ v e.val ∧ e.born = n
 | _, _, j, _, _, _, .nil, h => by simp at h
 | _, _, 0, _, _, _, .cons (e := e) _ hv hb _, h => by simp at h; obtain ⟨h1, h2, h3⟩ := h; subst h2; subst h3; exact ⟨e, by simp, hv, hb⟩
 | _, _, j + 1, _, _, _, .cons _ _ _ hr, h => by simp at h; obtain ⟨e, h1, h2⟩ := ERs.get hr h; exact ⟨e, by simpa using h1, h2⟩
theorem modify_at {α : Type} {f g : α → α} : ∀ {l : List α} {j : Nat} {x : α}, l[j]? = some x → f x = g x → l.modify j f = l.modify j g
 | [], _, _, h, _ => by simp at h
 | a :: l, 0, x, h, e => by simp at h; subst h; simp [e]
 | a :: l, j + 1, x, h, e => by simp at h; simp [modify_at h e]
theorem s_mapEntry {kt : KT} {zv : Value} {z : AV} (W : WR ρ h w) (hu : P.underlying t = some (.map kty et)) (hkt : keyT P kty = some kt) (hz : zB5 P et = some zv) (hzc : cvVal zv = some z) (hm : VR ρ (ev loc tmp m) vm) (hk : VR ρ (ev loc tmp k) vk) :
  Good P ρ h w (vv (Instr.mapEntry t vm vk)) (zJg kt z m k loc tmp h) := by
 unfold zJg
 refine lift_mp Good.hF fun id em => zDf Good.hF fun es clock hg => zAx Good.hF fun q hq => zAx Good.hF fun r hr => ?_
 rw [em] at hm
 rw [AH.get_eq] at hg
 cases hm with
 | mp hrho =>
  obtain ⟨es', hb, he, _⟩ := W.getMap hg hrho
  cases r with
  | none =>
   refine zAx Good.hF fun p hp => ?_
   obtain ⟨l, b⟩ := p
   cases b with
   | false => exact Good.hF _
   | true =>
    rcases zJb hp with ⟨_, hn, rfl⟩ | ⟨h0, _⟩
    ·have hrun := zH8 (P := P) hkt hk w hn he
     have he2 : ERs ρ (es ++ [(ev loc tmp k, z, clock)]) (es'.push { key := vk, val := zv, born := clock }).toList := by
      rw [Array.toList_push]; exact he.append (.cons hk (zCx hzc) rfl .nil)
     obtain ⟨W', S'⟩ := W.setMap (clock2 := clock + 1) hg hrho hb he2
     refine ⟨ρ, _, _, .inl (zAn (v := .tuple #[zv, .int .i64 (clock : Int)]) ?_), .tup (.cons (zCx hzc) (.cons (.int _ _) .nil)) rfl, W', S'⟩
     simp [Instr.mapEntry, run_underlying hu, MapKept.run_getObj_map hb, zCy hkt hk hq, hrun, MapKept.run_setObj_map _ hb, zBf hz, goInt]
    ·cases h0
  | some vn =>
   obtain ⟨v, n⟩ := vn
   refine zAx Good.hF fun p hp => ?_
   obtain ⟨l, b⟩ := p
   cases b with
   | true => exact Good.hF _
   | false =>
    obtain ⟨j, a, hf, hj⟩ := zKo hr
    obtain ⟨e, h1, h2, hrun⟩ := zFt (P := P) hkt hk w hf he
    obtain ⟨e2, h1b, hv, hborn⟩ := he.get hj
    rw [h1] at h1b; injection h1b with h1b; subst h1b
    have he2 : ERs ρ l (es'.modify j fun e => { e with key := vk }).toList := by
     rw [Array.toList_modify, modify_at (g := fun x : MapEntry => { x with key := vk, val := e.val }) h1 rfl]
     exact ERs.modify hk hv hf he ⟨_, _, hp⟩
    obtain ⟨W', S'⟩ := W.setMap (clock2 := clock) hg hrho hb he2
    refine ⟨ρ, _, _, .inl (zAn (v := .tuple #[e.val, .int .i64 (n : Int)]) ?_), .tup (.cons hv (.cons (.int _ _) .nil)) rfl, W', S'⟩
    have h1' : es'[j]? = some e := by simpa using h1
    simp [Instr.mapEntry, run_underlying hu, MapKept.run_getObj_map hb, zCy hkt hk hq, hrun, MapKept.run_setObj_map _ hb, h1', Instr.keyThatStays, h2, goInt, hborn]
theorem setB_cons {n b : Nat} {x a v : AV} {es : List (AV × AV × Nat)} : setB n x ((a, v, b) :: es) = bi (Nat.beq b n) (some ((a, x, b) :: es)) (obind (setB n x es) none fun l => some ((a, v, b) :: l)) := rfl
theorem setB_some {n : Nat} {x : AV} {v : Value} (hx : VR ρ x v) : ∀ {es l : List (AV × AV × Nat)} {es' : List MapEntry}, setB n x es = some l → ERs ρ es es' → ∃ j, es'.findIdx? (fun e => (e.born : Int) == (n : Int)) = some j ∧ ERs ρ l (es'.modify j fun e => { e with val := v })
 | [], _, _, h, _ => by cases h
 | (a, u, b) :: es, l, _, h, .cons (e := e) (l' := es') hk hv hb hr => by
  rw [setB_cons, bi_eq] at h
  split at h
  ·rename_i hq
   have hq := Nat.eq_of_beq_eq_true hq
   injection h with h; subst h
   refine ⟨0, ?_, ?_⟩
   ·rw [List.findIdx?_cons, if_pos (by rw [hb, hq]; simp)]
   ·simp only [List.modify_zero_cons]
    exact .cons hk hx hb hr
  ·rename_i hq
   cases hs : setB n x es with
   | none => rw [hs] at h; cases h
   | some l1 =>
    rw [hs] at h
    injection h with h; subst h
    obtain ⟨j, h1, h2⟩ := setB_some hx hs hr
    refine ⟨j + 1, ?_, ?_⟩
    ·rw [List.findIdx?_cons, if_neg, h1]; rfl
     intro hc
     have : e.born = n := by have := eq_of_beq hc; omega
     rw [← this, hb] at hq
     exact hq (Nat.beq_refl _)
    ·simp only [List.modify_succ_cons]
     exact .cons hk hv hb h2
variable {s x : Opd} {vs : Value}
theorem s_entryStore (W : WR ρ h w) (hm : VR ρ (ev loc tmp m) vm) (hs : VR ρ (ev loc tmp s) vs) (hx : VR ρ (ev loc tmp x) vx) : Good P ρ h w (uu (Instr.entryStore t vm vs vx)) (zG9 m s x loc tmp h) := by
 unfold zG9
 refine lift_mp Good.hF fun id em => zDf Good.hF fun es clock hg => zB1 Good.hF fun kk n en => zCz Good.hF fun n' hn => zIi Good.hF (zAx Good.hF fun l hl => ?_)
 subst hn
 rw [em] at hm
 rw [en] at hs
 rw [AH.get_eq] at hg
 cases hs
 cases hm with
 | mp hrho =>
  obtain ⟨es', hb, he, _⟩ := W.getMap hg hrho
  obtain ⟨j, h1, h2⟩ := setB_some hx hl he
  have he2 : ERs ρ l (es'.modify j fun e => { e with val := vx }).toList := by rw [Array.toList_modify]; exact h2
  obtain ⟨W', S'⟩ := W.setMap (clock2 := clock) hg hrho hb he2
  refine ⟨ρ, undef, _, .inr ⟨uu_run ?_, rfl⟩, .tup .nil rfl, W', S'⟩
  have h1' : es'.findIdx? (fun e => (e.born : Int) == (n' : Int)) = some j := by rw [← h1]; cases es'; exact List.findIdx?_toArray _ _
  simp [Instr.entryStore, MapKept.run_getObj_map hb, MapKept.run_setObj_map _ hb, asInt, asIntOf, h1']
def zC0 (s : ByteArray) (cap : Nat) : Array Value := (s.data.map fun b => Value.int .u8 b.toNat) ++ Array.replicate (cap - s.size) (Value.int .u8 0)
theorem modify_push {α : Type} (a : Array α) (x : α) (f : α → α) : (a.push x).modify a.size f = a.push (f x) := by
 apply Array.ext'
 rw [Array.toList_modify, Array.toList_push, Array.toList_push, show a.size = a.toList.length from (Array.length_toList).symm]
 induction a.toList with
 | nil => rfl
 | cons y l ih => simp [ih]
theorem s_bytesOf {a b e : TypeId} {v : Value} (W : WR ρ h w) (h1 : P.underlying a = some .string) (h2 : P.underlying b = some (.slice e)) (h3 : P.underlying e = some (.int .u8)) (hv : VR ρ (ev loc tmp x) v) : Good P ρ h w (vv (convert a b v)) (zLk x loc tmp h) := by
 unfold zLk
 refine zGv Good.hF fun l q ex => ?_
 rw [ex] at hv
 cases hv with
 | str s e1 e2 =>
  rw [AH.new_eq]
  have hlen : l = s.size := by rw [e1, size_eq]
  have hrel := zEz (ρ := ρ) s.data.toList
  rw [← e1, ← e2] at hrel
  have hforced : (Question.appendCap s.size 0 e).forced = false := rfl
  obtain ⟨cap, hcap⟩ : ∃ cap, (Question.appendCap s.size 0 e).cut (w.tape w.drawn (Question.appendCap s.size 0 e)) = cap := ⟨_, rfl⟩
  have hle : s.size ≤ cap := by rw [← hcap]; simp [Question.cut]
  have hsz : (zC0 s cap).size = cap := by
   simp [zC0]
   have : s.data.size = s.size := rfl
   omega
  have hobj : ObjR ρ (.cells (zAc (zDb l q)) l none true) (.cells (zC0 s cap) e (cap, cap + 1)) 0 cap := by
   refine .cells (by rw [hsz]; omega) (by omega) (fun i a ha => ?_) (fun h => by cases h) (fun _ h => by cases h)
   rw [zAk] at ha
   obtain ⟨v, hv, hr, hc⟩ := hrel.get ha
   have hi : i < s.size := by
    rcases Nat.lt_or_ge i s.data.toList.length with hlt | hge
    ·rw [size_eq] at hlt; exact hlt
    ·rw [List.getElem?_eq_none (by simpa using hge)] at hv; cases hv
   refine ⟨by omega, hc, v, ?_, hr⟩
   unfold zC0
   rw [Nat.zero_add, Array.getElem?_append_left (by simp; exact hi), ← hv]
   simp
  obtain ⟨W', S'⟩ := W.alloc hobj (w' := { w with drawn := w.drawn + 1, heap := w.heap.push (.cells (zC0 s cap) e (cap, cap + 1)) }) rfl ⟨rfl, rfl, rfl⟩
  refine ⟨_, .slice (some ⟨w.heap.size, 0, none⟩) s.size cap, _, .inl (zAn ?_), ?_, W', S'⟩
  ·simp [convert, run_underlying h1, run_underlying h2, run_underlying h3, Conv.stringToBytes, hforced, hcap, zBl, markStringish]
   have e1 : (w.drew.alloc (.cells (zC0 s cap) e)).shape? w.heap.size = some (e, cap) := by
    show (match (w.heap.push (Obj.cells (zC0 s cap) e))[w.heap.size]? with | some (.cells c elem _) => some (elem, c.size) | _ => none) = _
    rw [Array.getElem?_push_size]
    show some (e, (zC0 s cap).size) = _
    rw [hsz]
   change ((Sem.run P (match (w.drew.alloc (.cells (zC0 s cap) e)).shape? w.heap.size with
     | some (_, n) => freeze { block := w.heap.size, off := n } 1
     | _ => pure ()) (w.drew.alloc (.cells (zC0 s cap) e))).andThen fun _ w' => Result.ok (Value.slice (some { block := w.heap.size, off := 0 }) s.size cap) w') = _
   rw [e1]
   show Result.ok _ ((w.drew.alloc (.cells (zC0 s cap) e)).freeze { block := w.heap.size, off := cap } 1) = _
   congr 1
   show ({ w.drew with heap := (w.heap.push (.cells (zC0 s cap) e)).modify w.heap.size _ } : World) = _
   rw [modify_push]
   rfl
  ·rw [hlen]
   exact .sl (Rho.ext_self _ _ _) rfl (.rest (by show 0 + cap * 1 = cap; omega) hle)
end
end Go.Ev
namespace Go.Ev
open Go
variable [Glob]
section
variable {P : Program} {ρ : Rho} {h : AH} {w : World} {loc : T AV} {tmp : List AV} {cx : Operand → Option Opd} {a : Operand → Value}
def OpdsR (ρ : Rho) (loc : T AV) (tmp : List AV) (cx : Operand → Option Opd) (a : Operand → Value) : Prop := ∀ x y, cx x = some y → VR ρ (ev loc tmp y) (a x)
theorem bindS {α β : Type} {o : Option α} {f : α → Option β} {b : β} (h : (o >>= f) = some b) : ∃ x, o = some x ∧ f x = some b := by
 cases o with
 | none => cases h
 | some x => exact ⟨x, rfl, h⟩
theorem mapS {α β : Type} {o : Option α} {f : α → β} {b : β} (h : o.map f = some b) : ∃ x, o = some x ∧ f x = b := by
 cases o with
 | none => cases h
 | some x => injection h with h; exact ⟨x, rfl, h⟩
theorem zJv (hx : OpdsR ρ loc tmp cx a) : ∀ {l : List Operand} {r : List Opd}, l.mapM cx = some r → VRs ρ (evs loc tmp r) (l.map a)
 | [], r, h => by simp at h; subst h; exact .nil
 | x :: l, r, h => by
  rw [List.mapM_cons] at h
  obtain ⟨y, hy, h⟩ := bindS h
  obtain ⟨ys, hys, h⟩ := bindS h
  injection h with h; subst h
  exact .cons (hx _ _ hy) (zJv hx hys)
theorem zGa {f : Nat × Operand → Option Part} {place : Nat → Option (Nat × Nat)} (hx : OpdsR ρ loc tmp cx a) (hf : ∀ i x p, f (i, x) = some p → place i = some (p.off, p.size) ∧ cx x = some p.x) :
  ∀ {l : List (Nat × Operand)} {r : List Part}, l.mapM f = some r → PRs ρ loc tmp place r (l.map fun (i, x) => (i, a x))
 | [], r, h => by simp at h; subst h; exact .nil
 | (i, x) :: l, r, h => by
  rw [List.mapM_cons] at h
  obtain ⟨y, hy, h⟩ := bindS h
  obtain ⟨ys, hys, h⟩ := bindS h
  injection h with h; subst h
  obtain ⟨h1, h2⟩ := hf i x y hy
  exact .cons h1 (hx _ _ h2) (zGa hx hf hys)
theorem places_run {fs : List Field} (h : ∀ f ∈ fs, (zA2 P f.type).isSome = true) (w : World) :
  (fs.mapM fun f => do pure (f.offset, ← sizeOf f.type) : Sem (List (Nat × Nat))).run P w = .ok (fs.map fun f => (f.offset, (zA2 P f.type).getD 0)) w := by
 induction fs with
 | nil => simp
 | cons f fs ih =>
  have h1 := h f (by simp)
  obtain ⟨n, hn⟩ := Option.isSome_iff_exists.1 h1
  rw [List.mapM_cons]
  simp only [Sem.run_bind, zAw hn, Result.andThen_ok, Sem.run_pure, ih (fun g hg => h g (by simp [hg]))]
  simp [hn]
theorem zJf {o : Option Operand} {r : Option Opd} (hx : OpdsR ρ loc tmp cx a) (h : (match o with | none => some none | some y => (cx y).map some) = some r) : OptR ρ loc tmp r (o.map a) := by
 cases o with
 | none => injection h with h; subst h; trivial
 | some y =>
  obtain ⟨z, hz, e⟩ := mapS h
  subst e
  exact hx _ _ hz
theorem zL0 {l : Array Operand} {x : Operand} (h : l.toList = [x]) : l = #[x] := by apply Array.ext'; simpa using h
theorem zH1 {l : Array Operand} {x y : Operand} (h : l.toList = [x, y]) : l = #[x, y] := by apply Array.ext'; simpa using h
theorem good_eq {kill : Bool} {op : BinOp} {t u : TypeId} {x y : Operand} {c : Bool} {ao : AOp} {neg : Bool} (W : WR ρ h w) (hx : OpdsR ρ loc tmp cx a) (ha : ∀ v, a (.const v) = v) (hop : op = if neg then .neq else .eql)
  {et : EqT} (het : eqT P t x y = some et) {x' y' : Opd} (h1 : cx x = some x') (h2 : cx y = some y') :
  Good P ρ h w (vv (do eqGuard op t x y (a x) (a y); binOp op t (a x) (a y))) (oEq neg et x' y' loc tmp h) := by
 have r1 := hx _ _ h1
 have r2 := hx _ _ h2
 unfold eqT at het
 split at het
 ·rename_i hu; injection het with het; subst het; exact s_eqBool W hop hu r1 r2
 ·injection het with het; subst het; exact s_eqNum W hop r1 r2
 ·injection het with het; subst het; exact s_eqNum W hop r1 r2
 ·rename_i e hu
  split at het
  ·rename_i n hn; injection het with het; subst het; exact s_eqPtr W hop hu hn r1 r2
  ·cases het
 ·rename_i hu; injection het with het; subst het; exact s_eqSl W hop hu r1 r2
 ·rename_i hu; injection het with het; subst het; exact s_eqMap W hop hu r1 r2
 ·rename_i hu; injection het with het; subst het; exact s_eqFn W hop hu r1 r2
 ·rename_i hu
  split at het
  ·rename_i hn
   injection het with het; subst het
   refine s_eqIfc W hop hu ?_ r1 r2
   rcases Bool.or_eq_true _ _ ▸ hn with hn | hn
   ·left; cases x <;> first | rfl | cases hn
   ·right; cases y <;> first | rfl | cases hn
  ·cases het
 ·rename_i hu
  split at het
  ·cases het
  ·rename_i hm
   obtain ⟨ks, hks, e⟩ := mapS het
   subst e
   exact s_eqAgg W hop (by simp [tyAgg, hu]) (by simpa using hm) hks r1 r2
 ·rename_i hu
  split at het
  ·cases het
  ·rename_i hm
   obtain ⟨ks, hks, e⟩ := mapS het
   subst e
   exact s_eqAgg W hop (by simp [tyAgg, hu]) (by simpa using hm) hks r1 r2
 ·cases het
theorem zKk {f : Nat} {s : Sem Next} {args : List AV} {args' : List Value} (hs : ∀ w, zBn P f = true → s.run P w = .ok (.enter f args'.toArray) w) (hr : VRs ρ args args') : Good P ρ h w s (.enter f args) :=
 fun hc => ⟨args', hs w hc, hr⟩
theorem zF8 {f : Nat} {args : Array Value} (hc : zBn P f = true) (w : World) : (callFunc f args).run P w = .ok (.enter f args) w := by
 unfold zBn at hc
 split at hc
 ·rename_i fn hf
  rw [Bool.and_eq_true] at hc
  have h1 : fn.name ≠ "runtime.NumGoroutine" := by
   intro e
   rw [e] at hc
   exact absurd hc.1 (by decide)
  have h2 : fn.body ≠ none := by
   intro e
   rw [e] at hc
   exact absurd hc.2 (by decide)
  simp [callFunc, hf, h1, h2]
 ·cases hc
theorem good_callV {x : Operand} {args : Array Operand} {ats : Array TypeId} {ty : TypeId} {f : Opd} {l : List Opd} (W : WR ρ h w) (hf : VR ρ (ev loc tmp f) (a x)) (hl : VRs ρ (evs loc tmp l) (args.toList.map a)) :
  Good P ρ h w (do let d ← resolve a { callee := .value x, args, argTypes := ats } ty; invoke d.target d.args) (oCallV f l loc tmp h) := by
 refine lift_fn Good.hF fun g first caps e => ?_
 rw [e] at hf
 rw [zDn, zDn]
 generalize hax : a x = u at hf
 cases hf with
 | fn h1 h2 e1 e2 =>
  rename_i a' c' xx yy
  refine zKk (args' := a' ++ (args.toList.map a ++ c')) (fun w hc => ?_) (h1.append (hl.append h2))
  subst e1; subst e2
  simp only [resolve, Deferred.ofValue, hax, Sem.run_bind, Sem.run_pure, Result.andThen_ok, invoke, zF8 hc]
  congr 2
  apply Array.ext'
  simp
theorem good_callF {f : Nat} {args : Array Operand} {ats : Array TypeId} {ty : TypeId} {l : List Opd} (hfn : a (.func f) = .func (.func f) #[] #[]) (hl : VRs ρ (evs loc tmp l) (args.toList.map a)) :
  Good P ρ h w (do let d ← resolve a { callee := .value (.func f), args, argTypes := ats } ty; invoke d.target d.args) (oCallF f l loc tmp h) := by
 refine zKk (fun w hc => ?_) hl
 simp only [resolve, Deferred.ofValue, hfn, Sem.run_bind, Sem.run_pure, Result.andThen_ok, invoke, zF8 hc]
 congr 2
 apply Array.ext'
 simp
theorem good_dfr {x : Operand} {ats : Array TypeId} {args : Array Operand} {ty : TypeId} {f : Opd} (h0 : args.isEmpty = true) (hf : VR ρ (ev loc tmp f) (a x)) :
  Good P ρ h w (do pure (.defer (← resolve a { callee := .value x, args, argTypes := ats } ty))) (oDfr f loc tmp h) := by
 refine lift_fn Good.hF fun g first caps e => ?_
 rw [e] at hf
 have h0 : args = #[] := by simpa using h0
 subst h0
 generalize hax : a x = u at hf
 cases hf with
 | fn h1 h2 e1 e2 =>
  subst e1; subst e2
  refine ⟨{ target := .fn (.func g) _, args := _ }, by simp [resolve, Deferred.ofValue, hax]; exact ⟨rfl, rfl⟩, g, _, _, _, _, rfl, ?_, h1, h2⟩
  simp
end
end Go.Ev
namespace Go.Ev
open Go
variable [Glob]
variable {P : Program} {ρ : Rho} {h : AH} {w : World} {loc : T AV} {tmp : List AV}
structure AppZ (P : Program) (ats : Array TypeId) (e : TypeId) (es b : Nat) (zv : Value) : Prop where
 ex : ∃ sT xT k, ats[0]? = some sT ∧ ats[1]? = some xT ∧ P.underlying sT = some (.slice e) ∧ P.underlying xT = some (.int k)
 size : zA2 P e = some es
 bytes : zD0 P e = some b
 zero : zB5 P e = some zv
 zsize : zv.cells.size = es
theorem appendZ_run {ats : Array TypeId} {e ty : TypeId} {es b m : Nat} {zv : Value} {base : Option Addr} (A : AppZ P ats e es b zv) (hm : m ≠ 0) (hes : 1 ≤ es) (hroom : room m b = true) (hb0 : ∀ w1 : World, (Builtin.firstCells es 0 (.slice base 0 0)).run P w1 = .ok #[] w1) :
  ∃ newCap, m ≤ newCap ∧ (Builtin.append_ ats ty #[.slice base 0 0, .int .i64 (m : Int)]).run P w = .ok (.slice (some ⟨w.heap.size, 0, none⟩) m newCap)
   { w with drawn := w.drawn + 1, heap := w.heap.push (.cells (Builtin.zeroCells zv.cells m ++ Builtin.zeroCells zv.cells (newCap - m)) e) } := by
 obtain ⟨sT, xT, k, h0, h1, hu, hx⟩ := A.ex
 obtain ⟨r1, r2⟩ := room_spec hroom (cap := 0) (by omega)
 obtain ⟨i, hi, hib⟩ : ∃ i, P.info? e = some i ∧ i.bytes = b := by
  have hb := A.bytes
  unfold zD0 at hb
  cases hi : P.info? e with
  | none => rw [hi] at hb; cases hb
  | some i => rw [hi] at hb; injection hb with hb; exact ⟨i, rfl, hb⟩
 have hti : ∀ w1 : World, (typeInfo e).run P w1 = .ok i w1 := fun w1 => by simp [typeInfo, hi]
 have hforced : (Question.appendCap m 0 e).forced = false := rfl
 refine ⟨(Question.appendCap m 0 e).cut (w.tape w.drawn (Question.appendCap m 0 e)), by simp [Question.cut], ?_⟩
 generalize hcap : (Question.appendCap m 0 e).cut (w.tape w.drawn (Question.appendCap m 0 e)) = newCap
 have hbb := hroom
 unfold room at hbb
 rw [bi_eq] at hbb
 have hmb : (2 * m + 512) * i.bytes ≤ 1099511627776 := by
  split at hbb
  ·rw [hib]; exact Nat.le_of_ble_eq_true hbb
  ·cases hbb
 have hmb2 : m * i.bytes ≤ 1099511627776 := Nat.le_trans (Nat.mul_le_mul_right _ (by omega)) hmb
 have r1' : ¬ (281474976710656 < Builtin.nextslicecap m 0 * i.bytes) := by rw [hib]; simpa using r1
 have hmax3 : IntKind.i64.max = 9223372036854775807 := by decide
 have w1 : IntKind.i64.wrap (m : Int) = m := zDx (by omega)
 have e48 : (2 : Int) ^ 48 = 281474976710656 := by decide
 have hbig : ¬ (281474976710656 < (m : Int) * (i.bytes : Int)) := by
  rw [← Int.natCast_mul]; omega
 have hn1 : ¬ ((m : Int) < 0) := by omega
 have hm2 : ¬ (9223372036854775807 < (m : Int)) := by omega
 have hes0 : es ≠ 0 := by omega
 have hme : m * es ≠ 0 := by
  have := Nat.mul_le_mul (Nat.pos_of_ne_zero hm) hes
  omega
 simp [Builtin.append_, h0, h1, run_underlying hu, run_underlying hx, zAw A.size, asInt, zCp, w1, hn1, hti, hbig, hm, hes0, hmax3, hm2, r1', hforced, hcap, hb0, hme, zBf A.zero, zBl]
 exact congrArg (fun c => ({ w with drawn := w.drawn + 1, heap := w.heap.push (.cells c e) } : World)) (by apply Array.ext'; simp)
theorem s_appendZ {ats : Array TypeId} {s x : Opd} {e ty : TypeId} {es b : Nat} {z : List AV} {zv vs vx : Value} (W : WR ρ h w) (A : AppZ P ats e es b zv) (hzc : zB4 zv = some z) (hs : VR ρ (ev loc tmp s) vs) (hx : VR ρ (ev loc tmp x) vx) :
  Good P ρ h w (vv (Builtin.append_ ats ty #[vs, vx])) (oAppendZ z b s x loc tmp h) := by
 have hz0 := zBv (ρ := ρ) hzc
 have hzl : z.length = es := by have := hz0.length; have := A.zsize; simp at *; omega
 refine zB1 Good.hF fun k q e1 => zAp Good.hF fun hk => zCz Good.hF fun m hm => ?_
 rw [e1] at hx
 cases hx
 subst hm
 have hk : k = .i64 := by cases k <;> first | rfl | cases hk
 subst hk
 have key : ∀ base : Option Addr, (∀ w1 : World, (Builtin.firstCells es 0 (.slice base 0 0)).run P w1 = .ok #[] w1) → Good P ρ h w (vv (Builtin.append_ ats ty #[.slice base 0 0, .int .i64 (m : Int)])) (freshZ z b m h) := by
  intro base hb0
  unfold freshZ
  refine zDs Good.hF fun h0 => zAp Good.hF fun h1 => zAp Good.hF fun hroom => ?_
  have hm0 : m ≠ 0 := fun e => by rw [e] at h0; cases h0
  have h1 : 1 ≤ es := by have := Nat.le_of_ble_eq_true h1; rw [zBt, hzl] at this; exact this
  obtain ⟨newCap, hc1, hrun⟩ := appendZ_run (ty := ty) A hm0 h1 hroom hb0
  have hrep : VCs ρ (lrep z m) (Builtin.zeroCells zv.cells m).toList := by
   rw [zHa]
   exact zEk (n := m) hz0
  have hll : (lrep z m).length = m * es := by rw [zHa, zEe, hzl]
  have hsz : (Builtin.zeroCells zv.cells m ++ Builtin.zeroCells zv.cells (newCap - m)).size = newCap * es := by
   simp [Builtin.zeroCells, A.zsize]
   have : (newCap - m) * es = newCap * es - m * es := Nat.sub_mul _ _ _
   have h2 : m * es ≤ newCap * es := Nat.mul_le_mul_right es hc1
   omega
  have hobj : ObjR ρ (.cells (zAc (lrep z m)) (m * es) none false) (.cells (Builtin.zeroCells zv.cells m ++ Builtin.zeroCells zv.cells (newCap - m)) e) 0 (newCap * es) := by
   refine .cells (by rw [hsz]; omega) (Nat.mul_le_mul_right es hc1) (fun i a ha => ?_) (fun _ => rfl) (fun _ h => by cases h)
   rw [zAk] at ha
   obtain ⟨v, hv, hr, hcl⟩ := hrep.get ha
   have hi : i < m * es := by
    rw [← hll]
    rcases Nat.lt_or_ge i (lrep z m).length with h | h
    ·exact h
    ·rw [List.getElem?_eq_none h] at ha; cases ha
   refine ⟨hi, hcl, v, ?_, hr⟩
   rw [Nat.zero_add, Array.getElem?_append_left (by simp [Builtin.zeroCells, A.zsize]; exact hi)]
   simpa using hv
  have e2 : Nat.mul m (llen z) = m * es := by rw [zBt, hzl]; rfl
  rw [e2, zBt, hzl, AH.new_eq]
  obtain ⟨W', S'⟩ := W.alloc hobj (w' := { w with drawn := w.drawn + 1, heap := w.heap.push (.cells (Builtin.zeroCells zv.cells m ++ Builtin.zeroCells zv.cells (newCap - m)) e) }) rfl ⟨rfl, rfl, rfl⟩
  exact ⟨_, _, _, .inl (zAn hrun), .sl (Rho.ext_self _ _ _) rfl (.rest (by show 0 + newCap * es = newCap * es; omega) hc1), W', S'⟩
 refine zGf Good.hF (fun ex => ?_) fun id off len cap ex => ?_
 ·rw [ex] at hs
  cases hs
  exact key none fun w1 => by simp [Builtin.firstCells]
 ·rw [ex] at hs
  refine zAp Good.hF fun h0 => ?_
  have h0 : len = 0 := Nat.eq_of_beq_eq_true h0
  subst h0
  cases cap with
  | rest es' => exact Good.hF _
  | known cp =>
   refine zAp Good.hF fun hc => ?_
   have hc : cp = 0 := Nat.eq_of_beq_eq_true hc
   subst hc
   obtain ⟨a, rfl⟩ : ∃ a, vs = .slice (some a) 0 0 := by
    cases hs with
    | sl _ _ hc => cases hc; exact ⟨_, rfl⟩
    | slz => exact ⟨_, rfl⟩
   exact key (some a) fun w1 => by simp [Builtin.firstCells, loadCells, loadCellsFrom]
end Go.Ev
