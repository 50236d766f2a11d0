/- EvA EvB EvP EvR EvS EvO -/
import Derived.Below
import Derived.Laws.IdiomCopy
import Derived.Laws.Entries
set_option linter.unusedSimpArgs false
set_option linter.unusedVariables false
set_option linter.unusedSectionVars false
set_option linter.defProp false
set_option maxRecDepth 100000
set_option maxHeartbeats 4000000
namespace Go.Ev
theorem q0a:type_of% @List.getElem?_eq_getElem:= @List.getElem?_eq_getElem
theorem q0b:type_of% @And.intro:= @And.intro
theorem q0c:type_of% @Nat.le_refl:= @Nat.le_refl
theorem q0d:type_of% @Nat.lt_of_lt_of_le:= @Nat.lt_of_lt_of_le
theorem q0e:type_of% @List.getD_eq_getElem?_getD:= @List.getD_eq_getElem?_getD
theorem q0f:type_of% @Nat.eq_of_beq_eq_true:= @Nat.eq_of_beq_eq_true
theorem q0g:type_of% @Nat.le_of_ble_eq_true:= @Nat.le_of_ble_eq_true
theorem q0h:type_of% @Nat.lt_succ_self:= @Nat.lt_succ_self
theorem q0i:type_of% @List.getElem?_eq_none:= @List.getElem?_eq_none
theorem q0j:type_of% @List.length_map:= @List.length_map
theorem q0k:type_of% @Nat.zero_le:= @Nat.zero_le
theorem q0l:type_of% @List.getElem_mem:= @List.getElem_mem
theorem q0m:type_of% @Nat.le_trans:= @Nat.le_trans
theorem q0n:type_of% @Int.toNat_natCast:= @Int.toNat_natCast
theorem q0o:type_of% @List.length_append:= @List.length_append
theorem q0p:type_of% @Int.natCast_inj:= @Int.natCast_inj
theorem q0q:type_of% @List.length_replicate:= @List.length_replicate
theorem q0r:type_of% @List.eq_nil_of_length_eq_zero:= @List.eq_nil_of_length_eq_zero
theorem q0s:type_of% @List.mem_cons_of_mem:= @List.mem_cons_of_mem
theorem q0t:type_of% @List.getElem?_map:= @List.getElem?_map
theorem q0u:type_of% @Nat.mul_le_mul_right:= @Nat.mul_le_mul_right
theorem q0v:type_of% @List.length_take:= @List.length_take
theorem q0w:type_of% @Nat.le_succ:= @Nat.le_succ
theorem q0x:type_of% @Nat.lt_or_ge:= @Nat.lt_or_ge
theorem q0y:type_of% @List.getElem_of_mem:= @List.getElem_of_mem
theorem q0z:type_of% @List.getElem?_replicate:= @List.getElem?_replicate
theorem q0A:type_of% @Bool.not_false:= @Bool.not_false
theorem q0B:type_of% @Bool.not_true:= @Bool.not_true
theorem q0C:type_of% @Bool.and_eq_true:= @Bool.and_eq_true
theorem q0D:type_of% @Bool.false_and:= @Bool.false_and
theorem q0E:type_of% @Bool.true_and:= @Bool.true_and
theorem q0F:type_of% @Option.getD_some:= @Option.getD_some
theorem q0G:type_of% @Bool.false_eq_true:= @Bool.false_eq_true
theorem q0H:type_of% @List.mem_cons_self:= @List.mem_cons_self
theorem q0I:type_of% @Nat.zero_add:= @Nat.zero_add
theorem q0J:type_of% @Option.isSome_some:= @Option.isSome_some
theorem q0K:type_of% @Nat.beq_refl:= @Nat.beq_refl
theorem q0L:type_of% @List.mem_of_getElem?:= @List.mem_of_getElem?
theorem q0M:type_of% @Option.isSome_none:= @Option.isSome_none
theorem q0N:type_of% @Bool.and_false:= @Bool.and_false
theorem q0O:type_of% @List.map_append:= @List.map_append
theorem q0P:type_of% @List.length_cons:= @List.length_cons
theorem q0Q:type_of% @List.length_drop:= @List.length_drop
theorem q0R:type_of% @List.prefix_refl:= @List.prefix_refl
inductive T(α:Type) where
 | leaf
 | node (v:Option α) (l r:T α)
 | log (n k:Nat) (v:Option α) (t:T α)
noncomputable def T.get{α:Type}(t:T α):Nat->Option α:=
 T.rec (motive:=λ_=>Nat->Option α) (λ_=>Option.none)
  (λv _ _ gl gr k=>Bool.rec (motive:=λ_=>Option α) (Bool.rec (motive:=λ_=>Option α) (gr (Nat.div (Nat.sub k (nat_lit 1)) (nat_lit 2))) (gl (Nat.div (Nat.sub k (nat_lit 1)) (nat_lit 2))) (Nat.beq (Nat.mod (Nat.sub k (nat_lit 1)) (nat_lit 2)) (nat_lit 0))) v (Nat.beq k (nat_lit 0)))
  (λ_ k' v _ g k=>Bool.rec (motive:=λ_=>Option α) (g k) v (Nat.beq k' k)) t
noncomputable def T.mk1{α:Type}(o:Option α)(f:Nat):Nat->T α:=
 Nat.rec (motive:=λ_=>Nat->T α) (λ_=>.node o .leaf .leaf)
  (λ_ ih k=>Nat.rec (motive:=λ_=>T α) (.node o .leaf .leaf)
   (λk' _=>Nat.rec (motive:=λ_=>T α) (.node Option.none (ih (Nat.div k' (nat_lit 2))) .leaf) (λ_ _=>.node Option.none .leaf (ih (Nat.div k' (nat_lit 2)))) (Nat.mod k' (nat_lit 2))) k) f
noncomputable def T.tput{α:Type}(o:Option α)(t:T α):Nat->T α:=
 T.rec (motive:=λ_=>Nat->T α) (λk=>T.mk1 o k k)
  (λv l r pl pr k=>Bool.rec (motive:=λ_=>T α) (Bool.rec (motive:=λ_=>T α) (.node v l (pr (Nat.div (Nat.sub k (nat_lit 1)) (nat_lit 2)))) (.node v (pl (Nat.div (Nat.sub k (nat_lit 1)) (nat_lit 2))) r) (Nat.beq (Nat.mod (Nat.sub k (nat_lit 1)) (nat_lit 2)) (nat_lit 0))) (.node o l r) (Nat.beq k (nat_lit 0)))
  (λn k' v t _ k=>.log n k o (.log n k' v t)) t
noncomputable def T.inLog{α:Type}(t:T α):Nat->Bool:=
 T.rec (motive:=λ_=>Nat->Bool) (λ_=>false) (λ_ _ _ _ _ _=>false) (λ_ k' _ _ g k=>Bool.rec (motive:=λ_=>Bool) (g k) true (Nat.beq k' k)) t
noncomputable def T.updLog{α:Type}(o:Option α)(t:T α):Nat->T α:=
 T.rec (motive:=λ_=>Nat->T α) (λ_=>.leaf) (λv l r _ _ _=>.node v l r) (λn k' v t g k=>Bool.rec (motive:=λ_=>T α) (.log n k' v (g k)) (.log n k' o t) (Nat.beq k' k)) t
noncomputable def T.flush{α:Type}(t:T α):T α:=
 T.rec (motive:=λ_=>T α) .leaf (λv l r _ _=>.node v l r) (λ_ k v _ g=>T.tput v g k) t
noncomputable def T.push{α:Type}(o:Option α)(t:T α)(k:Nat):T α:=
 T.rec (motive:=λ_=>T α) (.log (nat_lit 1) k o .leaf) (λv l r _ _=>.log (nat_lit 1) k o (.node v l r))
  (λn k' v t _=>Bool.rec (motive:=λ_=>T α) (.log (nat_lit 1) k o (T.flush (.log n k' v t))) (.log (Nat.succ n) k o (.log n k' v t)) (Nat.ble n (nat_lit 7))) t
noncomputable def T.put{α:Type}(o:Option α)(t:T α)(k:Nat):T α:=Bool.rec (motive:=λ_=>T α) (T.push o t k) (T.updLog o t k) (T.inLog t k)
inductive ACap where
 | known (c:Nat)
 | rest (es:Nat)
 deriving DecidableEq
inductive AV where
 | bad
 | bool (b:Bool)
 | int (k:IntKind) (n:Int)
 | str (len:Nat) (b:Nat)
 | ptr (id off:Nat)
 | nilp
 | sl (id off len:Nat) (cap:ACap)
 | nils
 | mp (id:Nat)
 | nilm
 | fn (f:Nat) (first caps:List AV)
 | nilf
 | ifc (t:Nat) (v:AV)
 | nili
 | agg (l:List AV)
 | tup (l:List AV)
 deriving Inhabited
inductive AObj where
 | cells (c:T AV) (size:Nat) (opn:Option Nat) (ro:Bool)
 | map (es:List (AV×AV×Nat)) (clock:Nat)
 | iter (m:Option Nat) (since:Nat) (seen:List Nat) (stepped:Nat)
structure AH where
 mem:T AObj
 next:Nat
inductive Opd where
 | t (i:Nat)
 | l (k:Nat)
 | c (v:AV)
 deriving Inhabited
inductive SK where
 | bool | int | str
inductive EqT where
 | num | bool | ptr | sl | map | fn | ifc
 | agg (ks:List SK)
inductive KT where
 | one (k:SK)
 | agg (ks:List SK)
inductive LenT where
 | str | sl | map
structure Part where
 off:Nat
 size:Nat
 x:Opd
inductive ABin where
 | add | sub | mul | quo | rem | and | or | xor | shl | shr | andNot
 | lss | leq | gtr | geq
 deriving DecidableEq
inductive AOp where
 | move (x:Opd)
 | pick (c a b:Opd)
 | alloc (z:List AV)
 | box (x:Opd)
 | build (zero:List AV) (parts:List Part)
 | bslice (zero:List AV) (len:Nat) (parts:List Part)
 | load (x:Opd)
 | loadN (n:Nat) (x:Opd)
 | store (n:Nat) (a x:Opd)
 | nilCheck (x:Opd)
 | bin (op:ABin) (x y:Opd)
 | eq (neg:Bool) (t:EqT) (x y:Opd)
 | neg (x:Opd)
 | not (x:Opd)
 | xorU (x:Opd)
 | convI (k:IntKind) (x:Opd)
 | convS (x:Opd)
 | mkIfc (t:Nat) (x:Opd)
 | mkFn (f:Nat) (first caps:List Opd)
 | mkMap
 | mkSlice (zero:List AV) (bytes:Nat) (l c:Opd)
 | sliceS (x:Opd) (lo hi:Option Opd)
 | sliceV (kill:Bool) (es:Nat) (x:Opd) (lo hi mx:Option Opd)
 | fieldAddr (off:Nat) (x:Opd)
 | field (off n:Nat) (agg:Bool) (x:Opd)
 | idxAddr (es:Nat) (x i:Opd)
 | idxAddrA (len es:Nat) (x i:Opd)
 | idxS (x i:Opd)
 | idxA (len es:Nat) (agg:Bool) (x i:Opd)
 | extract (i:Nat) (x:Opd)
 | len (t:LenT) (x:Opd)
 | cap (x:Opd)
 | append (es bytes:Nat) (s x:Opd)
 | copy (es:Nat) (d s:Opd)
 | clear (zero:List AV) (x:Opd)
 | delete (kt:KT) (m k:Opd)
 | max (x y:Opd)
 | min (x y:Opd)
 | lookup (kt:KT) (zero:AV) (ok:Bool) (m k:Opd)
 | mapUpd (kt:KT) (m k x:Opd)
 | assert (t:Nat) (ok:Bool) (zero:AV) (x:Opd)
 | callF (f:Nat) (args:List Opd)
 | callV (f:Opd) (args:List Opd)
 | panic (x:Opd)
 | dfr (x:Opd)
 | range (x:Opd)
 | next (it:Opd)
 | entry (it:Opd)
 | mapEntry (kt:KT) (zero:AV) (m k:Opd)
 | entryStore (m s x:Opd)
 | bytesOf (x:Opd)
 | appendZ (z:List AV) (bytes:Nat) (s n:Opd)
 | allocT (t:Nat) (z:List AV)
 | appendB (t bytes:Nat) (s x:Opd)
 | toUns (x:Opd)
 | fromUns (u:Nat) (x:Opd)
 | sliceData (x:Opd)
 | unsafeStr (t:Nat) (p n:Opd)
 | nat (g:List AV->AH->Option (AV×AH)) (args:List Opd)
structure ARe where
 op:AOp
 pos:Nat
 guard:Option (Opd×Bool)
structure AOper where
 op:AOp
 guard:Option (Opd×Bool)
 out:Option Nat
 re:List ARe
inductive ACode where
 | skip
 | ops (l:List AOper)
 | recov (out:Option Nat)
 | seq (a b:ACode)
 | cond (c:Opd) (a b:ACode)
 | block (id:Nat) (a:ACode)
 | loop (a:ACode)
 | exit (id:Nat)
 | ret
inductive ARes where
 | val (x:Opd)
 | cell (x:Opd)
 | cellN (n:Nat) (x:Opd)
structure AFunc where
 nargs:Nat
 body:ACode
 res:List ARes
noncomputable section
def fN{β:Type}(n:Nat)(k:Nat->β):β:=k n
def fI{β:Type}(n:Int)(k:Int->β):β:=k n
def bi{β:Type}(b:Bool)(x y:β):β:=Bool.rec (motive:=λ_=>β) y x b
def obind{α β:Type}(o:Option α)(d:β)(k:α->β):β:=Option.rec (motive:=λ_=>β) d k o
inductive OR where
 | val (v:AV) (h:AH)
 | enter (f:Nat) (args:List AV)
 | pan (v:AV)
 | dfr (v:AV)
 | fail (n:Nat)
section
variable{β:Type}
def AV.on(d:β)(cb:Bool->β)(ci:IntKind->Int->β)(cs:Nat->Nat->β)(cp:Nat->Nat->β)(cnp:β)(csl:Nat->Nat->Nat->ACap->β)(cns:β)
 (cm:Nat->β) (cnm:β) (cf:Nat->List AV->List AV->β) (cnf:β) (cfc:Nat->AV->β) (cnfc:β) (ca:List AV->β) (ct:List AV->β) (v:AV):β:=
 AV.rec (motive_1:=λ_=>β) (motive_2:=λ_=>Unit) d cb ci cs cp cnp csl cns cm cnm (λf l l' _ _=>cf f l l') cnf (λt v _=>cfc t v) cnfc (λl _=>ca l) (λl _=>ct l) () (λ_ _ _ _=>()) v
end
def AV.cB{β:Type}(d:β)(k:Bool->β)(v:AV):β:=AV.rec (motive_1:=λ_=>β) (motive_2:=λ_=>Unit) d k (λ_ _=>d) (λ_ _=>d) (λ_ _=>d) d (λ_ _ _ _=>d) d (λ_=>d) d (λ_ _ _ _ _=>d) d (λ_ _ _=>d) d (λ_ _=>d) (λ_ _=>d) () (λ_ _ _ _=>()) v
def AV.cI{β:Type}(d:β)(k:IntKind->Int->β)(v:AV):β:=AV.rec (motive_1:=λ_=>β) (motive_2:=λ_=>Unit) d (λ_=>d) k (λ_ _=>d) (λ_ _=>d) d (λ_ _ _ _=>d) d (λ_=>d) d (λ_ _ _ _ _=>d) d (λ_ _ _=>d) d (λ_ _=>d) (λ_ _=>d) () (λ_ _ _ _=>()) v
def AV.cS{β:Type}(d:β)(k:Nat->Nat->β)(v:AV):β:=AV.rec (motive_1:=λ_=>β) (motive_2:=λ_=>Unit) d (λ_=>d) (λ_ _=>d) k (λ_ _=>d) d (λ_ _ _ _=>d) d (λ_=>d) d (λ_ _ _ _ _=>d) d (λ_ _ _=>d) d (λ_ _=>d) (λ_ _=>d) () (λ_ _ _ _=>()) v
def AV.cP{β:Type}(d:β)(k:Nat->Nat->β)(v:AV):β:=AV.rec (motive_1:=λ_=>β) (motive_2:=λ_=>Unit) d (λ_=>d) (λ_ _=>d) (λ_ _=>d) k d (λ_ _ _ _=>d) d (λ_=>d) d (λ_ _ _ _ _=>d) d (λ_ _ _=>d) d (λ_ _=>d) (λ_ _=>d) () (λ_ _ _ _=>()) v
def AV.cNp{β:Type}(d:β)(k:β)(v:AV):β:=AV.rec (motive_1:=λ_=>β) (motive_2:=λ_=>Unit) d (λ_=>d) (λ_ _=>d) (λ_ _=>d) (λ_ _=>d) k (λ_ _ _ _=>d) d (λ_=>d) d (λ_ _ _ _ _=>d) d (λ_ _ _=>d) d (λ_ _=>d) (λ_ _=>d) () (λ_ _ _ _=>()) v
def AV.cSl{β:Type}(d:β)(k:Nat->Nat->Nat->ACap->β)(v:AV):β:=AV.rec (motive_1:=λ_=>β) (motive_2:=λ_=>Unit) d (λ_=>d) (λ_ _=>d) (λ_ _=>d) (λ_ _=>d) d k d (λ_=>d) d (λ_ _ _ _ _=>d) d (λ_ _ _=>d) d (λ_ _=>d) (λ_ _=>d) () (λ_ _ _ _=>()) v
def AV.cNs{β:Type}(d:β)(k:β)(v:AV):β:=AV.rec (motive_1:=λ_=>β) (motive_2:=λ_=>Unit) d (λ_=>d) (λ_ _=>d) (λ_ _=>d) (λ_ _=>d) d (λ_ _ _ _=>d) k (λ_=>d) d (λ_ _ _ _ _=>d) d (λ_ _ _=>d) d (λ_ _=>d) (λ_ _=>d) () (λ_ _ _ _=>()) v
def AV.cM{β:Type}(d:β)(k:Nat->β)(v:AV):β:=AV.rec (motive_1:=λ_=>β) (motive_2:=λ_=>Unit) d (λ_=>d) (λ_ _=>d) (λ_ _=>d) (λ_ _=>d) d (λ_ _ _ _=>d) d k d (λ_ _ _ _ _=>d) d (λ_ _ _=>d) d (λ_ _=>d) (λ_ _=>d) () (λ_ _ _ _=>()) v
def AV.cNm{β:Type}(d:β)(k:β)(v:AV):β:=AV.rec (motive_1:=λ_=>β) (motive_2:=λ_=>Unit) d (λ_=>d) (λ_ _=>d) (λ_ _=>d) (λ_ _=>d) d (λ_ _ _ _=>d) d (λ_=>d) k (λ_ _ _ _ _=>d) d (λ_ _ _=>d) d (λ_ _=>d) (λ_ _=>d) () (λ_ _ _ _=>()) v
def AV.cF{β:Type}(d:β)(k:Nat->List AV->List AV->β)(v:AV):β:=AV.rec (motive_1:=λ_=>β) (motive_2:=λ_=>Unit) d (λ_=>d) (λ_ _=>d) (λ_ _=>d) (λ_ _=>d) d (λ_ _ _ _=>d) d (λ_=>d) d (λa b c _ _=>k a b c) d (λ_ _ _=>d) d (λ_ _=>d) (λ_ _=>d) () (λ_ _ _ _=>()) v
def AV.cNf{β:Type}(d:β)(k:β)(v:AV):β:=AV.rec (motive_1:=λ_=>β) (motive_2:=λ_=>Unit) d (λ_=>d) (λ_ _=>d) (λ_ _=>d) (λ_ _=>d) d (λ_ _ _ _=>d) d (λ_=>d) d (λ_ _ _ _ _=>d) k (λ_ _ _=>d) d (λ_ _=>d) (λ_ _=>d) () (λ_ _ _ _=>()) v
def AV.cFc{β:Type}(d:β)(k:Nat->AV->β)(v:AV):β:=AV.rec (motive_1:=λ_=>β) (motive_2:=λ_=>Unit) d (λ_=>d) (λ_ _=>d) (λ_ _=>d) (λ_ _=>d) d (λ_ _ _ _=>d) d (λ_=>d) d (λ_ _ _ _ _=>d) d (λa b _=>k a b) d (λ_ _=>d) (λ_ _=>d) () (λ_ _ _ _=>()) v
def AV.cNfc{β:Type}(d:β)(k:β)(v:AV):β:=AV.rec (motive_1:=λ_=>β) (motive_2:=λ_=>Unit) d (λ_=>d) (λ_ _=>d) (λ_ _=>d) (λ_ _=>d) d (λ_ _ _ _=>d) d (λ_=>d) d (λ_ _ _ _ _=>d) d (λ_ _ _=>d) k (λ_ _=>d) (λ_ _=>d) () (λ_ _ _ _=>()) v
def AV.cA{β:Type}(d:β)(k:List AV->β)(v:AV):β:=AV.rec (motive_1:=λ_=>β) (motive_2:=λ_=>Unit) d (λ_=>d) (λ_ _=>d) (λ_ _=>d) (λ_ _=>d) d (λ_ _ _ _=>d) d (λ_=>d) d (λ_ _ _ _ _=>d) d (λ_ _ _=>d) d (λa _=>k a) (λ_ _=>d) () (λ_ _ _ _=>()) v
def AV.cT{β:Type}(d:β)(k:List AV->β)(v:AV):β:=AV.rec (motive_1:=λ_=>β) (motive_2:=λ_=>Unit) d (λ_=>d) (λ_ _=>d) (λ_ _=>d) (λ_ _=>d) d (λ_ _ _ _=>d) d (λ_=>d) d (λ_ _ _ _ _=>d) d (λ_ _ _=>d) d (λ_ _=>d) (λa _=>k a) () (λ_ _ _ _=>()) v
def F(n:Nat):OR:=OR.fail n
def onBool(v:AV)(k:Bool->OR):OR:=AV.cB (F 1) k v
def onInt(v:AV)(k:IntKind->Int->OR):OR:=AV.cI (F 2) k v
def onStr(v:AV)(k:Nat->Nat->OR):OR:=AV.cS (F 3) k v
def onPtr(v:AV)(k:Nat->Nat->OR):OR:=AV.cP (F 4) k v
def onMp(v:AV)(k:Nat->OR):OR:=AV.cM (F 5) k v
def onFn(v:AV)(k:Nat->List AV->List AV->OR):OR:=AV.cF (F 6) (λa0 a1 a2=>k a0 a1 a2) v
def onAgg(v:AV)(k:List AV->OR):OR:=AV.cA (F 7) (λa0=>k a0) v
def onTup(v:AV)(k:List AV->OR):OR:=AV.cT (F 8) (λa0=>k a0) v
def onSl(v:AV)(kn:OR)(k:Nat->Nat->Nat->ACap->OR):OR:=AV.cNs (AV.cSl (F 9) k v) kn v
def zAq(o:Option AObj)(k:T AV->Nat->Option Nat->Bool->OR):OR:=
 obind o (F 10) λo=>AObj.rec (motive:=λ_=>OR) k (λ_ _=>F 10) (λ_ _ _ _=>F 10) o
def zDf(o:Option AObj)(k:List (AV×AV×Nat)->Nat->OR):OR:=
 obind o (F 11) λo=>AObj.rec (motive:=λ_=>OR) (λ_ _ _ _=>F 11) k (λ_ _ _ _=>F 11) o
def AH.get(h:AH)(id:Nat):Option AObj:=T.get h.mem id
def AH.set(h:AH)(id:Nat)(o:AObj):AH:=AH.mk (T.put (some o) h.mem id) h.next
def AH.kill(h:AH)(id:Nat):AH:=AH.mk (T.put Option.none h.mem id) h.next
def AH.new{β:Type}(h:AH)(o:AObj)(k:Nat->AH->β):β:=
 k h.next (AH.mk (T.put (some o) h.mem h.next) (Nat.succ h.next))
def rIn(a:Nat):Int->Bool:=λn=>Int.rec (motive:=λ_=>Bool) (λn=>Nat.ble n a) (λn=>Nat.ble n a) n
def rUn(a:Nat):Int->Bool:=λn=>Int.rec (motive:=λ_=>Bool) (λn=>Nat.ble n a) (λ_=>false) n
def zAo(k:IntKind)(n:Int):Bool:=
 IntKind.rec (motive:=λ_=>Int->Bool) (rIn (nat_lit 127)) (rIn (nat_lit 32767)) (rIn (nat_lit 2147483647)) (rIn (nat_lit 9223372036854775807)) (rUn (nat_lit 255)) (rUn (nat_lit 65535)) (rUn (nat_lit 4294967295)) (rUn (nat_lit 18446744073709551615)) k n
def wrapF(k:IntKind)(n:Int):Int:=bi (zAo k n) n (k.wrap n)
def bool(b:Bool)(h:AH):OR:=Bool.rec (motive:=λ_=>OR) (OR.val (AV.bool false) h) (OR.val (AV.bool true) h) b
def eqI(a b:Int):Bool:=Int.rec (motive:=λ_=>Bool) (λm=>Int.rec (motive:=λ_=>Bool) (λn=>Nat.beq m n) (λ_=>false) b) (λm=>Int.rec (motive:=λ_=>Bool) (λ_=>false) (λn=>Nat.beq m n) b) a
def ltI(a b:Int):Bool:=Int.rec (motive:=λ_=>Bool) (λm=>Int.rec (motive:=λ_=>Bool) (λn=>Nat.ble (Nat.succ m) n) (λ_=>false) b) (λm=>Int.rec (motive:=λ_=>Bool) (λ_=>true) (λn=>Nat.ble (Nat.succ n) m) b) a
def leI(a b:Int):Bool:=Int.rec (motive:=λ_=>Bool) (λm=>Int.rec (motive:=λ_=>Bool) (λn=>Nat.ble m n) (λ_=>false) b) (λm=>Int.rec (motive:=λ_=>Bool) (λ_=>true) (λn=>Nat.ble n m) b) a
def eqK(a b:IntKind):Bool:=Nat.beq (IntKind.rec (motive:=λ_=>Nat) (nat_lit 0) (nat_lit 1) (nat_lit 2) (nat_lit 3) (nat_lit 4) (nat_lit 5) (nat_lit 6) (nat_lit 7) a) (IntKind.rec (motive:=λ_=>Nat) (nat_lit 0) (nat_lit 1) (nat_lit 2) (nat_lit 3) (nat_lit 4) (nat_lit 5) (nat_lit 6) (nat_lit 7) b)
def intV(k:IntKind)(n:Int)(h:AH):OR:=fI (wrapF k n) λn=>OR.val (AV.int k n) h
def natV(n:Nat)(h:AH):OR:=fN n λn=>OR.val (AV.int .i64 (Int.ofNat n)) h
def onNat(n:Int)(k:Nat->OR):OR:=Int.rec (motive:=λ_=>OR) k (λ_=>F 12) n
def same(a:AV):AV->Bool:=
 AV.rec (motive_1:=λ_=>AV->Bool) (motive_2:=λ_=>List AV->Bool)
  (λ_=>false)
  (λp b=>AV.cB false (λq=>bi p q (bi q false true)) b)
  (λk m b=>AV.cI false (λk' n=>bi (eqK k k') (eqI m n) false) b)
  (λl s b=>AV.cS false (λl' s'=>bi (Nat.beq l l') (Nat.beq s s') false) b)
  (λi o b=>AV.cP false (λi' o'=>bi (Nat.beq i i') (Nat.beq o o') false) b)
  (λb=>AV.cNp false true b)
  (λi o l c b=>AV.cSl false (λi' o' l' c'=>bi (Nat.beq i i') (bi (Nat.beq o o') (bi (Nat.beq l l') (ACap.rec (motive:=λ_=>Bool) (λx=>ACap.rec (motive:=λ_=>Bool) (λy=>Nat.beq x y) (λ_=>false) c') (λx=>ACap.rec (motive:=λ_=>Bool) (λ_=>false) (λy=>Nat.beq x y) c') c) false) false) false) b)
  (λb=>AV.cNs false true b)
  (λi b=>AV.cM false (λj=>Nat.beq i j) b)
  (λb=>AV.cNm false true b)
  (λf _ _ il1 il b=>AV.cF false (λf' l'1 l'=>bi (Nat.beq f f') (bi (il1 l'1) (il l') false) false) b)
  (λb=>AV.cNf false true b)
  (λt _ iv b=>AV.cFc false (λt' v'=>bi (Nat.beq t t') (iv v') false) b)
  (λb=>AV.cNfc false true b)
  (λ_ il b=>AV.cA false (λl'=>il l') b)
  (λ_ il b=>AV.cT false (λl'=>il l') b)
  (λb=>List.rec (motive:=λ_=>Bool) true (λ_ _ _=>false) b)
  (λ_ _ iv il b=>List.rec (motive:=λ_=>Bool) false (λw ws _=>bi (iv w) (il ws) false) b) a
def nth(l:List AV):Nat->AV:=
 List.rec (motive:=λ_=>Nat->AV) (λ_=>AV.bad) (λv _ ih i=>Bool.rec (motive:=λ_=>AV) (ih (Nat.sub i (nat_lit 1))) v (Nat.beq i (nat_lit 0))) l
def ev(loc:T AV)(tmp:List AV)(x:Opd):AV:=
 Opd.rec (motive:=λ_=>AV) (λi=>nth tmp i) (λk=>obind (T.get loc k) AV.bad λv=>v) (λv=>v) x
def evs(loc:T AV)(tmp:List AV)(l:List Opd):List AV:=
 List.rec (motive:=λ_=>List AV) [] (λx _ ih=>ev loc tmp x::ih) l
def loadL(c:T AV)(n:Nat):Nat->Option (List AV):=
 Nat.rec (motive:=λ_=>Nat->Option (List AV)) (λ_=>some []) (λ_ ih off=>
  obind (T.get c off) Option.none λv=>obind (ih (Nat.succ off)) Option.none λl=>some (v::l)) n
def zBr(l:List AV):T AV->Nat->Option (T AV):=
 List.rec (motive:=λ_=>T AV->Nat->Option (T AV)) (λc _=>some c) (λv _ ih c off=>
  obind (T.get c off) Option.none λ_=>ih (T.put (some v) c off) (Nat.succ off)) l
def putL(l:List AV):T AV->Nat->T AV:=
 List.rec (motive:=λ_=>T AV->Nat->T AV) (λc _=>c) (λv _ ih c off=>ih (T.put (some v) c off) (Nat.succ off)) l
def zAa(l:List AV):T AV:=putL l T.leaf (nat_lit 0)
def llen(l:List AV):Nat:=List.rec (motive:=λ_=>Nat) (nat_lit 0) (λ_ _ ih=>Nat.succ ih) l
def lapp(a b:List AV):List AV:=List.rec (motive:=λ_=>List AV) b (λv _ ih=>v::ih) a
def ltake(n:Nat):List AV->List AV:=Nat.rec (motive:=λ_=>List AV->List AV) (λ_=>[]) (λ_ ih l=>List.rec (motive:=λ_=>List AV) [] (λv r _=>v::ih r) l) n
def ldrop(n:Nat):List AV->List AV:=Nat.rec (motive:=λ_=>List AV->List AV) (λl=>l) (λ_ ih l=>List.rec (motive:=λ_=>List AV) [] (λ_ r _=>ih r) l) n
def lrep(l:List AV)(n:Nat):List AV:=Nat.rec (motive:=λ_=>List AV) [] (λ_ ih=>lapp l ih) n
def cellsOf(v:AV):Option (List AV):=AV.rec (motive_1:=λ_=>_) (motive_2:=λ_=>Unit) Option.none (λ_=>some [v]) (λ_ _=>some [v]) (λ_ _=>some [v]) (λ_ _=>some [v]) (some [v]) (λ_ _ _ _=>some [v]) (some [v]) (λ_=>some [v]) (some [v]) (λ_ _ _ _ _=>some [v]) (some [v]) (λ_ _ _=>some [v]) (some [v]) (λl _=>some l) (λ_ _=>Option.none) () (λ_ _ _ _=>()) v
def fill(loc:T AV)(tmp:List AV)(ps:List Part):List AV->Option (List AV):=
 List.rec (motive:=λ_=>List AV->Option (List AV)) (λz=>some z) (λp _ ih z=>
  Part.rec (motive:=λ_=>Option (List AV)) (λoff size x=>
   obind (cellsOf (ev loc tmp x)) Option.none λvs=>bi (Nat.beq (llen vs) size)
    (bi (Nat.ble (Nat.add off size) (llen z)) (ih (lapp (ltake off z) (lapp vs (ldrop (Nat.add off size) z)))) Option.none) Option.none) p) ps
def zK3(ps:List Part):Nat->Option Nat:=List.rec (motive:=λ_=>Nat->Option Nat) (λpos=>some pos) (λp _ ih pos=>bi (Nat.beq p.off pos) (ih (Nat.add pos p.size)) Option.none) ps
def vals(loc:T AV)(tmp:List AV)(ps:List Part):Option (List AV):=
 List.rec (motive:=λ_=>Option (List AV)) (some []) (λp _ ih=>obind (cellsOf (ev loc tmp p.x)) Option.none λvs=>bi (Nat.beq (llen vs) p.size) (obind ih Option.none λl=>some (lapp vs l)) Option.none) ps
def fillQ(loc:T AV)(tmp:List AV)(ps:List Part)(z:List AV):Option (List AV):=
 obind (zK3 ps (nat_lit 0)) (fill loc tmp ps z) λe=>bi (Nat.beq e (llen z)) (obind (vals loc tmp ps) (fill loc tmp ps z) λl=>some l) (fill loc tmp ps z)
abbrev OpF:=T AV->List AV->AH->OR
def oMove(x:Opd):OpF:=λloc tmp h=>AV.rec (motive_1:=λ_=>_) (motive_2:=λ_=>Unit) (F 13) (λb=>OR.val (AV.bool b) h) (λk n=>OR.val (AV.int k n) h) (λl b=>OR.val (AV.str l b) h) (λi o=>OR.val (AV.ptr i o) h) (OR.val AV.nilp h) (λi o l c=>OR.val (AV.sl i o l c) h) (OR.val AV.nils h) (λi=>OR.val (AV.mp i) h) (OR.val AV.nilm h) (λf l1 l _ _=>OR.val (AV.fn f l1 l) h) (OR.val AV.nilf h) (λt v _=>OR.val (AV.ifc t v) h) (OR.val AV.nili h) (λl _=>OR.val (AV.agg l) h) (λl _=>OR.val (AV.tup l) h) () (λ_ _ _ _=>()) (ev loc tmp x)
def oPick(c a b:Opd):OpF:=λloc tmp h=>onBool (ev loc tmp c) λq=>bi q (oMove a loc tmp h) (oMove b loc tmp h)
def oAlloc(z:List AV):OpF:=λ_ _ h=>AH.new h (AObj.cells (zAa z) (llen z) none false) λid h=>OR.val (AV.ptr id (nat_lit 0)) h
def oBox(x:Opd):OpF:=λloc tmp h=>AV.rec (motive_1:=λ_=>_) (motive_2:=λ_=>Unit) (F 14) (λb=>AH.new h (AObj.cells (T.log (nat_lit 1) (nat_lit 0) (some (AV.bool b)) .leaf) (nat_lit 1) none false) λid h=>OR.val (AV.ptr id (nat_lit 0)) h) (λk n=>AH.new h (AObj.cells (T.log (nat_lit 1) (nat_lit 0) (some (AV.int k n)) .leaf) (nat_lit 1) none false) λid h=>OR.val (AV.ptr id (nat_lit 0)) h) (λk n=>AH.new h (AObj.cells (T.log (nat_lit 1) (nat_lit 0) (some (AV.str k n)) .leaf) (nat_lit 1) none false) λid h=>OR.val (AV.ptr id (nat_lit 0)) h) (λk n=>AH.new h (AObj.cells (T.log (nat_lit 1) (nat_lit 0) (some (AV.ptr k n)) .leaf) (nat_lit 1) none false) λid h=>OR.val (AV.ptr id (nat_lit 0)) h) (AH.new h (AObj.cells (T.log (nat_lit 1) (nat_lit 0) (some AV.nilp) .leaf) (nat_lit 1) none false) λid h=>OR.val (AV.ptr id (nat_lit 0)) h) (λi o l c=>AH.new h (AObj.cells (T.log (nat_lit 1) (nat_lit 0) (some (AV.sl i o l c)) .leaf) (nat_lit 1) none false) λid h=>OR.val (AV.ptr id (nat_lit 0)) h) (AH.new h (AObj.cells (T.log (nat_lit 1) (nat_lit 0) (some AV.nils) .leaf) (nat_lit 1) none false) λid h=>OR.val (AV.ptr id (nat_lit 0)) h) (λi=>AH.new h (AObj.cells (T.log (nat_lit 1) (nat_lit 0) (some (AV.mp i)) .leaf) (nat_lit 1) none false) λid h=>OR.val (AV.ptr id (nat_lit 0)) h) (AH.new h (AObj.cells (T.log (nat_lit 1) (nat_lit 0) (some AV.nilm) .leaf) (nat_lit 1) none false) λid h=>OR.val (AV.ptr id (nat_lit 0)) h) (λa0 a1 a2 _ _=>(λf l1 l=>AH.new h (AObj.cells (T.log (nat_lit 1) (nat_lit 0) (some (AV.fn f l1 l)) .leaf) (nat_lit 1) none false) λid h=>OR.val (AV.ptr id (nat_lit 0)) h) a0 a1 a2) (AH.new h (AObj.cells (T.log (nat_lit 1) (nat_lit 0) (some AV.nilf) .leaf) (nat_lit 1) none false) λid h=>OR.val (AV.ptr id (nat_lit 0)) h) (λa0 a1 _=>(λt v=>AH.new h (AObj.cells (T.log (nat_lit 1) (nat_lit 0) (some (AV.ifc t v)) .leaf) (nat_lit 1) none false) λid h=>OR.val (AV.ptr id (nat_lit 0)) h) a0 a1) (AH.new h (AObj.cells (T.log (nat_lit 1) (nat_lit 0) (some AV.nili) .leaf) (nat_lit 1) none false) λid h=>OR.val (AV.ptr id (nat_lit 0)) h) (λa0 _=>(λl=>AH.new h (AObj.cells (zAa l) (llen l) none false) λid h=>OR.val (AV.ptr id (nat_lit 0)) h) a0) (λ_ _=>F 14) () (λ_ _ _ _=>()) (ev loc tmp x)
def oBuild(z:List AV)(ps:List Part):OpF:=λloc tmp h=>obind (fillQ loc tmp ps z) (F 15) λl=>OR.val (AV.agg l) h
def oBslice(z:List AV)(len:Nat)(ps:List Part):OpF:=λloc tmp h=>obind (fillQ loc tmp ps z) (F 16) λl=>
 AH.new h (AObj.cells (zAa l) (llen z) none false) λid h=>OR.val (AV.sl id (nat_lit 0) len (ACap.known len)) h
def oLoad(x:Opd):OpF:=λloc tmp h=>onPtr (ev loc tmp x) λid off=>zAq (AH.get h id) λc _ _ _=>obind (T.get c off) (F 17) λv=>OR.val v h
def zAy(n:Nat)(x:Opd):OpF:=λloc tmp h=>onPtr (ev loc tmp x) λid off=>zAq (AH.get h id) λc _ _ _=>obind (loadL c n off) (F 18) λl=>OR.val (AV.agg l) h
def oStore(n:Nat)(a x:Opd):OpF:=λloc tmp h=>onPtr (ev loc tmp a) λid off=>zAq (AH.get h id) λc s o r=>bi r (F 19)
 (obind (cellsOf (ev loc tmp x)) (F 21) λvs=>bi (Nat.beq (llen vs) n) (obind (zBr vs c off) (F 20) λc'=>OR.val (AV.tup []) (AH.set h id (AObj.cells c' s o r))) (F 21))
def oNil(x:Opd):OpF:=λloc tmp h=>onPtr (ev loc tmp x) λi o=>OR.val (AV.ptr i o) h
def iAdd(k:IntKind)(x y:Int)(h:AH):OR:=intV k (Int.add x y) h
def iSub(k:IntKind)(x y:Int)(h:AH):OR:=intV k (Int.sub x y) h
def iMul(k:IntKind)(x y:Int)(h:AH):OR:=intV k (Int.mul x y) h
def iQuo(k:IntKind)(x y:Int)(h:AH):OR:=bi (eqI y (Int.ofNat (nat_lit 0))) (F 22) (intV k (Int.tdiv x y) h)
def iRem(k:IntKind)(x y:Int)(h:AH):OR:=bi (eqI y (Int.ofNat (nat_lit 0))) (F 22) (fI (Int.tmod x y) λn=>OR.val (AV.int k n) h)
def iAnd(k:IntKind)(x y:Int)(h:AH):OR:=bi (zAo k x) (bi (zAo k y) (Int.rec (motive:=λ_=>OR) (λx=>Int.rec (motive:=λ_=>OR) (λy=>fN (Nat.land x y) λn=>bi (zAo k (Int.ofNat n)) (OR.val (AV.int k (Int.ofNat n)) h) (F 23)) (λb=>OR.val (AV.int k (k.wrap (Int.ofNat (Nat.land (BitVec.ofInt k.bits (Int.ofNat x)).toNat (BitVec.ofInt k.bits (Int.negSucc b)).toNat)))) h) y) (λa=>OR.val (AV.int k (k.wrap (Int.ofNat (Nat.land (BitVec.ofInt k.bits (Int.negSucc a)).toNat (BitVec.ofInt k.bits y).toNat)))) h) x) (F 23)) (F 23)
def iOr(k:IntKind)(x y:Int)(h:AH):OR:=bi (zAo k x) (bi (zAo k y) (Int.rec (motive:=λ_=>OR) (λx=>Int.rec (motive:=λ_=>OR) (λy=>fN (Nat.lor x y) λn=>bi (zAo k (Int.ofNat n)) (OR.val (AV.int k (Int.ofNat n)) h) (F 23)) (λb=>OR.val (AV.int k (k.wrap (Int.ofNat (Nat.lor (BitVec.ofInt k.bits (Int.ofNat x)).toNat (BitVec.ofInt k.bits (Int.negSucc b)).toNat)))) h) y) (λa=>OR.val (AV.int k (k.wrap (Int.ofNat (Nat.lor (BitVec.ofInt k.bits (Int.negSucc a)).toNat (BitVec.ofInt k.bits y).toNat)))) h) x) (F 23)) (F 23)
def iXor(k:IntKind)(x y:Int)(h:AH):OR:=bi (zAo k x) (bi (zAo k y) (Int.rec (motive:=λ_=>OR) (λx=>Int.rec (motive:=λ_=>OR) (λy=>fN (Nat.xor x y) λn=>bi (zAo k (Int.ofNat n)) (OR.val (AV.int k (Int.ofNat n)) h) (F 23)) (λb=>OR.val (AV.int k (k.wrap (Int.ofNat (Nat.xor (BitVec.ofInt k.bits (Int.ofNat x)).toNat (BitVec.ofInt k.bits (Int.negSucc b)).toNat)))) h) y) (λa=>OR.val (AV.int k (k.wrap (Int.ofNat (Nat.xor (BitVec.ofInt k.bits (Int.negSucc a)).toNat (BitVec.ofInt k.bits y).toNat)))) h) x) (F 23)) (F 23)
def iF24(_:IntKind)(_ _:Int)(_:AH):OR:=F 24
def iF23(_:IntKind)(_ _:Int)(_:AH):OR:=F 23
def iLss(_:IntKind)(x y:Int)(h:AH):OR:=bool (ltI x y) h
def iLeq(_:IntKind)(x y:Int)(h:AH):OR:=bool (leI x y) h
def iGtr(_:IntKind)(x y:Int)(h:AH):OR:=bool (ltI y x) h
def iGeq(_:IntKind)(x y:Int)(h:AH):OR:=bool (leI y x) h
def intBin(op:ABin)(k:IntKind)(x y:Int)(h:AH):OR:=
 ABin.rec (motive:=λ_=>IntKind->Int->Int->AH->OR) iAdd iSub iMul iQuo iRem iAnd iOr iXor iF24 iF24 iF23 iLss iLeq iGtr iGeq op k x y h
def zIj(op:ABin)(k:IntKind)(x:Int)(y:Int)(h:AH):OR:=
 onNat y λn=>ABin.rec (motive:=λ_=>OR) (F 25) (F 25) (F 25) (F 25) (F 25) (F 25) (F 25) (F 25)
  (bi (Nat.ble n k.bits) (intV k (Int.mul x (Int.ofNat (Nat.pow (nat_lit 2) n))) h) (OR.val (AV.int k (Int.ofNat (nat_lit 0))) h))
  (Int.rec (motive:=λ_=>OR) (λm=>bi (Nat.ble n k.bits) (fN (Nat.div m (Nat.pow (nat_lit 2) n)) λm=>OR.val (AV.int k (Int.ofNat m)) h) (F 26)) (λm=>bi (Nat.ble n k.bits) (OR.val (AV.int k (Int.fdiv (Int.negSucc m) (Int.ofNat (Nat.pow (nat_lit 2) n)))) h) (F 26)) x)
  (F 25) (F 25) (F 25) (F 25) (F 25) op
def zLs(op:ABin):Bool:=ABin.rec (motive:=λ_=>Bool) false false false false false false false false true true false false false false false op
def strBin(op:ABin)(l b l' b':Nat)(h:AH):OR:=
 ABin.rec (motive:=λ_=>OR) (bi (Nat.ble (Nat.add l l') (nat_lit 9223372036854775807)) (fN (Nat.add l l') λn=>fN (Nat.add b (Nat.mul b' (Nat.pow (nat_lit 256) l))) λm=>OR.val (AV.str n m) h) (F 27))
  (F 27) (F 27) (F 27) (F 27) (F 27) (F 27) (F 27) (F 27) (F 27) (F 27) (F 27) (F 27) (F 27) (F 27) op
def oBin(op:ABin)(x y:Opd):OpF:=λloc tmp h=>(λb=>AV.cS (AV.cI (F 28) (λk m=>onInt b λk' n=>bi (zLs op) (zIj op k m n h) (bi (eqK k k') (intBin op k m n h) (F 28))) (ev loc tmp x)) (λl s=>onStr b λl' s'=>strBin op l s l' s' h) (ev loc tmp x)) (ev loc tmp y)
def eqNum(_:AH)(a b:AV):Option Bool:=AV.cS (AV.cI Option.none (λk m=>AV.cI Option.none (λk' n=>bi (eqK k k') (some (eqI m n)) Option.none) b) a) (λl s=>AV.cS Option.none (λl' s'=>some (bi (Nat.beq l l') (Nat.beq s s') false)) b) a
def eqBool(_:AH)(a b:AV):Option Bool:=AV.cB Option.none (λp=>AV.cB Option.none (λq=>some (bi p q (bi q false true))) b) a
def eqPtr(h:AH)(a b:AV):Option Bool:=AV.cNp (AV.cP Option.none (λi o=>AV.cNp (AV.cP Option.none (λi' o'=>bi (Nat.beq i i') (some (Nat.beq o o')) (obind (AH.get h i) Option.none λp=>obind (AH.get h i') Option.none λq=>AObj.rec (motive:=λ_=>Option Bool) (λ_ _ _ r=>AObj.rec (motive:=λ_=>Option Bool) (λ_ _ _ r'=>bi r Option.none (bi r' Option.none (some false))) (λ_ _=>Option.none) (λ_ _ _ _=>Option.none) q) (λ_ _=>Option.none) (λ_ _ _ _=>Option.none) p)) b) (some false) b) a) (AV.cNp (AV.cP Option.none (λ_ _=>some false) b) (some true) b) a
def eqSl(_:AH)(a b:AV):Option Bool:=AV.cNs (AV.cSl Option.none (λ_ _ _ _=>AV.cNs Option.none (some false) b) a) (AV.cNs (AV.cSl Option.none (λ_ _ _ _=>some false) b) (some true) b) a
def eqMap(_:AH)(a b:AV):Option Bool:=AV.cNm (AV.cM Option.none (λ_=>AV.cNm Option.none (some false) b) a) (AV.cNm (AV.cM Option.none (λ_=>some false) b) (some true) b) a
def eqFn(_:AH)(a b:AV):Option Bool:=AV.rec (motive_1:=λ_=>_) (motive_2:=λ_=>Unit) Option.none (λ_=>Option.none) (λ_ _=>Option.none) (λ_ _=>Option.none) (λ_ _=>Option.none) Option.none (λ_ _ _ _=>Option.none) Option.none (λ_=>Option.none) Option.none (λa0 a1 a2 _ _=>(λ_ _ _=>AV.cNf Option.none (some false) b) a0 a1 a2) (AV.cNf (AV.cF Option.none (λ_ _ _=>some false) b) (some true) b) (λ_ _ _=>Option.none) Option.none (λ_ _=>Option.none) (λ_ _=>Option.none) () (λ_ _ _ _=>()) a
def eqIfc(_:AH)(a b:AV):Option Bool:=AV.rec (motive_1:=λ_=>_) (motive_2:=λ_=>Unit) Option.none (λ_=>Option.none) (λ_ _=>Option.none) (λ_ _=>Option.none) (λ_ _=>Option.none) Option.none (λ_ _ _ _=>Option.none) Option.none (λ_=>Option.none) Option.none (λ_ _ _ _ _=>Option.none) Option.none (λa0 a1 _=>(λ_ _=>AV.cNfc Option.none (some false) b) a0 a1) (AV.cNfc (AV.cFc Option.none (λ_ _=>some false) b) (some true) b) (λ_ _=>Option.none) (λ_ _=>Option.none) () (λ_ _ _ _=>()) a
def eqI1(a b:AV):Option Bool:=AV.cI Option.none (λk m=>AV.cI Option.none (λk' n=>bi (eqK k k') (some (eqI m n)) Option.none) b) a
def eqS1(a b:AV):Option Bool:=AV.cS Option.none (λl s=>AV.cS Option.none (λl' s'=>some (bi (Nat.beq l l') (Nat.beq s s') false)) b) a
def eqB1(a b:AV):Option Bool:=AV.cB Option.none (λp=>AV.cB Option.none (λq=>some (bi p q (bi q false true))) b) a
def eqS(k:SK):AV->AV->Option Bool:=SK.rec (motive:=λ_=>AV->AV->Option Bool) eqB1 eqI1 eqS1 k
def eqL(ks:List SK):List AV->List AV->Option Bool:=
 List.rec (motive:=λ_=>List AV->List AV->Option Bool) (λa b=>List.rec (motive:=λ_=>Option Bool) (List.rec (motive:=λ_=>Option Bool) (some true) (λ_ _ _=>Option.none) b) (λ_ _ _=>Option.none) a)
  (λk _ ih a b=>List.rec (motive:=λ_=>Option Bool) Option.none (λx xs _=>List.rec (motive:=λ_=>Option Bool) Option.none (λy ys _=>obind (eqS k x y) Option.none λq=>bi q (ih xs ys) (obind (ih xs ys) Option.none λ_=>some false)) b) a) ks
def eqAgg(ks:List SK)(_:AH)(a b:AV):Option Bool:=AV.rec (motive_1:=λ_=>_) (motive_2:=λ_=>Unit) Option.none (λ_=>Option.none) (λ_ _=>Option.none) (λ_ _=>Option.none) (λ_ _=>Option.none) Option.none (λ_ _ _ _=>Option.none) Option.none (λ_=>Option.none) Option.none (λ_ _ _ _ _=>Option.none) Option.none (λ_ _ _=>Option.none) Option.none (λa0 _=>(λl=>AV.cA Option.none (λl'=>eqL ks l l') b) a0) (λ_ _=>Option.none) () (λ_ _ _ _=>()) a
def eqBy(t:EqT):AH->AV->AV->Option Bool:=EqT.rec (motive:=λ_=>AH->AV->AV->Option Bool) eqNum eqBool eqPtr eqSl eqMap eqFn eqIfc eqAgg t
def oEq(neg:Bool)(t:EqT)(x y:Opd):OpF:=λloc tmp h=>obind (eqBy t h (ev loc tmp x) (ev loc tmp y)) (F 29) λq=>bool (bi neg (bi q false true) q) h
def oNeg(x:Opd):OpF:=λloc tmp h=>onInt (ev loc tmp x) λk n=>intV k (Int.neg n) h
def oNot(x:Opd):OpF:=λloc tmp h=>onBool (ev loc tmp x) λb=>bool (bi b false true) h
def oXorU(_x:Opd):OpF:=λ_ _ _=>F 30
def oConvI(k:IntKind)(x:Opd):OpF:=λloc tmp h=>onInt (ev loc tmp x) λ_ n=>intV k n h
def oConvS(x:Opd):OpF:=λloc tmp h=>onStr (ev loc tmp x) λl b=>OR.val (AV.str l b) h
def zH3(t:Nat)(x:Opd):OpF:=λloc tmp h=>(λr=>OR.rec (motive:=λ_=>OR) (λv h=>OR.val (AV.ifc t v) h) (λ_ _=>F 31) (λ_=>F 31) (λ_=>F 31) OR.fail r) (oMove x loc tmp h)
def oMkFn(f:Nat)(first caps:List Opd):OpF:=λloc tmp h=>OR.val (AV.fn f (evs loc tmp first) (evs loc tmp caps)) h
def oMkMap:OpF:=λ_ _ h=>AH.new h (AObj.map [] (nat_lit 0)) λid h=>OR.val (AV.mp id) h
def zB0(z:List AV)(bytes:Nat)(l c:Opd):OpF:=λloc tmp h=>onInt (ev loc tmp l) λ_ l=>onNat l λl=>onInt (ev loc tmp c) λ_ c=>onNat c λc=>
 bi (Nat.ble l c) (bi (Nat.ble (Nat.mul c bytes) (nat_lit 1099511627776)) (bi (Nat.ble c (nat_lit 1099511627776)) ((λcs=>AH.new h (AObj.cells (zAa cs) (Nat.mul c (llen z)) none false) λid h=>OR.val (AV.sl id (nat_lit 0) l (ACap.known c)) h) (lrep z c)) (F 32)) (F 32)) (F 32)
def zDe(loc:T AV)(tmp:List AV)(o:Option Opd)(d:Nat)(k:Nat->OR):OR:=Option.rec (motive:=λ_=>OR) (k d) (λx=>onInt (ev loc tmp x) λ_ n=>onNat n k) o
def zEy(x:Opd)(lo hi:Option Opd):OpF:=λloc tmp h=>onStr (ev loc tmp x) λlen b=>zDe loc tmp hi len λhi=>zDe loc tmp lo (nat_lit 0) λlo=>
 bi (Nat.ble hi len) (bi (Nat.ble lo hi) (fN (Nat.sub hi lo) λn=>fN (Nat.mod (Nat.div b (Nat.pow (nat_lit 256) lo)) (Nat.pow (nat_lit 256) n)) λm=>OR.val (AV.str n m) h) (F 33)) (F 33)
def zAs(kill:Bool)(es:Nat)(x:Opd)(lo hi mx:Option Opd):OpF:=λloc tmp h=>onSl (ev loc tmp x)
 (zDe loc tmp mx (nat_lit 0) λmx=>zDe loc tmp hi (nat_lit 0) λhi=>zDe loc tmp lo (nat_lit 0) λlo=>bi (Nat.beq mx (nat_lit 0)) (bi (Nat.beq hi (nat_lit 0)) (bi (Nat.beq lo (nat_lit 0)) (OR.val AV.nils h) (F 34)) (F 34)) (F 34))
 λid off len cap=>ACap.rec (motive:=λ_=>OR)
  (λc=>zDe loc tmp mx c λmx=>bi (Nat.ble mx c) (zDe loc tmp hi len λhi=>bi (Nat.ble hi mx) (zDe loc tmp lo (nat_lit 0) λlo=>bi (Nat.ble lo hi)
   (fN (Nat.sub hi lo) λn=>fN (Nat.sub mx lo) λm=>bi (Nat.beq m (nat_lit 0)) (OR.val (AV.sl id off n (ACap.known m)) h) (fN (Nat.add off (Nat.mul lo es)) λoff=>OR.val (AV.sl id off n (ACap.known m)) h)) (F 35)) (F 35)) (F 35))
  (λes'=>bi (Nat.beq es es') (bi (Nat.ble (nat_lit 1) es) (zAq (AH.get h id) λ_ s _ r=>Option.rec (motive:=λ_=>OR)
   (zDe loc tmp hi len λhi=>bi (Nat.ble (Nat.add off (Nat.mul hi es)) s) (zDe loc tmp lo (nat_lit 0) λlo=>bi (Nat.ble lo hi)
    (bi (Nat.beq lo (nat_lit 0)) (OR.val (AV.sl id off hi (ACap.rest es)) h)
     (fN (Nat.sub hi lo) λn=>bi (Nat.beq n (nat_lit 0))
      (bi kill (bi r (F 36) (AH.new (AH.kill h id) (AObj.cells T.leaf (nat_lit 0) none false) λid h=>OR.val (AV.sl id (nat_lit 0) (nat_lit 0) (ACap.rest es)) h)) (OR.val (AV.sl id off (nat_lit 0) (ACap.rest (nat_lit 0))) h))
      (fN (Nat.add off (Nat.mul lo es)) λoff=>OR.val (AV.sl id off n (ACap.rest es)) h))) (F 36)) (F 36))
   (λmx=>onInt (ev loc tmp mx) λ_ mx=>onNat mx λmx=>bi (Nat.ble (Nat.add off (Nat.mul mx es)) s) (zDe loc tmp hi len λhi=>bi (Nat.ble hi mx) (zDe loc tmp lo (nat_lit 0) λlo=>bi (Nat.ble lo hi)
    (fN (Nat.sub hi lo) λn=>fN (Nat.sub mx lo) λm=>bi (Nat.beq m (nat_lit 0)) (OR.val (AV.sl id off n (ACap.known m)) h) (fN (Nat.add off (Nat.mul lo es)) λoff=>OR.val (AV.sl id off n (ACap.known m)) h)) (F 37)) (F 37)) (F 37)) mx) (F 38)) (F 38)) cap
def zFx(o:Nat)(x:Opd):OpF:=λloc tmp h=>onPtr (ev loc tmp x) λid off=>fN (Nat.add off o) λo=>OR.val (AV.ptr id o) h
def oPart(off n:Nat)(agg:Bool)(l:List AV)(h:AH):OR:=bi agg (OR.val (AV.agg (ltake n (ldrop off l))) h) ((λv=>AV.rec (motive_1:=λ_=>_) (motive_2:=λ_=>Unit) (F 39) (λ_=>OR.val v h) (λ_ _=>OR.val v h) (λ_ _=>OR.val v h) (λ_ _=>OR.val v h) (OR.val v h) (λ_ _ _ _=>OR.val v h) (OR.val v h) (λ_=>OR.val v h) (OR.val v h) (λ_ _ _ _ _=>OR.val v h) (OR.val v h) (λ_ _ _=>OR.val v h) (OR.val v h) (λ_ _=>F 39) (λ_ _=>F 39) () (λ_ _ _ _=>()) v) (nth l off))
def oField(off n:Nat)(agg:Bool)(x:Opd):OpF:=λloc tmp h=>onAgg (ev loc tmp x) λl=>oPart off n agg l h
def zCx(es:Nat)(x i:Opd):OpF:=λloc tmp h=>onInt (ev loc tmp i) λ_ i=>onNat i λi=>onSl (ev loc tmp x) (F 40) λid off len _=>bi (Nat.ble (Nat.succ i) len) (fN (Nat.add off (Nat.mul i es)) λo=>OR.val (AV.ptr id o) h) (F 40)
def zCi(len es:Nat)(x i:Opd):OpF:=λloc tmp h=>onInt (ev loc tmp i) λ_ i=>onNat i λi=>onPtr (ev loc tmp x) λid off=>bi (Nat.ble (Nat.succ i) len) (fN (Nat.add off (Nat.mul i es)) λo=>OR.val (AV.ptr id o) h) (F 41)
def oIdxS(x i:Opd):OpF:=λloc tmp h=>onInt (ev loc tmp i) λ_ i=>onNat i λi=>onStr (ev loc tmp x) λlen b=>bi (Nat.ble (Nat.succ i) len) (fN (Nat.mod (Nat.div b (Nat.pow (nat_lit 256) i)) (nat_lit 256)) λn=>OR.val (AV.int .u8 (Int.ofNat n)) h) (F 42)
def oIdxA(len es:Nat)(agg:Bool)(x i:Opd):OpF:=λloc tmp h=>onInt (ev loc tmp i) λ_ i=>onNat i λi=>bi (Nat.ble (Nat.succ i) len) (onAgg (ev loc tmp x) λl=>fN (Nat.mul i es) λo=>oPart o es agg l h) (F 43)
def zD4(i:Nat)(x:Opd):OpF:=λloc tmp h=>onTup (ev loc tmp x) λl=>(λv=>AV.rec (motive_1:=λ_=>_) (motive_2:=λ_=>Unit) (F 44) (λ_=>OR.val v h) (λ_ _=>OR.val v h) (λ_ _=>OR.val v h) (λ_ _=>OR.val v h) (OR.val v h) (λ_ _ _ _=>OR.val v h) (OR.val v h) (λ_=>OR.val v h) (OR.val v h) (λ_ _ _ _ _=>OR.val v h) (OR.val v h) (λ_ _ _=>OR.val v h) (OR.val v h) (λ_ _=>OR.val v h) (λ_ _=>OR.val v h) () (λ_ _ _ _=>()) v) (nth l i)
def elen(es:List (AV×AV×Nat)):Nat:=List.rec (motive:=λ_=>Nat) (nat_lit 0) (λ_ _ ih=>Nat.succ ih) es
def lenS(x:Opd):OpF:=λloc tmp h=>onStr (ev loc tmp x) λl _=>natV l h
def lenV(x:Opd):OpF:=λloc tmp h=>onSl (ev loc tmp x) (natV (nat_lit 0) h) λ_ _ l _=>natV l h
def lenM(x:Opd):OpF:=λloc tmp h=>AV.rec (motive_1:=λ_=>_) (motive_2:=λ_=>Unit) (F 45) (λ_=>(F 45)) (λ_ _=>(F 45)) (λ_ _=>(F 45)) (λ_ _=>(F 45)) (F 45) (λ_ _ _ _=>(F 45)) (F 45) (λid=>zDf (AH.get h id) λes _=>natV (elen es) h) (natV (nat_lit 0) h) (λ_ _ _ _ _=>(F 45)) (F 45) (λ_ _ _=>(F 45)) (F 45) (λ_ _=>(F 45)) (λ_ _=>(F 45)) () (λ_ _ _ _=>()) (ev loc tmp x)
def oLen(t:LenT):Opd->OpF:=LenT.rec (motive:=λ_=>Opd->OpF) lenS lenV lenM t
def oCap(x:Opd):OpF:=λloc tmp h=>onSl (ev loc tmp x) (natV (nat_lit 0) h) λ_ _ _ c=>ACap.rec (motive:=λ_=>OR) (λc=>natV c h) (λ_=>F 46) c
def zCh(len:Nat):Nat->List AV:=Nat.rec (motive:=λ_=>Nat->List AV) (λ_=>[]) (λ_ ih b=>AV.int .u8 (Int.ofNat (Nat.mod b (nat_lit 256)))::ih (Nat.div b (nat_lit 256))) len
def zAv(es:Nat)(x:AV)(h:AH)(k:Nat->List AV->OR):OR:=AV.rec (motive_1:=λ_=>_) (motive_2:=λ_=>Unit) (F 47) (λ_=>F 47) (λ_ _=>F 47) (λl b=>bi (Nat.beq es (nat_lit 1)) (k l (zCh l b)) (F 47)) (λ_ _=>F 47) (F 47) (λid off len _=>bi (Nat.beq len (nat_lit 0)) (k (nat_lit 0) []) (zAq (AH.get h id) λc _ _ _=>obind (loadL c (Nat.mul len es) off) (F 47) λl=>k len l)) (k (nat_lit 0) []) (λ_=>F 47) (F 47) (λ_ _ _ _ _=>F 47) (F 47) (λ_ _ _=>F 47) (F 47) (λ_ _=>F 47) (λ_ _=>F 47) () (λ_ _ _ _=>()) x
def room(need bytes:Nat):Bool:=bi (Nat.ble need (nat_lit 1099511627776)) (Nat.ble (Nat.mul (Nat.add (Nat.mul (nat_lit 2) need) (nat_lit 512)) bytes) (nat_lit 1099511627776)) false
def tgm(o tg:Option Nat):Option Nat:=Option.rec (motive:=λ_=>Option Nat) Option.none (λa=>Option.rec (motive:=λ_=>Option Nat) Option.none (λb=>bi (Nat.beq a b) (some a) Option.none) tg) o
def oApp(tg:Option Nat)(es bytes n:Nat)(new:List AV)(sv:AV)(h:AH):OR:=
 onSl sv
  (bi (Nat.beq n (nat_lit 0)) (OR.val AV.nils h) (bi (room n bytes) (AH.new h (AObj.cells (zAa new) (Nat.mul n es) tg false) λid h=>OR.val (AV.sl id (nat_lit 0) n (ACap.rest es)) h) (F 48)))
  λid off len cap=>bi (Nat.beq n (nat_lit 0)) (OR.val (AV.sl id off len cap) h) ((λold:OR=>ACap.rec (motive:=λ_=>OR)
   (λcp=>bi (Nat.beq cp (nat_lit 0)) (bi (room n bytes) (AH.new h (AObj.cells (zAa new) (Nat.mul n es) tg false) λid h=>OR.val (AV.sl id (nat_lit 0) n (ACap.rest es)) h) (F 48)) old) (λ_=>old) cap) (zAq (AH.get h id) λc size o r=>
   fN (Nat.add len n) λneed=>
   ACap.rec (motive:=λ_=>OR)
    (λcp=>bi (Nat.ble need cp)
     (bi r (F 49) (obind (zBr new c (Nat.add off (Nat.mul len es))) (F 49) λc'=>OR.val (AV.sl id off need cap) (AH.set h id (AObj.cells c' size o r))))
     (bi (room need bytes) (obind (loadL c (Nat.mul len es) off) (F 50) λold=>AH.new h (AObj.cells (putL new (zAa old) (Nat.mul len es)) (Nat.mul need es) tg false) λid h=>OR.val (AV.sl id (nat_lit 0) need (ACap.rest es)) h) (F 50)))
    (λes'=>bi (Nat.beq es es') (bi r (F 51) (bi (Nat.ble (nat_lit 1) es) (bi (Nat.ble (Nat.add off (Nat.mul need es)) size)
     (obind (zBr new c (Nat.add off (Nat.mul len es))) (F 51) λc'=>OR.val (AV.sl id off need cap) (AH.set h id (AObj.cells c' size o r)))
     (bi (room need bytes) (bi (Nat.beq off (nat_lit 0))
      (AH.new (AH.kill h id) (AObj.cells (putL new c (Nat.mul len es)) (Nat.mul need es) (tgm o tg) false) λid h=>OR.val (AV.sl id (nat_lit 0) need (ACap.rest es)) h)
      (obind (loadL c (Nat.mul len es) off) (F 52) λold=>AH.new (AH.kill h id) (AObj.cells (putL new (zAa old) (Nat.mul len es)) (Nat.mul need es) Option.none false) λid h=>OR.val (AV.sl id (nat_lit 0) need (ACap.rest es)) h)) (F 52))) (F 52))) (F 52)) cap))
def zA0(tg:Option Nat)(es bytes:Nat)(s x:Opd):OpF:=λloc tmp h=>zAv es (ev loc tmp x) h λn new=>
 onSl (ev loc tmp s)
  (bi (Nat.beq n (nat_lit 0)) (OR.val AV.nils h) (bi (room n bytes) (AH.new h (AObj.cells (zAa new) (Nat.mul n es) tg false) λid h=>OR.val (AV.sl id (nat_lit 0) n (ACap.rest es)) h) (F 48)))
  λid off len cap=>bi (Nat.beq n (nat_lit 0)) (OR.val (AV.sl id off len cap) h) ((λold:OR=>ACap.rec (motive:=λ_=>OR)
   (λcp=>bi (Nat.beq cp (nat_lit 0)) (bi (room n bytes) (AH.new h (AObj.cells (zAa new) (Nat.mul n es) tg false) λid h=>OR.val (AV.sl id (nat_lit 0) n (ACap.rest es)) h) (F 48)) old) (λ_=>old) cap) (zAq (AH.get h id) λc size o r=>
   fN (Nat.add len n) λneed=>
   ACap.rec (motive:=λ_=>OR)
    (λcp=>bi (Nat.ble need cp)
     (bi r (F 49) (obind (zBr new c (Nat.add off (Nat.mul len es))) (F 49) λc'=>OR.val (AV.sl id off need cap) (AH.set h id (AObj.cells c' size o r))))
     (bi (room need bytes) (obind (loadL c (Nat.mul len es) off) (F 50) λold=>AH.new h (AObj.cells (putL new (zAa old) (Nat.mul len es)) (Nat.mul need es) tg false) λid h=>OR.val (AV.sl id (nat_lit 0) need (ACap.rest es)) h) (F 50)))
    (λes'=>bi (Nat.beq es es') (bi r (F 51) (bi (Nat.ble (nat_lit 1) es) (bi (Nat.ble (Nat.add off (Nat.mul need es)) size)
     (obind (zBr new c (Nat.add off (Nat.mul len es))) (F 51) λc'=>OR.val (AV.sl id off need cap) (AH.set h id (AObj.cells c' size o r)))
     (bi (room need bytes) (bi (Nat.beq off (nat_lit 0))
      (AH.new (AH.kill h id) (AObj.cells (putL new c (Nat.mul len es)) (Nat.mul need es) (tgm o tg) false) λid h=>OR.val (AV.sl id (nat_lit 0) need (ACap.rest es)) h)
      (obind (loadL c (Nat.mul len es) off) (F 52) λold=>AH.new (AH.kill h id) (AObj.cells (putL new (zAa old) (Nat.mul len es)) (Nat.mul need es) Option.none false) λid h=>OR.val (AV.sl id (nat_lit 0) need (ACap.rest es)) h)) (F 52))) (F 52))) (F 52)) cap))
def nmin(a b:Nat):Nat:=bi (Nat.ble a b) a b
def oCopy(es:Nat)(d s:Opd):OpF:=λloc tmp h=>zAv es (ev loc tmp s) h λn new=>onSl (ev loc tmp d) (natV (nat_lit 0) h) λid off len _=>bi (Nat.beq len (nat_lit 0)) (natV (nat_lit 0) h) (zAq (AH.get h id) λc size o r=>bi r (F 53)
 (obind (zBr (ltake (Nat.mul (nmin n len) es) new) c off) (F 53) λc'=>natV (nmin n len) (AH.set h id (AObj.cells c' size o r))))
def zFj(z:List AV)(x:Opd):OpF:=λloc tmp h=>onSl (ev loc tmp x) (OR.val (AV.tup []) h) λid off len _=>bi (Nat.beq len (nat_lit 0)) (OR.val (AV.tup []) h) (zAq (AH.get h id) λc size o r=>bi r (F 54)
 (obind (zBr (lrep z len) c off) (F 54) λc'=>OR.val (AV.tup []) (AH.set h id (AObj.cells c' size o r))))
def onEnt{β:Type}(e:AV×AV×Nat)(k:AV->AV->Nat->β):β:=Prod.rec (motive:=λ_=>β) (λa r=>Prod.rec (motive:=λ_=>β) (λb n=>k a b n) r) e
def keyEq(kt:KT):AV->AV->Option Bool:=KT.rec (motive:=λ_=>AV->AV->Option Bool) (λk=>eqS k) (λks a b=>eqAgg ks (AH.mk T.leaf (nat_lit 0)) a b) kt
def find(kt:KT)(k:AV)(es:List (AV×AV×Nat)):Option (Option AV):=
 List.rec (motive:=λ_=>Option (Option AV)) (some Option.none) (λe _ ih=>onEnt e λa v _=>obind (keyEq kt k a) Option.none λq=>bi q (some (some v)) ih) es
def putE(kt:KT)(k x:AV)(clock:Nat)(es:List (AV×AV×Nat)):Option (List (AV×AV×Nat)×Bool):=
 List.rec (motive:=λ_=>Option (List (AV×AV×Nat)×Bool)) (some ([(k,x,clock)],true)) (λe r ih=>onEnt e λa v n=>obind (keyEq kt k a) Option.none λq=>bi q (some ((k,x,n)::r,false)) (obind ih Option.none λp=>Prod.rec (motive:=λ_=>Option (List (AV×AV×Nat)×Bool)) (λl b=>some ((a,v,n)::l,b)) p)) es
def delE(kt:KT)(k:AV)(es:List (AV×AV×Nat)):Option (List (AV×AV×Nat)):=
 List.rec (motive:=λ_=>Option (List (AV×AV×Nat))) (some []) (λe r ih=>onEnt e λa v n=>obind (keyEq kt k a) Option.none λq=>bi q (some r) (obind ih Option.none λl=>some ((a,v,n)::l))) es
def zEc(kt:KT)(z:AV)(ok:Bool)(m k:Opd):OpF:=λloc tmp h=>
 (λres=>AV.cNm (AV.cM (F 55) (λid=>zDf (AH.get h id) λes _=>obind (keyEq kt (ev loc tmp k) (ev loc tmp k)) (F 55) λ_=>obind (find kt (ev loc tmp k) es) (F 55) λr=>res r) (ev loc tmp m)) (obind (keyEq kt (ev loc tmp k) (ev loc tmp k)) (F 55) λ_=>res Option.none) (ev loc tmp m))
 (λr:Option AV=>Option.rec (motive:=λ_=>OR) (bi ok (OR.val (AV.tup [z,AV.bool false]) h) (OR.val z h)) (λv=>bi ok (OR.val (AV.tup [v,AV.bool true]) h) (OR.val v h)) r)
def zJe(kt:KT)(m k x:Opd):OpF:=λloc tmp h=>onMp (ev loc tmp m) λid=>zDf (AH.get h id) λes clock=>obind (keyEq kt (ev loc tmp k) (ev loc tmp k)) (F 56) λ_=>
 OR.rec (motive:=λ_=>OR) (λx _=>obind (putE kt (ev loc tmp k) x clock es) (F 56) λp=>Prod.rec (motive:=λ_=>OR) (λl b=>OR.val (AV.tup []) (AH.set h id (AObj.map l (bi b (Nat.succ clock) clock)))) p) (λ_ _=>F 56) (λ_=>F 56) (λ_=>F 56) OR.fail (oMove x loc tmp h)
def oDelete(kt:KT)(m k:Opd):OpF:=λloc tmp h=>obind (keyEq kt (ev loc tmp k) (ev loc tmp k)) (F 57) λ_=>AV.rec (motive_1:=λ_=>_) (motive_2:=λ_=>Unit) (F 57) (λ_=>(F 57)) (λ_ _=>(F 57)) (λ_ _=>(F 57)) (λ_ _=>(F 57)) (F 57) (λ_ _ _ _=>(F 57)) (F 57) (λid=>zDf (AH.get h id) λes clock=>obind (delE kt (ev loc tmp k) es) (F 57) λl=>OR.val (AV.tup []) (AH.set h id (AObj.map l clock))) (OR.val (AV.tup []) h) (λ_ _ _ _ _=>(F 57)) (F 57) (λ_ _ _=>(F 57)) (F 57) (λ_ _=>(F 57)) (λ_ _=>(F 57)) () (λ_ _ _ _=>()) (ev loc tmp m)
def oMax(x y:Opd):OpF:=λloc tmp h=>onInt (ev loc tmp x) λk m=>onInt (ev loc tmp y) λ_ n=>bi (ltI m n) (OR.val (AV.int k n) h) (OR.val (AV.int k m) h)
def oMin(x y:Opd):OpF:=λloc tmp h=>onInt (ev loc tmp x) λk m=>onInt (ev loc tmp y) λ_ n=>bi (ltI n m) (OR.val (AV.int k n) h) (OR.val (AV.int k m) h)
def zJg(t:Nat)(ok:Bool)(z:AV)(x:Opd):OpF:=λloc tmp h=>AV.cNfc (AV.cFc (F 58) (λt' v=>bi (Nat.beq t t') (bi ok (OR.val (AV.tup [v,AV.bool true]) h) (OR.val v h)) (bi ok (OR.val (AV.tup [z,AV.bool false]) h) (F 58))) (ev loc tmp x)) (bi ok (OR.val (AV.tup [z,AV.bool false]) h) (F 58)) (ev loc tmp x)
def oCallF(f:Nat)(args:List Opd):OpF:=λloc tmp _=>OR.enter f (evs loc tmp args)
def oCallV(f:Opd)(args:List Opd):OpF:=λloc tmp _=>onFn (ev loc tmp f) λf first caps=>OR.enter f (lapp first (lapp (evs loc tmp args) caps))
def oPanic(x:Opd):OpF:=λloc tmp _=>AV.cFc (F 59) (λt v=>OR.pan (AV.ifc t v)) (ev loc tmp x)
def oDfr(x:Opd):OpF:=λloc tmp _=>onFn (ev loc tmp x) λf first caps=>OR.dfr (AV.fn f first caps)
def onIter(o:Option AObj)(k:Option Nat->Nat->List Nat->Nat->OR):OR:=
 obind o (F 60) λo=>AObj.rec (motive:=λ_=>OR) (λ_ _ _ _=>F 60) (λ_ _=>F 60) k o
def oRange(x:Opd):OpF:=λloc tmp h=>AV.cNm (AV.cM (F 61) (λid=>zDf (AH.get h id) λ_ clock=>AH.new h (AObj.iter (some id) clock [] clock) λit h=>OR.val (AV.ptr it (nat_lit 0)) h) (ev loc tmp x)) (AH.new h (AObj.iter Option.none (nat_lit 0) [] (nat_lit 0)) λit h=>OR.val (AV.ptr it (nat_lit 0)) h) (ev loc tmp x)
def nmem(n:Nat)(l:List Nat):Bool:=List.rec (motive:=λ_=>Bool) false (λm _ ih=>bi (Nat.beq n m) true ih) l
def left(since:Nat)(seen:List Nat)(es:List (AV×AV×Nat)):Option (Option (AV×AV×Nat)):=
 List.rec (motive:=λ_=>Option (Option (AV×AV×Nat))) (some Option.none) (λe _ ih=>onEnt e λa v n=>bi (nmem n seen) ih
  (bi (Nat.ble (Nat.succ n) since) (obind ih Option.none λr=>Option.rec (motive:=λ_=>Option (Option (AV×AV×Nat))) (some (some (a,v,n))) (λ_=>Option.none) r) Option.none)) es
def older(last:Nat)(es:List (AV×AV×Nat)):Bool:=List.rec (motive:=λ_=>Bool) false (λe _ ih=>onEnt e λ_ _ n=>bi (Nat.ble (Nat.succ n) last) true ih) es
def oNext(it:Opd):OpF:=λloc tmp h=>onPtr (ev loc tmp it) λid off=>bi (Nat.beq off (nat_lit 0)) (onIter (AH.get h id) λm since seen last=>
 Option.rec (motive:=λ_=>OR) (OR.val (AV.tup [AV.bool false]) h) (λm=>zDf (AH.get h m) λes clock=>
  (λgo:OR=>List.rec (motive:=λ_=>OR) go (λ_ _ _=>List.rec (motive:=λ_=>OR) go (λ_ _ _=>bi (older last es) go (F 62)) es) seen)
  (obind (left since seen es) (F 63) λr=>Option.rec (motive:=λ_=>OR) (OR.val (AV.tup [AV.bool false]) h)
   (λe=>onEnt e λa v n=>OR.val (AV.tup [AV.bool true,a,v]) (AH.set h id (AObj.iter (some m) since (n::seen) clock))) r)) m) (F 60)
def findB(n:Nat)(es:List (AV×AV×Nat)):Option AV:=List.rec (motive:=λ_=>Option AV) Option.none (λe _ ih=>onEnt e λa v m=>bi (Nat.beq n m) (some (AV.tup [a,v])) ih) es
def oEntry(it:Opd):OpF:=λloc tmp h=>onPtr (ev loc tmp it) λid off=>bi (Nat.beq off (nat_lit 0)) (onIter (AH.get h id) λm _ seen last=>
 Option.rec (motive:=λ_=>OR) (F 64) (λm=>List.rec (motive:=λ_=>OR) (F 64) (λn _ _=>zDf (AH.get h m) λes clock=>bi (Nat.beq clock last)
  (obind (findB n es) (F 64) λv=>OR.val v h) (F 64)) seen) m) (F 60)
def findN(kt:KT)(k:AV)(es:List (AV×AV×Nat)):Option (Option (AV×Nat)):=
 List.rec (motive:=λ_=>Option (Option (AV×Nat))) (some Option.none) (λe _ ih=>onEnt e λa v n=>obind (keyEq kt k a) Option.none λq=>bi q (some (some (v,n))) ih) es
def zJf(kt:KT)(z:AV)(m k:Opd):OpF:=λloc tmp h=>onMp (ev loc tmp m) λid=>zDf (AH.get h id) λes clock=>obind (keyEq kt (ev loc tmp k) (ev loc tmp k)) (F 65) λ_=>
 obind (findN kt (ev loc tmp k) es) (F 65) λr=>Option.rec (motive:=λ_=>OR)
  (obind (putE kt (ev loc tmp k) z clock es) (F 65) λp=>Prod.rec (motive:=λ_=>OR) (λl b=>bi b (OR.val (AV.tup [z,AV.int .i64 (Int.ofNat clock)]) (AH.set h id (AObj.map l (Nat.succ clock)))) (F 65)) p)
  (λvn=>Prod.rec (motive:=λ_=>OR) (λv n=>obind (putE kt (ev loc tmp k) v clock es) (F 65) λp=>Prod.rec (motive:=λ_=>OR) (λl b=>bi b (F 65) (OR.val (AV.tup [v,AV.int .i64 (Int.ofNat n)]) (AH.set h id (AObj.map l clock)))) p) vn) r
def setB(n:Nat)(x:AV)(es:List (AV×AV×Nat)):Option (List (AV×AV×Nat)):=
 List.rec (motive:=λ_=>Option (List (AV×AV×Nat))) Option.none (λe r ih=>onEnt e λa v m=>bi (Nat.beq m n) (some ((a,x,m)::r)) (obind ih Option.none λl=>some ((a,v,m)::l))) es
def zGd(m s x:Opd):OpF:=λloc tmp h=>onMp (ev loc tmp m) λid=>zDf (AH.get h id) λes clock=>onInt (ev loc tmp s) λ_ n=>onNat n λn=>
 OR.rec (motive:=λ_=>OR) (λx _=>obind (setB n x es) (F 66) λl=>OR.val (AV.tup []) (AH.set h id (AObj.map l clock))) (λ_ _=>F 56) (λ_=>F 56) (λ_=>F 56) OR.fail (oMove x loc tmp h)
def zLl(x:Opd):OpF:=λloc tmp h=>onStr (ev loc tmp x) λl b=>AH.new h (AObj.cells (zAa (zCh l b)) l none true) λid h=>OR.val (AV.sl id (nat_lit 0) l (ACap.rest (nat_lit 1))) h
def zGu(z:List AV)(b:Nat)(s n:Opd):OpF:=λloc tmp h=>onInt (ev loc tmp n) λk m=>bi (eqK k .i64) (onNat m λm=>bi (room m b) (oApp Option.none (llen z) b m (lrep z m) (ev loc tmp s) h) (F 68)) (F 68)
def zJs(args:List AV)(rows:List (List AV×AV)):Option AV:=List.rec (motive:=λ_=>Option AV) Option.none (λr _ ih=>bi (same (AV.tup r.1) (AV.tup args)) (some r.2) ih) rows
def oNat(g:List AV->AH->Option (AV×AH))(args:List Opd):OpF:=λloc tmp h=>obind (g (evs loc tmp args) h) (F 67) λr=>Prod.rec (motive:=λ_=>OR) (λv h=>OR.val v h) r
def rowsG(rows:List (List AV×AV))(args:List AV)(h:AH):Option (AV×AH):=obind (zJs args rows) Option.none λv=>some (v,h)
def oAllocT(t:Nat)(z:List AV):OpF:=λ_ _ h=>AH.new h (AObj.cells (zAa z) (llen z) (some t) false) λid h=>OR.val (AV.ptr id (nat_lit 0)) h
def onPtrN(v:AV)(kn:OR)(k:Nat->Nat->OR):OR:=AV.cNp (AV.cP (F 4) k v) kn v
def oToUns(x:Opd):OpF:=λloc tmp h=>onPtrN (ev loc tmp x) (OR.val AV.nilp h) λid off=>zAq (AH.get h id) λ_ s _ _=>bi (Nat.ble (Nat.succ off) s) (OR.val (AV.ptr id off) h) (F 69)
def isTag(tg:Option Nat)(t:Nat):Bool:=Option.rec (motive:=λ_=>Bool) false (λa=>Nat.beq a t) tg
def oFromUns(u:Nat)(x:Opd):OpF:=λloc tmp h=>onPtrN (ev loc tmp x) (OR.val AV.nilp h) λid off=>bi (Nat.beq off (nat_lit 0)) (zAq (AH.get h id) λ_ _ tg _=>bi (isTag tg u) (OR.val (AV.ptr id (nat_lit 0)) h) (F 70)) (F 70)
def oSliceData(x:Opd):OpF:=λloc tmp h=>onSl (ev loc tmp x) (OR.val AV.nilp h) λid off len _=>bi (Nat.beq len (nat_lit 0)) (F 71) (OR.val (AV.ptr id off) h)
def bytesN(l:List AV):Option Nat:=List.rec (motive:=λ_=>Option Nat) (some (nat_lit 0)) (λv _ ih=>obind ih Option.none λr=>
 AV.rec (motive_1:=λ_=>Option Nat) (motive_2:=λ_=>Unit) Option.none (λ_=>Option.none) (λk n=>bi (eqK k .u8) (Int.rec (motive:=λ_=>Option Nat) (λm=>bi (Nat.ble m (nat_lit 255)) (some (Nat.add m (Nat.mul (nat_lit 256) r))) Option.none) (λ_=>Option.none) n) Option.none) (λ_ _=>Option.none) (λ_ _=>Option.none) Option.none (λ_ _ _ _=>Option.none) Option.none (λ_=>Option.none) Option.none (λ_ _ _ _ _=>Option.none) Option.none (λ_ _ _=>Option.none) Option.none (λ_ _=>Option.none) (λ_ _=>Option.none) () (λ_ _ _ _=>()) v) l
def oUnsafeStr(t:Nat)(p n:Opd):OpF:=λloc tmp h=>onInt (ev loc tmp n) λk m=>bi (eqK k .i64) (onNat m λm=>bi (Nat.beq m (nat_lit 0)) (onPtrN (ev loc tmp p) (OR.val (AV.str (nat_lit 0) (nat_lit 0)) h) λ_ _=>OR.val (AV.str (nat_lit 0) (nat_lit 0)) h)
 (onPtr (ev loc tmp p) λid off=>bi (Nat.beq off (nat_lit 0)) (zAq (AH.get h id) λc s tg _=>bi (isTag tg t) (obind (loadL c m off) (F 72) λl=>obind (bytesN l) (F 72) λb=>OR.val (AV.str m b) (AH.set h id (AObj.cells c s tg true))) (F 72)) (F 72))) (F 72)
def evOp(op:AOp):OpF:=
 AOp.rec (motive:=λ_=>OpF) oMove oPick oAlloc oBox oBuild oBslice oLoad zAy oStore oNil oBin oEq oNeg oNot oXorU oConvI oConvS zH3 oMkFn oMkMap zB0 zEy zAs
  zFx oField zCx zCi oIdxS oIdxA zD4 oLen oCap (zA0 Option.none) oCopy zFj oDelete oMax oMin zEc zJe zJg oCallF oCallV oPanic oDfr oRange oNext oEntry zJf zGd zLl zGu oAllocT (λt b s x=>zA0 (some t) (nat_lit 1) b s x) oToUns oFromUns oSliceData oUnsafeStr oNat op
inductive Res where
 | norm (loc:T AV) (d:List AV) (h:AH)
 | exit (id:Nat) (loc:T AV) (d:List AV) (h:AH)
 | ret (loc:T AV) (d:List AV) (h:AH)
 | pan (v:AV) (loc:T AV) (d:List AV) (h:AH)
 | fail (l:List Nat)
inductive CR where
 | ret (v:AV) (h:AH)
 | pan (v:AV) (h:AH)
 | fail (l:List Nat)
def guardV(want:Bool)(v:AV):Option Bool:=
 AV.rec (motive_1:=λ_=>Option Bool) (motive_2:=λ_=>Unit) Option.none (λb=>some (bi want b (bi b false true))) (λ_ _=>some false) (λ_ _=>some false) (λ_ _=>some false) Option.none (λ_ _ _ _=>Option.none) Option.none (λ_=>Option.none) Option.none (λ_ _ _ _ _=>Option.none) Option.none (λ_ _ _=>Option.none) Option.none (λ_ _=>Option.none) (λ_ _=>some false) () (λ_ _ _ _=>()) v
def guard2(loc:T AV)(tmp:List AV)(x:Opd)(want:Bool):Option Bool:=guardV want (ev loc tmp x)
def guard1(loc:T AV)(tmp:List AV)(g:Opd×Bool):Option Bool:=guard2 loc tmp g.1 g.2
def zAt(loc:T AV)(tmp:List AV)(g:Option (Opd×Bool)):Option Bool:=Option.rec (motive:=λ_=>Option Bool) (some true) (guard1 loc tmp) g
def reads(loc:T AV)(tmp:List AV)(h:AH)(l:List ARe):Bool:=
 List.rec (motive:=λ_=>Bool) true (λp _ ih=>ARe.rec (motive:=λ_=>Bool) (λop i g=>
  obind (zAt loc tmp g) false λq=>bi q (OR.rec (motive:=λ_=>Bool) (λv _=>bi (same v (nth tmp i)) ih false) (λ_ _=>false) (λ_=>false) (λ_=>false) (λ_=>false) (evOp op loc tmp h)) ih) p) l
def forget(l:List AOper):T AV->T AV:=
 List.rec (motive:=λ_=>T AV->T AV) (λloc=>loc) (λo _ ih loc=>AOper.rec (motive:=λ_=>T AV) (λ_ _ out _=>Option.rec (motive:=λ_=>T AV) (ih loc) (λk=>ih (T.put (some AV.bad) loc k)) out) o) l
def zAc(out:Option Nat)(v:AV)(loc:T AV):T AV:=Option.rec (motive:=λ_=>T AV) loc (λk=>T.put (some v) loc k) out
abbrev Kont:=T AV->List AV->List AV->AH->Res
def opNext(ih:Kont)(loc:T AV)(tmp d:List AV)(out:Option Nat)(re:List ARe)(v:AV)(h:AH):Res:=bi (reads loc tmp h re) (ih (zAc out v loc) (v::tmp) d h) (Res.fail [71])
def opPanic(whole:List AOper)(loc0:T AV)(d:List AV)(v:AV)(h:AH):Res:=Res.pan v (forget whole loc0) d h
def opEnter(call:Nat->List AV->AH->CR)(whole:List AOper)(loc0:T AV)(ih:Kont)(loc:T AV)(tmp d:List AV)(h:AH)(out:Option Nat)(re:List ARe)(f:Nat)(args:List AV):Res:=
 CR.rec (motive:=λ_=>Res) (opNext ih loc tmp d out re) (opPanic whole loc0 d) Res.fail (call f args h)
def opPan(whole:List AOper)(loc0:T AV)(d:List AV)(h:AH)(v:AV):Res:=Res.pan v (forget whole loc0) d h
def opDfr(ih:Kont)(loc:T AV)(tmp d:List AV)(h:AH)(out:Option Nat)(v:AV):Res:=ih (zAc out (AV.tup []) loc) (AV.tup []::tmp) (v::d) h
def opFail(n:Nat):Res:=Res.fail [n]
def opGo(call:Nat->List AV->AH->CR)(whole:List AOper)(loc0:T AV)(ih:Kont)(loc:T AV)(tmp d:List AV)(h:AH)(op:AOp)(out:Option Nat)(re:List ARe):Res:=
 OR.rec (motive:=λ_=>Res) (opNext ih loc tmp d out re) (opEnter call whole loc0 ih loc tmp d h out re) (opPan whole loc0 d h) (opDfr ih loc tmp d h out) opFail (evOp op loc tmp h)
def opSkip(ih:Kont)(loc:T AV)(tmp d:List AV)(h:AH)(out:Option Nat):Res:=ih (zAc out (AV.tup []) loc) (AV.tup []::tmp) d h
def opStep(call:Nat->List AV->AH->CR)(whole:List AOper)(loc0:T AV)(ih:Kont)(loc:T AV)(tmp d:List AV)(h:AH)(op:AOp)(guard:Option (Opd×Bool))(out:Option Nat)(re:List ARe):Res:=
 obind (zAt loc tmp guard) (Res.fail [70]) λq=>bi q (opGo call whole loc0 ih loc tmp d h op out re) (opSkip ih loc tmp d h out)
def opEach(call:Nat->List AV->AH->CR)(whole:List AOper)(loc0:T AV)(o:AOper)(_:List AOper)(ih:Kont)(loc:T AV)(tmp d:List AV)(h:AH):Res:=opStep call whole loc0 ih loc tmp d h o.op o.guard o.out o.re
def opEnd(loc:T AV)(_ d:List AV)(h:AH):Res:=Res.norm loc d h
def evOps(call:Nat->List AV->AH->CR)(whole:List AOper)(loc0:T AV)(l:List AOper):T AV->List AV->List AV->AH->Res:=
 List.rec (motive:=λ_=>T AV->List AV->List AV->AH->Res) opEnd (opEach call whole loc0) l
def results(rs:List ARes)(loc:T AV)(h:AH):Option (List AV):=
 List.rec (motive:=λ_=>Option (List AV)) (some []) (λr _ ih=>obind ih Option.none λl=>ARes.rec (motive:=λ_=>Option (List AV))
  (λx=>some (ev loc [] x::l))
  (λx=>AV.cP Option.none (λid off=>obind (AH.get h id) Option.none λo=>AObj.rec (motive:=λ_=>Option (List AV)) (λc _ _ _=>obind (T.get c off) Option.none λv=>some (v::l)) (λ_ _=>Option.none) (λ_ _ _ _=>Option.none) o) (ev loc [] x))
  (λn x=>AV.cP Option.none (λid off=>obind (AH.get h id) Option.none λo=>AObj.rec (motive:=λ_=>Option (List AV)) (λc _ _ _=>obind (loadL c n off) Option.none λv=>some (AV.agg v::l)) (λ_ _=>Option.none) (λ_ _ _ _=>Option.none) o) (ev loc [] x)) r) rs
def one(l:List AV):AV:=List.rec (motive:=λ_=>AV) (AV.tup []) (λv r _=>List.rec (motive:=λ_=>AV) v (λ_ _ _=>AV.tup l) r) l
inductive Mode where
 | ret
 | pan (v:AV) (rec:Bool)
inductive DR where
 | norm (m:Mode) (loc:T AV) (h:AH)
 | exit (id:Nat) (m:Mode) (loc:T AV) (h:AH)
 | ret (m:Mode) (h:AH)
 | fail (l:List Nat)
section
variable(evc:ACode->T AV->List AV->AH->Res)
def zE9(c:ACode)(m:Mode)(loc:T AV)(h:AH):DR:=
 Res.rec (motive:=λ_=>DR) (λloc d h=>List.rec (motive:=λ_=>DR) (DR.norm m loc h) (λ_ _ _=>DR.fail [80]) d) (λid loc d h=>List.rec (motive:=λ_=>DR) (DR.exit id m loc h) (λ_ _ _=>DR.fail [80]) d)
  (λ_ d h=>List.rec (motive:=λ_=>DR) (DR.ret m h) (λ_ _ _=>DR.fail [80]) d) (λ_ _ _ _=>DR.fail [81]) DR.fail (evc c loc [] h)
def evD(c:ACode):Mode->T AV->AH->DR:=
 ACode.rec (motive:=λ_=>Mode->T AV->AH->DR)
  (zE9 evc ACode.skip) (λl=>zE9 evc (ACode.ops l))
  (λout m loc h=>Mode.rec (motive:=λ_=>DR) (DR.norm Mode.ret (zAc out AV.nili loc) h) (λv r=>bi r (DR.norm (Mode.pan v r) (zAc out AV.nili loc) h) (DR.norm (Mode.pan v true) (zAc out v loc) h)) m)
  (λ_ _ ia ib m loc h=>DR.rec (motive:=λ_=>DR) (λm loc h=>ib m loc h) DR.exit DR.ret DR.fail (ia m loc h))
  (λc _ _ ia ib m loc h=>AV.cB (DR.fail [82]) (λq=>bi q (ia m loc h) (ib m loc h)) (ev loc [] c))
  (λid _ ia m loc h=>DR.rec (motive:=λ_=>DR) DR.norm (λid' m loc h=>bi (Nat.beq id id') (DR.norm m loc h) (DR.exit id' m loc h)) DR.ret DR.fail (ia m loc h))
  (λa _=>zE9 evc (ACode.loop a)) (λid=>zE9 evc (ACode.exit id)) (zE9 evc ACode.ret) c
end
section
variable(tab:Nat->Option AFunc)
def zAb(args:List AV):T AV:=zAa args
def runD(evc:ACode->T AV->List AV->AH->Res)(fin:Mode->AH->CR)(ds:List AV):Mode->AH->CR:=
 List.rec (motive:=λ_=>Mode->AH->CR) fin (λd _ ih m h=>AV.rec (motive_1:=λ_=>_) (motive_2:=λ_=>Unit) (CR.fail [83]) (λ_=>CR.fail [83]) (λ_ _=>CR.fail [83]) (λ_ _=>CR.fail [83]) (λ_ _=>CR.fail [83]) (CR.fail [83]) (λ_ _ _ _=>CR.fail [83]) (CR.fail [83]) (λ_=>CR.fail [83]) (CR.fail [83]) (λa0 a1 a2 _ _=>(λf first caps=>obind (tab f) (CR.fail [84]) λfn=>AFunc.rec (motive:=λ_=>CR) (λn body rs=>bi (Nat.beq n (llen (lapp first caps)))
   (List.rec (motive:=λ_=>CR) ((λ(go:Mode->AH->CR)=>DR.rec (motive:=λ_=>CR) (λm _ h=>go m h) (λ_ _ _ _=>CR.fail [85]) (λm h=>go m h) CR.fail (evD evc body m (zAb (lapp first caps)) h))
   (λm h=>Mode.rec (motive:=λ_=>CR) (ih Mode.ret h) (λv r=>bi r (ih Mode.ret h) (ih (Mode.pan v r) h)) m)) (λ_ _ _=>CR.fail [93]) rs) (CR.fail [92])) fn) a0 a1 a2) (CR.fail [83]) (λ_ _ _=>CR.fail [83]) (CR.fail [83]) (λ_ _=>CR.fail [83]) (λ_ _=>CR.fail [83]) () (λ_ _ _ _=>()) d) ds
def zAn(rs:List ARes)(loc:T AV)(m:Mode)(h:AH):CR:=
 Mode.rec (motive:=λ_=>CR) (obind (results rs loc h) (CR.fail [86]) λl=>CR.ret (one l) h) (λv _=>CR.pan v h) m
def callEnd(evc:ACode->T AV->List AV->AH->Res)(rs:List ARes)(loc:T AV)(d:List AV)(h:AH):CR:=runD tab evc (zAn rs loc) d Mode.ret h
def callExit(_:Nat)(_:T AV)(_:List AV)(_:AH):CR:=CR.fail [88]
def callPan(evc:ACode->T AV->List AV->AH->Res)(rs:List ARes)(v:AV)(loc:T AV)(d:List AV)(h:AH):CR:=runD tab evc (zAn rs loc) d (Mode.pan v false) h
def callFail(f:Nat)(l:List Nat):CR:=CR.fail (f::l)
def callBody(evc:ACode->T AV->List AV->AH->Res)(f:Nat)(args:List AV)(h:AH)(n:Nat)(body:ACode)(rs:List ARes):CR:=
 bi (Nat.beq n (llen args)) (Res.rec (motive:=λ_=>CR) (callEnd tab evc rs) callExit (callEnd tab evc rs) (callPan tab evc rs) (callFail f) (evc body (zAb args) [] h)) (CR.fail [92])
def callFn(evc:ACode->T AV->List AV->AH->Res)(f:Nat)(args:List AV)(h:AH)(fn:AFunc):CR:=callBody tab evc f args h fn.nargs fn.body fn.res
def zAw(evc:ACode->T AV->List AV->AH->Res)(f:Nat)(args:List AV)(h:AH):CR:=obind (tab f) (CR.fail [87,f]) (callFn tab evc f args h)
abbrev Cont:=ACode->T AV->List AV->AH->Res
abbrev Run:=T AV->List AV->AH->Res
def sSkip(loc:T AV)(d:List AV)(h:AH):Res:=Res.norm loc d h
def sOps(ih:Cont)(l:List AOper)(loc:T AV)(d:List AV)(h:AH):Res:=evOps (zAw tab ih) l loc l loc [] d h
def sRecov(_:Option Nat)(_:T AV)(_:List AV)(_:AH):Res:=Res.fail [89]
def sSeq(ih:Cont)(a b:ACode)(_ _:Run)(loc:T AV)(d:List AV)(h:AH):Res:=Res.rec (motive:=λ_=>Res) (ih b) Res.exit Res.ret Res.pan Res.fail (ih a loc d h)
def sIf(ih:Cont)(a b:ACode)(loc:T AV)(d:List AV)(h:AH)(q:Bool):Res:=bi q (ih a loc d h) (ih b loc d h)
def onTruth(k:Bool->Res)(v:AV):Res:=AV.rec (motive_1:=λ_=>Res) (motive_2:=λ_=>Unit) (Res.fail [90]) k (λ_ _=>Res.fail [90]) (λ_ _=>Res.fail [90]) (λ_ _=>Res.fail [90]) (Res.fail [90]) (λ_ _ _ _=>Res.fail [90]) (Res.fail [90]) (λ_=>Res.fail [90]) (Res.fail [90]) (λ_ _ _ _ _=>Res.fail [90]) (Res.fail [90]) (λ_ _ _=>Res.fail [90]) (Res.fail [90]) (λ_ _=>Res.fail [90]) (λ_ _=>Res.fail [90]) () (λ_ _ _ _=>()) v
def sCond(ih:Cont)(c:Opd)(a b:ACode)(_ _:Run)(loc:T AV)(d:List AV)(h:AH):Res:=onTruth (sIf ih a b loc d h) (ev loc [] c)
def sBlockE(id id':Nat)(loc:T AV)(d:List AV)(h:AH):Res:=bi (Nat.beq id id') (Res.norm loc d h) (Res.exit id' loc d h)
def sBlock(ih:Cont)(id:Nat)(a:ACode)(_:Run)(loc:T AV)(d:List AV)(h:AH):Res:=Res.rec (motive:=λ_=>Res) Res.norm (sBlockE id) Res.ret Res.pan Res.fail (ih a loc d h)
def sLoop(ih:Cont)(a:ACode)(_:Run)(loc:T AV)(d:List AV)(h:AH):Res:=Res.rec (motive:=λ_=>Res) (ih (ACode.loop a)) Res.exit Res.ret Res.pan Res.fail (ih a loc d h)
def stepC(ih:Cont)(c:ACode):Run:=ACode.rec (motive:=λ_=>Run) sSkip (sOps tab ih) sRecov (sSeq ih) (sCond ih) (sBlock ih) (sLoop ih) Res.exit Res.ret c
def evC(n:Nat):ACode->T AV->List AV->AH->Res:=
 Nat.rec (motive:=λ_=>ACode->T AV->List AV->AH->Res) (λ_ _ _ _=>Res.fail [91]) (λ_ ih=>stepC tab ih) n
def evF(n:Nat)(f:Nat)(args:List AV)(h:AH):CR:=zAw tab (evC tab n) f args h
end
end
def encB(l:List UInt8):Nat:=l.foldr (λb acc=>b.toNat+256*acc) 0
def cv:Value->Option AV
 | .bool b=>some (.bool b)
 | .int k n=>some (.int k n)
 | .string s=>some (.str s.data.toList.length (encB s.data.toList))
 | .pointer none=>some .nilp
 | .slice none 0 0=>some .nils
 | .map none=>some .nilm
 | .nilFunc=>some .nilf
 | .nilIface=>some .nili
 | _=>none
def zBe:Value->Option (List AV)
 | .agg cs=>cs.toList.mapM cv
 | v=>(cv v).map ([·])
def cvVal:Value->Option AV
 | .agg cs=>(cs.toList.mapM cv).map .agg
 | v=>cv v
section
variable(P:Program)
def zAm(t:TypeId):Option Nat:=(P.info? t).map (·.size)
def zC5(t:TypeId):Option Nat:=(P.info? t).map (·.bytes)
def zBf(t:TypeId):Option Value:=(P.info? t).bind (·.zero)
def tyAgg(t:TypeId):Option Bool:=
 match P.underlying t with
 | some (.struct _)=>some true
 | some (.array ..)=>some true
 | some _=>some false
 | none=>none
def tySK(t:TypeId):Option SK:=
 match P.underlying t with
 | some .bool=>some .bool
 | some (.int _)=>some .int
 | some .string=>some .str
 | _=>none
def flatF(fe:TypeId->Option (List SK)):List Field->Nat->Option (List SK)
 | [],_=>some []
 | f::fs,off=>if f.offset=off/\f.name≠ "_" then(fe f.type).bind λks=>if zAm P f.type=some ks.length then(flatF fe fs (off+ks.length)).map (ks++·) else none else none
def zBg:Nat->TypeId->Option (List SK)
 | 0,_=>none
 | d+1,t=>
  match tySK P t with
  | some k=>some [k]
  | none=>
   match P.underlying t with
   | some (.struct fs)=>if P.stoodInHeld t then none else flatF P (zBg d) fs.toList 0
   | some (.array len e)=>(zBg d e).bind λks=>if zAm P e=some ks.length then some (List.replicate len ks).flatten else none
   | _=>none
def keyT(t:TypeId):Option KT:=
 match tySK P t with
 | some k=>some (.one k)
 | none=>(zBg P 20 t).map .agg
def isU8(e:TypeId):Bool:=match P.underlying e with | some (.int .u8)=>true | _=>false
def zF6(l:List (Option Nat))(t:Nat):Option Nat:=l.findIdx? (λx=>x == some t)
def zAk(m:List Nat)(t:Nat):Option Nat:=m.findIdx? (λx=>x == t)
def cOpd(m:List Nat)(ts:List (Option Nat)):Operand->Option Opd
 | .tmp t=>match zF6 ts t with
  | some i=>some (.t i)
  | none=>(zAk m t).map .l
 | .const v=>(cvVal v).map .c
 | .func f=>some (.c (.fn f [] []))
 | .global _=>some (.c .bad)
def cBin:BinOp->Option ABin
 | .add=>some .add | .sub=>some .sub | .mul=>some .mul | .quo=>some .quo | .rem=>some .rem
 | .and=>some .and | .or=>some .or | .xor=>some .xor | .shl=>some .shl | .shr=>some .shr | .andNot=>some .andNot
 | .lss=>some .lss | .leq=>some .leq | .gtr=>some .gtr | .geq=>some .geq
 | .eql | .neq=>none
def zKs:Operand->Bool
 | .const .nilIface=>true
 | _=>false
def eqT(t:TypeId)(x y:Operand):Option EqT:=
 match P.underlying t with
 | some .bool=>some .bool
 | some (.int _) | some .string=>some .num
 | some (.pointer e)=>(match zAm P e with | some (_+1)=>some .ptr | _=>none)
 | some (.slice _)=>some .sl
 | some (.map ..)=>some .map
 | some (.func ..)=>some .fn
 | some (.interface _)=>if zKs x||zKs y then some .ifc else none
 | some (.struct _) | some (.array ..)=>if P.eqGuardType P.depth t then none else(zBg P 20 t).map .agg
 | _=>none
def zBc(f:FuncId):Bool:=
 match P.funcs[f]? with
 | some fn=>fn.name != "runtime.NumGoroutine" &&fn.body.isSome
 | none=>false
def cOp(cx:Operand->Option Opd)(kill:Bool):Op->Option AOp
 | .move x | .assign x=>(cx x).map .move
 | .pick c a b=>do some (.pick (<-cx c) (<-cx a) (<-cx b))
 | .alloc e=>do some (.alloc (<-zBe (<-zBf P e)))
 | .box _ x=>(cx x).map .box
 | .build t ps=>do
  let z <-zBe (<-zBf P t)
  match P.underlying t with
  | some (.struct fs)=>
   let parts <-ps.toList.mapM λ(i,x)=>do
    let f <-fs[i]?
    some {off:=f.offset,size:=<-zAm P f.type,x:=<-cx x:Part}
   if zAm P t=some z.length/\(fs.toList.all λf=>(zAm P f.type).isSome)=true then some (.build z parts) else none
  | some (.array _ e)=>
   let n <-zAm P e
   let parts <-ps.toList.mapM λ(i,x)=>do some {off:=i*n,size:=n,x:=<-cx x:Part}
   if zAm P t=some z.length then some (.build z parts) else none
  | _=>none
 | .buildSlice t len ps=>do
  match P.underlying t with
  | some (.slice e)=>
   let n <-zAm P e
   let z <-zBe (<-zBf P e)
   let parts <-ps.toList.mapM λ(i,x)=>do some {off:=i*n,size:=n,x:=<-cx x:Part}
   if z.length=n/\len*n<=2 ^ 24 then some (.bslice (List.replicate len z).flatten len parts) else none
  | _=>none
 | .load t x=>do
  let a <-tyAgg P t
  if a then some (.loadN (<-zAm P t) (<-cx x)) else some (.load (<-cx x))
 | .store t a x=>do some (.store (<-zAm P t) (<-cx a) (<-cx x))
 | .nilCheck x=>(cx x).map .nilCheck
 | .binOp op t x y _=>
  match op with
  | .eql=>do some (.eq false (<-eqT P t x y) (<-cx x) (<-cx y))
  | .neq=>do some (.eq true (<-eqT P t x y) (<-cx x) (<-cx y))
  | op=>do some (.bin (<-cBin op) (<-cx x) (<-cx y))
 | .unOp .neg _ x=>(cx x).map .neg
 | .unOp .not _ x=>(cx x).map .not
 | .unOp .xor _ x=>(cx x).map .xorU
 | .convert s d x=>
  match P.underlying s,P.underlying d with
  | some (.int _),some (.int k)=>(cx x).map (.convI k)
  | some .string,some .string=>(cx x).map .convS
  | some .string,some (.slice e)=>if kill&&isU8 P e then(cx x).map .bytesOf else none
  | _,_=>none
 | .makeInterface t x=>
  match P.underlying t with
  | some (.interface _)=>none
  | some _=>(cx x).map (.mkIfc t)
  | none=>none
 | .makeFunc (.func f) first caps=>do some (.mkFn f (<-first.toList.mapM cx) (<-caps.toList.mapM cx))
 | .makeMap _ none=>some .mkMap
 | .makeSlice t l c=>
  match P.underlying t with
  | some (.slice e)=>do
   let n <-zAm P e
   let z <-zBe (<-zBf P e)
   if z.length=n then some (.mkSlice z (<-zC5 P e) (<-cx l) (<-cx c)) else none
  | _=>none
 | .slice t x lo hi mx=>do
  let o:Option Operand->Option (Option Opd):=fun | none=>some none | some y=>(cx y).map some
  match P.underlying t,mx with
  | some .string,none=>some (.sliceS (<-cx x) (<-o lo) (<-o hi))
  | some (.slice e),mx=>if mx.isSome&&!hi.isSome then none else some (.sliceV kill (<-zAm P e) (<-cx x) (<-o lo) (<-o hi) (<-o mx))
  | _,_=>none
 | .fieldAddr s x f=>
  match P.underlying s with
  | some (.struct fs)=>do
   let f <-fs[f]?
   match zAm P f.type with
   | some (_+1)=>some (.fieldAddr f.offset (<-cx x))
   | _=>none
  | _=>none
 | .field s x f=>
  match P.underlying s with
  | some (.struct fs)=>do
   let f <-fs[f]?
   some (.field f.offset (<-zAm P f.type) (<-tyAgg P f.type) (<-cx x))
  | _=>none
 | .indexAddr t x i=>
  match P.underlying t with
  | some (.slice e)=>do some (.idxAddr (<-zAm P e) (<-cx x) (<-cx i))
  | some (.array n e)=>do some (.idxAddrA n (<-zAm P e) (<-cx x) (<-cx i))
  | _=>none
 | .index t x i=>
  match P.underlying t with
  | some .string=>do some (.idxS (<-cx x) (<-cx i))
  | some (.array n e)=>do some (.idxA n (<-zAm P e) (<-tyAgg P e) (<-cx x) (<-cx i))
  | _=>none
 | .extract x i=>(cx x).map (.extract i)
 | .call {callee:=.value (.func f),args,..}=>if zBc P f then do some (.callF f (<-args.toList.mapM cx)) else none
 | .call {callee:=.value x,args,..}=>do some (.callV (<-cx x) (<-args.toList.mapM cx))
 | .call {callee:=.builtin b,args,argTypes}=>
  match b,args.toList with
  | .len,[x]=>
   match(argTypes[0]?).bind P.underlying with
   | some .string=>(cx x).map (.len .str)
   | some (.slice _)=>(cx x).map (.len .sl)
   | some (.map ..)=>(cx x).map (.len .map)
   | some (.array n _)=>some (.move (.c (.int .i64 n)))
   | _=>none
  | .cap,[x]=>
   match(argTypes[0]?).bind P.underlying with
   | some (.slice _)=>(cx x).map .cap
   | _=>none
  | .append,[s,x]=>
   match(argTypes[0]?).bind P.underlying,(argTypes[1]?).bind P.underlying with
   | some (.slice e),some (.slice _)=>do
    let z <-zBe (<-zBf P e)
    if zAm P e=some z.length then some (.append z.length (<-zC5 P e) (<-cx s) (<-cx x)) else none
   | some (.slice e),some .string=>do
    let z <-zBe (<-zBf P e)
    if zAm P e=some z.length/\z.length=1 then some (.append z.length (<-zC5 P e) (<-cx s) (<-cx x)) else none
   | some (.slice e),some (.int _)=>do
    let z <-zBe (<-zBf P e)
    if zAm P e=some z.length then some (.appendZ z (<-zC5 P e) (<-cx s) (<-cx x)) else none
   | _,_=>none
  | .copy,[d,s]=>
   match(argTypes[0]?).bind P.underlying with
   | some (.slice e)=>do some (.copy (<-zAm P e) (<-cx d) (<-cx s))
   | _=>none
  | .clear,[x]=>
   match(argTypes[0]?).bind P.underlying with
   | some (.slice e)=>do
    let z <-zBe (<-zBf P e)
    if zAm P e=some z.length then some (.clear z (<-cx x)) else none
   | _=>none
  | .delete,[m,k]=>
   match(argTypes[0]?).bind P.underlying with
   | some (.map kt _)=>do some (.delete (<-keyT P kt) (<-cx m) (<-cx k))
   | _=>none
  | .max,[x,y]=>do some (.max (<-cx x) (<-cx y))
  | .min,[x,y]=>do some (.min (<-cx x) (<-cx y))
  | _,_=>none
 | .typeAssert x _ t ok=>
  match P.underlying t with
  | some (.interface _)=>none
  | some _=>do some (.assert t ok (<-cvVal (<-zBf P t)) (<-cx x))
  | none=>none
 | .lookup t m k ok=>
  match P.underlying t with
  | some (.map kt e)=>do some (.lookup (<-keyT P kt) (<-cvVal (<-zBf P e)) ok (<-cx m) (<-cx k))
  | _=>none
 | .mapUpdate t m k x | .insert t m k x=>
  match P.underlying t with
  | some (.map kt _)=>do some (.mapUpd (<-keyT P kt) (<-cx m) (<-cx k) (<-cx x))
  | _=>none
 | .mapEntry t m k=>
  match P.underlying t with
  | some (.map kt e)=>do some (.mapEntry (<-keyT P kt) (<-cvVal (<-zBf P e)) (<-cx m) (<-cx k))
  | _=>none
 | .entryStore _ m s x=>do some (.entryStore (<-cx m) (<-cx s) (<-cx x))
 | .panic x=>(cx x).map .panic
 | .defer {callee:=.value x,args,..}=>if args.isEmpty then(cx x).map .dfr else none
 | .range t x=>
  match P.underlying t with
  | some (.map ..)=>(cx x).map .range
  | _=>none
 | .next it false=>(cx it).map .next
 | .entry it=>(cx it).map .entry
 | _=>none
def clsO:Op->Nat
 | .move _ | .assign _ | .pick .. | .build .. | .nilCheck _ | .unOp .. | .convert .. | .makeInterface .. | .makeFunc .. | .fieldAddr .. | .field .. | .indexAddr .. | .index .. | .extract .. | .typeAssert ..=>0
 | .binOp op ..=>match op with | .eql | .neq=>1 | _=>0
 | .load .. | .lookup .. | .slice ..=>1
 | .call {callee:=.builtin .len,..}=>1
 | .call {callee:=.builtin .max,..} | .call {callee:=.builtin .min,..} | .call {callee:=.builtin .cap,..}=>0
 | .alloc .. | .box .. | .buildSlice .. | .makeMap .. | .makeSlice ..=>2
 | _=>3
def zD2(ops:Array Oper)(o:Oper):List Nat:=
 (o.op.operands.toList.filterMap fun | .tmp t=>some t | _=>none)++
 (match o.guard with | some (g,_)=>((ops[g]?).bind (·.dst)).toList | none=>[])
def ancs(ops:Array Oper):List Nat:=
 (ops.toList.foldl (λ(acc:List Nat) o=>acc++[o.after.toList.foldl (λs e=>if Region.binds .any e then s ||| 2 ^ e.on ||| acc.getD e.on 0 else s) 0]) [])
def order(ops:Array Oper)(anc:List Nat):Nat->List Nat->Option (List Nat)
 | 0,done=>if done.length=ops.size then some done.reverse else none
 | n+1,done=>
  let ready (i:Nat):Bool:=!done.contains i&&(List.range ops.size).all λj=>!(anc.getD i 0).testBit j||done.contains j
  match(List.range ops.size).find? (λi=>ready i&&(match ops[i]? with | some o=>clsO o.op != 3 | none=>false)) with
  | some i=>order ops anc n (i::done)
  | none=>match(List.range ops.size).find? ready with
   | some i=>order ops anc n (i::done)
   | none=>none
def zK1(ops:Array Oper)(anc:List Nat)(ord:List Nat):Bool:=
 let bef (j i:Nat):Bool:=(anc.getD i 0).testBit j
 let n:=ops.size
 (List.range n).all (λi=>ord.contains i&&match ops[i]? with
  | some o=>o.after.all (λe=>!Region.binds .any e||decide (e.on<i)) &&
   (List.range n).all (λp=>i == p||match ops[p]? with
    | some q=>(match q.dst with
     | some d=>o.dst != some d&&(!(zD2 ops o).contains d||bef p i||bef i p)
     | none=>true)
    | none=>true)
  | none=>false) &&
 (ord.zipIdx.all λx=>ord.zipIdx.all λy=>!decide (y.2<x.2)||(x.1 != y.1&&!bef x.1 y.1&&match ops[x.1]?,ops[y.1]? with
  | some _,some oj=>clsO oj.op != 3||bef y.1 x.1
  | _,_=>false))
def zFa(m:List Nat)(ops:Array Oper)(ts:List (Option Nat))(o:Oper):Option (Option (Opd×Bool)):=
 match o.guard with
 | none=>some none
 | some (g,want)=>do some (some (<-cOpd m ts (.tmp (<-(<-ops[g]?).dst)),want))
def cOper(m:List Nat)(ops:Array Oper)(kill:Bool)(ts:List (Option Nat))(o:Oper)(re:List ARe):Option AOper:=do
 let op <-cOp P (cOpd m ts) kill o.op
 let guard <-zFa m ops ts o
 some {op,guard,out:=o.dst.bind (zAk m),re}
def zIe(m:List Nat)(ops:Array Oper)(anc:List Nat)(done:List Nat)(ts:List (Option Nat))(j:Nat):Option (List ARe):=
 done.zipIdx.foldr (λ(i,pos) acc=>do
  let acc <-acc
  let o <-ops[i]?
  if clsO o.op=1/\(anc.getD j 0).testBit i=false then
   if(done.take (pos+1)).all λp=>match(ops[p]?).bind (·.dst) with | some d=>!(zD2 ops o).contains d | none=>true then
    some ({op:=<-cOp P (cOpd m ts) false o.op,pos,guard:=<-zFa m ops ts o}::acc)
   else none
  else some acc) (some [])
def cDraw(m:List Nat)(ops:Array Oper)(anc:List Nat):List Nat->List Nat->List (Option Nat)->Option (List AOper)
 | [],_,_=>some []
 | j::rest,done,ts=>do
  let o <-ops[j]?
  let re <-if clsO o.op=3 then zIe P m ops anc done ts j else some []
  let a <-cOper P m ops false ts o re
  some (a::(<-cDraw m ops anc rest (j::done) (o.dst::ts)))
def srcOnly(m:List Nat)(ops:Array Oper)(o:Oper)(rest:List Oper):Bool:=
 match o.dst with
 | some d=>(zAk m d).isNone&&rest.all λq=>!(zD2 ops q).contains d||(match q.op with
  | .call {callee:=.builtin .append,args,..}=>(match(args[0]?:Option Operand) with | some (.tmp e)=>decide (e≠d) | _=>true)
  | _=>false)
 | none=>false
def zIf(m:List Nat)(ops:Array Oper):List Oper->List (Option Nat)->Option (List AOper)
 | [],_=>some []
 | o::rest,ts=>do
  let a <-cOper P m ops (!srcOnly m ops o rest) ts o []
  some (a::(<-zIf m ops rest (o.dst::ts)))
def zFm:Op->Bool
 | .call {callee:=.builtin .recover,..}=>true
 | _=>false
def zEi(ops:List Oper):Option (Nat×Nat):=
 match ops with
 | [{dst:=some a,op:=.call {callee:=.builtin .recover,args,..},guard:=none,..},{dst:=some b,op:=.assign (.tmp c),guard:=none,..}]=>if a=c/\args.isEmpty then some (a,b) else none
 | _=>none
def zDz(m:List Nat)(ops:Array Oper)(draw:Bool):Option ACode:=
 if draw then do
  let anc:=ancs ops
  let ord <-order ops anc ops.size []
  if zK1 ops anc ord then some (.ops (<-cDraw P m ops anc ord [] [])) else none
 else if(ops.toList.any λo=>zFm o.op) then do
  let r <-zEi ops.toList
  if(zAk m r.1).isSome then none else some (.recov (zAk m r.2))
 else do some (.ops (<-zIf P m ops ops.toList []))
def zKd:ACode:=.ops [⟨.panic (.c .bad),none,none,[]⟩]
def cCode(m:List Nat):Code->Option ACode
 | .skip=>some .skip
 | .region _ ops draw=>match zDz P m ops draw with | some c=>some c | none=>some zKd
 | .seq a b=>do some (.seq (<-cCode m a) (<-cCode m b))
 | .cond c a b=>do some (.cond (<-cOpd m [] c) (<-cCode m a) (<-cCode m b))
 | .block id a=>do some (.block id (<-cCode m a))
 | .loop a=>do some (.loop (<-cCode m a))
 | .exit id=>some (.exit id)
 | .ret=>some .ret
 | _=>some zKd
def needOps(ops:Array Oper):List Nat->List (Option Nat)->List Nat
 | [],_=>[]
 | i::rest,ts=>match ops[i]? with
  | some o=>((zD2 ops o).filter λt=>!ts.contains (some t))++needOps ops rest (o.dst::ts)
  | none=>[]
def need:Code->List Nat
 | .region _ ops draw=>
  if draw then needOps ops ((order ops (ancs ops) ops.size []).getD []) []
  else if(ops.toList.any λo=>zFm o.op) then[]
  else needOps ops (List.range ops.size) []
 | .seq a b=>need a++need b
 | .cond c a b=>(match c with | .tmp t=>[t] | _=>[])++need a++need b
 | .block _ a=>need a
 | .loop a=>need a
 | _=>[]
def dedup:List Nat->List Nat->List Nat
 | acc,[]=>acc.reverse
 | acc,x::l=>if acc.contains x then dedup acc l else dedup (x::acc) l
def slots(fn:Func)(c:Code):List Nat:=
 let n:=fn.params.size+fn.nfree
 dedup (List.range n).reverse (need c++fn.results.toList.map fun | .tmp t=>t | .cell a _=>a)
def dstOk(n:Nat):Code->Bool
 | .region _ ops _=>ops.all λo=>match o.dst with | some d=>decide (d<n) | none=>true
 | .seq a b=>dstOk n a&&dstOk n b
 | .cond _ a b=>dstOk n a&&dstOk n b
 | .block _ a=>dstOk n a
 | .loop a=>dstOk n a
 | _=>true
def cRes(m:List Nat):ResultVar->Option ARes
 | .tmp t=>(cOpd m [] (.tmp t)).map .val
 | .cell a t=>do
  let x <-cOpd m [] (.tmp a)
  let g <-tyAgg P t
  if g then some (.cellN (<-zAm P t) x) else some (.cell x)
def cFunc(f:FuncId):Option AFunc:=do
 let fn <-P.funcs[f]?
 let c <-fn.body
 let m:=slots fn c
 if fn.name= "runtime.NumGoroutine" \/dstOk fn.ntmps c=false then none else
 some {nargs:=fn.params.size+fn.nfree,body:=<-cCode P m c,res:=<-fn.results.toList.mapM (cRes P m)}
end
namespace T
variable{α:Type}
theorem get_leaf(k:Nat):(leaf:T α).get k=none:=rfl
theorem get_zero(v:Option α)(l r:T α):(node v l r).get 0=v:=rfl
theorem beq0(k:Nat):Nat.beq k 0=decide (k=0):=by cases k<;>rfl
theorem get_succ(v:Option α)(l r:T α)(k:Nat):(node v l r).get (k+1)=if k % 2=0 then l.get (k / 2) else r.get (k / 2):=by
 show Bool.rec (motive:=λ_=>Option α) (r.get (k / 2)) (l.get (k / 2)) (Nat.beq (k % 2) 0)=_;rw[beq0];by_cases h:k % 2=0<;>simp[h]
theorem tput_leaf(o:Option α)(k:Nat):tput o leaf k=mk1 o k k:=rfl
theorem tput_zero(o v:Option α)(l r:T α):tput o (node v l r) 0=node o l r:=rfl
theorem tput_succ(o v:Option α)(l r:T α)(k:Nat):tput o (node v l r) (k+1)=if k % 2=0 then node v (tput o l (k / 2)) r else node v l (tput o r (k / 2)):=by
 show Bool.rec (motive:=λ_=>T α) (node v l (tput o r (k / 2))) (node v (tput o l (k / 2)) r) (Nat.beq (k % 2) 0)=_;rw[beq0];by_cases h:k % 2=0<;>simp[h]
theorem zLn(o:Option α)(f:Nat):mk1 o f 0=node o leaf leaf:=by cases f<;>rfl
theorem mk1_succ(o:Option α)(f k:Nat):mk1 o (f+1) (k+1)=if k % 2=0 then node none (mk1 o f (k / 2)) leaf else node none leaf (mk1 o f (k / 2)):=by
 show Nat.rec (motive:=λ_=>T α) (node none (mk1 o f (k / 2)) leaf) (λ_ _=>node none leaf (mk1 o f (k / 2))) (k % 2)=_;cases h:k % 2 with
 | zero=>exact(if_pos rfl).symm
 | succ n=>exact(if_neg (by omega)).symm
theorem get_mk1_self(o:Option α):∀(f k:Nat),k<=f->(mk1 o f k).get k=o:=by
 intro f;induction f with
 | zero=>intro k h;obtain rfl:k=0:=by omega
         rfl
 | succ f ih=>
  intro k h;cases k with
  | zero=>rw[zLn,get_zero]
  | succ k=>
   rw[mk1_succ];split
   ·rw[get_succ,if_pos ‹_›];exact ih _ (by omega)
   ·rw[get_succ,if_neg ‹_›];exact ih _ (by omega)
theorem get_mk1_ne(o:Option α):∀(f k j:Nat),k<=f->k≠j->(mk1 o f k).get j=none:=by
 intro f;induction f with
 | zero=>
  intro k j h hne;obtain rfl:k=0:=by omega
  rw[zLn];cases j with
  | zero=>exact absurd rfl hne
  | succ j=>rw[get_succ];split<;>rfl
 | succ f ih=>
  intro k j h hne;cases k with
  | zero=>
   rw[zLn];cases j with
   | zero=>exact absurd rfl hne
   | succ j=>rw[get_succ];split<;>rfl
  | succ k=>
   rw[mk1_succ];split<;>rename_i hk
   ·cases j with
    | zero=>rfl
    | succ j=>
     rw[get_succ];split
     ·exact ih _ _ (by omega) (by omega)
     ·rfl
   ·cases j with
    | zero=>rfl
    | succ j=>
     rw[get_succ];split
     ·rfl
     ·exact ih _ _ (by omega) (by omega)
theorem get_log(n k':Nat)(v:Option α)(t:T α)(k:Nat):(log n k' v t).get k=if k'=k then v else t.get k:=by
 show Bool.rec (motive:=λ_=>Option α) (t.get k) v (Nat.beq k' k)=_;by_cases h:k'=k
 ·subst h;rw[q0K,if_pos rfl]
 ·have:Nat.beq k' k=false:=by
   cases hb:Nat.beq k' k with
   | false=>rfl
   | true=>exact absurd (q0f hb) h
  rw[this,if_neg h]
theorem zLx(o:Option α):∀(t:T α) (k:Nat),(tput o t k).get k=o:=by
 intro t;induction t with
 | leaf=>intro k;rw[tput_leaf];exact get_mk1_self o k k (q0c _)
 | node v l r ihl ihr=>
  intro k;cases k with
  | zero=>rfl
  | succ k=>
   rw[tput_succ];split
   ·rw[get_succ,if_pos ‹_›];exact ihl _
   ·rw[get_succ,if_neg ‹_›];exact ihr _
 | log n k' v t ih=>intro k;show(log n k o (log n k' v t)).get k=o;rw[get_log,if_pos rfl]
theorem get_tput_ne(o:Option α):∀(t:T α) (k j:Nat),k≠j->(tput o t k).get j=t.get j:=by
 intro t;induction t with
 | leaf=>intro k j h;rw[tput_leaf,get_mk1_ne o k k j (q0c _) h,get_leaf]
 | node v l r ihl ihr=>
  intro k j h;cases k with
  | zero=>
   cases j with
   | zero=>exact absurd rfl h
   | succ j=>rw[tput_zero,get_succ,get_succ]
  | succ k=>
   rw[tput_succ];split<;>rename_i hk
   ·cases j with
    | zero=>rfl
    | succ j=>
     rw[get_succ,get_succ];split
     ·exact ihl _ _ (by omega)
     ·rfl
   ·cases j with
    | zero=>rfl
    | succ j=>
     rw[get_succ,get_succ];split
     ·rfl
     ·exact ihr _ _ (by omega)
 | log n k' v t ih=>intro k j h;show(log n k o (log n k' v t)).get j=_;rw[get_log,if_neg h]
theorem get_flush:∀(t:T α) (j:Nat),(flush t).get j=t.get j:=by
 intro t;induction t with
 | leaf=>intro j;rfl
 | node v l r _ _=>intro j;rfl
 | log n k v t ih=>
  intro j;show(tput v (flush t) k).get j=_;rw[get_log];by_cases h:k=j
  ·subst h;rw[zLx,if_pos rfl]
  ·rw[get_tput_ne _ _ _ _ h,if_neg h,ih]
theorem get_push(o:Option α)(t:T α)(k j:Nat):(push o t k).get j=if k=j then o else t.get j:=by
 cases t with
 | leaf=>exact get_log _ _ _ _ _
 | node v l r=>exact get_log _ _ _ _ _
 | log n k' v t=>
  show(Bool.rec (motive:=λ_=>T α) (.log 1 k o (flush (.log n k' v t))) (.log (Nat.succ n) k o (.log n k' v t)) (Nat.ble n 7):T α).get j=_;cases Nat.ble n 7 with
  | true=>exact get_log _ _ _ _ _
  | false=>show(T.log 1 k o (flush (.log n k' v t))).get j=_;rw[get_log,get_flush]
theorem get_updLog(o:Option α):∀(t:T α) (k j:Nat),t.inLog k=true->(updLog o t k).get j=if k=j then o else t.get j:=by
 intro t;induction t with
 | leaf=>intro k j h;cases h
 | node v l r _ _=>intro k j h;cases h
 | log n k' v t ih=>
  intro k j h;have h:(Bool.rec (motive:=λ_=>Bool) (t.inLog k) true (Nat.beq k' k):Bool)=true:=h;show(Bool.rec (motive:=λ_=>T α) (.log n k' v (updLog o t k)) (.log n k' o t) (Nat.beq k' k):T α).get j=_;cases hb:Nat.beq k' k with
  | true=>
   have e:=q0f hb;subst e;show(T.log n k' o t).get j=_;rw[get_log,get_log];by_cases h:k'=j<;>simp[h]
  | false=>
   rw[hb] at h;show(T.log n k' v (updLog o t k)).get j=_;rw[get_log,ih k j h,get_log];by_cases h1:k'=j
   ·subst h1;have:¬k=k':=λe=>by rw[e,q0K] at hb;cases hb
    simp[this]
   ·simp[h1]
theorem get_put(o:Option α)(t:T α)(k j:Nat):(put o t k).get j=if k=j then o else t.get j:=by
 show(Bool.rec (motive:=λ_=>T α) (push o t k) (updLog o t k) (inLog t k):T α).get j=_;cases h:inLog t k with
 | true=>exact get_updLog o t k j h
 | false=>exact get_push o t k j
theorem get_put_self(o:Option α)(t:T α)(k:Nat):(put o t k).get k=o:=by rw[get_put,if_pos rfl]
theorem get_put_ne(o:Option α)(t:T α)(k j:Nat)(h:k≠j):(put o t k).get j=t.get j:=by rw[get_put,if_neg h]
end T
theorem zBd(l:List AV):llen l=l.length:=by
 induction l with
 | nil=>rfl
 | cons v l ih=>show Nat.succ (llen l)=_;rw[ih];rfl
theorem zCt(a b:List AV):lapp a b=a++b:=by
 induction a with
 | nil=>rfl
 | cons v l ih=>show v::lapp l b=_;rw[ih];rfl
theorem zFy(n:Nat)(l:List AV):ltake n l=l.take n:=by
 induction n generalizing l with
 | zero=>simp;rfl
 | succ n ih=>cases l with
  | nil=>rfl
  | cons v l=>show v::ltake n l=_;rw[ih];rfl
theorem zIp(n:Nat)(l:List AV):ldrop n l=l.drop n:=by
 induction n generalizing l with
 | zero=>rfl
 | succ n ih=>cases l with
  | nil=>rfl
  | cons v l=>show ldrop n l=_;rw[ih];rfl
theorem zE0(l:List AV)(n:Nat):lrep l n=(List.replicate n l).flatten:=by
 induction n with
 | zero=>rfl
 | succ n ih=>show lapp l (lrep l n)=_;rw[ih,zCt,List.replicate_succ,List.flatten_cons]
theorem nth_eq(l:List AV)(i:Nat):nth l i=l.getD i AV.bad:=by
 induction l generalizing i with
 | nil=>rfl
 | cons v l ih=>cases i with
  | zero=>rfl
  | succ i=>show nth l i=_;rw[ih];simp
theorem zB9(l:List AV):∀(c:T AV) (off i:Nat),(putL l c off).get i=if off<=i/\i<off+l.length then l[i-off]? else c.get i:=by
 induction l with
 | nil=>intro c off i;show c.get i=_;rw[if_neg (by rw[List.length_nil];omega)]
 | cons v l ih=>
  intro c off i;show(putL l (T.put (some v) c off) (off+1)).get i=_;rw[ih,T.get_put];by_cases h1:off=i
  ·subst h1;rw[if_pos rfl,if_neg (by omega),if_pos (by rw[q0P];omega)];simp
  ·rw[if_neg h1];by_cases h2:off+1<=i/\i<off+1+l.length
   ·rw[if_pos h2,if_pos (by rw[q0P];omega)];obtain⟨j,hj⟩:∃j,i-off=j+1:=⟨i-off-1,by omega⟩;rw[hj,show i-(off+1)=j by omega];simp
   ·rw[if_neg h2,if_neg (by rw[q0P];omega)]
theorem zAe(l:List AV)(i:Nat):(zAa l).get i=l[i]?:=by
 show(putL l T.leaf 0).get i=_;rw[zB9];by_cases h:i<l.length
 ·rw[if_pos (by omega)];simp
 ·rw[if_neg (by omega),T.get_leaf,q0i (by omega)]
theorem storeL_some{l:List AV}:∀{c c':T AV} {off:Nat},zBr l c off=some c'->c'=putL l c off/\∀i,off<=i->i<off+l.length->c.get i≠none:=by
 induction l with
 | nil=>intro c c' off h;exact⟨(Option.some.inj h).symm,λi h1 h2=>by simp at h2;omega⟩
 | cons v l ih=>
  intro c c' off h;have h':obind (c.get off) none (λ_=>zBr l (T.put (some v) c off) (off+1))=some c':=h;cases hg:c.get off with
  | none=>rw[hg] at h';cases h'
  | some x=>
   rw[hg] at h';obtain⟨e,hall⟩:=ih h';refine⟨e,λi h1 h2=>?_⟩;by_cases hi:off=i
   ·subst hi;rw[hg];simp
   ·have:=hall i (by omega) (by simp at h2;omega)
    rwa [T.get_put_ne _ _ _ _ hi] at this
theorem zCg{c:T AV}:∀{n off:Nat} {l:List AV},loadL c n off=some l->l.length=n/\∀i,i<n->c.get (off+i)=l[i]?:=by
 intro n;induction n with
 | zero=>intro off l h;obtain rfl:=Option.some.inj h;exact⟨rfl,λi h=>by omega⟩
 | succ n ih=>
  intro off l h;have h':obind (c.get off) none (λv=>obind (loadL c n (off+1)) none λl=>some (v::l))=some l:=h;cases hg:c.get off with
  | none=>rw[hg] at h';cases h'
  | some x=>
   rw[hg] at h';have h'':obind (loadL c n (off+1)) none (λl=>some (x::l))=some l:=h';cases hl:loadL c n (off+1) with
   | none=>rw[hl] at h'';cases h''
   | some l'=>
    rw[hl] at h'';obtain rfl:=Option.some.inj h'';obtain⟨e,hall⟩:=ih hl;refine⟨by simp[e],λi hi=>?_⟩;cases i with
    | zero=>simpa using hg
    | succ i=>rw[show off+(i+1)=off+1+i by omega,hall i (by omega)];simp
abbrev Rho:=Nat->Option (Nat×Nat×Nat)
def AV.isCell:AV->Bool
 | .bad | .agg _ | .tup _=>false
 | _=>true
inductive CapR:ACap->(off s len cap:Nat)->Prop
 | known {off s len c:Nat}:len<=c->CapR (.known c) off s len c
 | rest {es off s len c:Nat}:off+c*es=s->len<=c->CapR (.rest es) off s len c
mutual
inductive VR(ρ:Rho):AV->Value->Prop
 | bad (v:Value):VR ρ .bad v
 | bool (b:Bool):VR ρ (.bool b) (.bool b)
 | int (k:IntKind) (n:Int):VR ρ (.int k n) (.int k n)
 | str {len b:Nat} (s:ByteArray):len=s.data.toList.length->b=encB s.data.toList->VR ρ (.str len b) (.string s)
 | ptr {id off b o s p:Nat}:ρ id=some (b,o,s)->p=o+off->VR ρ (.ptr id off) (.pointer (some ⟨b,p,none⟩))
 | nilp:VR ρ .nilp (.pointer none)
 | sl {id off len b o s p c:Nat} {cap:ACap}:ρ id=some (b,o,s)->p=o+off->CapR cap off s len c->VR ρ (.sl id off len cap) (.slice (some ⟨b,p,none⟩) len c)
 | slz {id off:Nat} {a:Addr}:VR ρ (.sl id off 0 (.known 0)) (.slice (some a) 0 0)
 | sle {id off c:Nat} {a:Addr}:VR ρ (.sl id off 0 (.rest 0)) (.slice (some a) 0 c)
 | nils:VR ρ .nils (.slice none 0 0)
 | mp {id b s:Nat}:ρ id=some (b,0,s)->VR ρ (.mp id) (.map (some b))
 | nilm:VR ρ .nilm (.map none)
 | fn {f:Nat} {a c:List AV} {a' c':List Value} {x y:Array Value}:VRs ρ a a'->VRs ρ c c'->x=a'.toArray->y=c'.toArray->VR ρ (.fn f a c) (.func (.func f) x y)
 | nilf:VR ρ .nilf .nilFunc
 | ifc {t:Nat} {v:AV} {v':Value}:VR ρ v v'->VR ρ (.ifc t v) (.iface t v')
 | nili:VR ρ .nili .nilIface
 | agg {l:List AV} {l':List Value} {x:Array Value}:VCs ρ l l'->x=l'.toArray->VR ρ (.agg l) (.agg x)
 | tup {l:List AV} {l':List Value} {x:Array Value}:VRs ρ l l'->x=l'.toArray->VR ρ (.tup l) (.tuple x)
inductive VRs(ρ:Rho):List AV->List Value->Prop
 | nil:VRs ρ [] []
 | cons {a:AV} {v:Value} {l:List AV} {l':List Value}:VR ρ a v->VRs ρ l l'->VRs ρ (a::l) (v::l')
inductive VCs(ρ:Rho):List AV->List Value->Prop
 | nil:VCs ρ [] []
 | cons {a:AV} {v:Value} {l:List AV} {l':List Value}:a.isCell=true->VR ρ a v->VCs ρ l l'->VCs ρ (a::l) (v::l')
end
def Rho.le(ρ ρ':Rho):Prop:=∀id x,ρ id=some x->ρ' id=some x
theorem Rho.le_refl(ρ:Rho):ρ.le ρ:=λ_ _ h=>h
theorem Rho.le_trans{a b c:Rho}(h:a.le b)(k:b.le c):a.le c:=λi x e=>k i x (h i x e)
mutual
theorem VR.mono{ρ ρ':Rho}(h:ρ.le ρ'):∀{a:AV} {v:Value},VR ρ a v->VR ρ' a v
 | _,_,.bad v=>.bad v
 | _,_,.bool b=>.bool b
 | _,_,.int k n=>.int k n
 | _,_,.str s e1 e2=>.str s e1 e2
 | _,_,.ptr e p=>.ptr (h _ _ e) p
 | _,_,.nilp=>.nilp
 | _,_,.sl e p c=>.sl (h _ _ e) p c
 | _,_,.slz=>.slz
 | _,_,.sle=>.sle
 | _,_,.nils=>.nils
 | _,_,.mp e=>.mp (h _ _ e)
 | _,_,.nilm=>.nilm
 | _,_,.fn a c x y=>.fn (VRs.mono h a) (VRs.mono h c) x y
 | _,_,.nilf=>.nilf
 | _,_,.ifc v=>.ifc (VR.mono h v)
 | _,_,.nili=>.nili
 | _,_,.agg l x=>.agg (VCs.mono h l) x
 | _,_,.tup l x=>.tup (VRs.mono h l) x
theorem VRs.mono{ρ ρ':Rho}(h:ρ.le ρ'):∀{l:List AV} {l':List Value},VRs ρ l l'->VRs ρ' l l'
 | _,_,.nil=>.nil
 | _,_,.cons a r=>.cons (VR.mono h a) (VRs.mono h r)
theorem VCs.mono{ρ ρ':Rho}(h:ρ.le ρ'):∀{l:List AV} {l':List Value},VCs ρ l l'->VCs ρ' l l'
 | _,_,.nil=>.nil
 | _,_,.cons c a r=>.cons c (VR.mono h a) (VCs.mono h r)
end
theorem VRs.length{ρ:Rho}:∀{l:List AV} {l':List Value},VRs ρ l l'->l.length=l'.length
 | _,_,.nil=>rfl
 | _,_,.cons _ r=>by simp[VRs.length r]
theorem VCs.length{ρ:Rho}:∀{l:List AV} {l':List Value},VCs ρ l l'->l.length=l'.length
 | _,_,.nil=>rfl
 | _,_,.cons _ _ r=>by simp[VCs.length r]
theorem VRs.get{ρ:Rho}:∀{l:List AV} {l':List Value} {i:Nat} {a:AV},VRs ρ l l'->l[i]?=some a->∃v,l'[i]?=some v/\VR ρ a v
 | _,_,i,a,.nil,h=>by simp at h
 | _,_,0,a,.cons x r,h=>by simp at h;subst h;exact⟨_,by simp,x⟩
 | _,_,i+1,a,.cons x r,h=>by simp at h;obtain⟨v,e,k⟩:=VRs.get r h;exact⟨v,by simpa using e,k⟩
theorem VCs.get{ρ:Rho}:∀{l:List AV} {l':List Value} {i:Nat} {a:AV},VCs ρ l l'->l[i]?=some a->∃v,l'[i]?=some v/\VR ρ a v/\a.isCell=true
 | _,_,i,a,.nil,h=>by simp at h
 | _,_,0,a,.cons c x r,h=>by simp at h;subst h;exact⟨_,by simp,x,c⟩
 | _,_,i+1,a,.cons c x r,h=>by simp at h;obtain⟨v,e,k⟩:=VCs.get r h;exact⟨v,by simpa using e,k⟩
theorem VCs.append{ρ:Rho}:∀{a b:List AV} {a' b':List Value},VCs ρ a a'->VCs ρ b b'->VCs ρ (a++b) (a'++b')
 | _,_,_,_,.nil,h=>h
 | _,_,_,_,.cons c x r,h=>.cons c x (VCs.append r h)
theorem VRs.append{ρ:Rho}:∀{a b:List AV} {a' b':List Value},VRs ρ a a'->VRs ρ b b'->VRs ρ (a++b) (a'++b')
 | _,_,_,_,.nil,h=>h
 | _,_,_,_,.cons x r,h=>.cons x (VRs.append r h)
theorem VCs.take{ρ:Rho}:∀{a:List AV} {a':List Value} (n:Nat),VCs ρ a a'->VCs ρ (a.take n) (a'.take n)
 | _,_,0,_=>by simp;exact .nil
 | _,_,_+1,.nil=>by simp;exact .nil
 | _,_,n+1,.cons c x r=>by simp;exact .cons c x (VCs.take n r)
theorem VCs.drop{ρ:Rho}:∀{a:List AV} {a':List Value} (n:Nat),VCs ρ a a'->VCs ρ (a.drop n) (a'.drop n)
 | _,_,0,h=>by simpa using h
 | _,_,_+1,.nil=>by simp;exact .nil
 | _,_,n+1,.cons c x r=>by simpa using VCs.drop n r
theorem VCs.of_get{ρ:Rho}:∀{l:List AV} {l':List Value},l.length=l'.length->(∀(i:Nat) (a:AV),l[i]?=some a->∃v,l'[i]?=some v/\VR ρ a v/\a.isCell=true)->VCs ρ l l'
 | [],[],_,_=>.nil
 | [],_::_,h,_=>by simp at h
 | _::_,[],h,_=>by simp at h
 | a::l,v::l',h,hall=>by
  obtain⟨v',e,k,c⟩:=hall 0 a (by simp);simp at e;subst e;exact .cons c k (VCs.of_get (by simpa using h) λi x hx=>by simpa using hall (i+1) x (by simpa using hx))
inductive ERs(ρ:Rho):List (AV×AV×Nat)->List MapEntry->Prop
 | nil:ERs ρ [] []
 | cons {k x:AV} {n:Nat} {e:MapEntry} {l:List (AV×AV×Nat)} {l':List MapEntry}:VR ρ k e.key->VR ρ x e.val->e.born=n->ERs ρ l l'->ERs ρ ((k,x,n)::l) (e::l')
theorem ERs.mono{ρ ρ':Rho}(h:ρ.le ρ'):∀{l:List (AV×AV×Nat)} {l':List MapEntry},ERs ρ l l'->ERs ρ' l l'
 | _,_,.nil=>.nil
 | _,_,.cons a b c r=>.cons (a.mono h) (b.mono h) c (ERs.mono h r)
inductive ObjR(ρ:Rho):AObj->Obj->(o s:Nat)->Prop
 | cells {c:T AV} {size:Nat} {opn:Option Nat} {ro:Bool} {cs:Array Value} {e:TypeId} {fr:Nat×Nat} {o s:Nat} :
  o+s<=cs.size->size<=s->(∀i a,c.get i=some a->i<size/\a.isCell=true/\∃v,cs[o+i]?=some v/\VR ρ a v)->
  (ro=false->fr.2=0)->(∀t,opn=some t->e=t/\o=0)->ObjR ρ (.cells c size opn ro) (.cells cs e fr) o s
 | map {es:List (AV×AV×Nat)} {clock:Nat} {es':Array MapEntry} {s:Nat}:ERs ρ es es'.toList->ObjR ρ (.map es clock) (.map es' clock) 0 s
 | iterN {since last:Nat} {seen':Array Nat} {since' last' s:Nat} {seen:List Nat}:ObjR ρ (.iter none since seen last) (.mapIter none since' seen' last') 0 s
 | iter {m since last:Nat} {seen:List Nat} {seen':Array Nat} {b s s':Nat}:ρ m=some (b,0,s')->seen'=seen.reverse.toArray->ObjR ρ (.iter (some m) since seen last) (.mapIter (some b) since seen' last) 0 s
theorem ObjR.mono{ρ ρ':Rho}(h:ρ.le ρ'){a:AObj}{x:Obj}{o s:Nat}(k:ObjR ρ a x o s):ObjR ρ' a x o s:=by
 cases k with
 | cells a b c d f=>exact .cells a b (λi x hx=>let⟨p,q,v,e,r⟩:=c i x hx;⟨p,q,v,e,r.mono h⟩) d f
 | map a=>exact .map (a.mono h)
 | iterN=>exact .iterN
 | iter a b=>exact .iter (h _ _ a) b
def AObj.ro:AObj->Bool
 | .cells _ _ _ r=>r
 | _=>false
class Glob where
 n:Nat
 g:Nat->Option Obj
instance(priority:=low) Glob.nobody:Glob:=⟨0,λ_=>none⟩
structure WR0(ρ:Rho)(h:AH)(w:World):Prop where
 obj:∀{id o b p s},h.mem.get id=some o->ρ id=some (b,p,s)->∃x,w.heap[b]?=some x/\ObjR ρ o x p s
 inj:∀{i j o o' b p s p' s'},h.mem.get i=some o->h.mem.get j=some o'->i≠j->ρ i=some (b,p,s)->ρ j=some (b,p',s')->o.ro=true/\o'.ro=true
 dom:∀{id x},ρ id=some x->id<h.next/\x.1<w.heap.size
 fresh:∀{id},h.next<=id->h.mem.get id=none
def Owned(ρ:Rho)(h:AH)(k:Nat):Prop:=∃id o p s,h.mem.get id=some o/\o.ro=false/\ρ id=some (k,p,s)
structure Step(ρ:Rho)(h:AH)(w:World)(ρ':Rho)(h':AH)(w':World):Prop where
 le:ρ.le ρ'
 own:∀{k},k<w.heap.size->Owned ρ' h' k->Owned ρ h k
 frame:∀{k},k<w.heap.size->¬Owned ρ h k->w'.heap[k]?=w.heap[k]?
 size:w.heap.size<=w'.heap.size
 os:w'.os=w.os
 tape:w'.tape=w.tape
 output:w'.output=w.output
 next:h.next<=h'.next
 keep:∀{id},id<h.next->ρ id=none->h'.mem.get id=h.mem.get id
 new:∀{id},ρ id=none->ρ' id≠none->h.next<=id
structure WR[Glob](ρ:Rho)(h:AH)(w:World):Prop extends WR0 ρ h w where
 gl:∀k,k<Glob.n->k<w.heap.size/\w.heap[k]?=Glob.g k/\¬Owned ρ h k
theorem WR.step[Glob]{ρ:Rho}{h:AH}{w:World}(W:WR ρ h w){ρ':Rho}{h':AH}{w':World}(x:WR0 ρ' h' w'/\Step ρ h w ρ' h' w'):WR ρ' h' w'/\Step ρ h w ρ' h' w':=
 ⟨⟨x.1,λk hk=>have⟨a,b,c⟩:=W.gl k hk;⟨q0d a x.2.size,by rw[x.2.frame a c];exact b,λo=>c (x.2.own a o)⟩⟩,x.2⟩
theorem Step.refl(ρ:Rho)(h:AH)(w:World):Step ρ h w ρ h w:=
 ⟨ρ.le_refl,λ_ k=>k,λ_ _=>rfl,q0c _,rfl,rfl,rfl,q0c _,λ_ _=>rfl,λa b=>absurd a b⟩
theorem Step.trans{ρ ρ1 ρ2:Rho}{h h1 h2:AH}{w w1 w2:World}(a:Step ρ h w ρ1 h1 w1)(b:Step ρ1 h1 w1 ρ2 h2 w2):Step ρ h w ρ2 h2 w2:=by
 refine⟨Rho.le_trans a.le b.le,λhk ho=>a.own hk (b.own (q0d hk a.size) ho),λhk ho=>?_,q0m a.size b.size,b.os.trans a.os,b.tape.trans a.tape,
  b.output.trans a.output,q0m a.next b.next,λhi hn=>?_,λhn hne=>?_⟩
 ·rw[b.frame (q0d hk a.size) (λo=>ho (a.own hk o)),a.frame hk ho]
 ·rename_i id;have h1n:ρ1 id=none:=by
   cases e:ρ1 id with
   | none=>rfl
   | some x=>have:=a.new hn (by simp[e]);omega
  rw[b.keep (q0d hi a.next) h1n,a.keep hi hn]
 ·rename_i id;cases e:ρ1 id with
  | none=>exact q0m a.next (b.new e hne)
  | some x=>exact a.new hn (by simp[e])
theorem q1a:type_of% @T.get_put_ne:= @T.get_put_ne
theorem q1b:type_of% @T.get_put_self:= @T.get_put_self
theorem q2n:type_of% @Rho.le_trans:= @Rho.le_trans
variable[Glob]
structure Same(w w':World):Prop where
 os:w'.os=w.os
 tape:w'.tape=w.tape
 output:w'.output=w.output
theorem Same.refl(w:World):Same w w:=⟨rfl,rfl,rfl⟩
theorem WR0.of_heap{ρ:Rho}{h:AH}{w w':World}(W:WR0 ρ h w)(e:w'.heap=w.heap):WR0 ρ h w':=
 ⟨λa b=>by rw[e];exact W.obj a b,W.inj,λa=>by rw[e];exact W.dom a,W.fresh⟩
theorem Step.of_heap{ρ:Rho}{h:AH}{w w':World}(e:w'.heap=w.heap)(s:Same w w'):Step ρ h w ρ h w':=
 ⟨ρ.le_refl,λ_ k=>k,λ_ _=>by rw[e],by rw[e];exact q0c _,s.os,s.tape,s.output,q0c _,λ_ _=>rfl,λa b=>absurd a b⟩
def Rho.ext(ρ:Rho)(id:Nat)(x:Nat×Nat×Nat):Rho:=λi=>if i=id then some x else ρ i
theorem Rho.ext_self(ρ:Rho)(id:Nat)(x:Nat×Nat×Nat):ρ.ext id x id=some x:=by simp[Rho.ext]
theorem Rho.ext_ne(ρ:Rho){id i:Nat}(x:Nat×Nat×Nat)(h:i≠id):ρ.ext id x i=ρ i:=by simp[Rho.ext,h]
theorem Rho.le_ext{ρ:Rho}{id:Nat}{x:Nat×Nat×Nat}(h:ρ id=none):ρ.le (ρ.ext id x):=by
 intro i y e;by_cases hi:i=id
 ·subst hi;rw[h] at e;cases e
 ·rw[Rho.ext_ne _ _ hi];exact e
theorem WR0.none_next{ρ:Rho}{h:AH}{w:World}(W:WR0 ρ h w):ρ h.next=none:=by
 cases e:ρ h.next with
 | none=>rfl
 | some x=>have:=(W.dom e).1;omega
noncomputable def AH.add(h:AH)(o:AObj):AH:=⟨T.put (some o) h.mem h.next,h.next+1⟩
theorem AH.new_eq{β:Type}(h:AH)(o:AObj)(k:Nat->AH->β):h.new o k=k h.next (h.add o):=by
 cases h with
 | mk m n=>cases n<;>rfl
theorem AH.get_eq(h:AH)(id:Nat):h.get id=h.mem.get id:=by cases h;rfl
theorem AH.set_eq(h:AH)(id:Nat)(o:AObj):h.set id o=⟨T.put (some o) h.mem id,h.next⟩:=by cases h;rfl
theorem AH.kill_eq(h:AH)(id:Nat):h.kill id=⟨T.put none h.mem id,h.next⟩:=by cases h;rfl
theorem AH.kill_next(h:AH)(id:Nat):(h.kill id).next=h.next:=by rw[AH.kill_eq]
theorem WR0.alloc{ρ:Rho}{h:AH}{w w':World}(W:WR0 ρ h w){o:AObj}{x:Obj}{s:Nat}(hx:ObjR ρ o x 0 s)(hh:w'.heap=w.heap.push x)(hs:Same w w') :
  WR0 (ρ.ext h.next (w.heap.size,0,s)) (h.add o) w'/\Step ρ h w (ρ.ext h.next (w.heap.size,0,s)) (h.add o) w':=by
 have hn:=W.none_next;have hle:ρ.le (ρ.ext h.next (w.heap.size,0,s)):=Rho.le_ext hn;have hget:∀i,(h.add o).mem.get i=if h.next=i then some o else h.mem.get i:=λi=>T.get_put _ _ _ _;have hold:∀k,k<w.heap.size->w'.heap[k]?=w.heap[k]?:=λk hk=>by rw[hh,Array.getElem?_push,if_neg (by omega)]
 have hown:∀{k},k<w.heap.size->Owned (ρ.ext h.next (w.heap.size,0,s)) (h.add o) k->Owned ρ h k:=by
  rintro k hk ⟨i,o',p,s',hg,hr,he⟩;rw[hget] at hg;by_cases hi:h.next=i
  ·subst hi;rw[Rho.ext_self] at he;injection he with he;injection he with he _;omega
  ·rw[if_neg hi] at hg;rw[Rho.ext_ne _ _ (Ne.symm hi)] at he;exact⟨i,o',p,s',hg,hr,he⟩
 refine⟨⟨?_,?_,?_,?_⟩,⟨hle,hown,λhk _=>hold _ hk,by rw[hh];simp,hs.os,hs.tape,hs.output,q0w _,?_,?_⟩⟩
 ·intro id o' b p s' hg he;rw[hget] at hg;by_cases hi:h.next=id
  ·subst hi;rw[if_pos rfl] at hg;rw[Rho.ext_self] at he;injection hg with hg;subst hg;injection he with he;injection he with h1 h2;injection h2 with h2 h3;subst h1;subst h2;subst h3;exact⟨x,by rw[hh];simp,hx.mono hle⟩
  ·rw[if_neg hi] at hg;rw[Rho.ext_ne _ _ (Ne.symm hi)] at he;obtain⟨y,hy,hr⟩:=W.obj hg he;exact⟨y,by rw[hold _ (W.dom he).2];exact hy,hr.mono hle⟩
 ·intro i j o1 o2 b p s1 p' s2 h1 h2 hne e1 e2;rw[hget] at h1 h2;by_cases hi:h.next=i
  ·subst hi;have hj:¬h.next=j:=hne;rw[Rho.ext_self] at e1;rw[Rho.ext_ne _ _ (Ne.symm hj)] at e2;injection e1 with e1;injection e1 with e1 _;have:=(W.dom e2).2;omega
  ·by_cases hj:h.next=j
   ·subst hj;rw[Rho.ext_self] at e2;rw[Rho.ext_ne _ _ (Ne.symm hi)] at e1;injection e2 with e2;injection e2 with e2 _;have:=(W.dom e1).2;omega
   ·rw[if_neg hi] at h1;rw[if_neg hj] at h2;rw[Rho.ext_ne _ _ (Ne.symm hi)] at e1;rw[Rho.ext_ne _ _ (Ne.symm hj)] at e2;exact W.inj h1 h2 hne e1 e2
 ·intro id y he;by_cases hi:h.next=id
  ·subst hi;rw[Rho.ext_self] at he;injection he with he;subst he;exact⟨q0h _,by rw[hh];simp⟩
  ·rw[Rho.ext_ne _ _ (Ne.symm hi)] at he;have:=W.dom he;exact⟨Nat.lt_succ_of_lt this.1,by rw[hh];simp;omega⟩
 ·intro id hid;have hid':h.next+1<=id:=hid;rw[hget,if_neg (by omega)];exact W.fresh (by omega)
 ·intro id hid _;rw[hget,if_neg (by omega)]
 ·intro id _ h2;by_cases hi:h.next=id
  ·omega
  ·rw[Rho.ext_ne _ _ (Ne.symm hi)] at h2;exact absurd ‹_› h2
theorem WR0.set{ρ:Rho}{h:AH}{w w':World}(W:WR0 ρ h w){id b p s:Nat}{o o':AObj}{x:Obj}(hg:h.mem.get id=some o)(hro:o.ro=false)(hr:ρ id=some (b,p,s))
  (hro':o'.ro=false) (hx:ObjR ρ o' x p s) (hb:w'.heap[b]?=some x) (hk:∀k,k≠b->w'.heap[k]?=w.heap[k]?) (hsz:w'.heap.size=w.heap.size) (hs:Same w w') :
  WR0 ρ (h.set id o') w'/\Step ρ h w ρ (h.set id o') w':=by
 rw[AH.set_eq];have hget:∀i,(T.put (some o') h.mem id).get i=if id=i then some o' else h.mem.get i:=λi=>T.get_put _ _ _ _;have hown:∀{k},Owned ρ ⟨T.put (some o') h.mem id,h.next⟩ k->Owned ρ h k:=by
  rintro k ⟨i,q,p',s',h1,h2,h3⟩;simp only[hget] at h1;by_cases hi:id=i
  ·subst hi;exact⟨id,o,p',s',hg,hro,h3⟩
  ·rw[if_neg hi] at h1;exact⟨i,q,p',s',h1,h2,h3⟩
 refine⟨⟨?_,?_,λa=>by rw[hsz];exact W.dom a,?_⟩,⟨ρ.le_refl,λ_ o=>hown o,?_,by rw[hsz];exact q0c _,hs.os,hs.tape,hs.output,q0c _,?_,λa b=>absurd a b⟩⟩
 ·intro i q b' p' s' h1 h2;simp only[hget] at h1;by_cases hi:id=i
  ·subst hi;rw[if_pos rfl] at h1;injection h1 with h1;subst h1;rw[hr] at h2;injection h2 with h2;injection h2 with h3 h4;injection h4 with h4 h5;subst h3;subst h4;subst h5;exact⟨x,hb,hx⟩
  ·rw[if_neg hi] at h1;obtain⟨y,hy,hyr⟩:=W.obj h1 h2;refine⟨y,?_,hyr⟩;rw[hk b' (λe=>?_)];exact hy;subst e;have:=(W.inj hg h1 hi hr h2).1;rw[hro] at this;cases this
 ·intro i j o1 o2 b1 p1 s1 p2 s2 h1 h2 hne e1 e2;simp only[hget] at h1 h2;by_cases hi:id=i
  ·subst hi;rw[if_neg hne] at h2;have:=(W.inj hg h2 hne e1 e2).1;rw[hro] at this;cases this
  ·by_cases hj:id=j
   ·subst hj;rw[if_neg hi] at h1;have:=(W.inj h1 hg hne e1 e2).2;rw[hro] at this;cases this
   ·rw[if_neg hi] at h1;rw[if_neg hj] at h2;exact W.inj h1 h2 hne e1 e2
 ·intro i hi;show(T.put (some o') h.mem id).get i=none;rw[hget];have:=(W.dom hr).1;rw[if_neg (by simp at hi;omega)];exact W.fresh hi
 ·intro k hkk ho;refine hk k (λe=>ho ⟨id,o,p,s,hg,hro,by rw[e];exact hr⟩)
 ·intro i _ hn;show(T.put (some o') h.mem id).get i=_;rw[hget,if_neg (λe=>by subst e;rw[hr] at hn;cases hn)]
theorem WR0.kill{ρ:Rho}{h:AH}{w:World}(W:WR0 ρ h w){id:Nat}{x:Nat×Nat×Nat}(hr:ρ id=some x) :
  WR0 ρ (h.kill id) w/\Step ρ h w ρ (h.kill id) w:=by
 rw[AH.kill_eq];have hget:∀i,(T.put none h.mem id).get i=if id=i then none else h.mem.get i:=λi=>T.get_put _ _ _ _;have hsome:∀{i o},(T.put none h.mem id).get i=some o->h.mem.get i=some o:=by
  intro i o e;rw[hget] at e;split at e
  ·cases e
  ·exact e
 refine⟨⟨λa b=>W.obj (hsome a) b,λa b=>W.inj (hsome a) (hsome b),W.dom,?_⟩,⟨ρ.le_refl,?_,λ_ _=>rfl,q0c _,rfl,rfl,rfl,q0c _,?_,λa b=>absurd a b⟩⟩
 ·intro i hi;show(T.put none h.mem id).get i=none;rw[hget];split
  ·rfl
  ·exact W.fresh hi
 ·rintro k _ ⟨i,o,p,s,h1,h2,h3⟩;exact⟨i,o,p,s,hsome h1,h2,h3⟩
 ·intro i _ hn;show(T.put none h.mem id).get i=_;rw[hget,if_neg (λe=>by subst e;rw[hr] at hn;cases hn)]
theorem WR0.adopt{ρ:Rho}{h:AH}{w w':World}(W:WR0 ρ h w){id b p s p' s':Nat}{o o':AObj}{x:Obj}(hg:h.mem.get id=some o)(hro:o.ro=false)(hr:ρ id=some (b,p,s))
  (hro':o'.ro=false) (hx:ObjR ρ o' x p' s') (hb:w'.heap[b]?=some x) (hk:∀k,k≠b->w'.heap[k]?=w.heap[k]?) (hsz:w'.heap.size=w.heap.size) (hs:Same w w') :
  WR0 (ρ.ext h.next (b,p',s')) ((h.kill id).add o') w'/\Step ρ h w (ρ.ext h.next (b,p',s')) ((h.kill id).add o') w':=by
 rw[AH.kill_eq];have hn:=W.none_next;have hle:ρ.le (ρ.ext h.next (b,p',s')):=Rho.le_ext hn;have hidlt:=(W.dom hr).1;have hget:∀i,((⟨T.put none h.mem id,h.next⟩:AH).add o').mem.get i=if h.next=i then some o' else if id=i then none else h.mem.get i:=by
  intro i;show(T.put (some o') (T.put none h.mem id) h.next).get i=_;rw[T.get_put,T.get_put]
 refine⟨⟨?_,?_,?_,?_⟩,⟨hle,?_,?_,by rw[hsz];exact q0c _,hs.os,hs.tape,hs.output,q0w _,?_,?_⟩⟩
 ·intro i q b' p1 s1 h1 h2;rw[hget] at h1;by_cases hi:h.next=i
  ·subst hi;rw[if_pos rfl] at h1;injection h1 with h1;subst h1;rw[Rho.ext_self] at h2;injection h2 with h2;injection h2 with h3 h4;injection h4 with h4 h5;subst h3;subst h4;subst h5;exact⟨x,hb,hx.mono hle⟩
  ·rw[if_neg hi] at h1;split at h1
   ·cases h1
   ·rename_i hid;rw[Rho.ext_ne _ _ (Ne.symm hi)] at h2;obtain⟨y,hy,hyr⟩:=W.obj h1 h2;refine⟨y,?_,hyr.mono hle⟩;rw[hk b' (λe=>?_)];exact hy;subst e;have:=(W.inj hg h1 hid hr h2).1;rw[hro] at this;cases this
 ·intro i j o1 o2 b1 p1 s1 p2 s2 h1 h2 hne e1 e2;rw[hget] at h1 h2;by_cases hi:h.next=i
  ·subst hi;have hj:¬h.next=j:=hne;rw[if_neg hj] at h2;split at h2
   ·cases h2
   ·rename_i hidj;rw[Rho.ext_self] at e1;rw[Rho.ext_ne _ _ (Ne.symm hj)] at e2;injection e1 with e1;injection e1 with e1 _;subst e1;have:=(W.inj hg h2 hidj hr e2).1;rw[hro] at this;cases this
  ·by_cases hj:h.next=j
   ·subst hj;rw[if_neg hi] at h1;split at h1
    ·cases h1
    ·rename_i hidi;rw[Rho.ext_self] at e2;rw[Rho.ext_ne _ _ (Ne.symm hi)] at e1;injection e2 with e2;injection e2 with e2 _;subst e2;have:=(W.inj hg h1 hidi hr e1).1;rw[hro] at this;cases this
   ·rw[if_neg hi] at h1;rw[if_neg hj] at h2;rw[Rho.ext_ne _ _ (Ne.symm hi)] at e1;rw[Rho.ext_ne _ _ (Ne.symm hj)] at e2;split at h1
    ·cases h1
    ·split at h2
     ·cases h2
     ·exact W.inj h1 h2 hne e1 e2
 ·intro i y he;by_cases hi:h.next=i
  ·subst hi;rw[Rho.ext_self] at he;injection he with he;subst he;exact⟨q0h _,by rw[hsz];exact(W.dom hr).2⟩
  ·rw[Rho.ext_ne _ _ (Ne.symm hi)] at he;have:=W.dom he;exact⟨Nat.lt_succ_of_lt this.1,by rw[hsz];exact this.2⟩
 ·intro i hi;have hi':h.next+1<=i:=hi;rw[hget,if_neg (by omega),if_neg (by omega)];exact W.fresh (by omega)
 ·rintro k _ ⟨i,q,p1,s1,h1,h2,h3⟩;rw[hget] at h1;by_cases hi:h.next=i
  ·subst hi;rw[Rho.ext_self] at h3;injection h3 with h3;injection h3 with h3 _;subst h3;exact⟨id,o,p,s,hg,hro,hr⟩
  ·rw[if_neg hi] at h1;rw[Rho.ext_ne _ _ (Ne.symm hi)] at h3;split at h1
   ·cases h1
   ·exact⟨i,q,p1,s1,h1,h2,h3⟩
 ·intro k _ ho;exact hk k (λe=>ho ⟨id,o,p,s,hg,hro,by rw[e];exact hr⟩)
 ·intro i hi hne;rw[hget,if_neg (by have:i<h.next:=hi;omega),if_neg (λe=>by subst e;rw[hr] at hne;cases hne)]
 ·intro i h1 h2;by_cases hi:h.next=i
  ·omega
  ·rw[Rho.ext_ne _ _ (Ne.symm hi)] at h2;exact absurd h1 h2
theorem WR.of_heap{ρ:Rho}{h:AH}{w w':World}(W:WR ρ h w)(e:w'.heap=w.heap):WR ρ h w':=⟨W.toWR0.of_heap e,λk hk=>by rw[e];exact W.gl k hk⟩
theorem WR.none_next{ρ:Rho}{h:AH}{w:World}(W:WR ρ h w):ρ h.next=none:=W.toWR0.none_next
theorem WR.alloc{ρ:Rho}{h:AH}{w w':World}(W:WR ρ h w){o:AObj}{x:Obj}{s:Nat}(hx:ObjR ρ o x 0 s)(hh:w'.heap=w.heap.push x)(hs:Same w w') :
  WR (ρ.ext h.next (w.heap.size,0,s)) (h.add o) w'/\Step ρ h w (ρ.ext h.next (w.heap.size,0,s)) (h.add o) w':=W.step (W.toWR0.alloc hx hh hs)
theorem WR.set{ρ:Rho}{h:AH}{w w':World}(W:WR ρ h w){id b p s:Nat}{o o':AObj}{x:Obj}(hg:h.mem.get id=some o)(hro:o.ro=false)(hr:ρ id=some (b,p,s))
  (hro':o'.ro=false) (hx:ObjR ρ o' x p s) (hb:w'.heap[b]?=some x) (hk:∀k,k≠b->w'.heap[k]?=w.heap[k]?) (hsz:w'.heap.size=w.heap.size) (hs:Same w w') :
  WR ρ (h.set id o') w'/\Step ρ h w ρ (h.set id o') w':=W.step (W.toWR0.set hg hro hr hro' hx hb hk hsz hs)
theorem WR.kill{ρ:Rho}{h:AH}{w:World}(W:WR ρ h w){id:Nat}{x:Nat×Nat×Nat}(hr:ρ id=some x) :
  WR ρ (h.kill id) w/\Step ρ h w ρ (h.kill id) w:=W.step (W.toWR0.kill hr)
theorem WR.adopt{ρ:Rho}{h:AH}{w w':World}(W:WR ρ h w){id b p s p' s':Nat}{o o':AObj}{x:Obj}(hg:h.mem.get id=some o)(hro:o.ro=false)(hr:ρ id=some (b,p,s))
  (hro':o'.ro=false) (hx:ObjR ρ o' x p' s') (hb:w'.heap[b]?=some x) (hk:∀k,k≠b->w'.heap[k]?=w.heap[k]?) (hsz:w'.heap.size=w.heap.size) (hs:Same w w') :
  WR (ρ.ext h.next (b,p',s')) ((h.kill id).add o') w'/\Step ρ h w (ρ.ext h.next (b,p',s')) ((h.kill id).add o') w':=W.step (W.toWR0.adopt hg hro hr hro' hx hb hk hsz hs)
theorem zHz{w:World}{b i:Nat}{cs:Array Value}{e:TypeId}{fr:Nat×Nat}{v:Value}(h:w.heap[b]?=some (.cells cs e fr))(hv:cs[i]?=some v):w.cell? ⟨b,i,none⟩=some v:=by
 simp[World.cell?,h,hv]
theorem zG2{w:World}{b i:Nat}{cs:Array Value}{e:TypeId}{fr:Nat×Nat}(h:w.heap[b]?=some (.cells cs e fr))(hf:¬(fr.1<=i/\i<fr.2)):w.frozen? ⟨b,i,none⟩=false:=by
 obtain⟨lo,hi⟩:=fr;simp only[World.frozen?,h];simp at hf ⊢;exact hf
theorem zE1{b:Nat}:∀(vs:List Value) (o:Nat) {w:World} {cs:Array Value} {e:TypeId} {fr:Nat×Nat},w.heap[b]?=some (.cells cs e fr)->
  ∃cs':Array Value,(w.setCells b o vs).heap[b]?=some (.cells cs' e fr)/\cs'.size=cs.size/\∀i,cs'[i]?=if o<=i/\i<o+vs.length/\i<cs.size then vs[i-o]? else cs[i]?
 | [],o,w,cs,e,fr,h=>⟨cs,h,rfl,λi=>by rw[if_neg (by simp;omega)]⟩
 | v::r,o,w,cs,e,fr,h=>by
  have h1:(w.setCell ⟨b,o,none⟩ v).heap[b]?=some (.cells (cs.setIfInBounds o v) e fr):=by
   simp[World.setCell,Array.getElem?_modify,h]
  obtain⟨cs',e1,e2,e3⟩:=zE1 r (o+1) h1;refine⟨cs',e1,by simpa using e2,λi=>?_⟩;rw[e3];simp only[Array.size_setIfInBounds,q0P];by_cases hi:o=i
  ·subst hi;rw[if_neg (by omega)];by_cases hs:o<cs.size
   ·rw[if_pos (by omega)];simp[hs]
   ·rw[if_neg (by omega),Array.getElem?_eq_none (by simp;omega),Array.getElem?_eq_none (by omega)]
  ·by_cases hc:o+1<=i/\i<o+1+r.length/\i<cs.size
   ·rw[if_pos hc,if_pos (by omega)];obtain⟨j,hj⟩:∃j,i-o=j+1:=⟨i-o-1,by omega⟩;rw[hj,show i-(o+1)=j by omega];simp
   ·rw[if_neg hc,if_neg (by omega),Array.getElem?_setIfInBounds_ne hi]
theorem zC8{b:Nat}:∀(vs:List Value) (o:Nat) {w:World} {k:Nat},k≠b->(w.setCells b o vs).heap[k]?=w.heap[k]?
 | [],_,_,_,_=>rfl
 | v::r,o,w,k,h=>by
  rw[World.setCells,zC8 r (o+1) h];simp only[World.setCell,Array.getElem?_modify];rw[if_neg (by omega)]
theorem zCm{b:Nat}:∀(vs:List Value) (o:Nat) {w:World},(w.setCells b o vs).heap.size=w.heap.size
 | [],_,_=>rfl
 | v::r,o,w=>by rw[World.setCells,zCm r (o+1)];simp[World.setCell]
theorem zEu{b:Nat}:∀(vs:List Value) (o:Nat) {w:World},Same w (w.setCells b o vs)
 | [],_,w=>.refl w
 | v::r,o,w=>by
  have:=zEu (b:=b) r (o+1) (w:=w.setCell ⟨b,o,none⟩ v);exact⟨this.os,this.tape,this.output⟩
theorem VR.oneCell{ρ:Rho}{a:AV}{v:Value}(h:VR ρ a v)(hc:a.isCell=true):v.oneCell'=true:=by
 cases h<;>first | rfl | (simp[AV.isCell] at hc)
theorem VCs.oneCell{ρ:Rho}:∀{l:List AV} {l':List Value},VCs ρ l l'->∀v∈l',v.oneCell'=true
 | _,_,.nil,v,h=>by simp at h
 | _,_,.cons c x r,v,h=>by
  rcases List.mem_cons.1 h with h | h
  ·subst h;exact x.oneCell c
  ·exact VCs.oneCell r v h
theorem zCy(b o n:Nat):(⟨b,o,none⟩:Addr).add n=⟨b,o+n,none⟩:=by unfold Addr.add;split<;>simp_all
theorem zEg{P:Program}{ρ:Rho}{w:World}{c:T AV}{size o s:Nat}{opn:Option Nat}{ro:Bool}{x:Obj}{b:Nat}(hb:w.heap[b]?=some x)(hx:ObjR ρ (.cells c size opn ro) x o s)
  {n off:Nat} {l:List AV} (hl:loadL c n off=some l) :
  ∃l',(loadCells ⟨b,o+off,none⟩ n).run P w=.ok l'.toArray w/\VCs ρ l l':=by
 obtain⟨hlen,hget⟩:=zCg hl;cases hx with
 | cells a1 a2 a3 a4 a5=>
  rename_i cs e fr;have hall:∀i,i<n->∃v,cs[o+(off+i)]?=some v:=by
   intro i hi;have:l[i]?=some l[i]:=by rw[q0a (by omega)]
   rw[<-hget i hi] at this;obtain⟨_,_,v,hv,_⟩:=a3 _ _ this;exact⟨v,hv⟩
  let l':List Value:=(List.range n).map λi=>(cs[o+(off+i)]?).getD undef
  have hl':∀i,i<n->l'[i]?=cs[o+(off+i)]?:=by
   intro i hi;obtain⟨v,hv⟩:=hall i hi;simp[l',hi,hv]
  have hlen':l'.length=n:=by simp[l']
  refine⟨l',?_,?_⟩
  ·have:=run_loadCells_list (P:=P) w ⟨b,o+off,none⟩ l' (λj v hj=>by
    have hjn:j<n:=by
     rcases q0x j n with h | h
     ·exact h
     ·rw[q0i (by omega)] at hj;cases hj
    rw[zCy];rw[hl' j hjn] at hj;exact zHz hb (by rw[Nat.add_assoc];exact hj))
   rwa [hlen'] at this
  ·refine VCs.of_get (by omega) λi a ha=>?_;have hi:i<n:=by
    rcases q0x i n with h | h
    ·exact h
    ·rw[q0i (by omega)] at ha;cases ha
   rw[<-hget i hi] at ha;obtain⟨_,hc,v,hv,hr⟩:=a3 _ _ ha;exact⟨v,by rw[hl' i hi];exact hv,hr,hc⟩
theorem zBt{P:Program}{ρ:Rho}{h:AH}{w:World}(W:WR ρ h w){c c':T AV}{size b o s id:Nat}{opn:Option Nat}(hg:h.mem.get id=some (.cells c size opn false))(hr:ρ id=some (b,o,s))
  {l:List AV} {l':List Value} {off:Nat} (hv:VCs ρ l l') (hs:zBr l c off=some c') :
  (storeCells ⟨b,o+off,none⟩ l').run P w=.ok () (w.setCells b (o+off) l')/\WR ρ (h.set id (.cells c' size opn false)) (w.setCells b (o+off) l')/\
   Step ρ h w ρ (h.set id (.cells c' size opn false)) (w.setCells b (o+off) l'):=by
 obtain⟨rfl,hthere⟩:=storeL_some hs;obtain⟨x,hb,hx⟩:=W.obj hg hr;have hlen:=hv.length;cases hx with
 | cells a1 a2 a3 a4 a5=>
  rename_i cs e fr;have hin:∀j,j<l'.length->off+j<size:=by
   intro j hj;have:=hthere (off+j) (by omega) (by omega);cases hc:c.get (off+j) with
   | none=>exact absurd hc this
   | some a=>exact(a3 _ _ hc).1
  have hrun:=run_storeCells_cells (P:=P) b (o+off) l' 0 w (λj hj=>by
    have:=hin j hj;simp only[Nat.add_zero];have hlt:o+off+j<cs.size:=by omega
    rw[zHz hb (Array.getElem?_eq_getElem hlt)];rfl)
   (λj hj=>by
    have:=hin j hj;simp only[Nat.add_zero];refine zG2 hb ?_;have:=a4 rfl;omega) hv.oneCell
  obtain⟨cs',e1,e2,e3⟩:=zE1 l' (o+off) hb
  have hset:=W.set (w':=w.setCells b (o+off) l') (o':=.cells (putL l c off) size opn false) hg rfl hr rfl (x:=.cells cs' e fr) (p:=o) (s:=s)
   (ObjR.cells (by omega) a2 (λi a ha=>by
    rw[zB9] at ha;split at ha
    ·rename_i hi;have hlt:=hin (i-off) (by omega);obtain⟨v,hv1,hv2,hv3⟩:=hv.get ha;refine⟨by omega,hv3,v,?_,hv2⟩;rw[e3,if_pos (by omega)];rw[<-hv1];congr 1;omega
    ·rename_i hi;obtain⟨q1,q2,v,q3,q4⟩:=a3 _ _ ha;refine⟨q1,q2,v,?_,q4⟩;rw[e3,if_neg (by omega)];exact q3) a4 a5) e1 (λk hk=>zC8 _ _ hk) (zCm _ _) (zEu _ _)
  simp only[Nat.add_zero] at hrun;exact⟨hrun,hset.1,hset.2⟩
theorem q2f:type_of% @AH.get_eq:= @AH.get_eq
theorem q2i:type_of% @Rho.ext_self:= @Rho.ext_self
theorem q2j:type_of% @Rho.ext_ne:= @Rho.ext_ne
theorem q2k:type_of% @AH.new_eq:= @AH.new_eq
theorem q2l:type_of% @AH.kill_next:= @AH.kill_next
end Go.Ev
namespace Go.Ev
open Go
variable[Glob]
def Defs(ρ:Rho)(a:AV)(d:Deferred):Prop:=∃f l c l' c',a=.fn f l c/\d={target:=.fn (.func f) c'.toArray,args:=l'.toArray}/\VRs ρ l l'/\VRs ρ c c'
def Good(P:Program)(ρ:Rho)(h:AH)(w:World)(s:Sem Next):OR->Prop
 | .val v h'=>∃ρ' v' w',(s.run P w=.ok (.value v') w'\/(s.run P w=.ok .skip w'/\v'=undef))/\VR ρ' v v'/\WR ρ' h' w'/\Step ρ h w ρ' h' w'
 | .enter f args=>zBc P f=true->∃args',s.run P w=.ok (.enter f args'.toArray) w/\VRs ρ args args'
 | .pan v=>∃v',s.run P w=.halt (.panic v') w/\VR ρ v v'
 | .dfr v=>∃d,s.run P w=.ok (.defer d) w/\Defs ρ v d
 | .fail _=>True
section lifts
theorem lift_bool{G:OR->Prop}(hF:∀n,G (.fail n)){v:AV}{k:Bool->OR}(hk:∀b,v=.bool b->G (k b)):G (onBool v k):=by cases v<;>first | exact hk _ rfl | exact hF _
theorem zBb{G:OR->Prop}(hF:∀n,G (.fail n)){v:AV}{k:IntKind->Int->OR}(hk:∀a b,v=.int a b->G (k a b)):G (onInt v k):=by cases v<;>first | exact hk _ _ rfl | exact hF _
theorem zFz{G:OR->Prop}(hF:∀n,G (.fail n)){v:AV}{k:Nat->Nat->OR}(hk:∀a b,v=.str a b->G (k a b)):G (onStr v k):=by cases v<;>first | exact hk _ _ rfl | exact hF _
theorem zD7{G:OR->Prop}(hF:∀n,G (.fail n)){v:AV}{k:Nat->Nat->OR}(hk:∀a b,v=.ptr a b->G (k a b)):G (onPtr v k):=by cases v<;>first | exact hk _ _ rfl | exact hF _
theorem lift_mp{G:OR->Prop}(hF:∀n,G (.fail n)){v:AV}{k:Nat->OR}(hk:∀a,v=.mp a->G (k a)):G (onMp v k):=by cases v<;>first | exact hk _ rfl | exact hF _
theorem lift_fn{G:OR->Prop}(hF:∀n,G (.fail n)){v:AV}{k:Nat->List AV->List AV->OR}(hk:∀a b c,v=.fn a b c->G (k a b c)):G (onFn v k):=by cases v<;>first | exact hk _ _ _ rfl | exact hF _
theorem lift_agg{G:OR->Prop}(hF:∀n,G (.fail n)){v:AV}{k:List AV->OR}(hk:∀a,v=.agg a->G (k a)):G (onAgg v k):=by cases v<;>first | exact hk _ rfl | exact hF _
theorem lift_tup{G:OR->Prop}(hF:∀n,G (.fail n)){v:AV}{k:List AV->OR}(hk:∀a,v=.tup a->G (k a)):G (onTup v k):=by cases v<;>first | exact hk _ rfl | exact hF _
theorem zGe{G:OR->Prop}(hF:∀n,G (.fail n)){v:AV}{kn:OR}{k:Nat->Nat->Nat->ACap->OR}(hn:v=.nils->G kn)(hk:∀a b c d,v=.sl a b c d->G (k a b c d)):G (onSl v kn k):=by cases v<;>first | exact hk _ _ _ _ rfl | exact hn rfl | exact hF _
theorem zB1{G:OR->Prop}(hF:∀n,G (.fail n)){o:Option AObj}{k:T AV->Nat->Option Nat->Bool->OR}(hk:∀c s p r,o=some (.cells c s p r)->G (k c s p r)):G (zAq o k):=by
 cases o with
 | none=>exact hF _
 | some o=>cases o<;>first | exact hk _ _ _ _ rfl | exact hF _
theorem zCl{G:OR->Prop}(hF:∀n,G (.fail n)){o:Option AObj}{k:List (AV×AV×Nat)->Nat->OR}(hk:∀es c,o=some (.map es c)->G (k es c)):G (zDf o k):=by
 cases o with
 | none=>exact hF _
 | some o=>cases o<;>first | exact hk _ _ rfl | exact hF _
theorem zAl{G:OR->Prop}(hF:∀n,G (.fail n)){α:Type}{o:Option α}{n:Nat}{k:α->OR}(hk:∀a,o=some a->G (k a)):G (obind o (F n) k):=by
 cases o with
 | none=>exact hF _
 | some a=>exact hk _ rfl
theorem zAh{G:OR->Prop}(hF:∀n,G (.fail n)){b:Bool}{n:Nat}{x:OR}(hx:b=true->G x):G (bi b x (F n)):=by
 cases b
 ·exact hF _
 ·exact hx rfl
theorem zDm{G:OR->Prop}(hF:∀n,G (.fail n)){b:Bool}{n:Nat}{x:OR}(hx:b=false->G x):G (bi b (F n) x):=by
 cases b
 ·exact hx rfl
 ·exact hF _
theorem zCk{G:OR->Prop}(hF:∀n,G (.fail n)){n:Int}{k:Nat->OR}(hk:∀m:Nat,n=m->G (k m)):G (onNat n k):=by
 cases n with
 | ofNat n=>exact hk n rfl
 | negSucc n=>exact hF _
end lifts
theorem zA2{G:OR->Prop}{b:Bool}{x y:OR}(hx:b=true->G x)(hy:b=false->G y):G (bi b x y):=by
 cases b
 ·exact hy rfl
 ·exact hx rfl
theorem fN_eq{β:Type}(n:Nat)(k:Nat->β):fN n k=k n:=by cases n<;>rfl
theorem fI_eq{β:Type}(n:Int)(k:Int->β):fI n k=k n:=by
 cases n with
 | ofNat n=>exact fN_eq n λn=>k (Int.ofNat n)
 | negSucc n=>exact fN_eq n λn=>k (Int.negSucc n)
theorem bi_eq{β:Type}(b:Bool)(x y:β):bi b x y=if b then x else y:=by cases b<;>rfl
theorem consec_le:∀{ps:List Part} {pos e:Nat},zK3 ps pos=some e->pos<=e
 | [],_,_,h=>by injection h with h;omega
 | p::ps,pos,e,h=>by
  have h:bi (Nat.beq p.off pos) (zK3 ps (pos+p.size)) none=some e:=h;rw[bi_eq] at h;split at h
  ·have:=consec_le h;omega
  ·cases h
theorem fill_vals{loc:T AV}{tmp:List AV}:∀{ps:List Part} {pos e:Nat} {l z:List AV},zK3 ps pos=some e->vals loc tmp ps=some l->e<=z.length->fill loc tmp ps z=some (z.take pos++l++z.drop e)
 | [],pos,e,l,z,h1,h2,_=>by
  injection h1 with h1;injection h2 with h2;subst h1;subst h2;show some z=_;rw[List.append_nil,List.take_append_drop]
 | p::ps,pos,e,l,z,h1,h2,h3=>by
  have h1:bi (Nat.beq p.off pos) (zK3 ps (pos+p.size)) none=some e:=h1;rw[bi_eq] at h1;split at h1
  ·rename_i hb;have ho:=q0f hb;have hle:=consec_le h1;have h2:obind (cellsOf (ev loc tmp p.x)) none (λvs=>bi (Nat.beq (llen vs) p.size) (obind (vals loc tmp ps) none λl=>some (lapp vs l)) none)=some l:=h2;cases hv:cellsOf (ev loc tmp p.x) with
   | none=>rw[hv] at h2;cases h2
   | some vs=>
    rw[hv] at h2;have h2:bi (Nat.beq (llen vs) p.size) (obind (vals loc tmp ps) none λl=>some (lapp vs l)) none=some l:=h2;rw[bi_eq] at h2;split at h2
    ·rename_i hl;have hlen:=q0f hl;rw[zBd] at hlen;cases hr:vals loc tmp ps with
     | none=>rw[hr] at h2;cases h2
     | some l'=>
      rw[hr] at h2;injection h2 with h2;subst h2;show obind (cellsOf (ev loc tmp p.x)) none (λvs=>bi (Nat.beq (llen vs) p.size) (bi (Nat.ble (Nat.add p.off p.size) (llen z)) (fill loc tmp ps (lapp (ltake p.off z) (lapp vs (ldrop (Nat.add p.off p.size) z)))) none) none)=_;rw[hv];show bi (Nat.beq (llen vs) p.size) (bi (Nat.ble (Nat.add p.off p.size) (llen z)) (fill loc tmp ps (lapp (ltake p.off z) (lapp vs (ldrop (Nat.add p.off p.size) z)))) none) none=_;rw[hl,show Nat.ble (Nat.add p.off p.size) (llen z)=true from by rw[Nat.ble_eq,zBd];show p.off+p.size<=_;omega];show fill loc tmp ps _=_;rw[zCt,zCt,zFy,zIp,ho];have hz:(z.take pos++(vs++z.drop (Nat.add pos p.size))).length=z.length:=by
       simp only[q0o,q0v,q0Q,hlen];show _+(_+(z.length-(pos+p.size)))=_;omega
      rw[fill_vals (z:=z.take pos++(vs++z.drop (Nat.add pos p.size))) h1 hr (by rw[hz];exact h3)];congr 1;have hp:(z.take pos).length=pos:=by rw[q0v];omega
      have e1:(z.take pos++(vs++z.drop (Nat.add pos p.size))).take (pos+p.size)=z.take pos++vs:=by
       rw[<-List.append_assoc,List.take_append_of_le_length (by simp[hp,hlen]),List.take_of_length_le (by simp[hp,hlen])]
      have e2:(z.take pos++(vs++z.drop (Nat.add pos p.size))).drop e=z.drop e:=by
       rw[<-List.append_assoc,List.drop_append,List.drop_eq_nil_of_le (by simp[hp,hlen];omega),List.nil_append,List.drop_drop];congr 1;simp only[q0o,hp,hlen];show pos+p.size+(e-(pos+p.size))=e;omega
      rw[e1,e2,zCt];simp
    ·cases h2
  ·cases h1
theorem zF2(loc:T AV)(tmp:List AV)(ps:List Part)(z:List AV):fillQ loc tmp ps z=fill loc tmp ps z:=by
 unfold fillQ;cases h1:zK3 ps 0 with
 | none=>rfl
 | some e=>
  show bi (Nat.beq e (llen z)) (obind (vals loc tmp ps) (fill loc tmp ps z) λl=>some l) (fill loc tmp ps z)=_;rw[bi_eq];split
  ·rename_i hb;have he:=q0f hb;rw[zBd] at he;cases h2:vals loc tmp ps with
   | none=>rfl
   | some l=>
    rw[fill_vals h1 h2 (by omega)];show some l=_;simp[he]
  ·rfl
theorem zCc(b:Bool)(h:AH):Ev.bool b h=OR.val (.bool b) h:=by cases b<;>rfl
theorem zBu{k:IntKind}{n:Int}(h:zAo k n=true):k.wrap n=n:=by
 cases k<;>cases n<;>simp only[zAo,rIn,rUn,Nat.ble_eq,q0G] at h<;>(simp only[IntKind.wrap,IntKind.bits,IntKind.signed];simp;try omega)
theorem wrapF_eq(k:IntKind)(n:Int):wrapF k n=k.wrap n:=by
 unfold wrapF;rw[bi_eq];split
 ·rw[zBu ‹_›]
 ·rfl
theorem zCb(k:IntKind)(n:Int)(h:AH):intV k n h=OR.val (.int k (k.wrap n)) h:=by unfold intV;rw[fI_eq,wrapF_eq]
theorem zCj(n:Nat)(h:AH):natV n h=OR.val (.int .i64 n) h:=by unfold natV;rw[fN_eq];rfl
theorem zEm(a b:Int):eqI a b=decide (a=b):=by
 cases a<;>cases b<;>simp only[eqI]
 ·rename_i m n;rw[Bool.eq_iff_iff];simp[Nat.beq_eq];exact Int.ofNat_inj.symm
 ·simp
 ·simp
 ·rename_i m n;rw[Bool.eq_iff_iff];simp[Nat.beq_eq]
theorem zH5(a b:Int):ltI a b=decide (a<b):=by
 cases a<;>cases b<;>simp only[ltI]
 ·rename_i m n;rw[Bool.eq_iff_iff,Nat.ble_eq];simp;omega
 ·rw[Bool.eq_iff_iff];simp;omega
 ·rw[Bool.eq_iff_iff];simp;omega
 ·rename_i m n;rw[Bool.eq_iff_iff,Nat.ble_eq];simp;omega
theorem leI_eq(a b:Int):leI a b=decide (a<=b):=by
 cases a<;>cases b<;>simp only[leI]
 ·rename_i m n;rw[Bool.eq_iff_iff,Nat.ble_eq];simp
 ·rw[Bool.eq_iff_iff];simp;omega
 ·rw[Bool.eq_iff_iff];simp;omega
 ·rename_i m n;rw[Bool.eq_iff_iff,Nat.ble_eq];simp;omega
theorem zHw{a b:IntKind}(h:eqK a b=true):a=b:=by cases a<;>cases b<;>first | rfl | (exact absurd h (by decide))
section
variable{P:Program}{ρ:Rho}{h:AH}{w:World}{s:Sem Next}
theorem Good.hF:∀n,Good P ρ h w s (.fail n):=λ_=>trivial
theorem Good.same{v:AV}{v':Value}(W:WR ρ h w)(hs:s.run P w=.ok (.value v') w)(hv:VR ρ v v'):Good P ρ h w s (.val v h):=
 ⟨ρ,v',w,.inl hs,hv,W,.refl _ _ _⟩
end
theorem cv_rel{ρ:Rho}{v:Value}{a:AV}(h:cv v=some a):VR ρ a v/\a.isCell=true:=by
 unfold cv at h;split at h<;>first | (injection h with h;subst h;refine⟨?_,rfl⟩) | cases h
 ·exact .bool _
 ·exact .int _ _
 ·exact .str _ rfl rfl
 ·exact .nilp
 ·exact .nils
 ·exact .nilm
 ·exact .nilf
 ·exact .nili
theorem mapM_cv{ρ:Rho}:∀{l:List Value} {a:List AV},l.mapM cv=some a->VCs ρ a l
 | [],a,h=>by simp at h;subst h;exact .nil
 | v::l,a,h=>by
  rw[List.mapM_cons] at h;cases hv:cv v with
  | none=>rw[hv] at h;cases h
  | some x=>
   rw[hv] at h;cases hl:l.mapM cv with
   | none=>rw[hl] at h;cases h
   | some y=>
    rw[hl] at h;injection h with h;subst h;exact .cons (cv_rel (ρ:=ρ) hv).2 (cv_rel (ρ:=ρ) hv).1 (mapM_cv hl)
theorem zA7{ρ:Rho}{v:Value}{a:List AV}(h:zBe v=some a):VCs ρ a v.cells.toList:=by
 unfold zBe at h;split at h
 ·exact mapM_cv h
 ·rename_i hne;cases hv:cv v with
  | none=>rw[hv] at h;cases h
  | some x=>
   rw[hv] at h;injection h with h;subst h;have:v.cells=#[v]:=by unfold Value.cells;split<;>first | (exact absurd rfl (hne _)) | rfl
   rw[this];exact .cons (cv_rel (ρ:=ρ) hv).2 (cv_rel (ρ:=ρ) hv).1 .nil
theorem zB6{ρ:Rho}{v:Value}{a:AV}(h:cvVal v=some a):VR ρ a v:=by
 unfold cvVal at h;split at h
 ·rename_i cs;cases hl:cs.toList.mapM cv with
  | none=>rw[hl] at h;cases h
  | some y=>rw[hl] at h;injection h with h;subst h;exact .agg (mapM_cv hl) (by simp)
 ·exact(cv_rel h).1
section
variable{P:Program}
theorem zAj{t:TypeId}{n:Nat}(h:zAm P t=some n)(w:World):(sizeOf t).run P w=.ok n w:=by
 unfold zAm at h;cases hi:P.info? t with
 | none=>rw[hi] at h;cases h
 | some i=>rw[hi] at h;injection h with h;subst h;simp[sizeOf,typeInfo,hi]
theorem zAu{t:TypeId}{z:Value}(h:zBf P t=some z)(w:World):(zeroValue t).run P w=.ok z w:=by
 unfold zBf at h;cases hi:P.info? t with
 | none=>rw[hi] at h;cases h
 | some i=>
  rw[hi] at h;have h:i.zero=some z:=h;simp[zeroValue,typeInfo,hi,h]
theorem zC1{t:TypeId}{b:Bool}(h:tyAgg P t=some b)(w:World):(isAgg t).run P w=.ok b w:=by
 unfold tyAgg at h;split at h
 ·rename_i hu;injection h with h;subst h;simp[isAgg,run_underlying hu]
 ·rename_i hu;injection h with h;subst h;simp[isAgg,run_underlying hu]
 ·rename_i d h1 h2 hu;injection h with h;subst h;simp only[isAgg,Sem.run_bind,run_underlying hu,Result.andThen_ok];cases d<;>first | rfl | (exact absurd hu (h1 _)) | (exact absurd hu (h2 _ _))
 ·cases h
end
theorem q2h:type_of% @Good.hF:= @Good.hF
end Go.Ev
