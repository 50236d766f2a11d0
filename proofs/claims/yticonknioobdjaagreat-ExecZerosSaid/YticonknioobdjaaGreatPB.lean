/- EvO2 EvO3 EvO4 EvO5 EvO6 EvO7 EvO8 EvO9 EvO10 -/
import Derived.Test.YticonknioobdjaaGreatPA
import Derived.Laws.Strings
import Derived.Laws.StructEq
import Derived.ChangeKeysEq
import Derived.MapKept
set_option linter.unusedSimpArgs false
set_option linter.unusedVariables false
set_option linter.unusedSectionVars false
set_option linter.defProp false
set_option maxRecDepth 100000
set_option maxHeartbeats 4000000
namespace Go.Ev
open Go
variable[Glob]
def vv(s:Sem Value):Sem Next:=do pure (.value (<-s))
def uu(s:Sem Unit):Sem Next:=do s;pure .skip
section
variable{P:Program}{ρ:Rho}{h:AH}{w:World}
theorem zAf{s:Sem Value}{v:Value}{w':World}(e:s.run P w=.ok v w'):(vv s).run P w=.ok (.value v) w':=by simp[vv,e]
theorem uu_run{s:Sem Unit}{w':World}(e:s.run P w=.ok () w'):(uu s).run P w=.ok .skip w':=by simp[uu,e]
variable{loc:T AV}{tmp:List AV}
theorem oMove_eq(x:Opd):oMove x loc tmp h=F 13\/oMove x loc tmp h=.val (ev loc tmp x) h:=by
 unfold oMove;cases ev loc tmp x<;>first | (left;rfl) | (right;rfl)
theorem s_move{x:Opd}{v:Value}(W:WR ρ h w)(hv:VR ρ (ev loc tmp x) v):Good P ρ h w (pure (.value v)) (oMove x loc tmp h):=by
 rcases oMove_eq (loc:=loc) (tmp:=tmp) (h:=h) x with e | e<;>rw[e]
 ·trivial
 ·exact .same W rfl hv
theorem s_pick{c a b:Opd}{c' a' b':Value}(W:WR ρ h w)(hc:VR ρ (ev loc tmp c) c')(ha:VR ρ (ev loc tmp a) a')(hb:VR ρ (ev loc tmp b) b') :
  Good P ρ h w (do pure (.value (if <-asBool c' then a' else b'))) (oPick c a b loc tmp h):=by
 refine lift_bool q2h λq e=>?_;rw[e] at hc;cases hc;refine zA2 (λhq=>?_) (λhq=>?_)
 ·have:(do pure (.value (if <-asBool (.bool q) then a' else b')):Sem Next)=pure (.value a'):=by subst hq;rfl
  rw[this];exact s_move W ha
 ·have:(do pure (.value (if <-asBool (.bool q) then a' else b')):Sem Next)=pure (.value b'):=by subst hq;rfl
  rw[this];exact s_move W hb
theorem ObjR.ofCells{l:List AV}{l':List Value}{e:TypeId}{opn:Option Nat}{ro:Bool}(hl:VCs ρ l l')(ht:∀t,opn=some t->e=t/\0=0):ObjR ρ (.cells (zAa l) l.length opn ro) (.cells l'.toArray e (0,0)) 0 l.length:=by
 refine .cells (by simp[hl.length]) (q0c _) (λi a ha=>?_) (λ_=>rfl) ht;rw[zAe] at ha;obtain⟨v,hv,hr,hc⟩:=hl.get ha;refine⟨?_,hc,v,by simpa using hv,hr⟩;rcases q0x i l.length with h | h
 ·exact h
 ·rw[q0i h] at ha;cases ha
theorem zAx{e:TypeId}{cs:Array Value}:(newRow e cs).run P w=.ok ⟨w.heap.size,0,none⟩ {w with heap:=w.heap.push (.cells cs e)}:=by
 simp[newRow]
theorem g_row{l:List AV}{cs:Array Value}{e:TypeId}(W:WR ρ h w)(hl:VCs ρ l cs.toList) :
  WR (ρ.ext h.next (w.heap.size,0,l.length)) (h.add (.cells (zAa l) l.length none false)) {w with heap:=w.heap.push (.cells cs e)}/\
  Step ρ h w (ρ.ext h.next (w.heap.size,0,l.length)) (h.add (.cells (zAa l) l.length none false)) {w with heap:=w.heap.push (.cells cs e)}:=by
 have:=ObjR.ofCells (e:=e) (opn:=none) (ro:=false) hl (λ_ h=>by cases h);rw[Array.toArray_toList] at this;exact W.alloc this rfl ⟨rfl,rfl,rfl⟩
theorem s_alloc{z:List AV}{e:TypeId}{zv:Value}(W:WR ρ h w)(h1:zBf P e=some zv)(h2:zBe zv=some z) :
  Good P ρ h w (vv (Instr.alloc e true (.tuple #[]))) (oAlloc z loc tmp h):=by
 unfold oAlloc;rw[q2k,zBd];have hz:VCs ρ z zv.cells.toList:=zA7 h2;obtain⟨W',S'⟩:=g_row (e:=e) W hz;refine⟨_,.pointer (some ⟨w.heap.size,0,none⟩),_,.inl (zAf ?_),.ptr (q2i _ _ _) rfl,W',S'⟩;simp[Instr.alloc,zAu h1,newVar,zAx]
theorem s_box{x:Opd}{e:TypeId}{v:Value}(W:WR ρ h w)(hv:VR ρ (ev loc tmp x) v):Good P ρ h w (vv (Instr.box e v)) (oBox x loc tmp h):=by
 have key:∀l:List AV,VCs ρ l v.cells.toList->Good P ρ h w (vv (Instr.box e v)) (AH.new h (AObj.cells (zAa l) l.length none false) λid h=>OR.val (AV.ptr id (nat_lit 0)) h):=by
  intro l hl;rw[q2k];obtain⟨W',S'⟩:=g_row (e:=e) W hl;refine⟨_,.pointer (some ⟨w.heap.size,0,none⟩),_,.inl (zAf ?_),.ptr (q2i _ _ _) rfl,W',S'⟩;simp[Instr.box,newVar,zAx]
 have one:∀a:AV,ev loc tmp x=a->a.isCell=true->VCs ρ [a] v.cells.toList:=by
  intro a e hc;rw[e] at hv;have h1:=hv.oneCell hc;have:v.cells=#[v]:=by cases v<;>first | rfl | (simp[Value.oneCell'] at h1)
  rw[this];exact .cons hc hv .nil
 unfold oBox;cases hx:ev loc tmp x with
 | bad=>trivial
 | tup l=>trivial
 | agg l=>
  rw[hx] at hv;cases hv with
  | agg hl e=>subst e;have:=key l (by simpa[Value.cells] using hl);rw[<-zBd] at this;exact this
 | _=>exact key _ (one _ hx rfl)
theorem zGo{b p:Nat}:(Instr.sureAddr (.pointer (some ⟨b,p,none⟩))).run P w=.ok ⟨b,p,none⟩ w:=rfl
theorem s_load{x:Opd}{t:TypeId}{v:Value}(W:WR ρ h w)(ht:tyAgg P t=some false)(hv:VR ρ (ev loc tmp x) v):Good P ρ h w (vv (Instr.loadAt t v)) (oLoad x loc tmp h):=by
 refine zD7 q2h λid off e=>zB1 q2h λc s o r hg=>zAl q2h λa ha=>?_;rw[e] at hv;cases hv with
 | ptr hr hp=>
  subst hp;rw[q2f] at hg;obtain⟨y,hy,hyr⟩:=W.obj hg hr;cases hyr with
  | cells a1 a2 a3 a4 a5=>
   obtain⟨_,_,u,hu,hur⟩:=a3 _ _ ha;refine .same W (zAf ?_) hur;simp only[Instr.loadAt,Sem.run_bind,zGo,Result.andThen_ok,loadVar,zC1 ht,q0G,if_false,run_load,zHz hy hu]
theorem s_loadN{x:Opd}{t:TypeId}{v:Value}{n:Nat}(W:WR ρ h w)(ht:tyAgg P t=some true)(hn:zAm P t=some n)(hv:VR ρ (ev loc tmp x) v):Good P ρ h w (vv (Instr.loadAt t v)) (zAy n x loc tmp h):=by
 refine zD7 q2h λid off e=>zB1 q2h λc s o r hg=>zAl q2h λl hl=>?_;rw[e] at hv;cases hv with
 | ptr hr hp=>
  subst hp;rw[q2f] at hg;obtain⟨y,hy,hyr⟩:=W.obj hg hr;obtain⟨l',hrun,hl'⟩:=zEg (P:=P) hy hyr hl;refine .same W (zAf ?_) (.agg hl' rfl);simp only[Instr.loadAt,Sem.run_bind,zGo,Result.andThen_ok,loadVar,zC1 ht,if_true,zAj hn,hrun];rfl
theorem zJ1{a:AV}{v:Value}{l:List AV}(hv:VR ρ a v)(hc:cellsOf a=some l):VCs ρ l v.cells.toList:=by
 have one:a.isCell=true->l=[a]->VCs ρ l v.cells.toList:=by
  intro hi e;have h1:=hv.oneCell hi;have:v.cells=#[v]:=by cases v<;>first | rfl | (simp[Value.oneCell'] at h1)
  rw[this,e];exact .cons hi hv .nil
 cases a with
 | bad=>cases hc
 | tup l=>cases hc
 | agg l1=>
  cases hc;cases hv with
  | agg hl e=>subst e;simpa[Value.cells] using hl
 | _=>injection hc with hc;exact one rfl hc.symm
theorem s_store{x a:Opd}{t:TypeId}{va vx:Value}{n:Nat}(W:WR ρ h w)(hn:zAm P t=some n)(ha:VR ρ (ev loc tmp a) va)(hx:VR ρ (ev loc tmp x) vx) :
  Good P ρ h w (uu (Instr.storeAt t va vx)) (oStore n a x loc tmp h):=by
 refine zD7 q2h λid off e=>zB1 q2h λc s o r hg=>zDm q2h λhro=>zAl q2h λl hl=>zAh q2h λhlen=>zAl q2h λc' hc'=>?_;subst hro;rw[e] at ha;cases ha with
 | ptr hr hp=>
  subst hp;rw[q2f] at hg;have hcells:=zJ1 hx hl;obtain⟨hrun,W',S'⟩:=zBt (P:=P) W hg hr hcells hc';refine⟨ρ,undef,_,.inr ⟨uu_run ?_,rfl⟩,.tup .nil rfl,W',S'⟩;have hsz:vx.cells.size=n:=by
   have:=hcells.length;rw[zBd] at hlen;have h2:l.length=n:=q0f hlen;simpa[h2] using this.symm
  simp only[Instr.storeAt,Sem.run_bind,zGo,Result.andThen_ok,storeVar,zAj hn,hsz,ne_eq,not_true_eq_false,if_false,hrun]
theorem s_nil{x:Opd}{v:Value}{ps:String}{ty:TypeId}{d:Option Tmp}{af:Array Edge}{g:Option (Nat×Bool)}{y:Operand}{rc:Operand->Value}(W:WR ρ h w)(hv:VR ρ (ev loc tmp x) (rc y)) :
  Good P ρ h w (execOp rc {dst:=d,op:=.nilCheck y,type:=ty,pos:=ps,after:=af,guard:=g}) (oNil x loc tmp h):=by
 refine zD7 q2h λid off e=>?_;rw[e] at hv;simp only[execOp];generalize rc y=v at hv;cases hv with
 | ptr hr hp=>exact .same W rfl (.ptr hr hp)
theorem s_fieldAddr{x:Opd}{t:TypeId}{v:Value}{i n:Nat}{fs:Array Field}{f:Field}(W:WR ρ h w)(hu:P.underlying t=some (.struct fs))(hf:fs[i]?=some f)(hn:zAm P f.type=some (n+1))(hv:VR ρ (ev loc tmp x) v) :
  Good P ρ h w (vv (Instr.fieldAt t v i)) (zFx f.offset x loc tmp h):=by
 refine zD7 q2h λid off e=>?_;rw[fN_eq];rw[e] at hv;cases hv with
 | ptr hr hp=>
  subst hp;refine .same W (zAf ?_) (.ptr hr rfl);simp only[Instr.fieldAt,Sem.run_bind,run_underlying hu,Result.andThen_ok,hf,zGo,fieldPlace,zAj hn,Nat.add_one_ne_zero,if_false,Sem.run_pure,zCy];simp[Nat.add_assoc]
theorem part_run{t:TypeId}{l:List AV}{l':List Value}{off n:Nat}{g:Bool}(hg:tyAgg P t=some g)(hn:zAm P t=some n)(hl:VCs ρ l l') :
  (∃k,oPart off n g l h=F k)\/∃a v,oPart off n g l h=OR.val a h/\(part t l'.toArray off).run P w=.ok v w/\VR ρ a v:=by
 unfold oPart;cases g with
 | true=>
  right;rw[zFy,zIp];refine⟨_,_,rfl,?_,.agg ((hl.drop off).take n) rfl⟩;simp only[part,Sem.run_bind,zC1 hg,Result.andThen_ok,if_true,zAj hn,Sem.run_pure];congr 2;apply Array.ext';simp
 | false=>
  rw[nth_eq];cases hx:l[off]? with
  | none=>
   left;refine⟨39,?_⟩;have:l.getD off AV.bad=AV.bad:=by simp[List.getD,hx]
   rw[this];rfl
  | some a=>
   obtain⟨v,hv,hr,hc⟩:=hl.get hx;have hd:l.getD off AV.bad=a:=by simp[List.getD,hx]
   rw[hd];right;refine⟨a,v,?_,?_,hr⟩
   ·cases a<;>first | rfl | (simp[AV.isCell] at hc)
   ·simp[part,zC1 hg,hv]
theorem s_field{x:Opd}{t:TypeId}{v:Value}{i n:Nat}{g:Bool}{fs:Array Field}{f:Field}(W:WR ρ h w)(hu:P.underlying t=some (.struct fs))(hf:fs[i]?=some f)(hn:zAm P f.type=some n)(hg:tyAgg P f.type=some g)(hv:VR ρ (ev loc tmp x) v) :
  Good P ρ h w (vv (Instr.field t v i)) (oField f.offset n g x loc tmp h):=by
 refine lift_agg q2h λl e=>?_;rw[e] at hv;cases hv with
 | agg hl hx=>
  subst hx;rcases part_run (P:=P) (w:=w) (h:=h) (off:=f.offset) hg hn hl with⟨k,e⟩ | ⟨a,v,e,hrun,hr⟩
  ·rw[e];trivial
  ·rw[e];refine .same W (zAf ?_) hr;simp only[Instr.field,Sem.run_bind,run_underlying hu,Result.andThen_ok,hf,asAgg,Sem.run_pure,hrun]
theorem zA4{k:IntKind}{n:Int}:(asIntOf (.int k n)).run P w=.ok (k,n) w:=rfl
theorem s_idxAddr{x i:Opd}{t e:TypeId}{vx vi:Value}{n:Nat}(W:WR ρ h w)(hu:P.underlying t=some (.slice e))(hn:zAm P e=some n)(hx:VR ρ (ev loc tmp x) vx)(hi:VR ρ (ev loc tmp i) vi) :
  Good P ρ h w (vv (Instr.indexAt t vx vi)) (zCx n x i loc tmp h):=by
 refine zBb q2h λk q ei=>zCk q2h λm hm=>zGe q2h (λ_=>trivial) λid off len cap ex=>zAh q2h λhlt=>?_;rw[fN_eq];rw[ei] at hi;rw[ex] at hx;have hlt:m<len:=q0g hlt;cases hi;cases hx with
 | slz=>omega
 | sle=>omega
 | sl hr hp hc=>
  subst hp;subst hm;refine .same W (zAf ?_) (.ptr hr rfl);simp only[Instr.indexAt,Sem.run_bind,zA4,Result.andThen_ok,run_underlying hu,Sem.run_pure];rw[if_pos (by omega)];simp only[Sem.run_bind,zAj hn,Result.andThen_ok,Sem.run_pure,zCy];simp[Nat.add_assoc]
theorem s_idxAddrA{x i:Opd}{t e:TypeId}{vx vi:Value}{n len:Nat}(W:WR ρ h w)(hu:P.underlying t=some (.array len e))(hn:zAm P e=some n)(hx:VR ρ (ev loc tmp x) vx)(hi:VR ρ (ev loc tmp i) vi) :
  Good P ρ h w (vv (Instr.indexAt t vx vi)) (zCi len n x i loc tmp h):=by
 refine zBb q2h λk q ei=>zCk q2h λm hm=>zD7 q2h λid off ex=>zAh q2h λhlt=>?_;rw[fN_eq];rw[ei] at hi;rw[ex] at hx;have hlt:m<len:=q0g hlt;cases hi;cases hx with
 | ptr hr hp=>
  subst hp;subst hm;refine .same W (zAf ?_) (.ptr hr rfl);simp only[Instr.indexAt,Sem.run_bind,zA4,Result.andThen_ok,run_underlying hu,zGo,Sem.run_pure];rw[if_pos (by omega)];simp only[Sem.run_bind,zAj hn,Result.andThen_ok,Sem.run_pure,zCy];simp[Nat.add_assoc]
theorem s_neg{x:Opd}{v:Value}(W:WR ρ h w)(hv:VR ρ (ev loc tmp x) v):Good P ρ h w (vv (Op.unary .neg v)) (oNeg x loc tmp h):=by
 refine zBb q2h λk q e=>?_;rw[e] at hv;cases hv;rw[zCb];refine .same W (zAf ?_) (.int _ _);simp[Op.unary,Op.intArith];rfl
theorem s_not{x:Opd}{v:Value}(W:WR ρ h w)(hv:VR ρ (ev loc tmp x) v):Good P ρ h w (vv (Op.unary .not v)) (oNot x loc tmp h):=by
 refine lift_bool q2h λq e=>?_;rw[e] at hv;cases hv;rw[zCc];refine .same W (zAf ?_) (.bool _);cases q<;>simp[Op.unary,bi_eq]
theorem s_convI{x:Opd}{v:Value}{a b:TypeId}{k k':IntKind}(W:WR ρ h w)(h1:P.underlying a=some (.int k'))(h2:P.underlying b=some (.int k))(hv:VR ρ (ev loc tmp x) v):Good P ρ h w (vv (convert a b v)) (oConvI k x loc tmp h):=by
 refine zBb q2h λk1 q e=>?_;rw[e] at hv;cases hv;rw[zCb];refine .same W (zAf ?_) (.int _ _);simp[convert,run_underlying h1,run_underlying h2,Conv.intToInt]
theorem s_convS{x:Opd}{v:Value}{a b:TypeId}(W:WR ρ h w)(h1:P.underlying a=some .string)(h2:P.underlying b=some .string)(hv:VR ρ (ev loc tmp x) v):Good P ρ h w (vv (convert a b v)) (oConvS x loc tmp h):=by
 refine zFz q2h λl q e=>?_;rw[e] at hv;cases hv with
 | str s e1 e2=>
  refine .same W (zAf ?_) (.str s e1 e2);simp[convert,run_underlying h1,run_underlying h2]
theorem s_mkIfc{x:Opd}{v:Value}{t:TypeId}{d:TypeDesc}(W:WR ρ h w)(hu:P.underlying t=some d)(hd:∀ms,d≠.interface ms)(hv:VR ρ (ev loc tmp x) v):Good P ρ h w (vv (Instr.makeInterface t v)) (zH3 t x loc tmp h):=by
 unfold zH3;rcases oMove_eq (loc:=loc) (tmp:=tmp) (h:=h) x with e | e<;>rw[e]
 ·trivial
 ·refine .same W (zAf ?_) (.ifc hv);simp only[Instr.makeInterface,Sem.run_bind,run_underlying hu,Result.andThen_ok];cases d<;>first | rfl | (exact absurd rfl (hd _))
theorem s_mkFn{a b:List Opd}{a' b':Array Value}{f:Nat}(W:WR ρ h w)(ha:VRs ρ (evs loc tmp a) a'.toList)(hb:VRs ρ (evs loc tmp b) b'.toList):Good P ρ h w (vv (Instr.makeFunc (.func f) a' b')) (oMkFn f a b loc tmp h):=
 .same W (zAf rfl) (.fn ha hb (by simp) (by simp))
theorem s_extract{x:Opd}{v:Value}{i:Nat}(W:WR ρ h w)(hv:VR ρ (ev loc tmp x) v):Good P ρ h w (vv (Instr.extract v i)) (zD4 i x loc tmp h):=by
 refine lift_tup q2h λl e=>?_;rw[e] at hv;cases hv with
 | tup hl hx=>
  subst hx;rw[nth_eq];cases hx:l[i]? with
  | none=>
   have:l.getD i AV.bad=AV.bad:=by simp[List.getD,hx]
   rw[this];trivial
  | some a=>
   have hd:l.getD i AV.bad=a:=by simp[List.getD,hx]
   rw[hd];obtain⟨v,hv,hr⟩:=hl.get hx;refine(?_:Good P ρ h w _ _);cases a<;>first | exact .same W (zAf (by simp[Instr.extract,hv])) hr | trivial
end
variable[Glob]
theorem zEt(s:ByteArray):s.data.toList.length=s.size:=by rw[Array.length_toList];rfl
theorem zL2:encB []=0:=rfl
theorem zBv(c:UInt8)(l:List UInt8):encB (c::l)=c.toNat+256*encB l:=rfl
theorem encB_lt(l:List UInt8):encB l<256 ^ l.length:=by
 induction l with
 | nil=>simp[zL2]
 | cons c l ih=>rw[zBv,q0P,Nat.pow_succ];have:=c.toNat_lt;omega
theorem zGi(a b:List UInt8):encB (a++b)=encB a+encB b*256 ^ a.length:=by
 induction a with
 | nil=>simp[zL2]
 | cons c a ih=>rw[List.cons_append,zBv,zBv,ih,q0P,Nat.pow_succ,Nat.mul_add,Nat.add_assoc];congr 2;rw[<-Nat.mul_assoc,Nat.mul_comm 256,Nat.mul_assoc,Nat.mul_comm 256]
theorem zG5(l:List UInt8)(i:Nat):encB l / 256 ^ i=encB (l.drop i):=by
 induction i generalizing l with
 | zero=>simp
 | succ i ih=>
  cases l with
  | nil=>simp[zL2]
  | cons c l=>
   rw[zBv,List.drop_succ_cons,<-ih l,Nat.pow_succ,Nat.mul_comm (256 ^ i),<-Nat.div_div_eq_div_mul];have:=c.toNat_lt;congr 1;omega
theorem encB_take(l:List UInt8)(n:Nat)(hn:n<=l.length):encB l % 256 ^ n=encB (l.take n):=by
 have h:=zGi (l.take n) (l.drop n);rw[List.take_append_drop,q0v,Nat.min_eq_left hn] at h;rw[h,Nat.add_mul_mod_self_right];have:=encB_lt (l.take n);rw[q0v,Nat.min_eq_left hn] at this;exact Nat.mod_eq_of_lt this
theorem zL3:∀{a b:List UInt8},a.length=b.length->encB a=encB b->a=b
 | [],[],_,_=>rfl
 | [],_::_,h,_=>by simp at h
 | _::_,[],h,_=>by simp at h
 | c::a,d::b,h,e=>by
  rw[zBv,zBv] at e;have h1:=c.toNat_lt;have h2:=d.toNat_lt;have:c.toNat=d.toNat:=by omega
  have h3:encB a=encB b:=by omega
  rw[UInt8.toNat_inj.1 this,zL3 (by simpa using h) h3]
theorem encB_head(l:List UInt8):encB l % 256=((l[0]?).map UInt8.toNat).getD 0:=by
 cases l with
 | nil=>rfl
 | cons c l=>rw[zBv];have:=c.toNat_lt;simp only[List.getElem?_cons_zero,Option.map_some,q0F];omega
section
variable{P:Program}{ρ:Rho}{h:AH}{w:World}{loc:T AV}{tmp:List AV}
theorem zIo{G:OR->Prop}(hF:∀n,G (.fail n)){o:Option Opd}{d:Nat}{k:Nat->OR}(h0:o=none->G (k d))(h1:∀x kk m,o=some x->ev loc tmp x=.int kk (m:Nat)->G (k m)):G (zDe loc tmp o d k):=by
 cases o with
 | none=>exact h0 rfl
 | some x=>exact zBb hF λkk q e=>zCk hF λm hm=>h1 x kk m rfl (by rw[e,hm])
def OptR(ρ:Rho)(loc:T AV)(tmp:List AV)(o:Option Opd)(v:Option Value):Prop:=match o,v with
 | none,none=>True
 | some x,some v=>VR ρ (ev loc tmp x) v
 | _,_=>False
theorem zFh{o:Option Opd}{v:Option Value}(h:OptR ρ loc tmp o v)(e:o=none):v=none:=by subst e;cases v with
 | none=>rfl
 | some v=>exact h.elim
theorem zFg{o:Option Opd}{v:Option Value}{x:Opd}{kk:IntKind}{m:Nat}(h:OptR ρ loc tmp o v)(e:o=some x)(ei:ev loc tmp x=.int kk (m:Nat)):v=some (.int kk m):=by
 subst e;cases v with
 | none=>exact h.elim
 | some v=>
  have h:VR ρ (ev loc tmp x) v:=h;rw[ei] at h;cases h;rfl
theorem zBm{kk:IntKind}{m y:Nat}{c:BoundsCode}(hm:m<=y):(Instr.sliceBound (.int kk m) y c).run P w=.ok m w:=by
 simp only[Instr.sliceBound,Sem.run_bind,zA4,Result.andThen_ok];rw[if_pos (by omega)];simp
theorem s_sliceS{x:Opd}{lo hi:Option Opd}{t:TypeId}{vx:Value}{vlo vhi:Option Value}(W:WR ρ h w)(hu:P.underlying t=some .string)(hx:VR ρ (ev loc tmp x) vx)(hlo:OptR ρ loc tmp lo vlo)(hhi:OptR ρ loc tmp hi vhi) :
  Good P ρ h w (vv (Instr.sliceAt t vx vlo vhi none)) (zEy x lo hi loc tmp h):=by
 refine zFz q2h λlen b ex=>?_;rw[ex] at hx;cases hx with
 | str s e1 e2=>
  have key:∀(l h':Nat),l<=h'->h'<=len->(∀(hr:(Instr.sliceBounds false s.size s.size vlo vhi none).run P w=.ok (l,h',s.size) w),
    Good P ρ h w (vv (Instr.sliceAt t (.string s) vlo vhi none)) (fN (Nat.sub h' l) λn=>fN (Nat.mod (Nat.div b (Nat.pow (nat_lit 256) l)) (Nat.pow (nat_lit 256) n)) λm=>OR.val (AV.str n m) h)):=by
   intro l h' h1 h2 hr;rw[fN_eq,fN_eq];refine .same W (zAf (v:=.string (s.extract l h')) ?_) (.str _ ?_ ?_)
   ·simp only[Instr.sliceAt,Sem.run_bind,run_underlying hu,Result.andThen_ok,Instr.slice];simp[hr]
   ·show h'-l=_;rw[ByteArray.data_extract];simp;have:s.size=len:=by rw[e1,zEt]
    omega
   ·show Nat.mod (Nat.div b (Nat.pow 256 l)) (Nat.pow 256 (h'-l))=_;have e3:Nat.mod (Nat.div b (Nat.pow 256 l)) (Nat.pow 256 (h'-l))=(b / 256 ^ l) % 256 ^ (h'-l):=rfl;rw[e3,e2,zG5,encB_take _ _ (by rw[q0Q];omega),ByteArray.data_extract];congr 1;simp[List.take_drop]
  have hlen:s.size=len:=by rw[e1,zEt]
  refine zIo q2h (λe0=>?_) (λy kk m e0 ei=>?_)
  ·have v0:=zFh hhi e0;refine zIo q2h (λe1=>?_) (λz kk' m' e1 ei'=>?_)
   ·have v1:=zFh hlo e1;subst v0;subst v1;refine zAh q2h λhb=>zAh q2h λhb2=>key 0 len (q0k _) (q0c _) ?_;simp[Instr.sliceBounds,hlen]
   ·have v1:=zFg hlo e1 ei';subst v0;subst v1;refine zAh q2h λhb=>zAh q2h λhb2=>?_;have hb2:m'<=len:=q0g hb2;refine key m' len hb2 (q0c _) ?_;simp[Instr.sliceBounds,hlen,zBm (P:=P) (w:=w) (kk:=kk') (c:=.sliceB) hb2]
  ·have v0:=zFg hhi e0 ei;refine zIo q2h (λe1=>?_) (λz kk' m' e1 ei'=>?_)
   ·have v1:=zFh hlo e1;subst v0;subst v1;refine zAh q2h λhb=>zAh q2h λhb2=>?_;have hb:m<=len:=q0g hb;refine key 0 m (q0k _) hb ?_;simp[Instr.sliceBounds,hlen,zBm (P:=P) (w:=w) (kk:=kk) (c:=.sliceAlen) hb]
   ·have v1:=zFg hlo e1 ei';subst v0;subst v1;refine zAh q2h λhb=>zAh q2h λhb2=>?_;have hb:m<=len:=q0g hb;have hb2:m'<=m:=q0g hb2;refine key m' m hb2 hb ?_;simp[Instr.sliceBounds,hlen,zBm (P:=P) (w:=w) (kk:=kk) (c:=.sliceAlen) hb,zBm (P:=P) (w:=w) (kk:=kk') (c:=.sliceB) hb2]
theorem s_idxS{x i:Opd}{t:TypeId}{vx vi:Value}(W:WR ρ h w)(hu:P.underlying t=some .string)(hx:VR ρ (ev loc tmp x) vx)(hi:VR ρ (ev loc tmp i) vi) :
  Good P ρ h w (vv (Instr.index t vx vi)) (oIdxS x i loc tmp h):=by
 refine zBb q2h λk q ei=>zCk q2h λm hm=>zFz q2h λlen b ex=>zAh q2h λhlt=>?_;rw[fN_eq];rw[ei] at hi;rw[ex] at hx;have hlt:m<len:=q0g hlt;cases hi;cases hx with
 | str s e1 e2=>
  subst hm
  have hs:m<s.size:=by have:s.size=len:=by rw[e1,zEt]
                       omega
  have hb:Nat.mod (Nat.div b (Nat.pow (nat_lit 256) m)) (nat_lit 256)=s[m].toNat:=by
   have e3:Nat.mod (Nat.div b (Nat.pow (nat_lit 256) m)) (nat_lit 256)=(b / 256 ^ m) % 256:=rfl;rw[e3,e2,zG5,encB_head,List.getElem?_drop,Nat.add_zero];have:s.data.toList[m]?=some s[m]:=by
    rw[q0a (by rw[zEt];exact hs)];rfl
   rw[this];rfl
  rw[hb];refine .same W (zAf (v:=.int .u8 (s[m].toNat:Int)) ?_) (.int _ _);simp only[Instr.index,Sem.run_bind,zA4,Result.andThen_ok,run_underlying hu];rw[if_pos (by omega)];have h2:s[(m:Int).toNat]?=some s[m]:=by simp[hs]
  rw[h2];rfl
theorem s_idxA{x i:Opd}{t e:TypeId}{vx vi:Value}{len n:Nat}{g:Bool}(W:WR ρ h w)(hu:P.underlying t=some (.array len e))(hn:zAm P e=some n)(hg:tyAgg P e=some g)(hx:VR ρ (ev loc tmp x) vx)(hi:VR ρ (ev loc tmp i) vi) :
  Good P ρ h w (vv (Instr.index t vx vi)) (oIdxA len n g x i loc tmp h):=by
 refine zBb q2h λk q ei=>zCk q2h λm hm=>zAh q2h λhlt=>lift_agg q2h λl ex=>?_;rw[ei] at hi;rw[ex] at hx;have hlt:m<len:=q0g hlt;cases hi;cases hx with
 | agg hl hx=>
  subst hx;subst hm;rcases part_run (P:=P) (w:=w) (h:=h) (off:=m*n) hg hn hl with⟨k,e⟩ | ⟨a,v,e,hrun,hr⟩
  ·rw[fN_eq,show Nat.mul m n=m*n from rfl,e];trivial
  ·rw[fN_eq,show Nat.mul m n=m*n from rfl,e];refine .same W (zAf ?_) hr;simp only[Instr.index,Sem.run_bind,zA4,Result.andThen_ok,run_underlying hu];rw[if_pos (by omega)];simp[zAj hn,hrun]
theorem s_lenS{x:Opd}{ats:Array TypeId}{t ty:TypeId}{v:Value}(W:WR ρ h w)(h0:ats[0]?=some t)(hu:P.underlying t=some .string)(hv:VR ρ (ev loc tmp x) v) :
  Good P ρ h w (vv (Builtin.len_ ats ty #[v])) (oLen .str x loc tmp h):=by
 refine zFz q2h λl b e=>?_;rw[e] at hv;rw[zCj];cases hv with
 | str s e1 e2=>
  subst e1;refine .same W (zAf ?_) (.int _ _);rw[zEt];simp[Builtin.len_,h0,run_underlying hu,goInt]
theorem s_lenV{x:Opd}{ats:Array TypeId}{t e ty:TypeId}{v:Value}(W:WR ρ h w)(h0:ats[0]?=some t)(hu:P.underlying t=some (.slice e))(hv:VR ρ (ev loc tmp x) v) :
  Good P ρ h w (vv (Builtin.len_ ats ty #[v])) (oLen .sl x loc tmp h):=by
 refine zGe q2h (λe=>?_) λid off len cap e=>?_
 ·rw[e] at hv;rw[zCj];cases hv;exact .same W (zAf (by simp[Builtin.len_,h0,run_underlying hu,goInt])) (.int _ _)
 ·rw[e] at hv;rw[zCj];cases hv with
  | slz=>exact .same W (zAf (by simp[Builtin.len_,h0,run_underlying hu,goInt])) (.int _ _)
  | sle=>exact .same W (zAf (by simp[Builtin.len_,h0,run_underlying hu,goInt])) (.int _ _)
  | sl hr hp hc=>exact .same W (zAf (by simp[Builtin.len_,h0,run_underlying hu,goInt])) (.int _ _)
theorem elen_eq(es:List (AV×AV×Nat)):elen es=es.length:=by
 induction es with
 | nil=>rfl
 | cons e es ih=>show Nat.succ (elen es)=_;rw[ih];rfl
theorem ERs.length:∀{l:List (AV×AV×Nat)} {l':List MapEntry},ERs ρ l l'->l.length=l'.length
 | _,_,.nil=>rfl
 | _,_,.cons _ _ _ r=>by simp[ERs.length r]
theorem zDt{r:Nat}{o:Obj}(hr:w.heap[r]?=some o)(hc:∀a b c,o≠.cells a b c):(getObj r).run P w=.ok o w:=by
 cases o<;>first | (simp[getObj,Sem.run,hr];done) | (exact absurd rfl (hc _ _ _))
theorem s_lenM{x:Opd}{ats:Array TypeId}{t k e ty:TypeId}{v:Value}(W:WR ρ h w)(h0:ats[0]?=some t)(hu:P.underlying t=some (.map k e))(hv:VR ρ (ev loc tmp x) v) :
  Good P ρ h w (vv (Builtin.len_ ats ty #[v])) (oLen .map x loc tmp h):=by
 show Good P ρ h w _ (lenM x loc tmp h);unfold lenM;cases hx:ev loc tmp x with
 | mp id=>
  refine zCl q2h λes c hg=>?_;rw[hx] at hv;rw[zCj,elen_eq];cases hv with
  | mp hr=>
   rw[q2f] at hg;obtain⟨y,hy,hyr⟩:=W.obj hg hr;cases hyr with
   | map he=>
    refine .same W (zAf ?_) (.int _ _);rw[he.length];simp[Builtin.len_,h0,run_underlying hu,goInt,zDt hy]
 | nilm=>
  rw[hx] at hv;show Good P ρ h w _ (natV 0 h);rw[zCj];cases hv;exact .same W (zAf (by simp[Builtin.len_,h0,run_underlying hu,goInt])) (.int _ _)
 | _=>trivial
theorem s_cap{x:Opd}{ats:Array TypeId}{t e ty:TypeId}{v:Value}(W:WR ρ h w)(h0:ats[0]?=some t)(hu:P.underlying t=some (.slice e))(hv:VR ρ (ev loc tmp x) v) :
  Good P ρ h w (vv (Builtin.cap_ ats ty #[v])) (oCap x loc tmp h):=by
 refine zGe q2h (λe=>?_) λid off len cap e=>?_
 ·rw[e] at hv;rw[zCj];cases hv;exact .same W (zAf (by simp[Builtin.cap_,h0,run_underlying hu,goInt])) (.int _ _)
 ·rw[e] at hv;cases cap with
  | rest es=>trivial
  | known c=>
   show Good P ρ h w _ (natV c h);rw[zCj];cases hv with
   | slz=>exact .same W (zAf (by simp[Builtin.cap_,h0,run_underlying hu,goInt])) (.int _ _)
   | sl hr hp hc=>
    cases hc;exact .same W (zAf (by simp[Builtin.cap_,h0,run_underlying hu,goInt])) (.int _ _)
theorem s_max{x y:Opd}{ats:Array TypeId}{ty:TypeId}{v u:Value}(W:WR ρ h w)(hv:VR ρ (ev loc tmp x) v)(hu:VR ρ (ev loc tmp y) u) :
  Good P ρ h w (vv (Builtin.max_ ats ty #[v,u])) (oMax x y loc tmp h):=by
 refine zBb q2h λk m e1=>zBb q2h λk' n e2=>?_;rw[e1] at hv;rw[e2] at hu;cases hv;cases hu;rw[zH5];refine zA2 (λq=>?_) (λq=>?_)
 ·refine .same W (zAf ?_) (.int _ _);have q:m<n:=of_decide_eq_true q;simp[Builtin.max_,Builtin.max2,q]
 ·refine .same W (zAf ?_) (.int _ _);have q:¬m<n:=of_decide_eq_false q;simp[Builtin.max_,Builtin.max2,q]
theorem s_min{x y:Opd}{ats:Array TypeId}{ty:TypeId}{v u:Value}(W:WR ρ h w)(hv:VR ρ (ev loc tmp x) v)(hu:VR ρ (ev loc tmp y) u) :
  Good P ρ h w (vv (Builtin.min_ ats ty #[v,u])) (oMin x y loc tmp h):=by
 refine zBb q2h λk m e1=>zBb q2h λk' n e2=>?_;rw[e1] at hv;rw[e2] at hu;cases hv;cases hu;rw[zH5];refine zA2 (λq=>?_) (λq=>?_)
 ·refine .same W (zAf ?_) (.int _ _);have q:n<m:=of_decide_eq_true q;simp[Builtin.min_,Builtin.min2,q]
 ·refine .same W (zAf ?_) (.int _ _);have q:¬n<m:=of_decide_eq_false q;simp[Builtin.min_,Builtin.min2,q]
theorem s_mkMap{t:TypeId}(W:WR ρ h w):Good P ρ h w (vv (Instr.makeMap t none)) (oMkMap loc tmp h):=by
 unfold oMkMap;rw[q2k];obtain⟨W',S'⟩:=W.alloc (x:=.map #[] 0) (o:=.map [] 0) (s:=0) (w':={w with heap:=w.heap.push (.map #[] 0)}) (.map .nil) rfl ⟨rfl,rfl,rfl⟩;exact⟨_,.map (some w.heap.size),_,.inl (zAf (by simp[Instr.makeMap])),.mp (q2i _ _ _),W',S'⟩
theorem s_assert{x:Opd}{t st:TypeId}{ok:Bool}{z:AV}{zv v:Value}{d:TypeDesc}(W:WR ρ h w)(hu:P.underlying t=some d)(hd:∀ms,d≠.interface ms)(hz:zBf P t=some zv)(hzv:cvVal zv=some z)(hv:VR ρ (ev loc tmp x) v) :
  Good P ρ h w (vv (Instr.typeAssert v st t ok)) (zJg t ok z x loc tmp h):=by
 have hnil:(Instr.typeAssert .nilIface st t true).run P w=.ok (.tuple #[zv,.bool false]) w:=by
  simp only[Instr.typeAssert,Sem.run_bind,run_underlying hu,Result.andThen_ok];cases d<;>first | (exact absurd rfl (hd _)) | simp[zAu hz]
 unfold zJg;cases hx:ev loc tmp x with
 | nili=>
  rw[hx] at hv;cases hv;refine zAh q2h λhok=>?_;subst hok;exact .same W (zAf hnil) (.tup (.cons (zB6 hzv) (.cons (.bool _) .nil)) rfl)
 | ifc t' a=>
  rw[hx] at hv;cases hv with
  | ifc hv=>
   rename_i v';refine zA2 (λhe=>?_) (λhe=>?_)
   ·have he:t=t':=q0f he;subst he;have hr:(Instr.typeAssert (.iface t v') st t ok).run P w=.ok (if ok then .tuple #[v',.bool true] else v') w:=by
     simp only[Instr.typeAssert,Sem.run_bind,run_underlying hu,Result.andThen_ok];cases d<;>first | (exact absurd rfl (hd _)) | simp
    refine zA2 (λhok=>?_) (λhok=>?_)
    ·subst hok;exact .same W (zAf hr) (.tup (.cons hv (.cons (.bool _) .nil)) rfl)
    ·subst hok;exact .same W (zAf hr) hv
   ·have he:t≠t':=λe=>by subst e;rw[show Nat.beq t t=true from q0K t] at he;cases he
    refine zAh q2h λhok=>?_;subst hok;have hr:(Instr.typeAssert (.iface t' v') st t true).run P w=.ok (.tuple #[zv,.bool false]) w:=by
     simp only[Instr.typeAssert,Sem.run_bind,run_underlying hu,Result.andThen_ok];cases d<;>first | (exact absurd rfl (hd _)) | simp[zAu hz,Ne.symm he]
    exact .same W (zAf hr) (.tup (.cons (zB6 hzv) (.cons (.bool _) .nil)) rfl)
 | _=>trivial
theorem s_panic{x:Opd}{v:Value}(W:WR ρ h w)(hv:VR ρ (ev loc tmp x) v):Good P ρ h w (vv (Instr.panic v)) (oPanic x loc tmp h):=by
 unfold oPanic;cases hx:ev loc tmp x with
 | ifc t a=>
  rw[hx] at hv;cases hv with
  | ifc hv=>exact⟨_,by simp[vv,Instr.panic],.ifc hv⟩
 | _=>trivial
end
variable[Glob]
section
variable{P:Program}{ρ:Rho}{h:AH}{w:World}{loc:T AV}{tmp:List AV}
theorem guard_run{op:BinOp}{a:ABin}(hop:cBin op=some a){t:TypeId}{x y:Operand}{u v:Value}:(eqGuard op t x y u v).run P w=.ok () w:=by
 cases op<;>first | (simp[cBin] at hop;done) | simp[eqGuard]
theorem zEo{k:IntKind}{n:Int}(h:zAo k n=true)(h0:0<=n):(BitVec.ofInt k.bits n).toNat=n.toNat/\n.toNat<2 ^ k.bits:=by
 have:n.toNat<2 ^ k.bits:=by
  cases k<;>cases n<;>simp only[zAo,rIn,rUn,Nat.ble_eq,q0G] at h<;>simp only[IntKind.bits]<;>simp<;>omega
 refine⟨?_,this⟩;rw[BitVec.toNat_ofInt];have e:n=(n.toNat:Int):=by omega
 rw[e,q0n];have:((n.toNat:Int) % ((2 ^ k.bits:Nat):Int))=(n.toNat:Int):=Int.emod_eq_of_lt (by omega) (by exact_mod_cast this);rw[this];simp;omega
theorem s_bin_int{op:BinOp}{a:ABin}{k:IntKind}{m n:Int}{t:TypeId}{s:Sem Next}(W:WR ρ h w)(hop:cBin op=some a)(hs:op≠.shl/\op≠.shr)(hrun:∀v w',(binOp op t (.int k m) (.int k n)).run P w=.ok v w'->s.run P w=.ok (.value v) w') :
  Good P ρ h w s (intBin a k m n h):=by
 have fin:∀v:Value,∀a:AV,(binOp op t (.int k m) (.int k n)).run P w=.ok v w->VR ρ a v->Good P ρ h w s (OR.val a h):=λv a hr hv=>.same W (hrun _ _ hr) hv;cases op<;>simp only[cBin,Option.some.injEq,reduceCtorEq] at hop<;>subst hop
 case add=>show Good P ρ h w s (intV k (Int.add m n) h);rw[zCb];exact fin _ _ (by first | (simp[binOp,Op.intArith];done) | (simp[binOp,Op.intArith];rfl)) (.int _ _)
 case sub=>show Good P ρ h w s (intV k (Int.sub m n) h);rw[zCb];exact fin _ _ (by first | (simp[binOp,Op.intArith];done) | (simp[binOp,Op.intArith];rfl)) (.int _ _)
 case mul=>show Good P ρ h w s (intV k (Int.mul m n) h);rw[zCb];exact fin _ _ (by first | (simp[binOp,Op.intArith];done) | (simp[binOp,Op.intArith];rfl)) (.int _ _)
 case quo=>
  refine zDm q2h λhz=>?_;rw[zEm] at hz;have hz:¬n=0:=of_decide_eq_false hz;rw[zCb];exact fin _ _ (by simp[binOp,Op.intDiv,hz]) (.int _ _)
 case rem=>
  refine zDm q2h λhz=>?_;rw[zEm] at hz;have hz:¬n=0:=of_decide_eq_false hz;rw[fI_eq];exact fin _ _ (by simp[binOp,Op.intDiv,hz]) (.int _ _)
 case and=>
  refine zAh q2h λh1=>zAh q2h λh2=>?_;cases m with
  | negSucc m=>exact fin (.int k (k.wrap ((BitVec.ofInt k.bits (Int.negSucc m) &&& BitVec.ofInt k.bits n).toNat))) _ (by simp[binOp,Op.intBits]) (by rw[BitVec.toNat_and];exact .int _ _)
  | ofNat m=>
   cases n with
   | negSucc n=>exact fin (.int k (k.wrap ((BitVec.ofInt k.bits (Int.ofNat m) &&& BitVec.ofInt k.bits (Int.negSucc n)).toNat))) _ (by simp[binOp,Op.intBits]) (by rw[BitVec.toNat_and];exact .int _ _)
   | ofNat n=>
    show Good P ρ h w s (fN (Nat.land m n) λn=>bi (zAo k (Int.ofNat n)) (OR.val (AV.int k (Int.ofNat n)) h) (F 23));rw[fN_eq];refine zAh q2h λh3=>fin (.int k ((m &&& n:Nat):Int)) _ ?_ (.int _ _);have b1:=(zEo h1 (by simp)).1;have b2:=(zEo h2 (by simp)).1;have:k.wrap ((m &&& n:Nat):Int)=((m &&& n:Nat):Int):=zBu h3;simp only[binOp,ne_eq,not_true_eq_false,if_false,Op.intBits,BitVec.toNat_and,b1,b2];simp[this]
 case or=>
  refine zAh q2h λh1=>zAh q2h λh2=>?_;cases m with
  | negSucc m=>exact fin (.int k (k.wrap ((BitVec.ofInt k.bits (Int.negSucc m) ||| BitVec.ofInt k.bits n).toNat))) _ (by simp[binOp,Op.intBits]) (by rw[BitVec.toNat_or];exact .int _ _)
  | ofNat m=>
   cases n with
   | negSucc n=>exact fin (.int k (k.wrap ((BitVec.ofInt k.bits (Int.ofNat m) ||| BitVec.ofInt k.bits (Int.negSucc n)).toNat))) _ (by simp[binOp,Op.intBits]) (by rw[BitVec.toNat_or];exact .int _ _)
   | ofNat n=>
    show Good P ρ h w s (fN (Nat.lor m n) λn=>bi (zAo k (Int.ofNat n)) (OR.val (AV.int k (Int.ofNat n)) h) (F 23));rw[fN_eq];refine zAh q2h λh3=>fin (.int k ((m ||| n:Nat):Int)) _ ?_ (.int _ _);have b1:=(zEo h1 (by simp)).1;have b2:=(zEo h2 (by simp)).1;have:k.wrap ((m ||| n:Nat):Int)=((m ||| n:Nat):Int):=zBu h3;simp only[binOp,ne_eq,not_true_eq_false,if_false,Op.intBits,BitVec.toNat_or,b1,b2];simp[this]
 case xor=>
  refine zAh q2h λh1=>zAh q2h λh2=>?_;cases m with
  | negSucc m=>exact fin (.int k (k.wrap ((BitVec.ofInt k.bits (Int.negSucc m) ^^^ BitVec.ofInt k.bits n).toNat))) _ (by simp[binOp,Op.intBits]) (by rw[BitVec.toNat_xor];exact .int _ _)
  | ofNat m=>
   cases n with
   | negSucc n=>exact fin (.int k (k.wrap ((BitVec.ofInt k.bits (Int.ofNat m) ^^^ BitVec.ofInt k.bits (Int.negSucc n)).toNat))) _ (by simp[binOp,Op.intBits]) (by rw[BitVec.toNat_xor];exact .int _ _)
   | ofNat n=>
    show Good P ρ h w s (fN (Nat.xor m n) λn=>bi (zAo k (Int.ofNat n)) (OR.val (AV.int k (Int.ofNat n)) h) (F 23));rw[fN_eq];refine zAh q2h λh3=>fin (.int k ((m ^^^ n:Nat):Int)) _ ?_ (.int _ _);have b1:=(zEo h1 (by simp)).1;have b2:=(zEo h2 (by simp)).1;have:k.wrap ((m ^^^ n:Nat):Int)=((m ^^^ n:Nat):Int):=zBu h3;simp only[binOp,ne_eq,not_true_eq_false,if_false,Op.intBits,BitVec.toNat_xor,b1,b2];simp[this]
 case shl=>exact absurd rfl hs.1
 case shr=>exact absurd rfl hs.2
 case andNot=>trivial
 case lss=>show Good P ρ h w s (Ev.bool (ltI m n) h);rw[zCc,zH5];exact fin _ _ (by simp[binOp,Op.intCmp]) (.bool _)
 case leq=>show Good P ρ h w s (Ev.bool (leI m n) h);rw[zCc,leI_eq];exact fin _ _ (by simp[binOp,Op.intCmp]) (.bool _)
 case gtr=>show Good P ρ h w s (Ev.bool (ltI n m) h);rw[zCc,zH5];exact fin _ _ (by simp[binOp,Op.intCmp]) (.bool _)
 case geq=>show Good P ρ h w s (Ev.bool (leI n m) h);rw[zCc,leI_eq];exact fin _ _ (by simp[binOp,Op.intCmp]) (.bool _)
end
variable[Glob]
section
variable{P:Program}{ρ:Rho}{h:AH}{w:World}{loc:T AV}{tmp:List AV}
theorem wrap_zero(k:IntKind)(x:Int):k.wrap (x*2 ^ k.bits)=0:=by
 cases k<;>simp[IntKind.wrap,IntKind.bits,IntKind.signed]
theorem s_shift{op:BinOp}{a:ABin}{k k':IntKind}{m n:Int}{t:TypeId}{s:Sem Next}(W:WR ρ h w)(hop:cBin op=some a)(hs:op=.shl\/op=.shr)(hrun:∀v w',(binOp op t (.int k m) (.int k' n)).run P w=.ok v w'->s.run P w=.ok (.value v) w') :
  Good P ρ h w s (zIj a k m n h):=by
 have fin:∀v:Value,∀a:AV,(binOp op t (.int k m) (.int k' n)).run P w=.ok v w->VR ρ a v->Good P ρ h w s (OR.val a h):=λv a hr hv=>.same W (hrun _ _ hr) hv;refine zCk q2h λq hq=>?_;subst hq;rcases hs with rfl | rfl<;>simp only[cBin,Option.some.injEq] at hop<;>subst hop
 ·refine zA2 (λhb=>?_) (λhb=>?_)
  ·have hb:q<=k.bits:=q0g hb;rw[zCb];refine fin _ _ ?_ (.int _ _);simp only[binOp,Op.shift];rw[if_neg (by omega)];simp[Nat.min_eq_left hb]
  ·have hb:k.bits<q:=by
    rcases q0x k.bits q with h | h
    ·exact h
    ·have:Nat.ble q k.bits=true:=by rw[Nat.ble_eq];exact h
     rw[this] at hb;cases hb
   refine fin (.int k 0) _ ?_ (.int _ _);simp only[binOp,Op.shift];rw[if_neg (by omega)];have:=wrap_zero k m;simp[Nat.min_eq_right (Nat.le_of_lt hb),this]
 ·cases m with
  | ofNat x=>
   refine zAh q2h λhb=>?_;have hb:q<=k.bits:=q0g hb;rw[fN_eq];refine fin (.int k ((x / 2 ^ q:Nat):Int)) _ ?_ (.int _ _);simp only[binOp,Op.shift];rw[if_neg (by omega)];have e:(2:Int) ^ q=((2 ^ q:Nat):Int):=by simp
   simp only[q0n,Nat.min_eq_left hb,Sem.run_pure,e];rw[Int.fdiv_eq_ediv_of_nonneg _ (Int.natCast_nonneg _)];rfl
  | negSucc x=>
   refine zAh q2h λhb=>?_;have hb:q<=k.bits:=q0g hb;refine fin (.int k (Int.fdiv (Int.negSucc x) ((2 ^ q:Nat):Int))) _ ?_ (.int _ _);simp only[binOp,Op.shift];rw[if_neg (by omega)];have e:(2:Int) ^ q=((2 ^ q:Nat):Int):=by simp
   simp only[q0n,Nat.min_eq_left hb,Sem.run_pure,e]
theorem s_strBin{op:BinOp}{a:ABin}{l b l' b':Nat}{x y:Value}{t:TypeId}{s:Sem Next}(W:WR ρ h w)(hop:cBin op=some a)(hx:VR ρ (.str l b) x)(hy:VR ρ (.str l' b') y)(hrun:∀v w',(binOp op t x y).run P w=.ok v w'->s.run P w=.ok (.value v) w') :
  Good P ρ h w s (strBin a l b l' b' h):=by
 cases hx with
 | str sx e1 e2=>
  cases hy with
  | str sy e3 e4=>
   cases op<;>simp only[cBin,Option.some.injEq,reduceCtorEq] at hop<;>subst hop
   case add=>
    refine zAh q2h λhb=>?_;rw[fN_eq,fN_eq];have hb:l+l'<=9223372036854775807:=q0g hb;refine .same W (hrun (.string (sx++sy)) w ?_) (.str _ ?_ ?_)
    ·simp only[binOp,Op.stringOp];rw[if_neg]
     ·simp
     ·rw[zEt] at e1 e3;simp[IntKind.max,IntKind.signed,IntKind.bits];omega
    ·show l+l'=_;rw[ByteArray.data_append];simp[e1,e3]
    ·show b+b'*256 ^ l=_;rw[ByteArray.data_append,Array.toList_append,zGi,e2,e4,e1]
   all_goals trivial
theorem isShift_iff{op:BinOp}{a:ABin}(hop:cBin op=some a):(zLs a=true->op=.shl\/op=.shr)/\(zLs a=false->op≠.shl/\op≠.shr):=by
 cases op<;>simp only[cBin,Option.some.injEq,reduceCtorEq] at hop<;>subst hop<;>simp[zLs]
theorem s_bin{op:BinOp}{a:ABin}{x y:Opd}{x' y':Operand}{u v:Value}{t:TypeId}(W:WR ρ h w)(hop:cBin op=some a)(hx:VR ρ (ev loc tmp x) u)(hy:VR ρ (ev loc tmp y) v) :
  Good P ρ h w (vv (do eqGuard op t x' y' u v;binOp op t u v)) (oBin a x y loc tmp h):=by
 have hrun:∀r w',(binOp op t u v).run P w=.ok r w'->(vv (do eqGuard op t x' y' u v;binOp op t u v)).run P w=.ok (.value r) w':=by
  intro r w' hr;refine zAf ?_;rw[Sem.run_bind,guard_run hop];exact hr
 unfold oBin;cases ex:ev loc tmp x with
 | int k m=>
  rw[ex] at hx;cases hx;refine zBb q2h λk' n ey=>?_;rw[ey] at hy;cases hy;obtain⟨i1,i2⟩:=isShift_iff hop;refine zA2 (λhs=>s_shift W hop (i1 hs) hrun) (λhs=>zAh q2h λhk=>?_);have:=zHw hk;subst this;exact s_bin_int W hop (i2 hs) hrun
 | str l b=>
  rw[ex] at hx;refine zFz q2h λl' b' ey=>?_;rw[ey] at hy;exact s_strBin W hop hx hy hrun
 | _=>trivial
theorem foldl_set{off:Nat}:∀(vs:List Value) (j:Nat) (cs:Array Value) (i:Nat),
  ((vs.zipIdx j).foldl (λcs (c,j)=>cs.setIfInBounds (off+j) c) cs)[i]?=if off+j<=i/\i<off+j+vs.length/\i<cs.size then vs[i-(off+j)]? else cs[i]?
 | [],j,cs,i=>by simp;intro h1 h2;omega
 | v::vs,j,cs,i=>by
  rw[List.zipIdx_cons,List.foldl_cons,foldl_set vs (j+1)];simp only[Array.size_setIfInBounds,q0P];by_cases hi:off+j=i
  ·subst hi;rw[if_neg (by omega)];by_cases hs:off+j<cs.size
   ·rw[if_pos (by omega)];simp[hs]
   ·rw[if_neg (by omega),Array.getElem?_eq_none (by simp;omega),Array.getElem?_eq_none (by omega)]
  ·by_cases hc:off+(j+1)<=i/\i<off+(j+1)+vs.length/\i<cs.size
   ·rw[if_pos hc,if_pos (by omega)];obtain⟨q,hq⟩:∃q,i-(off+j)=q+1:=⟨i-(off+j)-1,by omega⟩;rw[hq,show i-(off+(j+1))=q by omega];simp
   ·rw[if_neg hc,if_neg (by omega),Array.getElem?_setIfInBounds_ne hi]
inductive PRs(ρ:Rho)(loc:T AV)(tmp:List AV)(place:Nat->Option (Nat×Nat)):List Part->List (Nat×Value)->Prop
 | nil:PRs ρ loc tmp place [] []
 | cons {p:Part} {i:Nat} {v:Value} {l:List Part} {l':List (Nat×Value)}:place i=some (p.off,p.size)->VR ρ (ev loc tmp p.x) v->PRs ρ loc tmp place l l'->PRs ρ loc tmp place (p::l) ((i,v)::l')
theorem zG4{place:Nat->Option (Nat×Nat)}:∀{ps:List Part} {vs:List (Nat×Value)} {z l:List AV} {cs:Array Value},PRs ρ loc tmp place ps vs->VCs ρ z cs.toList->fill loc tmp ps z=some l->
  ∃cs',Instr.fill place cs vs=some cs'/\VCs ρ l cs'.toList/\l.length=z.length
 | _,_,z,l,cs,.nil,hz,hf=>⟨cs,rfl,by injection hf with hf;subst hf;exact hz,by injection hf with hf;subst hf;rfl⟩
 | _,_,z,l,cs,.cons (p:=p) (v:=v) (l:=ps) (l':=vs) hp hv hr,hz,hf=>by
  have hf':obind (cellsOf (ev loc tmp p.x)) none (λus=>bi (Nat.beq (llen us) p.size) (bi (Nat.ble (Nat.add p.off p.size) (llen z)) (fill loc tmp ps (lapp (ltake p.off z) (lapp us (ldrop (Nat.add p.off p.size) z)))) none) none)=some l:=hf;cases hc:cellsOf (ev loc tmp p.x) with
  | none=>rw[hc] at hf';cases hf'
  | some us=>
   rw[hc] at hf';have hf':bi (Nat.beq (llen us) p.size) (bi (Nat.ble (Nat.add p.off p.size) (llen z)) (fill loc tmp ps (lapp (ltake p.off z) (lapp us (ldrop (Nat.add p.off p.size) z)))) none) none=some l:=hf';rw[bi_eq] at hf';split at hf'
   ·rename_i h1;rw[bi_eq] at hf';split at hf'
    ·rename_i h2;rw[zBd] at h1 h2;have h1:us.length=p.size:=q0f h1;have h2:p.off+p.size<=z.length:=q0g h2;have hus:=zJ1 hv hc;rw[zCt,zCt,zFy,zIp] at hf';have hvl:=hus.length;have hzl:=hz.length;have hnew:VCs ρ (z.take p.off++(us++z.drop (Nat.add p.off p.size))) ((v.cells.zipIdx.foldl (λcs (c,j)=>cs.setIfInBounds (p.off+j) c) cs)).toList:=by
      have e:((v.cells.zipIdx.foldl (λcs (c,j)=>cs.setIfInBounds (p.off+j) c) cs)).toList=cs.toList.take p.off++(v.cells.toList++cs.toList.drop (p.off+p.size)):=by
       have e0:v.cells.zipIdx.foldl (λcs (c,j)=>cs.setIfInBounds (p.off+j) c) cs=(v.cells.toList.zipIdx 0).foldl (λcs (c,j)=>cs.setIfInBounds (p.off+j) c) cs:=by
        rw[<-Array.foldl_toList,Array.toList_zipIdx]
       rw[e0];apply List.ext_getElem?;intro i;rw[Array.getElem?_toList,foldl_set];have hs1:v.cells.toList.length=p.size:=by omega
       have hs0:v.cells.toList.length=v.cells.size:=Array.length_toList;by_cases hi:p.off+0<=i/\i<p.off+0+v.cells.toList.length/\i<cs.size
       ·rw[if_pos hi,List.getElem?_append_right (by simp;omega),List.getElem?_append_left (by simp at hzl ⊢;omega)];congr 1;simp at hzl ⊢;omega
       ·rw[if_neg hi];by_cases h3:i<p.off
        ·rw[List.getElem?_append_left (by simp at hzl ⊢;omega)];simp[h3]
        ·by_cases h4:i<p.off+p.size
         ·exfalso;apply hi;simp at hzl ⊢;simp at hs1;omega
         ·rw[List.getElem?_append_right (by simp;omega),List.getElem?_append_right (by simp at hzl hs1 ⊢;omega),List.getElem?_drop];rw[<-Array.getElem?_toList];congr 1;simp at hzl hs1 ⊢;omega
      rw[e];exact(hz.take _).append (hus.append (hz.drop _))
     obtain⟨cs',g1,g2,g3⟩:=zG4 hr hnew hf';refine⟨cs',?_,g2,?_⟩
     ·have hs1:v.cells.size=p.size:=by simp at hvl;omega
      have hs2:¬cs.size<p.off+p.size:=by simp at hzl;omega
      simp only[Instr.fill,hp,hs1,ne_eq,not_true_eq_false,gt_iff_lt,hs2,if_false,decide_false,Bool.or_self,q0G];exact g1
     ·rw[g3];simp[h1];omega
    ·cases hf'
   ·cases hf'
theorem s_build{t:TypeId}{z:List AV}{ps:List Part}{vs:Array (Nat×Value)}{zv:Value}{fs:Array Field}(W:WR ρ h w)(hz:zBf P t=some zv)(hzc:zBe zv=some z)(hu:P.underlying t=some (.struct fs))
  {places:Array (Nat×Nat)} (hpl:(fs.mapM λf=>do pure (f.offset,<-sizeOf f.type):Sem (Array (Nat×Nat))).run P w=.ok places w) (hp:PRs ρ loc tmp (places[·]?) ps vs.toList) :
  Good P ρ h w (vv (Instr.build t vs)) (oBuild z ps loc tmp h):=by
 refine zAl q2h λl hl=>?_;obtain⟨cs',g1,g2,_⟩:=zG4 hp (zA7 hzc) (by rw[<-zF2];exact hl);refine .same W (zAf (v:=.agg cs') ?_) (.agg g2 (by simp));simp only[Instr.build,Sem.run_bind,zAu hz,Result.andThen_ok,run_underlying hu,hpl,g1,Sem.run_pure]
theorem s_buildA{t e:TypeId}{z:List AV}{ps:List Part}{vs:Array (Nat×Value)}{zv:Value}{len n:Nat}(W:WR ρ h w)(hz:zBf P t=some zv)(hzc:zBe zv=some z)(hu:P.underlying t=some (.array len e))(hn:zAm P e=some n)
  (hp:PRs ρ loc tmp (λi=>some (i*n,n)) ps vs.toList) :
  Good P ρ h w (vv (Instr.build t vs)) (oBuild z ps loc tmp h):=by
 refine zAl q2h λl hl=>?_;obtain⟨cs',g1,g2,_⟩:=zG4 hp (zA7 hzc) (by rw[<-zF2];exact hl);refine .same W (zAf (v:=.agg cs') ?_) (.agg g2 (by simp));simp only[Instr.build,Sem.run_bind,zAu hz,Result.andThen_ok,run_underlying hu,zAj hn,g1,Sem.run_pure]
end
variable[Glob]
section
variable{P:Program}{ρ:Rho}{h:AH}{w:World}{loc:T AV}{tmp:List AV}
theorem zDn(n:Nat)(z:List AV):(List.replicate n z).flatten.length=n*z.length:=by
 induction n with
 | zero=>simp
 | succ n ih=>rw[List.replicate_succ,List.flatten_cons,q0o,ih,Nat.succ_mul,Nat.add_comm]
theorem flat_get(n:Nat)(z:List AV)(i:Nat)(hi:i<n*z.length):(List.replicate n z).flatten[i]?=z[i % z.length]?:=by
 induction n generalizing i with
 | zero=>simp at hi
 | succ n ih=>
  rw[List.replicate_succ,List.flatten_cons];by_cases h:i<z.length
  ·rw[List.getElem?_append_left h,Nat.mod_eq_of_lt h]
  ·have h:z.length<=i:=by omega
   rw[List.getElem?_append_right h,ih _ (by rw[Nat.succ_mul] at hi;omega),Nat.mod_eq_sub_mod h]
theorem zDs{n:Nat}{z:List AV}{zs:Array Value}(hz:VCs ρ z zs.toList):VCs ρ (List.replicate n z).flatten ((Array.range (n*zs.size)).map (zs[· % zs.size]!)).toList:=by
 have hlen:=hz.length;have hl:z.length=zs.size:=by simpa using hlen
 refine VCs.of_get (by rw[zDn,hl];simp) λi a ha=>?_;have hi:i<n*z.length:=by
  rcases q0x i (n*z.length) with h | h
  ·exact h
  ·rw[q0i (by rw[zDn];exact h)] at ha;cases ha
 rw[flat_get _ _ _ hi] at ha;obtain⟨v,hv,hr,hc⟩:=hz.get ha;refine⟨v,?_,hr,hc⟩;rw[hl] at hi hv
 have hlt:i % zs.size<zs.size:=Nat.mod_lt _ (by rcases Nat.eq_zero_or_pos zs.size with h | h;· rw[h] at hi;simp at hi
                                                ·exact h)
 have e2:zs[i % zs.size]=v:=by rw[Array.getElem?_toList,Array.getElem?_eq_getElem hlt] at hv;exact Option.some.inj hv
 simp[hi,hlt,e2]
theorem s_bslice{t e:TypeId}{z:List AV}{ps:List Part}{vs:Array (Nat×Value)}{zv:Value}{len n:Nat}(W:WR ρ h w)(hu:P.underlying t=some (.slice e))(hn:zAm P e=some n)(hz:zBf P e=some zv)(hzc:zBe zv=some z)(hzn:z.length=n)(hb:len*n<=2 ^ 24)
  (hp:PRs ρ loc tmp (λi=>some (i*n,n)) ps vs.toList) :
  Good P ρ h w (vv (Instr.buildSlice t len vs)) (oBslice (List.replicate len z).flatten len ps loc tmp h):=by
 refine zAl q2h λl hl=>?_;have hz0:=zA7 (ρ:=ρ) hzc;have hsz:zv.cells.size=n:=by have:=hz0.length;simp at this;omega
 obtain⟨zc,hzce⟩:∃zc,zc=(if len*n=0 then #[] else zv.cells):=⟨_,rfl⟩;have hrep:VCs ρ (List.replicate len z).flatten ((Array.range (len*n)).map (zc[· % zc.size]!)).toList:=by
  by_cases h0:len*n=0
  ·have:(List.replicate len z).flatten=[]:=q0r (by rw[zDn,hzn,h0]);rw[this,h0];simp;exact .nil
  ·rw[if_neg h0] at hzce;subst hzce;have:=zDs (n:=len) hz0;rw[show len*n=len*zv.cells.size by rw[hsz]];exact this
 obtain⟨cs',g1,g2,g3⟩:=zG4 hp hrep (by rw[<-zF2];exact hl);rw[q2k,zBd,<-g3];obtain⟨W',S'⟩:=g_row (e:=e) W g2;refine⟨_,.slice (some ⟨w.heap.size,0,none⟩) len len,_,.inl (zAf ?_),.sl (q2i _ _ _) rfl (.known (q0c _)),W',S'⟩;have hb':¬16777216<len*n:=by omega
 by_cases h0:len*n=0
 ·rw[if_pos h0] at hzce;subst hzce;simp only[Instr.buildSlice,Sem.run_bind,run_underlying hu,Result.andThen_ok,zAj hn];rw[if_neg (by simpa using hb'),if_pos h0];simp only[Sem.run_bind,Sem.run_pure,Result.andThen_ok];rw[g1];simp[zAx]
 ·rw[if_neg h0] at hzce;subst hzce;simp only[Instr.buildSlice,Sem.run_bind,run_underlying hu,Result.andThen_ok,zAj hn];rw[if_neg (by simpa using hb'),if_neg h0];simp only[Sem.run_bind,Sem.run_pure,Result.andThen_ok,zAu hz];rw[g1];simp[zAx]
theorem zC3{n:Nat}(h:n<=1099511627776):IntKind.i64.wrap (n:Int)=n:=zBu (by simp only[zAo,rIn];show Nat.ble n _=true;rw[Nat.ble_eq];omega)
theorem s_mkSlice{t e:TypeId}{z:List AV}{l c:Opd}{vl vc zv:Value}{n b:Nat}(W:WR ρ h w)(hu:P.underlying t=some (.slice e))(hn:zAm P e=some n)(hb:zC5 P e=some b)(hz:zBf P e=some zv)(hzc:zBe zv=some z)(hzn:z.length=n)
  (hl:VR ρ (ev loc tmp l) vl) (hc:VR ρ (ev loc tmp c) vc):Good P ρ h w (vv (Instr.makeSlice t vl vc)) (zB0 z b l c loc tmp h):=by
 refine zBb q2h λk q e1=>zCk q2h λm hm=>zBb q2h λk' q' e2=>zCk q2h λm' hm'=>zAh q2h λh1=>zAh q2h λh2=>zAh q2h λh3=>?_;rw[e1] at hl;rw[e2] at hc;cases hl;cases hc;subst hm;subst hm';have h1:m<=m':=q0g h1;have h2:m'*b<=1099511627776:=q0g h2;have h3:m'<=1099511627776:=q0g h3;show Good P ρ h w _ (AH.new h (AObj.cells (zAa (lrep z m')) (Nat.mul m' (llen z)) none false) λid h=>OR.val (AV.sl id 0 m (ACap.known m')) h);have hz0:=zA7 (ρ:=ρ) hzc;have hsz:zv.cells.size=n:=by have:=hz0.length;simp at this;omega
 obtain⟨zc,hzce⟩:∃zc,zc=(if m'*n=0 then #[] else zv.cells):=⟨_,rfl⟩;have hrep:VCs ρ (lrep z m') ((Array.range (m'*n)).map (zc[· % zc.size]!)).toList:=by
  rw[zE0];by_cases h0:m'*n=0
  ·have:(List.replicate m' z).flatten=[]:=q0r (by rw[zDn,hzn,h0]);rw[this,h0];simp;exact .nil
  ·rw[if_neg h0] at hzce;subst hzce;have:=zDs (n:=m') hz0;rw[show m'*n=m'*zv.cells.size by rw[hsz]];exact this
 have hlen:Nat.mul m' (llen z)=(lrep z m').length:=by rw[zBd,zE0,zDn];rfl
 rw[hlen,q2k];obtain⟨W',S'⟩:=g_row (e:=e) W hrep;refine⟨_,.slice (some ⟨w.heap.size,0,none⟩) m m',_,.inl (zAf ?_),.sl (q2i _ _ _) rfl (.known h1),W',S'⟩;have hinfo:∃i,P.info? e=some i/\i.bytes=b:=by
  unfold zC5 at hb;cases hi:P.info? e with
  | none=>rw[hi] at hb;cases hb
  | some i=>rw[hi] at hb;injection hb with hb;exact⟨i,rfl,hb⟩
 obtain⟨i,hi,hib⟩:=hinfo;have hti:(typeInfo e).run P w=.ok i w:=by simp[typeInfo,hi]
 have w1:IntKind.i64.wrap (m:Int)=m:=zC3 (by omega);have w2:IntKind.i64.wrap (m':Int)=m':=zC3 h3;have hbig:¬(2:Int) ^ 48<(i.bytes:Int)*(m':Int):=by
  rw[hib];have:(b:Int)*(m':Int)=((m'*b:Nat):Int):=by rw[Int.mul_comm,Int.natCast_mul]
  have e:(2:Int) ^ 48=281474976710656:=by decide
  omega
 have e1:¬(m':Int)<0:=by omega
 have e2:¬(m:Int)<0:=by omega
 have e3:¬(m':Int)<(m:Int):=by omega
 simp only[Instr.makeSlice,Sem.run_bind,run_underlying hu,Result.andThen_ok,asInt,zA4,Sem.run_pure,hti,w1,w2];by_cases h0:m'*n=0
 ·rw[if_pos h0] at hzce;subst hzce;simp[e1,e2,e3,zAj hn,h0,zAx];intro hc;exfalso;apply hbig;have e:(2:Int) ^ 48=281474976710656:=by decide
  omega
 ·rw[if_neg h0] at hzce;subst hzce;simp[e1,e2,e3,zAj hn,h0,zAu hz,zAx];intro hc;exfalso;apply hbig;have e:(2:Int) ^ 48=281474976710656:=by decide
  omega
theorem CapR.le{cap:ACap}{off s len c:Nat}(h:CapR cap off s len c):len<=c:=by cases h<;>assumption
theorem zEn{len cap l hh m:Nat}{vlo vhi vmx:Option Value}(hm:vmx=none/\m=cap\/(∃k,vmx=some (.int k (m:Nat)))/\m<=cap)(hh':vhi=none/\vmx=none/\hh=len\/(∃k,vhi=some (.int k (hh:Nat)))/\hh<=m)(hl:vlo=none/\l=0\/(∃k,vlo=some (.int k (l:Nat)))/\l<=hh) :
  (Instr.sliceBounds true len cap vlo vhi vmx).run P w=.ok (l,hh,m) w:=by
 rcases hm with⟨rfl,rfl⟩ | ⟨⟨k1,rfl⟩,hm⟩<;>rcases hh' with⟨rfl,e,rfl⟩ | ⟨⟨k2,rfl⟩,hh'⟩<;>rcases hl with⟨rfl,rfl⟩ | ⟨⟨k3,rfl⟩,hl⟩
 ·simp[Instr.sliceBounds]
 ·simp[Instr.sliceBounds,zBm (P:=P) (w:=w) (kk:=k3) (c:=.sliceB) hl]
 ·simp[Instr.sliceBounds,zBm (P:=P) (w:=w) (kk:=k2) (c:=.sliceAcap) hh']
 ·simp[Instr.sliceBounds,zBm (P:=P) (w:=w) (kk:=k2) (c:=.sliceAcap) hh',zBm (P:=P) (w:=w) (kk:=k3) (c:=.sliceB) hl]
 ·cases e
 ·cases e
 ·simp[Instr.sliceBounds,zBm (P:=P) (w:=w) (kk:=k1) (c:=.slice3Acap) hm,zBm (P:=P) (w:=w) (kk:=k2) (c:=.slice3B) hh']
 ·simp[Instr.sliceBounds,zBm (P:=P) (w:=w) (kk:=k1) (c:=.slice3Acap) hm,zBm (P:=P) (w:=w) (kk:=k2) (c:=.slice3B) hh',zBm (P:=P) (w:=w) (kk:=k3) (c:=.slice3C) hl]
theorem zEr{t e:TypeId}{a:Option Addr}{len cap l hh m n:Nat}{vlo vhi vmx:Option Value}(hu:P.underlying t=some (.slice e))(hn:zAm P e=some n)(hr:(Instr.sliceBounds true len cap vlo vhi vmx).run P w=.ok (l,hh,m) w) :
  (Instr.sliceAt t (.slice a len cap) vlo vhi vmx).run P w=.ok (.slice (if m=l then a else a.map (·.add (l*n))) (hh-l) (m-l)) w:=by
 simp only[Instr.sliceAt,Sem.run_bind,run_underlying hu,Result.andThen_ok,Instr.slice,hr,zAj hn,Sem.run_pure]
theorem s_sliceV{kill:Bool}{x:Opd}{lo hi mx:Option Opd}{t e:TypeId}{vx:Value}{vlo vhi vmx:Option Value}{n:Nat}(W:WR ρ h w)(hu:P.underlying t=some (.slice e))(hn:zAm P e=some n)(hx:VR ρ (ev loc tmp x) vx)
  (hlo:OptR ρ loc tmp lo vlo) (hhi:OptR ρ loc tmp hi vhi) (hmx:OptR ρ loc tmp mx vmx) (h3:mx.isSome=true->hi.isSome=true) :
  Good P ρ h w (vv (Instr.sliceAt t vx vlo vhi vmx)) (zAs kill n x lo hi mx loc tmp h):=by
 have P1:∀(o:Option Opd) (v:Option Value) (d:Nat) (G:OR->Prop) (hF:∀n,G (.fail n)) (k:Nat->OR),OptR ρ loc tmp o v->(∀q,(v=none/\o=none/\q=d\/(∃kk,v=some (.int kk (q:Nat)))/\o.isSome=true)->G (k q))->G (zDe loc tmp o d k):=by
  intro o v d G hF k hv hk;refine zIo hF (λe0=>hk d (.inl ⟨zFh hv e0,e0,rfl⟩)) (λy kk m e0 ei=>hk m (.inr ⟨⟨kk,zFg hv e0 ei⟩,by rw[e0];rfl⟩))
 unfold zAs;refine zGe q2h (λex=>?_) λid off len cap ex=>?_
 ·rw[ex] at hx;cases hx;refine P1 mx vmx 0 _ q2h _ hmx λm hm=>P1 hi vhi 0 _ q2h _ hhi λhh hhv=>P1 lo vlo 0 _ q2h _ hlo λl hl=>zAh q2h λb1=>zAh q2h λb2=>zAh q2h λb3=>?_;have b1:m=0:=q0f b1;have b2:hh=0:=q0f b2;have b3:l=0:=q0f b3;subst b1;subst b2;subst b3
  have hr:=zEn (P:=P) (w:=w) (len:=0) (cap:=0) (l:=0) (hh:=0) (m:=0) (vlo:=vlo) (vhi:=vhi) (vmx:=vmx)
   (by rcases hm with⟨a,_,_⟩ | ⟨a,_⟩;exact .inl ⟨a,rfl⟩;exact .inr ⟨a,q0c _⟩)
   (by rcases hhv with⟨a,b,_⟩ | ⟨a,_⟩
       ·refine .inl ⟨a,?_,rfl⟩;rcases hm with⟨c,_,_⟩ | ⟨_,c⟩
        ·exact c
        ·have:=h3 c;rw[b] at this;cases this
       ·exact .inr ⟨a,q0c _⟩)
   (by rcases hl with⟨a,_,_⟩ | ⟨a,_⟩;exact .inl ⟨a,rfl⟩;exact .inr ⟨a,q0c _⟩)
  refine .same W (zAf (v:=.slice none 0 0) ?_) .nils;rw[zEr hu hn hr];simp
 ·rw[ex] at hx;cases hx with
  | slz=>
   rename_i a;refine P1 mx vmx 0 _ q2h _ hmx λm hm=>zAh q2h λb1=>P1 hi vhi 0 _ q2h _ hhi λhh hhv=>zAh q2h λb2=>P1 lo vlo 0 _ q2h _ hlo λl hl=>zAh q2h λb3=>?_;have b1:m<=0:=q0g b1;have b2:hh<=m:=q0g b2;have b3:l<=hh:=q0g b3;obtain rfl:m=0:=by omega
   obtain rfl:hh=0:=by omega
   obtain rfl:l=0:=by omega
   have hb:(Instr.sliceBounds true 0 0 vlo vhi vmx).run P w=.ok (0,0,0) w:=by
    refine zEn ?_ ?_ ?_
    ·rcases hm with⟨a,_,q⟩ | ⟨a,_⟩
     ·exact .inl ⟨a,q⟩
     ·exact .inr ⟨a,q0c _⟩
    ·rcases hhv with⟨a,b,q⟩ | ⟨a,_⟩
     ·refine .inl ⟨a,?_,q⟩;rcases hm with⟨c,_,_⟩ | ⟨_,c⟩
      ·exact c
      ·have:=h3 c;rw[b] at this;cases this
     ·exact .inr ⟨a,q0c _⟩
    ·rcases hl with⟨a,_,q⟩ | ⟨a,_⟩
     ·exact .inl ⟨a,q⟩
     ·exact .inr ⟨a,q0c _⟩
   have hs:=zEr (a:=some a) hu hn hb;exact .same W (zAf hs) .slz
  | sle=>exact zAh q2h λh1=>zAh q2h λh2=>absurd (q0g h2) (by rw[q0f h1];decide)
  | sl hr hp hc=>
   rename_i b o s p c;subst hp;have hcl:=hc.le
   have key:∀(l hh m:Nat),l<=hh->hh<=m->m<=c->(Instr.sliceBounds true len c vlo vhi vmx).run P w=.ok (l,hh,m) w->(hk:cap=.known c\/vmx.isSome=true)->
     Good P ρ h w (vv (Instr.sliceAt t (.slice (some ⟨b,o+off,none⟩) len c) vlo vhi vmx))
      (fN (Nat.sub hh l) λn'=>fN (Nat.sub m l) λm'=>bi (Nat.beq m' (nat_lit 0)) (OR.val (AV.sl id off n' (ACap.known m')) h) (fN (Nat.add off (Nat.mul l n)) λoff=>OR.val (AV.sl id off n' (ACap.known m')) h)):=by
    intro l hh m h1 h2 h3 hb _;rw[fN_eq,fN_eq,fN_eq];have hs:=zEr (a:=some ⟨b,o+off,none⟩) hu hn hb;refine zA2 (λhm=>?_) (λhm=>?_)
    ·have hm:m-l=0:=q0f hm;have hml:m=l:=by omega
     rw[if_pos hml] at hs;exact .same W (zAf hs) (.sl hr rfl (.known (by show hh-l<=m-l;omega)))
    ·have hm:¬m-l=0:=λe=>by have:Nat.beq (Nat.sub m l) 0=true:=by rw[show Nat.sub m l=m-l from rfl,e];rfl
                            rw[this] at hm;cases hm
     rw[if_neg (by omega),Option.map_some,zCy] at hs;exact .same W (zAf hs) (.sl hr (by show o+off+l*n=o+(off+l*n);omega) (.known (by show hh-l<=m-l;omega)))
   cases cap with
   | known cc=>
    obtain⟨hcc,hlc⟩:c=cc/\len<=cc:=by cases hc;exact⟨rfl,‹_›⟩
    subst hcc;refine P1 mx vmx c _ q2h _ hmx λm hm=>zAh q2h λb1=>P1 hi vhi len _ q2h _ hhi λhh hhv=>zAh q2h λb2=>P1 lo vlo 0 _ q2h _ hlo λl hl=>zAh q2h λb3=>?_;have b1:m<=c:=q0g b1;have b2:hh<=m:=q0g b2;have b3:l<=hh:=q0g b3;refine key l hh m b3 b2 b1 (zEn ?_ ?_ ?_) (.inl rfl)
    ·rcases hm with⟨a,_,q⟩ | ⟨a,_⟩
     ·exact .inl ⟨a,q⟩
     ·exact .inr ⟨a,b1⟩
    ·rcases hhv with⟨a,b,q⟩ | ⟨a,_⟩
     ·refine .inl ⟨a,?_,q⟩;rcases hm with⟨c,_,_⟩ | ⟨_,c⟩
      ·exact c
      ·have:=h3 c;rw[b] at this;cases this
     ·exact .inr ⟨a,b2⟩
    ·rcases hl with⟨a,_,q⟩ | ⟨a,_⟩
     ·exact .inl ⟨a,q⟩
     ·exact .inr ⟨a,b3⟩
   | rest es=>
    refine zAh q2h λhes=>zAh q2h λhpos=>zB1 q2h λcs size opn ro hg=>?_;have hes:n=es:=q0f hes;have hpos:1<=n:=q0g hpos;subst hes;rw[q2f] at hg;obtain⟨y,hy,hyr⟩:=W.obj hg hr;have hsize:size<=s:=by cases hyr;assumption
    obtain⟨hcs,hlc⟩:off+c*n=s/\len<=c:=by cases hc;exact⟨‹_›,‹_›⟩
    have hfit:∀q,off+q*n<=size->q<=c:=by
     intro q hq;have:q*n<=c*n:=by omega
     exact Nat.le_of_mul_le_mul_right this (by omega)
    cases mx with
    | none=>
     have hvm:=zFh hmx rfl;subst hvm;refine P1 hi vhi len _ q2h _ hhi λhh hhv=>zAh q2h λb2=>P1 lo vlo 0 _ q2h _ hlo λl hl=>zAh q2h λb3=>?_;have b2:off+hh*n<=size:=q0g b2;have b3:l<=hh:=q0g b3;have hhc:=hfit hh b2
     have hb:=zEn (P:=P) (w:=w) (len:=len) (cap:=c) (l:=l) (hh:=hh) (m:=c) (vlo:=vlo) (vhi:=vhi) (vmx:=none) (.inl ⟨rfl,rfl⟩)
      (by rcases hhv with⟨a,_,q⟩ | ⟨a,_⟩;exact .inl ⟨a,rfl,q⟩;exact .inr ⟨a,hhc⟩)
      (by rcases hl with⟨a,_,q⟩ | ⟨a,_⟩;exact .inl ⟨a,q⟩;exact .inr ⟨a,b3⟩)
     have hs:=zEr (a:=some ⟨b,o+off,none⟩) hu hn hb;refine zA2 (λh0=>?_) (λh0=>?_)
     ·have h0:l=0:=q0f h0;subst h0;have e:(if c=0 then some (⟨b,o+off,none⟩:Addr) else(some ⟨b,o+off,none⟩:Option Addr).map (·.add (0*n)))=some ⟨b,o+off,none⟩:=by
       split
       ·rfl
       ·simp[Addr.add]
      rw[e] at hs;exact .same W (zAf hs) (.sl hr rfl (.rest hcs hhc))
     ·have h0:l≠0:=λe=>by rw[e] at h0;cases h0
      rw[fN_eq];refine zA2 (λh1=>?_) (λh1=>?_)
      ·have h1:hh-l=0:=q0f h1;have hlh:l=hh:=by omega
       refine zA2 (λ_=>?_) (λ_=>?_)
       rotate_left
       ·rw[h1] at hs;by_cases hcl2:c=l
        ·rw[if_pos hcl2] at hs;exact .same W (zAf hs) .sle
        ·rw[if_neg hcl2,Option.map_some] at hs;exact .same W (zAf hs) .sle
       refine zDm q2h λhro=>?_;subst hro;rw[q2k,q2l];cases hyr with
       | cells a1 a2 a3 a4 a5=>
        by_cases hcl2:c=l
        ·rw[if_pos hcl2,h1,show c-l=0 by omega] at hs;obtain⟨W',S'⟩:=W.adopt (w':=w) (o':=.cells .leaf 0 none false) hg rfl hr rfl (p':=o+off) (s':=0) (ObjR.cells (by omega) (q0c _) (λi a ha=>by cases ha) (λ_=>a4 rfl) (λ_ h=>by cases h)) hy (λ_ _=>rfl) rfl (.refl w);exact⟨_,_,w,.inl (zAf hs),.sl (q2i _ _ _) rfl (.rest (by show 0+0*n=0;omega) (q0c _)),W',S'⟩
        ·rw[if_neg hcl2,h1,Option.map_some,zCy] at hs;have hln:l*n+(c-l)*n=c*n:=by rw[<-Nat.add_mul];congr 1;omega
         obtain⟨W',S'⟩:=W.adopt (w':=w) (o':=.cells .leaf 0 none false) hg rfl hr rfl (p':=o+off+l*n) (s':=(c-l)*n) (ObjR.cells (by omega) (q0k _) (λi a ha=>by cases ha) (λ_=>a4 rfl) (λ_ h=>by cases h)) hy (λ_ _=>rfl) rfl (.refl w);exact⟨_,_,w,.inl (zAf hs),.sl (q2i _ _ _) rfl (.rest (by show 0+(c-l)*n=(c-l)*n;omega) (q0k _)),W',S'⟩
      ·have h1:hh-l≠0:=λe=>by have:Nat.beq (Nat.sub hh l) 0=true:=by rw[show Nat.sub hh l=hh-l from rfl,e];rfl
                              rw[this] at h1;cases h1
       rw[fN_eq];rw[if_neg (by omega),Option.map_some,zCy] at hs;refine .same W (zAf hs) (.sl hr (by show o+off+l*n=o+(off+l*n);omega) (.rest ?_ (by show hh-l<=c-l;omega)));show off+l*n+(c-l)*n=s;rw[<-hcs,Nat.sub_mul];have:l*n<=c*n:=q0u n (by omega);omega
    | some mx=>
     have hhis:=h3 rfl;refine zBb q2h λkk q e0=>zCk q2h λm hm=>zAh q2h λb1=>P1 hi vhi len _ q2h _ hhi λhh hhv=>zAh q2h λb2=>P1 lo vlo 0 _ q2h _ hlo λl hl=>zAh q2h λb3=>?_;subst hm;have hvm:=zFg hmx rfl e0;have b1:off+m*n<=size:=q0g b1;have b2:hh<=m:=q0g b2;have b3:l<=hh:=q0g b3;have hmc:=hfit m b1;refine key l hh m b3 b2 hmc (zEn (.inr ⟨⟨kk,hvm⟩,hmc⟩) ?_ ?_) (.inr (by rw[hvm];rfl))
     ·rcases hhv with⟨_,a,_⟩ | ⟨a,_⟩
      ·rw[a] at hhis;cases hhis
      ·exact .inr ⟨a,b2⟩
     ·rcases hl with⟨a,_,q⟩ | ⟨a,_⟩
      ·exact .inl ⟨a,q⟩
      ·exact .inr ⟨a,b3⟩
end
variable[Glob]
section
variable{P:Program}{ρ:Rho}{h:AH}{w:World}{loc:T AV}{tmp:List AV}
theorem zD0:∀(l:List UInt8),VCs ρ (zCh l.length (encB l)) (l.map λb=>.int .u8 b.toNat)
 | []=>.nil
 | c::l=>by
  have e:zCh (c::l).length (encB (c::l))=AV.int .u8 (Int.ofNat (Nat.mod (encB (c::l)) 256))::zCh l.length (Nat.div (encB (c::l)) 256):=rfl;have h1:Nat.mod (encB (c::l)) 256=c.toNat:=by
   show(encB (c::l)) % 256=_;rw[zBv];have:=c.toNat_lt;omega
  have h2:Nat.div (encB (c::l)) 256=encB l:=by
   show(encB (c::l)) / 256=_;rw[zBv];have:=c.toNat_lt;omega
  rw[e,h1,h2];exact .cons rfl (.int _ _) (zD0 l)
theorem zLc{m:Nat}(l:List UInt8):(zCh l.length (encB l)).take m=zCh (l.take m).length (encB (l.take m)):=by
 induction l generalizing m with
 | nil=>show List.take m []=_;simp;rfl
 | cons c l ih=>
  cases m with
  | zero=>simp;rfl
  | succ m=>
   have e:∀l:List UInt8,zCh (c::l).length (encB (c::l))=AV.int .u8 c.toNat::zCh l.length (encB l):=by
    intro l;have h1:Nat.mod (encB (c::l)) 256=c.toNat:=by
     show(encB (c::l)) % 256=_;rw[zBv];have:=c.toNat_lt;omega
    have h2:Nat.div (encB (c::l)) 256=encB l:=by
     show(encB (c::l)) / 256=_;rw[zBv];have:=c.toNat_lt;omega
    show AV.int .u8 (Int.ofNat (Nat.mod (encB (c::l)) 256))::zCh l.length (Nat.div (encB (c::l)) 256)=_;rw[h1,h2];rfl
   rw[e,List.take_succ_cons,List.take_succ_cons,e,ih]
theorem run_seg{b p n:Nat}{cs:Array Value}{e:TypeId}{fr:Nat×Nat}(hb:w.heap[b]?=some (.cells cs e fr))(hn:p+n<=cs.size) :
  (loadCells ⟨b,p,none⟩ n).run P w=.ok ((cs.toList.drop p).take n).toArray w:=by
 have hlen:((cs.toList.drop p).take n).length=n:=by simp;omega
 have:=run_loadCells_list (P:=P) w ⟨b,p,none⟩ ((cs.toList.drop p).take n) (λj v hj=>by
  rw[zCy];have hj':j<n:=by
   rcases q0x j n with h | h
   ·exact h
   ·rw[q0i (by omega)] at hj;cases hj
  rw[List.getElem?_take_of_lt hj',List.getElem?_drop,Array.getElem?_toList] at hj;exact zHz hb hj)
 rwa [hlen] at this
theorem seg_get{cs:Array Value}{p n i:Nat}(hi:i<n):((cs.toList.drop p).take n)[i]?=cs[p+i]?:=by
 rw[List.getElem?_take_of_lt hi,List.getElem?_drop,Array.getElem?_toList]
theorem seg_rel{c:T AV}{size o p:Nat}{opn:Option Nat}{ro:Bool}{x:Obj}{b n off:Nat}{l:List AV}(hb:w.heap[b]?=some x)(hx:ObjR ρ (.cells c size opn ro) x o p)(hl:loadL c n off=some l) :
  ∃l',(∀w1:World,w1.heap=w.heap->∀m,m<=n->(loadCells ⟨b,o+off,none⟩ m).run P w1=.ok (l'.take m).toArray w1)/\VCs ρ l l':=by
 obtain⟨hlen,hget⟩:=zCg hl;cases hx with
 | cells a1 a2 a3 a4 a5=>
  rename_i cs e fr;have hin:∀i,i<n->off+i<size:=by
   intro i hi;have:l[i]?=some l[i]:=by rw[q0a (by omega)]
   rw[<-hget i hi] at this;exact(a3 _ _ this).1
  have hfit:n=0\/o+off+n<=cs.size:=by
   rcases Nat.eq_zero_or_pos n with h | h
   ·exact .inl h
   ·have:=hin (n-1) (by omega);right;omega
  refine⟨(cs.toList.drop (o+off)).take n,λw1 hw m hm=>?_,?_⟩
  ·rcases hfit with h | h
   ·obtain rfl:m=0:=by omega
    simpa using run_loadCells_list (P:=P) w1 ⟨b,o+off,none⟩ [] (by simp)
   ·have:=run_seg (P:=P) (w:=w1) (b:=b) (p:=o+off) (n:=m) (by rw[hw];exact hb) (by omega);rw[List.take_take,Nat.min_eq_left hm];exact this
  ·refine VCs.of_get ?_ λi a ha=>?_
   ·rcases hfit with h | h
    ·subst h;simp[hlen]
    ·simp;omega
   ·have hi:i<n:=by
     rcases q0x i n with h | h
     ·exact h
     ·rw[q0i (by omega)] at ha;cases ha
    rw[<-hget i hi] at ha;obtain⟨_,hc,v,hv,hr⟩:=a3 _ _ ha;exact⟨v,by rw[seg_get hi,Nat.add_assoc];exact hv,hr,hc⟩
structure Src(P:Program)(ρ:Rho)(w:World)(es:Nat)(v:Value)(n:Nat)(l:List AV):Prop where
 len:(Builtin.lenOf v).run P w=.ok n w
 all:l.length=n*es
 cells:∀m,m<=n->∃l',VCs ρ (l.take (m*es)) l'/\∀w1:World,w1.heap=w.heap->(Builtin.firstCells es m v).run P w1=.ok l'.toArray w1
theorem lift_src{G:OR->Prop}(hF:∀n,G (.fail n))(W:WR ρ h w){es:Nat}{a:AV}{v:Value}(hv:VR ρ a v){k:Nat->List AV->OR}
  (hk:∀n l,Src P ρ w es v n l->G (k n l)):G (zAv es a h k):=by
 unfold zAv;cases a with
 | str len b=>
  cases hv with
  | str s e1 e2=>
   refine zAh hF λhe=>?_;have he:es=1:=q0f he;subst he;refine hk _ _ ⟨by simp[Builtin.lenOf,e1,zEt],?_,λm hm=>?_⟩
   ·have:=(zD0 (ρ:=ρ) s.data.toList).length;rw[e1,e2,this];simp
   ·refine⟨(s.data.toList.take m).map λb=>.int .u8 b.toNat,?_,λw1 hw=>?_⟩
    ·rw[e1,e2,Nat.mul_one,zLc];exact zD0 _
    ·simp only[Builtin.firstCells,Sem.run_pure];congr 1;apply Array.ext';rw[ByteArray.data_extract];simp
 | nils=>
  cases hv;refine hk _ _ ⟨rfl,by show 0=0*es;omega,λm hm=>⟨[],by simp;exact .nil,λw1 hw=>?_⟩⟩;have:m=0:=Nat.le_zero.1 hm;simp[Builtin.firstCells]
 | sl id off len cap=>
  refine zA2 (λh0=>?_) (λh0=>?_)
  ·have h0:len=0:=q0f h0;subst h0;obtain⟨a,c,rfl⟩:∃a c,v=.slice (some a) 0 c:=by
    cases hv with
    | sl _ _ _=>exact⟨_,_,rfl⟩
    | slz=>exact⟨_,_,rfl⟩
    | sle=>exact⟨_,_,rfl⟩
   refine hk _ _ ⟨rfl,by show 0=0*es;omega,λm hm=>⟨[],by simp;exact .nil,λw1 hw=>?_⟩⟩;obtain rfl:m=0:=Nat.le_zero.1 hm;simp[Builtin.firstCells,loadCells,loadCellsFrom]
  cases hv with
  | slz=>cases h0
  | sle=>cases h0
  | sl hr hp hc=>
   rename_i b o s p c;subst hp;refine zB1 hF λcs size opn ro hg=>zAl hF λl hl=>hk _ _ ?_;rw[q2f] at hg;obtain⟨y,hy,hyr⟩:=W.obj hg hr;have hlen:=(zCg hl).1;refine⟨rfl,hlen,λm hm=>?_⟩;have hle:m*es<=len*es:=q0u es hm;obtain⟨l',h1,h2⟩:=seg_rel (P:=P) hy hyr hl;refine⟨l'.take (m*es),h2.take _,λw1 hw=>?_⟩;have:=h1 w1 hw (m*es) hle;simpa[Builtin.firstCells] using this
 | _=>exact hF _
theorem growBy_le(need:Nat):∀(r c:Nat),c<=2*need+512->c<need\/c<=2*need+512->Builtin.growBy need r c<=2*need+512
 | 0,c,h,_=>h
 | r+1,c,h,_=>by
  simp only[Builtin.growBy];split
  ·exact h
  ·have:c+(c+768) / 4<=2*need+512:=by omega
   exact growBy_le need r _ this (.inr this)
theorem next_le{need cap:Nat}(h:cap<need):Builtin.nextslicecap need cap<=2*need+512:=by
 unfold Builtin.nextslicecap;split
 ·omega
 ·split
  ·omega
  ·exact growBy_le _ _ _ (by omega) (.inl h)
theorem room_spec{need b cap:Nat}(h:room need b=true)(hc:cap<need):¬(2 ^ 48<Builtin.nextslicecap need cap*b)/\need<=1099511627776:=by
 unfold room at h;rw[bi_eq] at h;split at h
 ·rename_i h0;have h:(2*need+512)*b<=1099511627776:=q0g h;have:=q0u b (next_le hc);have e:(2:Nat) ^ 48=281474976710656:=by decide
  exact⟨by omega,q0g h0⟩
 ·cases h
structure App(P:Program)(ats:Array TypeId)(e:TypeId)(es b:Nat)(zs:Array Value):Prop where
 ex:∃sT xT,ats[0]?=some sT/\ats[1]?=some xT/\P.underlying sT=some (.slice e)/\((∃d,P.underlying xT=some (.slice d))\/P.underlying xT=some .string)
 size:zAm P e=some es
 bytes:zC5 P e=some b
 zero:∃zv,zBf P e=some zv/\zv.cells=zs
 zsize:zs.size=es
theorem append_in{ats:Array TypeId}{e ty:TypeId}{es b n sLen sCap:Nat}{zs:Array Value}{x:Value}{new:List Value}{a:Addr}{w':World}(A:App P ats e es b zs)(hl:(Builtin.lenOf x).run P w=.ok n w)(hneed:sLen+n<=sCap)
  (hnew:(Builtin.firstCells es n x).run P w=.ok new.toArray w) (hst:(storeCells (a.add (sLen*es)) new).run P w=.ok () w') :
  (Builtin.append_ ats ty #[.slice (some a) sLen sCap,x]).run P w=.ok (.slice (some a) (sLen+n) sCap) w':=by
 obtain⟨sT,xT,h0,h1,hu,hx⟩:=A.ex
 rcases hx with⟨d,hx⟩ | hx <;>
  simp[Builtin.append_,h0,h1,run_underlying hu,run_underlying hx,zAj A.size,hl,hneed,hnew,hst]
theorem append_nil{ats:Array TypeId}{e ty:TypeId}{es b:Nat}{zs:Array Value}{x:Value}(A:App P ats e es b zs)(hl:(Builtin.lenOf x).run P w=.ok 0 w){new:List Value}
  (hnew:(Builtin.firstCells es 0 x).run P w=.ok new.toArray w) :
  (Builtin.append_ ats ty #[.slice none 0 0,x]).run P w=.ok (.slice none 0 0) w:=by
 obtain⟨sT,xT,h0,h1,hu,hx⟩:=A.ex
 rcases hx with⟨d,hx⟩ | hx <;>
  simp[Builtin.append_,h0,h1,run_underlying hu,run_underlying hx,zAj A.size,hl,hnew]
theorem append_grow{ats:Array TypeId}{e ty:TypeId}{es b n sLen sCap:Nat}{zs:Array Value}{x:Value}{base:Option Addr}{old new:List Value}(A:App P ats e es b zs)(hl:(Builtin.lenOf x).run P w=.ok n w)(hneed:sCap<sLen+n)(hroom:room (sLen+n) b=true)
  (hold:∀w1:World,w1.heap=w.heap->(Builtin.firstCells es sLen (.slice base sLen sCap)).run P w1=.ok old.toArray w1) (hnew:∀w1:World,w1.heap=w.heap->(Builtin.firstCells es n x).run P w1=.ok new.toArray w1) :
  ∃newCap,sLen+n<=newCap/\(Builtin.append_ ats ty #[.slice base sLen sCap,x]).run P w=.ok (.slice (some ⟨w.heap.size,0,none⟩) (sLen+n) newCap)
   {w with drawn:=w.drawn+1,heap:=w.heap.push (.cells (old.toArray++new.toArray++Builtin.zeroCells zs (newCap-(sLen+n))) e)}:=by
 obtain⟨sT,xT,h0,h1,hu,hx⟩:=A.ex;obtain⟨zv,hz,hzs⟩:=A.zero;obtain⟨r1,r2⟩:=room_spec hroom hneed;obtain⟨i,hi,hib⟩:∃i,P.info? e=some i/\i.bytes=b:=by
  have hb:=A.bytes;unfold zC5 at hb;cases hi:P.info? e with
  | none=>rw[hi] at hb;cases hb
  | some i=>rw[hi] at hb;injection hb with hb;exact⟨i,rfl,hb⟩
 have hti:∀w1:World,(typeInfo e).run P w1=.ok i w1:=λw1=>by simp[typeInfo,hi]
 have hmax:¬(IntKind.i64.max<((sLen+n:Nat):Int)):=by
  simp[IntKind.max,IntKind.signed,IntKind.bits];omega
 have hle:¬(sLen+n<=sCap):=by omega
 have hforced:(Question.appendCap (sLen+n) sCap e).forced=false:=rfl;refine⟨(Question.appendCap (sLen+n) sCap e).cut (w.tape w.drawn (Question.appendCap (sLen+n) sCap e)),by simp[Question.cut],?_⟩;generalize hcap:(Question.appendCap (sLen+n) sCap e).cut (w.tape w.drawn (Question.appendCap (sLen+n) sCap e))=newCap;have ho:=hold w.drew rfl;have hn:=hnew w.drew rfl;have r1':¬(281474976710656<Builtin.nextslicecap (sLen+n) sCap*i.bytes):=by rw[hib];simpa using r1
 subst hzs;have hmax2:¬(9223372036854775807<(sLen:Int)+(n:Int)):=by omega
 have hmax3:IntKind.i64.max=9223372036854775807:=by decide
 rcases hx with⟨d,hx⟩ | hx <;>
  simp[Builtin.append_,h0,h1,run_underlying hu,run_underlying hx,zAj A.size,hl,hle,hti,hmax2,hmax3,r1',hforced,hcap,ho,hn,zAu hz,zAx] <;>
  exact congrArg (λc=>({w with drawn:=w.drawn+1,heap:=w.heap.push (.cells c e)}:World)) (by apply Array.ext';simp)
theorem tgm_spec{o tg:Option Nat}{t:Nat}(h:tgm o tg=some t):o=some t/\tg=some t:=by
 cases o with
 | none=>cases h
 | some a=>
  cases tg with
  | none=>cases h
  | some b=>
   have h:bi (Nat.beq a b) (some a) Option.none=some t:=h;rw[bi_eq] at h;split at h
   ·rename_i e;injection h with h;subst h;exact⟨rfl,by rw[q0f e]⟩
   ·cases h
theorem zJp{c'':T AV}{es len n newCap:Nat}{new:List AV}{old' new':List Value}{zs:Array Value}{e:TypeId}(hnl:new.length=n*es)(hnew:VCs ρ new new')(hol:old'.length=len*es)(hz:zs.size=es)(hcap:len+n<=newCap){tg:Option Nat}(htg:∀t,tg=some t->e=t)
  (hc:∀i a,c''.get i=some a->(i<len*es/\a.isCell=true/\∃v,old'[i]?=some v/\VR ρ a v)\/(len*es<=i/\i<(len+n)*es/\new[i-len*es]?=some a)) :
  ObjR ρ (.cells c'' ((len+n)*es) tg false) (.cells (old'.toArray++new'.toArray++Builtin.zeroCells zs (newCap-(len+n))) e) 0 (newCap*es):=by
 have hnl':=hnew.length;have hsum:(len+n)*es=len*es+n*es:=Nat.add_mul _ _ _;have hsz:(old'.toArray++new'.toArray++Builtin.zeroCells zs (newCap-(len+n))).size=newCap*es:=by
  simp[Builtin.zeroCells,hol,hz];have:(newCap-(len+n))*es=newCap*es-(len+n)*es:=Nat.sub_mul _ _ _;have h2:(len+n)*es<=newCap*es:=q0u es hcap;omega
 refine .cells (by rw[hsz];omega) (q0u es hcap) (λi a ha=>?_) (λ_=>rfl) (λt ht=>⟨htg t ht,rfl⟩);rcases hc i a ha with⟨h1,h2,v,h3,h4⟩ | ⟨h1,h2,h3⟩
 ·refine⟨by omega,h2,v,?_,h4⟩;rw[q0I,Array.getElem?_append_left (by simp;omega),Array.getElem?_append_left (by simp;omega)];simpa using h3
 ·obtain⟨v,hv,hr,hc⟩:=hnew.get h3;refine⟨h2,hc,v,?_,hr⟩;rw[q0I,Array.getElem?_append_left (by simp;omega),Array.getElem?_append_right (by simp;omega)];simpa[hol] using hv
theorem zJq{l:List AV}{c:T AV}{es len n i:Nat}{a:AV}(hl:l.length=n*es)(h:(putL l c (len*es)).get i=some a):(len*es<=i/\i<(len+n)*es/\l[i-len*es]?=some a)\/(¬(len*es<=i/\i<len*es+n*es)/\c.get i=some a):=by
 rw[zB9,hl] at h;split at h
 ·rename_i hi;exact .inl ⟨hi.1,by rw[Nat.add_mul];exact hi.2,h⟩
 ·exact .inr ⟨‹_›,h⟩
structure ApOK(P:Program)(ρ:Rho)(w:World)(e:TypeId)(es b:Nat)(zs:Array Value)(ap:Value->Sem Value)(n:Nat)(new:List AV)(new':List Value):Prop where
 all:new.length=n*es
 rel:VCs ρ new new'
 zsize:zs.size=es
 inn:∀(a:Addr) (sLen sCap:Nat) (w':World),sLen+n<=sCap->(storeCells (a.add (sLen*es)) new').run P w=.ok () w'->(ap (.slice (some a) sLen sCap)).run P w=.ok (.slice (some a) (sLen+n) sCap) w'
 nil:n=0->(ap (.slice none 0 0)).run P w=.ok (.slice none 0 0) w
 grow:∀(base:Option Addr) (sLen sCap:Nat) (old:List Value),sCap<sLen+n->room (sLen+n) b=true->(∀w1:World,w1.heap=w.heap->(Builtin.firstCells es sLen (.slice base sLen sCap)).run P w1=.ok old.toArray w1)->
  ∃newCap,sLen+n<=newCap/\(ap (.slice base sLen sCap)).run P w=.ok (.slice (some ⟨w.heap.size,0,none⟩) (sLen+n) newCap) {w with drawn:=w.drawn+1,heap:=w.heap.push (.cells (old.toArray++new'.toArray++Builtin.zeroCells zs (newCap-(sLen+n))) e)}
theorem zFs{e:TypeId}{es b n:Nat}{zs:Array Value}{ap:Value->Sem Value}{new:List AV}{new':List Value}{base:Option Addr}(W:WR ρ h w)(S:ApOK P ρ w e es b zs ap n new new')(h0:n≠0){tg:Option Nat}(htg:∀t,tg=some t->e=t)
  (hb:∀w1:World,w1.heap=w.heap->(Builtin.firstCells es 0 (.slice base 0 0)).run P w1=.ok ([]:List Value).toArray w1) :
  Good P ρ h w (vv (ap (.slice base 0 0))) (bi (room n b) (AH.new h (AObj.cells (zAa new) (Nat.mul n es) tg false) λid h=>OR.val (AV.sl id (nat_lit 0) n (ACap.rest es)) h) (F 48)):=by
 refine zAh q2h λhroom=>?_;have hnew:=S.rel;obtain⟨newCap,hc1,hrun⟩:=S.grow base 0 0 [] (by omega) (by rw[q0I];exact hroom) hb;rw[q2k];rw[q0I] at hrun hc1;have hobj:=zJp (e:=e) (c'':=zAa new) (len:=0) (old':=[]) (newCap:=newCap) S.all hnew (by simp) S.zsize (by omega) htg (λi a ha=>by
  rw[zAe] at ha;have hi:i<new.length:=by
   rcases q0x i new.length with h | h
   ·exact h
   ·rw[q0i h] at ha;cases ha
  exact .inr ⟨by omega,by rw[q0I,<-S.all];exact hi,by simpa using ha⟩)
 rw[q0I] at hobj;obtain⟨W',S'⟩:=W.alloc hobj (w':={w with drawn:=w.drawn+1,heap:=w.heap.push (.cells (([]:List Value).toArray++new'.toArray++Builtin.zeroCells zs (newCap-n)) e)}) rfl ⟨rfl,rfl,rfl⟩;exact⟨_,_,_,.inl (zAf hrun),.sl (q2i _ _ _) rfl (.rest (by show 0+newCap*es=newCap*es;omega) hc1),W',S'⟩
theorem s_app{e:TypeId}{es b n:Nat}{zs:Array Value}{ap:Value->Sem Value}{new:List AV}{new':List Value}{sv:AV}{vs:Value}(W:WR ρ h w)(S:ApOK P ρ w e es b zs ap n new new'){tg:Option Nat}(htg:∀t,tg=some t->e=t)(hs:VR ρ sv vs) :
  Good P ρ h w (vv (ap vs)) (oApp tg es b n new sv h):=by
 unfold oApp;have hnew:=S.rel;refine zGe q2h (λex=>?_) λid off len cap ex=>?_
 ·rw[ex] at hs;cases hs;refine zA2 (λh0=>?_) (λh0=>?_)
  ·have h0:n=0:=q0f h0;exact .same W (zAf (S.nil h0)) .nils
  ·have h0:n≠0:=λe=>by rw[e] at h0;cases h0
   exact zFs W S h0 htg (λw1 _=>by simp[Builtin.firstCells])
 ·rw[ex] at hs;refine zA2 (λh0=>?_) (λhn0=>?_)
  ·have h0:n=0:=q0f h0;have hn':new'=[]:=q0r (by rw[<-hnew.length,S.all,h0,Nat.zero_mul]);obtain⟨a,C,rfl,hle⟩:∃a C,vs=.slice (some a) len C/\len<=C:=by
    cases hs with
    | sl _ _ hc=>exact⟨_,_,rfl,hc.le⟩
    | slz=>exact⟨_,_,rfl,q0c _⟩
    | sle=>exact⟨_,_,rfl,q0k _⟩
   have:=S.inn a len C w (by omega) (by rw[hn'];rfl);rw[h0] at this;exact .same W (zAf this) hs
  have hn0:n≠0:=λe=>by rw[e] at hn0;cases hn0
  have fresh:∀(a:Addr) (OLD:OR) (cp:Nat),(cp=0->vs=.slice (some a) 0 0)->Good P ρ h w (vv (ap vs)) OLD->
    Good P ρ h w (vv (ap vs)) (bi (Nat.beq cp 0) (bi (room n b) (AH.new h (AObj.cells (zAa new) (Nat.mul n es) tg false) λid h=>OR.val (AV.sl id (nat_lit 0) n (ACap.rest es)) h) (F 48)) OLD):=by
   intro a OLD cp hv0 hold;refine zA2 (λh0=>?_) (λ_=>hold);rw[hv0 (q0f h0)];exact zFs W S hn0 htg (λw1 _=>by simp[Builtin.firstCells,loadCells,loadCellsFrom])
  cases hs with
  | sle=>exact zB1 q2h λc size opn ro hg=>zAh q2h λh1=>zDm q2h λ_=>zAh q2h λh2=>absurd (q0g h2) (by rw[q0f h1];decide)
  | slz=>
   rename_i a;refine zA2 (λ_=>?_) (λh0=>by cases h0);exact zFs W S hn0 htg (λw1 _=>by simp[Builtin.firstCells,loadCells,loadCellsFrom])
  | sl hr hp hc=>
  rename_i bb o s' p C;subst hp
  suffices hsuf:Good P ρ h w (vv (ap (.slice (some ⟨bb,o+off,none⟩) len C))) (zAq (AH.get h id) λc size o r=>
   fN (Nat.add len n) λneed=>
   ACap.rec (motive:=λ_=>OR)
    (λcp=>bi (Nat.ble need cp)
     (bi r (F 49) (obind (zBr new c (Nat.add off (Nat.mul len es))) (F 49) λc'=>OR.val (AV.sl id off need cap) (AH.set h id (AObj.cells c' size o r))))
     (bi (room need b) (obind (loadL c (Nat.mul len es) off) (F 50) λold=>AH.new h (AObj.cells (putL new (zAa old) (Nat.mul len es)) (Nat.mul need es) tg false) λid h=>OR.val (AV.sl id (nat_lit 0) need (ACap.rest es)) h) (F 50)))
    (λes'=>bi (Nat.beq es es') (bi r (F 51) (bi (Nat.ble (nat_lit 1) es) (bi (Nat.ble (Nat.add off (Nat.mul need es)) size)
     (obind (zBr new c (Nat.add off (Nat.mul len es))) (F 51) λc'=>OR.val (AV.sl id off need cap) (AH.set h id (AObj.cells c' size o r)))
     (bi (room need b) (bi (Nat.beq off (nat_lit 0))
      (AH.new (AH.kill h id) (AObj.cells (putL new c (Nat.mul len es)) (Nat.mul need es) (tgm o tg) false) λid h=>OR.val (AV.sl id (nat_lit 0) need (ACap.rest es)) h)
      (obind (loadL c (Nat.mul len es) off) (F 52) λold=>AH.new (AH.kill h id) (AObj.cells (putL new (zAa old) (Nat.mul len es)) (Nat.mul need es) none false) λid h=>OR.val (AV.sl id (nat_lit 0) need (ACap.rest es)) h)) (F 52))) (F 52))) (F 52)) cap) by
   cases cap with
   | known cp=>
    have hv0:cp=0->Value.slice (some ⟨bb,o+off,none⟩) len C=.slice (some ⟨bb,o+off,none⟩) 0 0:=λh0=>by
     have h1:C=cp:=by cases hc;rfl
     have h2:=hc.le;have h3:C=0:=by omega
     have h4:len=0:=by omega
     rw[h3,h4]
    show Good P ρ h w _ (bi (Nat.beq cp 0) _ _);exact fresh ⟨bb,o+off,none⟩ _ cp hv0 hsuf
   | rest es'=>exact hsuf
  refine zB1 q2h λc size opn ro hg=>?_;rw[fN_eq];show Good P ρ h w _ (ACap.rec (motive:=λ_=>OR) _ _ cap);rw[q2f] at hg;obtain⟨y,hy,hyr⟩:=W.obj hg hr;have hcl:=hc.le;have inplace:∀(c':T AV) (cap':ACap),ro=false->len+n<=C->zBr new c (off+len*es)=some c'->CapR cap' off s' (len+n) C->Good P ρ h w (vv (ap (.slice (some ⟨bb,o+off,none⟩) len C))) (OR.val (AV.sl id off (len+n) cap') (AH.set h id (AObj.cells c' size opn ro))):=by
   intro c' cap' hro hle hst hcr;subst hro;obtain⟨hrun,W',S'⟩:=zBt (P:=P) W hg hr hnew hst;have happ:=S.inn ⟨bb,o+off,none⟩ len C _ hle (by rw[zCy,Nat.add_assoc];exact hrun);exact⟨ρ,_,_,.inl (zAf happ),.sl hr rfl hcr,W',S'⟩
  cases cap with
  | known cp=>
   obtain⟨hcc,hlc⟩:C=cp/\len<=cp:=by cases hc;exact⟨rfl,‹_›⟩
   subst hcc;refine zA2 (λh0=>zDm q2h λhro=>zAl q2h λc' hst=>?_) (λh0=>zAh q2h λhroom=>zAl q2h λold hold=>?_)
   ·have h0:len+n<=C:=q0g h0;exact inplace c' _ hro h0 hst (.known h0)
   ·have h0:C<len+n:=by
     rcases q0x C (len+n) with h | h
     ·exact h
     ·rw[show Nat.ble (Nat.add len n) C=true from by rw[Nat.ble_eq];exact h] at h0;cases h0
    obtain⟨old',h1,h2⟩:=seg_rel (P:=P) hy hyr hold;have hol:=(zCg hold).1;have hol':old'.length=len*es:=by rw[<-h2.length];exact hol
    obtain⟨newCap,hc1,hrun⟩:=S.grow (some ⟨bb,o+off,none⟩) len C old' h0 hroom (λw1 hw=>by
     have:=h1 w1 hw (len*es) (q0c _);rw[<-hol',List.take_length] at this;simpa[Builtin.firstCells,hol'] using this)
    rw[q2k];have hobj:=zJp (e:=e) (c'':=putL new (zAa old) (len*es)) (len:=len) (newCap:=newCap) S.all hnew hol' S.zsize hc1 htg (λi a ha=>by
     rcases zJq S.all ha with q | ⟨q1,q2⟩
     ·exact .inr q
     ·rw[zAe] at q2;obtain⟨v,hv,hr,hcc⟩:=h2.get q2;refine .inl ⟨?_,hcc,v,hv,hr⟩;rcases q0x i old.length with h | h
      ·rw[hol] at h;exact h
      ·rw[q0i h] at q2;cases q2)
    obtain⟨W',S'⟩:=W.alloc hobj (w':={w with drawn:=w.drawn+1,heap:=w.heap.push (.cells (old'.toArray++new'.toArray++Builtin.zeroCells zs (newCap-(len+n))) e)}) rfl ⟨rfl,rfl,rfl⟩;exact⟨_,_,_,.inl (zAf hrun),.sl (q2i _ _ _) rfl (.rest (by show 0+newCap*es=newCap*es;omega) hc1),W',S'⟩
  | rest es'=>
   refine zAh q2h λhes=>zDm q2h λhro=>zAh q2h λhpos=>?_;have hes:es=es':=q0f hes;have hpos:1<=es:=q0g hpos;subst hes;obtain⟨hcs,hlc⟩:off+C*es=s'/\len<=C:=by cases hc;exact⟨‹_›,‹_›⟩
   have hsize:size<=s':=by cases hyr;assumption
   have hsum:(len+n)*es=len*es+n*es:=Nat.add_mul _ _ _;refine zA2 (λhfit=>zAl q2h λc' hst=>?_) (λhfit=>zAh q2h λhroom=>?_)
   ·have hfit:off+(len+n)*es<=size:=q0g hfit;have hle:len+n<=C:=by
     have:(len+n)*es<=C*es:=by omega
     exact Nat.le_of_mul_le_mul_right this (by omega)
    exact inplace c' _ hro hle hst (.rest hcs hle)
   ·have hfit:size<off+(len+n)*es:=by
     rcases q0x size (off+(len+n)*es) with h | h
     ·exact h
     ·rw[show Nat.ble (Nat.add off (Nat.mul (Nat.add len n) es)) size=true from by rw[Nat.ble_eq];exact h] at hfit;cases hfit
    subst hro
    have fin:∀(tg':Option Nat) (c'':T AV),(∀t,tg'=some t->opn=some t/\tg=some t/\off=0)->(∀i a,c''.get i=some a->(i<len*es/\c.get (off+i)=some a)\/(len*es<=i/\i<(len+n)*es/\new[i-len*es]?=some a))->
      Good P ρ h w (vv (ap (.slice (some ⟨bb,o+off,none⟩) len C))) (AH.new (AH.kill h id) (AObj.cells c'' (Nat.mul (Nat.add len n) es) tg' false) λid h=>OR.val (AV.sl id 0 (Nat.add len n) (ACap.rest es)) h):=by
     intro tg' c'' ht' hc'';rw[q2k,q2l];cases hyr with
     | cells a1 a2 a3 a4 a5=>
     rename_i cs te fr;by_cases hle:len+n<=C
     ·
      have hCs:(len+n)*es<=C*es:=q0u es hle;have hnl:=hnew.length;have hall:=S.all;have hrun:=run_storeCells_cells (P:=P) bb (o+off+len*es) new' 0 w (λj hj=>by
        simp only[Nat.add_zero];rw[zHz hy (Array.getElem?_eq_getElem (by omega))];rfl)
       (λj hj=>by
        simp only[Nat.add_zero];refine zG2 hy ?_;have:=a4 rfl;omega) hnew.oneCell
      rw[Nat.add_zero] at hrun;have happ:=S.inn ⟨bb,o+off,none⟩ len C _ hle (by rw[zCy];exact hrun);obtain⟨cs',e1,e2,e3⟩:=zE1 new' (o+off+len*es) hy
      obtain⟨W',S'⟩:=W.adopt (w':=w.setCells bb (o+off+len*es) new') (o':=.cells c'' ((len+n)*es) tg' false) hg rfl hr rfl (p':=o+off) (s':=C*es) (x:=.cells cs' te fr)
       (ObjR.cells (by omega) hCs (λi a ha=>by
        rcases hc'' i a ha with⟨q1,q2⟩ | ⟨q1,q2,q3⟩
        ·obtain⟨_,r2,v,r3,r4⟩:=a3 _ _ q2;refine⟨by omega,r2,v,?_,r4⟩;rw[e3,if_neg (by omega),Nat.add_assoc];exact r3
        ·obtain⟨v,hv,hrv,hcv⟩:=hnew.get q3;refine⟨q2,hcv,v,?_,hrv⟩;rw[e3,if_pos (by omega),<-hv];congr 1;omega)
        (λ_=>a4 rfl) (λt ht=>by obtain⟨q1,q2,q3⟩:=ht' t ht;obtain⟨q4,q5⟩:=a5 t q1;exact⟨q4,by omega⟩))
       e1 (λk hk=>zC8 _ _ hk) (zCm _ _) (zEu _ _)
      exact⟨_,_,_,.inl (zAf happ),.sl (q2i _ _ _) rfl (.rest (by show 0+C*es=C*es;omega) hle),W',S'⟩
     ·
      have hlen:len*es<=C*es:=q0u es hlc;have hol':((cs.toList.drop (o+off)).take (len*es)).length=len*es:=by simp;omega
      obtain⟨newCap,hc1,hrun⟩:=S.grow (some ⟨bb,o+off,none⟩) len C ((cs.toList.drop (o+off)).take (len*es)) (by omega) hroom (λw1 hw=>by
       have:=run_seg (P:=P) (w:=w1) (b:=bb) (p:=o+off) (n:=len*es) (cs:=cs) (e:=te) (fr:=fr) (by rw[hw];exact hy) (by omega);simpa[Builtin.firstCells] using this)
      have hobj:=zJp (ρ:=ρ) (e:=e) (c'':=c'') (len:=len) (newCap:=newCap) S.all hnew hol' S.zsize hc1 (tg:=tg') (λt ht=>htg t (ht' t ht).2.1) (λi a ha=>by
       rcases hc'' i a ha with⟨q1,q2⟩ | q
       ·obtain⟨_,r2,v,r3,r4⟩:=a3 _ _ q2;exact .inl ⟨q1,r2,v,by rw[seg_get q1,Nat.add_assoc];exact r3,r4⟩
       ·exact .inr q)
      obtain⟨W1,S1⟩:=W.kill hr;obtain⟨W',S'⟩:=W1.alloc hobj (w':={w with drawn:=w.drawn+1,heap:=w.heap.push (.cells (((cs.toList.drop (o+off)).take (len*es)).toArray++new'.toArray++Builtin.zeroCells zs (newCap-(len+n))) e)}) rfl ⟨rfl,rfl,rfl⟩;rw[q2l] at W' S';exact⟨_,_,_,.inl (zAf hrun),.sl (q2i _ _ _) rfl (.rest (by show 0+newCap*es=newCap*es;omega) hc1),W',S1.trans S'⟩
    have hkeys:∀i a,c.get i=some a->i<size:=by
     intro i a ha;cases hyr with
     | cells a1 a2 a3 a4 a5=>exact(a3 _ _ ha).1
    refine zA2 (λh0=>?_) (λh0=>zAl q2h λold hold=>?_)
    ·have h0:off=0:=q0f h0;refine fin (tgm opn tg) _ (λt ht=>⟨(tgm_spec ht).1,(tgm_spec ht).2,h0⟩) λi a ha=>?_;rcases zJq S.all ha with q | ⟨q1,q2⟩
     ·exact .inr q
     ·have:=hkeys _ _ q2;exact .inl ⟨by omega,by rw[h0,q0I];exact q2⟩
    ·obtain⟨hol,hog⟩:=zCg hold;have hol:old.length=len*es:=hol;refine fin none _ (λ_ h=>by cases h) λi a ha=>?_;rcases zJq S.all ha with q | ⟨q1,q2⟩
     ·exact .inr q
     ·rw[zAe] at q2;have hi:i<len*es:=by
       rcases q0x i old.length with h | h
       ·omega
       ·rw[q0i h] at q2;cases q2
      exact .inl ⟨hi,by rw[hog i hi];exact q2⟩
theorem ApOK.of{ats:Array TypeId}{e ty:TypeId}{es b n:Nat}{zs:Array Value}{vx:Value}{new:List AV}(A:App P ats e es b zs)(S:Src P ρ w es vx n new):∃new',ApOK P ρ w e es b zs (λvs=>Builtin.append_ ats ty #[vs,vx]) n new new':=by
 obtain⟨new',hnew,hn2⟩:=S.cells n (q0c _);rw[<-S.all,List.take_length] at hnew;refine⟨new',S.all,hnew,A.zsize,λa sLen sCap w' h1 h2=>append_in A S.len h1 (hn2 w rfl) h2,λh0=>?_,λbase sLen sCap old h1 h2 h3=>append_grow A S.len h1 h2 h3 hn2⟩;subst h0;exact append_nil A S.len (hn2 w rfl)
theorem s_append{ats:Array TypeId}{s x:Opd}{e ty:TypeId}{es b:Nat}{zs:Array Value}{vs vx:Value}(W:WR ρ h w)(A:App P ats e es b zs){tg:Option Nat}(htg:∀t,tg=some t->e=t)(hs:VR ρ (ev loc tmp s) vs)(hx:VR ρ (ev loc tmp x) vx) :
  Good P ρ h w (vv (Builtin.append_ ats ty #[vs,vx])) (zA0 tg es b s x loc tmp h):=by
 unfold zA0;refine lift_src (P:=P) q2h W hx λn new S=>?_;obtain⟨new',K⟩:=ApOK.of (ty:=ty) A S;exact s_app W K htg hs
end
variable[Glob]
section
variable{P:Program}{ρ:Rho}{h:AH}{w:World}{loc:T AV}{tmp:List AV}
theorem s_copy{ats:Array TypeId}{d s:Opd}{dT e ty:TypeId}{es:Nat}{vd vs:Value}(W:WR ρ h w)(h0:ats[0]?=some dT)(hu:P.underlying dT=some (.slice e))(hes:zAm P e=some es)(hd:VR ρ (ev loc tmp d) vd)(hs:VR ρ (ev loc tmp s) vs) :
  Good P ρ h w (vv (Builtin.copy_ ats ty #[vd,vs])) (oCopy es d s loc tmp h):=by
 unfold oCopy;refine lift_src (P:=P) q2h W hs λn new S=>zGe q2h (λex=>?_) λid off len cap ex=>?_
 ·rw[ex] at hd;cases hd;rw[zCj];obtain⟨l',_,h1⟩:=S.cells 0 (q0k _);refine .same W (zAf ?_) (.int _ _);have:=h1 w rfl;simp[Builtin.copy_,h0,run_underlying hu,zAj hes,S.len,this,goInt]
 ·rw[ex] at hd;refine zA2 (λhz=>?_) (λhz=>?_)
  ·have hz:len=0:=q0f hz;subst hz;obtain⟨a,C,rfl⟩:∃a C,vd=.slice (some a) 0 C:=by
    cases hd with
    | sl _ _ _=>exact⟨_,_,rfl⟩
    | slz=>exact⟨_,_,rfl⟩
    | sle=>exact⟨_,_,rfl⟩
   obtain⟨l',hl',h1⟩:=S.cells 0 (q0k _);rw[Nat.zero_mul,List.take_zero] at hl';cases hl';rw[zCj];refine .same W (zAf ?_) (.int _ _);have:=h1 w rfl;simp[Builtin.copy_,h0,run_underlying hu,zAj hes,S.len,this,goInt,storeCells]
  refine zB1 q2h λc size opn ro hg=>zDm q2h λhro=>zAl q2h λc' hst=>?_;subst hro;rw[zCj];rw[q2f] at hg;have hmin:nmin n len=Nat.min n len:=by unfold nmin;rw[bi_eq];simp only[Nat.ble_eq];show _=min n len;rw[Nat.min_def]
  cases hd with
  | slz=>cases hz
  | sle=>cases hz
  | sl hr hp hc=>
   rename_i bb o s' p C;subst hp;obtain⟨l',hl',h1⟩:=S.cells (Nat.min n len) (Nat.min_le_left _ _);rw[hmin,zFy] at hst;obtain⟨hrun,W',S'⟩:=zBt (P:=P) W hg hr hl' hst;rw[hmin];refine⟨ρ,_,_,.inl (zAf ?_),.int _ _,W',S'⟩;have:=h1 w rfl;simp[Builtin.copy_,h0,run_underlying hu,zAj hes,S.len,this,hrun,goInt]
theorem s_clear{ats:Array TypeId}{x:Opd}{t e ty:TypeId}{z:List AV}{zv v:Value}(W:WR ρ h w)(h0:ats[0]?=some t)(hu:P.underlying t=some (.slice e))(hz:zBf P e=some zv)(hzc:zBe zv=some z)(hv:VR ρ (ev loc tmp x) v) :
  Good P ρ h w (vv (Builtin.clear_ ats ty #[v])) (zFj z x loc tmp h):=by
 unfold zFj;refine zGe q2h (λex=>?_) λid off len cap ex=>?_
 ·rw[ex] at hv;cases hv;exact .same W (zAf (by simp[Builtin.clear_,h0,run_underlying hu])) (.tup .nil rfl)
 ·rw[ex] at hv;refine zA2 (λhl0=>?_) (λhl0=>?_)
  ·have hl0:len=0:=q0f hl0;subst hl0;obtain⟨a,C,rfl⟩:∃a C,v=.slice (some a) 0 C:=by
    cases hv with
    | sl _ _ _=>exact⟨_,_,rfl⟩
    | slz=>exact⟨_,_,rfl⟩
    | sle=>exact⟨_,_,rfl⟩
   refine .same W (zAf ?_) (.tup .nil rfl);simp[Builtin.clear_,h0,run_underlying hu]
  refine zB1 q2h λc size opn ro hg=>zDm q2h λhro=>zAl q2h λc' hst=>?_;subst hro;rw[q2f] at hg;cases hv with
  | slz=>cases hl0
  | sle=>cases hl0
  | sl hr hp hc=>
   rename_i bb o s' p C;subst hp;rw[zE0] at hst;have hrep:=zDs (n:=len) (zA7 (ρ:=ρ) hzc);obtain⟨hrun,W',S'⟩:=zBt (P:=P) W hg hr hrep hst;have hzz:(Builtin.zeroCells zv.cells len)=(Array.range (len*zv.cells.size)).map (zv.cells[· % zv.cells.size]!):=rfl;rw[<-hzz] at hrun W' S';refine⟨ρ,_,_,.inl (zAf ?_),.tup .nil rfl,W',S'⟩;cases len with
   | zero=>
    have e0:Builtin.zeroCells zv.cells 0=#[]:=by simp[Builtin.zeroCells]
    rw[e0];simp[Builtin.clear_,h0,run_underlying hu];rfl
   | succ len=>
    simp[Builtin.clear_,h0,run_underlying hu,zAu hz,hrun]
theorem zC4(t:TypeId)(u v:Value):Op.equal t u v=Op.equalIn (9999+1) t u v:=rfl
theorem equal_int{t:TypeId}{k k':IntKind}{a b:Int}{x y:Operand}{op:BinOp}(neg:Bool)(hop:op=if neg then .neq else .eql)(hk:k=k') :
  (do eqGuard op t x y (.int k a) (.int k' b);binOp op t (.int k a) (.int k' b):Sem Value).run P w=.ok (.bool (if neg then a != b else a == b)) w:=by
 subst hk;cases neg<;>subst hop<;>simp[eqGuard,binOp,Op.intCmp]
theorem equal_str{t:TypeId}{a b:ByteArray}{x y:Operand}{op:BinOp}(neg:Bool)(hop:op=if neg then .neq else .eql) :
  (do eqGuard op t x y (.string a) (.string b);binOp op t (.string a) (.string b):Sem Value).run P w=.ok (.bool (if neg then !(a.data.toList == b.data.toList) else a.data.toList == b.data.toList)) w:=by
 cases neg<;>subst hop<;>simp[eqGuard,binOp,Op.stringOp,ByteArray.toList_eq]
theorem str_eq{ρ:Rho}{l b l' b':Nat}{s s':ByteArray}(h1:VR ρ (.str l b) (.string s))(h2:VR ρ (.str l' b') (.string s')):bi (Nat.beq l l') (Nat.beq b b') false=(s.data.toList == s'.data.toList):=by
 cases h1 with
 | str _ e1 e2=>
 cases h2 with
 | str _ e3 e4=>
  rw[bi_eq,Bool.eq_iff_iff];constructor
  ·intro h;split at h
   ·rename_i hl;have hl:l=l':=q0f hl;have hb:b=b':=q0f h;have:=zL3 (a:=s.data.toList) (b:=s'.data.toList) (by omega) (by rw[<-e2,<-e4,hb]);rw[this];exact beq_self_eq_true _
   ·cases h
  ·intro h;have h:s.data.toList=s'.data.toList:=eq_of_beq h;have hl:l=l':=by rw[e1,e3,h]
   have hb:b=b':=by rw[e2,e4,h]
   rw[hl,hb,if_pos (q0K _)];exact q0K _
theorem zE6{t:TypeId}{u v:Value}{x y:Operand}{op:BinOp}{q:Bool}(neg:Bool)(hop:op=if neg then .neq else .eql)(hg:(eqGuard op t x y u v).run P w=.ok () w)(he:(Op.equal t u v).run P w=.ok q w)
  (hn:∀o:BinOp,o=.eql\/o=.neq->binOp o t u v=(if o=.eql then do pure (.bool (<-Op.equal t u v)) else do pure (.bool (!(<-Op.equal t u v))))) :
  (do eqGuard op t x y u v;binOp op t u v:Sem Value).run P w=.ok (.bool (if neg then !q else q)) w:=by
 cases neg<;>subst hop
 ·simp only[q0G,if_false] at hg ⊢;simp[hg,hn _ (.inl rfl),he]
 ·simp only[if_true] at hg ⊢;simp[hg,hn _ (.inr rfl),he]
theorem zG3{neg q:Bool}{s:Sem Value}(W:WR ρ h w)(hs:s.run P w=.ok (.bool (if neg then !q else q)) w):Good P ρ h w (vv s) (Ev.bool (bi neg (bi q false true) q) h):=by
 rw[zCc];have:bi neg (bi q false true) q=(if neg then !q else q):=by cases neg<;>cases q<;>rfl
 rw[this];exact .same W (zAf hs) (.bool _)
theorem zFk{G:OR->Prop}(hF:∀n,G (.fail n)){o:Option Bool}{neg:Bool}(hk:∀q,o=some q->G (Ev.bool (bi neg (bi q false true) q) h)):G (obind o (F 29) λq=>Ev.bool (bi neg (bi q false true) q) h):=zAl hF hk
variable{x y:Opd}{u v:Value}{t:TypeId}{x' y':Operand}{op:BinOp}{neg:Bool}
theorem s_eqNum(W:WR ρ h w)(hop:op=if neg then .neq else .eql)(hx:VR ρ (ev loc tmp x) u)(hy:VR ρ (ev loc tmp y) v) :
  Good P ρ h w (vv (do eqGuard op t x' y' u v;binOp op t u v)) (oEq neg .num x y loc tmp h):=by
 refine zFk q2h λq hq=>?_;have hq:eqNum h (ev loc tmp x) (ev loc tmp y)=some q:=hq;cases ex:ev loc tmp x with
 | int k m=>
  cases ey:ev loc tmp y with
  | int k' n=>
   rw[ex] at hx;rw[ey] at hy;rw[ex,ey] at hq;cases hx;cases hy;have hq:bi (eqK k k') (some (eqI m n)) none=some q:=hq;rw[bi_eq] at hq;split at hq
   ·rename_i hk;injection hq with hq;refine zG3 W ?_;rw[equal_int neg hop (zHw hk)];rw[<-hq,zEm];cases neg<;>simp[bne,BEq.beq]
   ·cases hq
  | _=>rw[ex,ey] at hq;cases hq
 | str l b=>
  cases ey:ev loc tmp y with
  | str l' b'=>
   rw[ex] at hx;rw[ey] at hy;rw[ex,ey] at hq;have hq:some (bi (Nat.beq l l') (Nat.beq b b') false)=some q:=hq;injection hq with hq;have h1:=hx;have h2:=hy;cases hx;cases hy;refine zG3 W ?_;rw[equal_str neg hop,<-hq,str_eq h1 h2]
  | _=>rw[ex,ey] at hq;cases hq
 | _=>rw[ex] at hq;cases hq
theorem s_eqBool(W:WR ρ h w)(hop:op=if neg then .neq else .eql)(hu:P.underlying t=some .bool)(hx:VR ρ (ev loc tmp x) u)(hy:VR ρ (ev loc tmp y) v) :
  Good P ρ h w (vv (do eqGuard op t x' y' u v;binOp op t u v)) (oEq neg .bool x y loc tmp h):=by
 refine zFk q2h λq hq=>?_;have hq:eqBool h (ev loc tmp x) (ev loc tmp y)=some q:=hq;cases ex:ev loc tmp x with
 | bool a=>
  cases ey:ev loc tmp y with
  | bool b=>
   rw[ex] at hx;rw[ey] at hy;rw[ex,ey] at hq;cases hx;cases hy;have hq:some (bi a b (bi b false true))=some q:=hq;injection hq with hq;have hq:(a == b)=q:=by rw[<-hq];cases a<;>cases b<;>rfl
   refine zG3 W (zE6 neg hop (by simp[eqGuard]) (q:=q) ?_ ?_)
   ·rw[zC4,Op.equalIn];simp only[Sem.run_bind,run_underlying hu,Result.andThen_ok,Sem.run_pure,hq]
   ·rintro o (rfl | rfl)<;>simp[binOp]
  | _=>rw[ex,ey] at hq;cases hq
 | _=>rw[ex] at hq;cases hq
theorem s_eqSl{e:TypeId}(W:WR ρ h w)(hop:op=if neg then .neq else .eql)(hu:P.underlying t=some (.slice e))(hx:VR ρ (ev loc tmp x) u)(hy:VR ρ (ev loc tmp y) v) :
  Good P ρ h w (vv (do eqGuard op t x' y' u v;binOp op t u v)) (oEq neg .sl x y loc tmp h):=by
 refine zFk q2h λq hq=>?_;have hq:eqSl h (ev loc tmp x) (ev loc tmp y)=some q:=hq
 have fin:(eqGuard op t x' y' u v).run P w=.ok () w->(Op.equal t u v).run P w=.ok q w->(∀o:BinOp,o=.eql\/o=.neq->binOp o t u v=(if o=.eql then do pure (.bool (<-Op.equal t u v)) else do pure (.bool (!(<-Op.equal t u v)))))->Good P ρ h w (vv (do eqGuard op t x' y' u v;binOp op t u v)) (Ev.bool (bi neg (bi q false true) q) h):=
  λa b c=>zG3 W (zE6 neg hop a b c)
 cases ex:ev loc tmp x<;>rw[ex] at hx hq<;>try (cases hq;done)
 all_goals (cases ey:ev loc tmp y<;>rw[ey] at hy hq<;>try (cases hq;done))
 all_goals
  cases hx<;>cases hy<;>(
  injection hq with hq;subst hq;exact fin (by simp[eqGuard]) (by rw[zC4,Op.equalIn];(first | (simp only[Sem.run_bind,run_underlying hu,Result.andThen_ok,Sem.run_pure];done) | (simp only[Sem.run_bind,run_underlying hu,Result.andThen_ok,Sem.run_pure];rfl))) (by rintro o (rfl | rfl)<;>simp[binOp]))
theorem s_eqMap{k e:TypeId}(W:WR ρ h w)(hop:op=if neg then .neq else .eql)(hu:P.underlying t=some (.map k e))(hx:VR ρ (ev loc tmp x) u)(hy:VR ρ (ev loc tmp y) v) :
  Good P ρ h w (vv (do eqGuard op t x' y' u v;binOp op t u v)) (oEq neg .map x y loc tmp h):=by
 refine zFk q2h λq hq=>?_;have hq:eqMap h (ev loc tmp x) (ev loc tmp y)=some q:=hq
 have fin:(eqGuard op t x' y' u v).run P w=.ok () w->(Op.equal t u v).run P w=.ok q w->(∀o:BinOp,o=.eql\/o=.neq->binOp o t u v=(if o=.eql then do pure (.bool (<-Op.equal t u v)) else do pure (.bool (!(<-Op.equal t u v)))))->Good P ρ h w (vv (do eqGuard op t x' y' u v;binOp op t u v)) (Ev.bool (bi neg (bi q false true) q) h):=
  λa b c=>zG3 W (zE6 neg hop a b c)
 cases ex:ev loc tmp x<;>rw[ex] at hx hq<;>try (cases hq;done)
 all_goals (cases ey:ev loc tmp y<;>rw[ey] at hy hq<;>try (cases hq;done))
 all_goals
  cases hx;cases hy;injection hq with hq;subst hq;exact fin (by simp[eqGuard]) (by rw[zC4,Op.equalIn];(first | (simp only[Sem.run_bind,run_underlying hu,Result.andThen_ok,Sem.run_pure];done) | (simp only[Sem.run_bind,run_underlying hu,Result.andThen_ok,Sem.run_pure];rfl))) (by rintro o (rfl | rfl)<;>simp[binOp])
theorem s_eqFn{a b:Array TypeId}{c:Bool}(W:WR ρ h w)(hop:op=if neg then .neq else .eql)(hu:P.underlying t=some (.func a b c))(hx:VR ρ (ev loc tmp x) u)(hy:VR ρ (ev loc tmp y) v) :
  Good P ρ h w (vv (do eqGuard op t x' y' u v;binOp op t u v)) (oEq neg .fn x y loc tmp h):=by
 refine zFk q2h λq hq=>?_;have hq:eqFn h (ev loc tmp x) (ev loc tmp y)=some q:=hq
 have fin:(eqGuard op t x' y' u v).run P w=.ok () w->(Op.equal t u v).run P w=.ok q w->(∀o:BinOp,o=.eql\/o=.neq->binOp o t u v=(if o=.eql then do pure (.bool (<-Op.equal t u v)) else do pure (.bool (!(<-Op.equal t u v)))))->Good P ρ h w (vv (do eqGuard op t x' y' u v;binOp op t u v)) (Ev.bool (bi neg (bi q false true) q) h):=
  λa b c=>zG3 W (zE6 neg hop a b c)
 cases ex:ev loc tmp x<;>rw[ex] at hx hq<;>try (cases hq;done)
 all_goals (cases ey:ev loc tmp y<;>rw[ey] at hy hq<;>try (cases hq;done))
 all_goals
  cases hx;cases hy;injection hq with hq;subst hq;exact fin (by simp[eqGuard]) (by rw[zC4,Op.equalIn];simp only[Sem.run_bind,run_underlying hu,Result.andThen_ok,Sem.run_pure]) (by rintro o (rfl | rfl)<;>simp[binOp])
theorem s_eqIfc{ms:Array (String×TypeId)}(W:WR ρ h w)(hop:op=if neg then .neq else .eql)(hu:P.underlying t=some (.interface ms))(hc:(x' matches .const _)=true\/(y' matches .const _)=true)(hx:VR ρ (ev loc tmp x) u)(hy:VR ρ (ev loc tmp y) v) :
  Good P ρ h w (vv (do eqGuard op t x' y' u v;binOp op t u v)) (oEq neg .ifc x y loc tmp h):=by
 refine zFk q2h λq hq=>?_;have hq:eqIfc h (ev loc tmp x) (ev loc tmp y)=some q:=hq
 have fin:(eqGuard op t x' y' u v).run P w=.ok () w->(Op.equal t u v).run P w=.ok q w->(∀o:BinOp,o=.eql\/o=.neq->binOp o t u v=(if o=.eql then do pure (.bool (<-Op.equal t u v)) else do pure (.bool (!(<-Op.equal t u v)))))->Good P ρ h w (vv (do eqGuard op t x' y' u v;binOp op t u v)) (Ev.bool (bi neg (bi q false true) q) h):=
  λa b c=>zG3 W (zE6 neg hop a b c)
 cases ex:ev loc tmp x<;>rw[ex] at hx hq<;>try (cases hq;done)
 all_goals (cases ey:ev loc tmp y<;>rw[ey] at hy hq<;>try (cases hq;done))
 all_goals
  cases hx;cases hy;injection hq with hq;subst hq;refine fin ?_ (by rw[zC4,Op.equalIn];simp only[Sem.run_bind,run_underlying hu,Result.andThen_ok,Sem.run_pure]) (by rintro o (rfl | rfl)<;>simp[binOp])
  first
   | (cases op<;>simp[eqGuard];done)
   | (cases op<;>simp[eqGuard]<;>(intro h1 h2;rcases hc with hc | hc<;>first | exact Bool.noConfusion (hc.symm.trans h1) | exact Bool.noConfusion (hc.symm.trans h2)))
theorem s_eqPtr{e:TypeId}{n:Nat}(W:WR ρ h w)(hop:op=if neg then .neq else .eql)(hu:P.underlying t=some (.pointer e))(hn:zAm P e=some (n+1))(hx:VR ρ (ev loc tmp x) u)(hy:VR ρ (ev loc tmp y) v) :
  Good P ρ h w (vv (do eqGuard op t x' y' u v;binOp op t u v)) (oEq neg .ptr x y loc tmp h):=by
 refine zFk q2h λq hq=>?_;have hq:eqPtr h (ev loc tmp x) (ev loc tmp y)=some q:=hq
 have fin:(eqGuard op t x' y' u v).run P w=.ok () w->(Op.equal t u v).run P w=.ok q w->(∀o:BinOp,o=.eql\/o=.neq->binOp o t u v=(if o=.eql then do pure (.bool (<-Op.equal t u v)) else do pure (.bool (!(<-Op.equal t u v)))))->Good P ρ h w (vv (do eqGuard op t x' y' u v;binOp op t u v)) (Ev.bool (bi neg (bi q false true) q) h):=
  λa b c=>zG3 W (zE6 neg hop a b c)
 cases ex:ev loc tmp x<;>rw[ex] at hx hq<;>try (cases hq;done)
 all_goals (cases ey:ev loc tmp y<;>rw[ey] at hy hq<;>try (cases hq;done))
 case ptr.ptr i o i' o'=>
  cases hx with
  | ptr r1 p1=>
  cases hy with
  | ptr r2 p2=>
  rename_i b1 o1 s1 q1 b2 o2 s2 q2;have hq2:bi (Nat.beq i i') (some (Nat.beq o o')) (obind (AH.get h i) none λp=>obind (AH.get h i') none λq=>AObj.rec (motive:=λ_=>Option Bool) (λ_ _ _ r=>AObj.rec (motive:=λ_=>Option Bool) (λ_ _ _ r'=>bi r none (bi r' none (some false))) (λ_ _=>none) (λ_ _ _ _=>none) q) (λ_ _=>none) (λ_ _ _ _=>none) p)=some q:=hq;have hmain:(sameAddr ⟨b1,q1,none⟩ ⟨b2,q2,none⟩).run P w=.ok q w:=by
   clear hq;rw[bi_eq] at hq2;split at hq2
   ·rename_i hi;have hi:i=i':=q0f hi;subst hi;rw[r1] at r2;injection r2 with r2;injection r2 with e1 r2;injection r2 with e2 e3;subst e1;subst e2;subst p1;subst p2;injection hq2 with hq2;simp only[sameAddr,beq_self_eq_true,if_true,Sem.run_pure];congr 1;rw[<-hq2,Bool.eq_iff_iff,beq_iff_eq,Nat.beq_eq];constructor
    ·intro h;injection h with _ h _;omega
    ·intro h;rw[h]
   ·rename_i hi;have hi:i≠i':=λe=>hi (by rw[e];exact q0K _);cases g1:AH.get h i with
    | none=>rw[g1] at hq2;cases hq2
    | some a=>
    cases g2:AH.get h i' with
    | none=>rw[g1,g2] at hq2;cases hq2
    | some a'=>
    rw[g1,g2] at hq2;rw[q2f] at g1 g2;cases a with
    | map _ _=>cases hq2
    | iter _ _ _ _=>cases hq2
    | cells c1 z1 o1' r=>
    cases a' with
    | map _ _=>cases hq2
    | iter _ _ _ _=>cases hq2
    | cells c2 z2 o2' r'=>
    have hq2:bi r none (bi r' none (some false))=some q:=hq2;cases r with
    | true=>cases hq2
    | false=>
    cases r' with
    | true=>cases hq2
    | false=>
    injection hq2 with hq2;have hne:b1≠b2:=by
     intro e;subst e;have:=(W.inj g1 g2 hi r1 r2).1;cases this
    obtain⟨y1,hy1,hr1⟩:=W.obj g1 r1;obtain⟨y2,hy2,hr2⟩:=W.obj g2 r2;cases hr1 with
    | cells a1 a2 a3 a4 a5=>
    cases hr2 with
    | cells b1' b2' b3' b4' b5'=>
    rename_i cs1 te1 fr1 cs2 te2 fr2;have f1:=a4 rfl;have f2:=b4' rfl;have z1:∀i,w.frozen? ⟨b1,i,none⟩=false:=λi=>zG2 hy1 (by omega);have z2:∀i,w.frozen? ⟨b2,i,none⟩=false:=λi=>zG2 hy2 (by omega);have n1:w.shape? b1=some (te1,cs1.size):=by simp[World.shape?,hy1]
    have n2:w.shape? b2=some (te2,cs2.size):=by simp[World.shape?,hy2]
    subst hq2;have hbb:(b1 == b2)=false:=by simpa using hne
    simp[sameAddr,hne,z1,noView,viewAt,n1,n2,mayBeOne,stringish,z2]
  refine fin (by simp[eqGuard]) ?_ (by rintro o (rfl | rfl)<;>simp[binOp]);rw[zC4,Op.equalIn];simp only[Sem.run_bind,run_underlying hu,Result.andThen_ok,zAj hn];rw[if_pos (by omega)];exact hmain
 all_goals
  cases hx;cases hy;injection hq with hq;subst hq;exact fin (by simp[eqGuard]) (by rw[zC4,Op.equalIn];(first | (simp only[Sem.run_bind,run_underlying hu,Result.andThen_ok,Sem.run_pure];done) | (simp only[Sem.run_bind,run_underlying hu,Result.andThen_ok,Sem.run_pure];rfl))) (by rintro o (rfl | rfl)<;>simp[binOp])
end
variable[Glob]
section
variable{P:Program}{ρ:Rho}{h:AH}{w:World}{loc:T AV}{tmp:List AV}
theorem zJy{l l':List AV}{q:Bool}(hq:eqL [] l l'=some q):l=[]/\l'=[]/\q=true:=by
 cases l with
 | cons _ _=>cases hq
 | nil=>
  cases l' with
  | cons _ _=>cases hq
  | nil=>injection hq with hq;exact⟨rfl,rfl,hq.symm⟩
theorem zIv{k:SK}{ks:List SK}{l l':List AV}{q:Bool}(hq:eqL (k::ks) l l'=some q):∃a r b r' q1 q2,l=a::r/\l'=b::r'/\eqS k a b=some q1/\eqL ks r r'=some q2/\q=(q1&&q2):=by
 cases l with
 | nil=>cases hq
 | cons a l=>
  cases l' with
  | nil=>cases hq
  | cons b l'=>
   have hq:obind (eqS k a b) none (λq=>bi q (eqL ks l l') (obind (eqL ks l l') none λ_=>some false))=some q:=hq;cases h1:eqS k a b with
   | none=>rw[h1] at hq;cases hq
   | some q1=>
    rw[h1] at hq;have hq:bi q1 (eqL ks l l') (obind (eqL ks l l') none λ_=>some false)=some q:=hq;cases h2:eqL ks l l' with
    | none=>rw[h2] at hq;cases q1<;>cases hq
    | some q2=>
     rw[h2] at hq;refine⟨a,l,b,l',q1,q2,rfl,rfl,h1,h2,?_⟩;cases q1<;>(injection hq with hq;subst hq;simp)
theorem zHv:∀{ks ks':List SK} {l l':List AV} {q:Bool},eqL (ks++ks') l l'=some q->∃q1 q2,eqL ks (l.take ks.length) (l'.take ks.length)=some q1/\eqL ks' (l.drop ks.length) (l'.drop ks.length)=some q2/\q=(q1&&q2)
 | [],ks',l,l',q,hq=>⟨true,q,by simp;rfl,by simpa using hq,by simp⟩
 | k::ks,ks',l,l',q,hq=>by
  obtain⟨a,r,b,r',q1,q2,rfl,rfl,h1,h2,e⟩:=zIv hq;obtain⟨q3,q4,h3,h4,e2⟩:=zHv h2;refine⟨q1&&q3,q4,?_,by simpa using h4,by rw[e,e2,Bool.and_assoc]⟩;simp only[q0P,List.take_succ_cons];show obind (eqS k a b) none (λq=>bi q (eqL ks (r.take ks.length) (r'.take ks.length)) (obind (eqL ks (r.take ks.length) (r'.take ks.length)) none λ_=>some false))=_;rw[h1,h3];cases q1<;>rfl
theorem zL1:∀{ks:List SK} {l l':List AV} {q:Bool},eqL ks l l'=some q->l.length=ks.length/\l'.length=ks.length
 | [],l,l',q,hq=>by obtain⟨rfl,rfl,_⟩:=zJy hq;simp
 | k::ks,l,l',q,hq=>by
  obtain⟨a,r,b,r',q1,q2,rfl,rfl,h1,h2,e⟩:=zIv hq;have:=zL1 h2;simp[this]
def VCell(ρ:Rho)(g:Bool)(u:Value)(l:List AV):Prop:=(g=true/\∃xs:List Value,u=.agg xs.toArray/\VCs ρ l xs)\/(g=false/\∃a,l=[a]/\VR ρ a u)
theorem zJr{n:Nat}{k:List SK}:(List.replicate n k).flatten.length=n*k.length:=by
 induction n with
 | zero=>simp
 | succ n ih=>rw[List.replicate_succ,List.flatten_cons,q0o,Nat.succ_mul,ih,Nat.add_comm]
theorem zKg{d:Nat}{t:TypeId}{k:SK}{a b:AV}{u v:Value}{q:Bool}(hk:tySK P t=some k)(ha:VR ρ a u)(hb:VR ρ b v)(hq:eqS k a b=some q)(w:World):(Op.equalIn (d+1) t u v).run P w=.ok q w:=by
 unfold tySK at hk;cases k with
 | bool=>
  have hu:P.underlying t=some .bool:=by split at hk<;>first | assumption | cases hk
  have hq1:eqB1 a b=some q:=hq;clear hq;have hq:=hq1;clear hq1;cases a<;>try (cases hq;done)
  cases b<;>try (cases hq;done)
  rename_i p p';cases ha;cases hb;rw[run_equalIn_bool w d t p p' hu];injection hq with hq;rw[<-hq];cases p<;>cases p'<;>rfl
 | int=>
  obtain⟨k1,hu⟩:∃k,P.underlying t=some (.int k):=by
   split at hk
   ·cases hk
   ·exact⟨_,‹_›⟩
   ·cases hk
   ·cases hk
  have hq1:eqI1 a b=some q:=hq;clear hq;have hq:=hq1;clear hq1;cases a<;>try (cases hq;done)
  cases b<;>try (cases hq;done)
  rename_i k m k' n;have hq2:bi (eqK k k') (some (eqI m n)) none=some q:=hq;clear hq;rw[bi_eq] at hq2;split at hq2
  ·rename_i hk;have:=zHw hk;subst this;cases ha;cases hb;injection hq2 with hq2;rw[run_equalIn_int (P:=P) w d t k k1 m n hu,<-hq2,zEm];congr 1
  ·cases hq2
 | str=>
  have hu:P.underlying t=some .string:=by split at hk<;>first | assumption | cases hk
  have hq1:eqS1 a b=some q:=hq;clear hq;have hq:=hq1;clear hq1;cases a<;>try (cases hq;done)
  cases b<;>try (cases hq;done)
  rename_i l s l' s';have hq2:some (bi (Nat.beq l l') (Nat.beq s s') false)=some q:=hq;clear hq;injection hq2 with hq2;have h1:=ha;have h2:=hb;cases ha;cases hb;rw[run_equalIn_string w d t _ _ hu,<-hq2,str_eq h1 h2,ByteArray.toList_eq,ByteArray.toList_eq]
theorem tySK_agg{t:TypeId}{k:SK}(h:tySK P t=some k):tyAgg P t=some false:=by
 unfold tySK at h;unfold tyAgg;split at h<;>first | (rename_i hu;rw[hu]) | cases h
theorem zEj{t:TypeId}{g:Bool}{n off:Nat}{l:List AV}{l':List Value}(hg:tyAgg P t=some g)(hn:zAm P t=some n)(hl:VCs ρ l l')(hb:off+n<=l.length)(h1:g=false->n=1)(w:World) :
  ∃u,(part t l'.toArray off).run P w=.ok u w/\VCell ρ g u ((l.drop off).take n):=by
 cases g with
 | true=>
  refine⟨.agg ((l'.drop off).take n).toArray,?_,.inl ⟨rfl,_,rfl,(hl.drop off).take n⟩⟩;simp only[part,Sem.run_bind,zC1 hg,Result.andThen_ok,if_true,zAj hn,Sem.run_pure];congr 2;apply Array.ext';simp
 | false=>
  obtain rfl:=h1 rfl;have hlt:off<l.length:=by omega
  have hx:l[off]?=some l[off]:=q0a hlt;obtain⟨v,hv,hr,hc⟩:=hl.get hx;refine⟨v,by simp[part,zC1 hg,hv],.inr ⟨rfl,l[off],?_,hr⟩⟩;rw[List.drop_eq_getElem_cons hlt];rfl
theorem zIt{d:Nat}{t:TypeId}{ks:List SK}(h:zBg P d t=some ks):∃g,tyAgg P t=some g/\(g=false->ks.length=1):=by
 cases d with
 | zero=>cases h
 | succ d=>
  unfold zBg at h;split at h
  ·rename_i k hk;injection h with h;exact⟨false,tySK_agg hk,λ_=>by rw[<-h];rfl⟩
  ·split at h
   ·rename_i hu;exact⟨true,by simp[tyAgg,hu],λe=>by cases e⟩
   ·rename_i hu;exact⟨true,by simp[tyAgg,hu],λe=>by cases e⟩
   ·cases h
def FlatAt(P:Program)(ρ:Rho)(D:Nat)(t:TypeId)(ks:List SK):Prop:=
 ∀(g:Bool) (u v:Value) (l l':List AV) (q:Bool) (w:World),tyAgg P t=some g->VCell ρ g u l->VCell ρ g v l'->eqL ks l l'=some q->(Op.equalIn D t u v).run P w=.ok q w
theorem flatF_run{d D:Nat}(ih:∀t ks,zBg P d t=some ks->FlatAt P ρ D t ks):∀(fs:List Field) (off:Nat) (ks:List SK),flatF P (zBg P d) fs off=some ks->
  ∀(l l':List AV) (xs ys:List Value) (q:Bool) (w:World),VCs ρ l xs->VCs ρ l' ys->l.length=off+ks.length->l'.length=off+ks.length->eqL ks (l.drop off) (l'.drop off)=some q->(Op.eqFields D xs.toArray ys.toArray fs).run P w=.ok q w
 | [],off,ks,hf,l,l',xs,ys,q,w,hl,hl',h1,h2,hq=>by
  injection hf with hf;subst hf;obtain⟨_,_,rfl⟩:=zJy hq;rfl
 | f::fs,off,ks,hf,l,l',xs,ys,q,w,hl,hl',h1,h2,hq=>by
  unfold flatF at hf;split at hf
  ·rename_i hc;obtain⟨hoff,hname⟩:=hc;cases hfe:zBg P d f.type with
   | none=>rw[hfe] at hf;cases hf
   | some k1=>
    rw[hfe] at hf;have hf:(if zAm P f.type=some k1.length then(flatF P (zBg P d) fs (off+k1.length)).map (k1++·) else none)=some ks:=hf;split at hf
    ·rename_i hsz;cases hrest:flatF P (zBg P d) fs (off+k1.length) with
     | none=>rw[hrest] at hf;cases hf
     | some k2=>
      rw[hrest] at hf;have hf:some (k1++k2)=some ks:=hf;injection hf with hf;subst hf;rw[q0o] at h1 h2;obtain⟨q1,q2,e1,e2,rfl⟩:=zHv hq;obtain⟨g,hg,hg1⟩:=zIt hfe;obtain⟨u,hu,hcu⟩:=zEj (P:=P) hg hsz hl (off:=off) (by omega) hg1 w;obtain⟨v,hv,hcv⟩:=zEj (P:=P) hg hsz hl' (off:=off) (by omega) hg1 w;have hrun:=ih _ _ hfe g u v _ _ q1 w hg hcu hcv e1;rw[List.drop_drop,List.drop_drop] at e2;have hnext:=flatF_run ih fs (off+k1.length) k2 hrest l l' xs ys q2 w hl hl' (by omega) (by omega) e2;unfold Op.eqFields;rw[if_pos hname,hoff];simp only[Sem.run_bind,hu,hv,hrun,Result.andThen_ok];cases q1
      ·simp
      ·simpa using hnext
    ·cases hf
  ·cases hf
theorem items_run{D e n:Nat}{ks:List SK}(hsz:zAm P e=some ks.length)(ih:FlatAt P ρ D e ks){g:Bool}(hg:tyAgg P e=some g)(hg1:g=false->ks.length=1):∀(m i:Nat) (l l':List AV) (xs ys:List Value) (q:Bool) (w:World),VCs ρ l xs->VCs ρ l' ys->l.length=(i+m)*ks.length->l'.length=(i+m)*ks.length->
  eqL (List.replicate m ks).flatten (l.drop (i*ks.length)) (l'.drop (i*ks.length))=some q->(Op.eqItems D e ks.length xs.toArray ys.toArray (List.range' i m)).run P w=.ok q w
 | 0,i,l,l',xs,ys,q,w,hl,hl',h1,h2,hq=>by
  obtain⟨_,_,rfl⟩:=zJy (by simpa using hq);rfl
 | m+1,i,l,l',xs,ys,q,w,hl,hl',h1,h2,hq=>by
  rw[List.replicate_succ,List.flatten_cons] at hq;obtain⟨q1,q2,e1,e2,rfl⟩:=zHv hq;have hm:(i+(m+1))*ks.length=i*ks.length+(m+1)*ks.length:=Nat.add_mul _ _ _;have hm2:(m+1)*ks.length=m*ks.length+ks.length:=Nat.succ_mul _ _;obtain⟨u,hu,hcu⟩:=zEj (P:=P) hg hsz hl (off:=i*ks.length) (by omega) hg1 w;obtain⟨v,hv,hcv⟩:=zEj (P:=P) hg hsz hl' (off:=i*ks.length) (by omega) hg1 w;have hrun:=ih g u v _ _ q1 w hg hcu hcv e1;rw[List.drop_drop,List.drop_drop,<-Nat.succ_mul] at e2;have hnext:=items_run (n:=n) hsz ih hg hg1 m (i+1) l l' xs ys q2 w hl hl' (by rw[h1];congr 1;omega) (by rw[h2];congr 1;omega) e2;rw[List.range'_succ];unfold Op.eqItems;simp only[Sem.run_bind,hu,hv,hrun,Result.andThen_ok];cases q1
  ·simp
  ·simpa using hnext
theorem zIs:∀(d:Nat) (t:TypeId) (ks:List SK),zBg P d t=some ks->∀D,d<=D->FlatAt P ρ D t ks
 | 0,t,ks,h,D,hD=>by cases h
 | d+1,t,ks,h,D,hD=>by
  obtain⟨D,rfl⟩:∃k,D=k+1:=⟨D-1,by omega⟩;intro g u v l l' q w hg hu hv hq;unfold zBg at h;split at h
  ·rename_i k hk;injection h with h;subst h;rw[tySK_agg hk] at hg;injection hg with hg;subst hg;rcases hu with⟨e,_⟩ | ⟨_,a,rfl,ha⟩
   ·cases e
   ·rcases hv with⟨e,_⟩ | ⟨_,b,rfl,hb⟩
    ·cases e
    ·obtain⟨_,_,_,_,q1,q2,e1,e2,h1,h2,rfl⟩:=zIv hq;injection e1 with e1 e1';injection e2 with e2 e2';subst e1;subst e2;subst e1';subst e2';obtain⟨_,_,rfl⟩:=zJy h2;rw[zKg hk ha hb h1 w];simp
  ·split at h
   ·rename_i fs hus;split at h
    ·cases h
    ·rename_i hst;have hgt:g=true:=by
      have:tyAgg P t=some true:=by simp[tyAgg,hus]
      rw[this] at hg;injection hg with hg;exact hg.symm
     subst hgt;rcases hu with⟨_,xs,rfl,hxs⟩ | ⟨e,_⟩
     ·rcases hv with⟨_,ys,rfl,hys⟩ | ⟨e,_⟩
      ·have hfo:P.fieldsOf t=fs:=by simp[Program.fieldsOf,hus]
       have hl:=zL1 hq;rw[run_equalIn_struct w D t _ _ (by rw[hfo];exact hus) (by simpa using hst),hfo];exact flatF_run (λt ks hh=>zIs d t ks hh D (by omega)) fs.toList 0 ks h l l' xs ys q w hxs hys (by omega) (by omega) (by simpa using hq)
      ·cases e
     ·cases e
   ·rename_i len e hus;cases hfe:zBg P d e with
    | none=>rw[hfe] at h;cases h
    | some k1=>
     rw[hfe] at h;have h:(if zAm P e=some k1.length then some (List.replicate len k1).flatten else none)=some ks:=h;split at h
     ·rename_i hsz;injection h with h;subst h;have hgt:g=true:=by
       have:tyAgg P t=some true:=by simp[tyAgg,hus]
       rw[this] at hg;injection hg with hg;exact hg.symm
      subst hgt;rcases hu with⟨_,xs,rfl,hxs⟩ | ⟨e,_⟩
      ·rcases hv with⟨_,ys,rfl,hys⟩ | ⟨e,_⟩
       ·obtain⟨i,hi,his⟩:∃i,P.info? e=some i/\i.size=k1.length:=by
         unfold zAm at hsz;cases hi:P.info? e with
         | none=>rw[hi] at hsz;cases hsz
         | some i=>rw[hi] at hsz;injection hsz with hsz;exact⟨i,rfl,hsz⟩
        have hco:P.cellsOf e=k1.length:=by simp[Program.cellsOf,hi,his]
        have hl:=zL1 hq;have hfl:(List.replicate len k1).flatten.length=len*k1.length:=zJr;obtain⟨g1,hg1,hg2⟩:=zIt hfe;rw[run_equalIn_array w D _ _ hus hi,hco,List.range_eq_range'];exact items_run (n:=0) hsz (zIs d e k1 hfe D (by omega)) hg1 hg2 len 0 l l' xs ys q w hxs hys (by rw[q0I];omega) (by rw[q0I];omega) (by simpa using hq)
       ·cases e
      ·cases e
     ·cases h
   ·cases h
end
variable[Glob]
section
variable{P:Program}{ρ:Rho}{h:AH}{w:World}{loc:T AV}{tmp:List AV}
theorem zF3{ks:List SK}{h:AH}{a b:AV}{q:Bool}(e:eqAgg ks h a b=some q):∃l l',a=.agg l/\b=.agg l'/\eqL ks l l'=some q:=by
 cases a<;>try (cases e;done)
 cases b<;>try (cases e;done)
 exact⟨_,_,rfl,rfl,e⟩
theorem zE4{d:Nat}{t:TypeId}{ks:List SK}(h:zBg P d t=some ks)(hn:tySK P t=none):tyAgg P t=some true:=by
 cases d with
 | zero=>cases h
 | succ d=>
  unfold zBg at h;rw[hn] at h;simp only at h;split at h
  ·rename_i hu;simp[tyAgg,hu]
  ·rename_i hu;simp[tyAgg,hu]
  ·cases h
theorem VR.aggCell{l:List AV}{u:Value}(hv:VR ρ (.agg l) u):VCell ρ true u l:=by
 cases hv with
 | agg a b=>subst b;exact .inl ⟨rfl,_,rfl,a⟩
variable{x y:Opd}{u v:Value}{t:TypeId}{x' y':Operand}{op:BinOp}{neg:Bool}
theorem s_eqAgg{ks:List SK}(W:WR ρ h w)(hop:op=if neg then .neq else .eql)(hg:tyAgg P t=some true)(hm:P.eqGuardType P.depth t=false)(hf:zBg P 20 t=some ks)(hx:VR ρ (ev loc tmp x) u)(hy:VR ρ (ev loc tmp y) v) :
  Good P ρ h w (vv (do eqGuard op t x' y' u v;binOp op t u v)) (oEq neg (.agg ks) x y loc tmp h):=by
 refine zFk q2h λq hq=>?_;have hq:eqAgg ks h (ev loc tmp x) (ev loc tmp y)=some q:=hq;obtain⟨l,l',e1,e2,hq⟩:=zF3 hq;rw[e1] at hx;rw[e2] at hy;have hxc:=hx.aggCell;have hyc:=hy.aggCell;have hrun:=zIs (P:=P) (ρ:=ρ) 20 t ks hf 10000 (by omega) true u v l l' q w hg hxc hyc hq;cases hx with
 | agg a1 a2=>
 cases hy with
 | agg b1 b2=>
  refine zG3 W (zE6 neg hop (run_eqGuard_agg _ op t x' y' _ _ hm) hrun ?_);rintro o (rfl | rfl)<;>simp[binOp]
theorem zGy{kt:KT}{a b:AV}{q:Bool}(hk:keyT P t=some kt)(ha:VR ρ a u)(hb:VR ρ b v)(hq:keyEq kt a b=some q)(w:World):(Op.equal t u v).run P w=.ok q w:=by
 rw[zC4];unfold keyT at hk;split at hk
 ·rename_i k hsk;injection hk with hk;subst hk;exact zKg hsk ha hb hq w
 ·rename_i hsk;cases hf:zBg P 20 t with
  | none=>rw[hf] at hk;cases hk
  | some ks=>
   rw[hf] at hk;injection hk with hk;subst hk;have hq:eqAgg ks (AH.mk T.leaf 0) a b=some q:=hq;obtain⟨l,l',rfl,rfl,hq⟩:=zF3 hq;exact zIs 20 t ks hf _ (by omega) true u v l l' q w (zE4 hf hsk) ha.aggCell hb.aggCell hq
theorem tySK_desc{k:SK}(h:tySK P t=some k):∃d,P.underlying t=some d/\(k=.bool/\d=.bool\/(∃i,k=.int/\d=.int i)\/k=.str/\d=.string):=by
 unfold tySK at h;split at h<;>first | cases h | skip
 ·exact⟨_,‹_›,.inl ⟨rfl,rfl⟩⟩
 ·exact⟨_,‹_›,.inr (.inl ⟨_,rfl,rfl⟩)⟩
 ·exact⟨_,‹_›,.inr (.inr ⟨rfl,rfl⟩)⟩
theorem tyAgg_desc(h:tyAgg P t=some true):∃d,P.underlying t=some d/\∀u v,Instr.sameNow d u v=none:=by
 unfold tyAgg at h;split at h
 ·exact⟨_,‹_›,λu v=>rfl⟩
 ·exact⟨_,‹_›,λu v=>rfl⟩
 ·injection h with h;cases h
 ·cases h
theorem zF8(a b:ByteArray):(a == b)=(a.data.toList == b.data.toList):=by
 rw[Bool.eq_iff_iff,MapKept.bytes_beq];constructor
 ·intro h;subst h;exact beq_self_eq_true _
 ·intro h;have h:a.data.toList=b.data.toList:=eq_of_beq h;cases a;cases b;simp at h;congr 1
theorem key_now{kt:KT}(hk:keyT P t=some kt):∃d,P.underlying t=some d/\∀{a b:AV} {u v:Value} {q:Bool},VR ρ a u->VR ρ b v->keyEq kt a b=some q->Instr.sameNow d u v=none\/Instr.sameNow d u v=some q:=by
 unfold keyT at hk;split at hk
 ·rename_i k hsk;injection hk with hk;subst hk;obtain⟨d,hd,hc⟩:=tySK_desc hsk;refine⟨d,hd,?_⟩;intro a b u v q ha hb hq;rcases hc with⟨rfl,rfl⟩ | ⟨i,rfl,rfl⟩ | ⟨rfl,rfl⟩
  ·have hq1:eqB1 a b=some q:=hq;clear hq;cases a<;>try (cases hq1;done)
   cases b<;>try (cases hq1;done)
   rename_i p p';cases ha;cases hb;injection hq1 with hq;right;rw[<-hq];cases p<;>cases p'<;>rfl
  ·have hq1:eqI1 a b=some q:=hq;clear hq;cases a<;>try (cases hq1;done)
   cases b<;>try (cases hq1;done)
   rename_i k m k' n;have hq2:bi (eqK k k') (some (eqI m n)) none=some q:=hq1;clear hq1;rw[bi_eq] at hq2;split at hq2
   ·rename_i hkk;have:=zHw hkk;subst this;cases ha;cases hb;injection hq2 with hq2;right;rw[<-hq2,zEm];simp[Instr.sameNow,BEq.beq]
   ·cases hq2
  ·have hq1:eqS1 a b=some q:=hq;clear hq;cases a<;>try (cases hq1;done)
   cases b<;>try (cases hq1;done)
   rename_i l s l' s';have hq2:some (bi (Nat.beq l l') (Nat.beq s s') false)=some q:=hq1;clear hq1;injection hq2 with hq2;have h1:=ha;have h2:=hb;cases ha;cases hb;right;rw[<-hq2,str_eq h1 h2];simp only[Instr.sameNow,zF8]
 ·rename_i hsk;cases hf:zBg P 20 t with
  | none=>rw[hf] at hk;cases hk
  | some ks=>
   obtain⟨d,hd,hn⟩:=tyAgg_desc (zE4 hf hsk);exact⟨d,hd,λ_ _ _=>.inl (hn _ _)⟩
def Found(ρ:Rho)(es:List MapEntry)(i:Nat):Option AV->Option (Nat×Value)->Prop
 | none,o=>o=none
 | some v,o=>∃j e,o=some (i+j,e.val)/\es[j]?=some e/\VR ρ v e.val
theorem find_cons{kt:KT}{k a v:AV}{n:Nat}{es:List (AV×AV×Nat)}{r:Option AV}(h:find kt k ((a,v,n)::es)=some r) :
  ∃q,keyEq kt k a=some q/\(q=true/\r=some v\/q=false/\find kt k es=some r):=by
 have h:obind (keyEq kt k a) none (λq=>bi q (some (some v)) (find kt k es))=some r:=h;cases hk:keyEq kt k a with
 | none=>rw[hk] at h;cases h
 | some q=>
  rw[hk] at h;have h:bi q (some (some v)) (find kt k es)=some r:=h;cases q
  ·exact⟨false,rfl,.inr ⟨rfl,h⟩⟩
  ·injection h with h;exact⟨true,rfl,.inl ⟨rfl,h.symm⟩⟩
theorem zF7{kt:KT}{k:AV}(hkt:keyT P t=some kt)(hk:VR ρ k u){d:TypeDesc}(hd:∀{a b:AV} {u v:Value} {q:Bool},VR ρ a u->VR ρ b v->keyEq kt a b=some q->Instr.sameNow d u v=none\/Instr.sameNow d u v=some q)(w:World) :
  ∀{es:List (AV×AV×Nat)} {es':List MapEntry} (i:Nat) {r:Option AV},ERs ρ es es'->find kt k es=some r->
   ∃o,(Instr.findAsking t u es' i).run P w=.ok o w/\(Instr.findNow d u es' i=none\/Instr.findNow d u es' i=some o)/\Found ρ es' i r o
 | _,_,i,r,.nil,h=>by injection h with h;subst h;exact⟨none,rfl,.inr rfl,rfl⟩
 | _,_,i,r,.cons (e:=e) hkey hval hborn hrest,h=>by
  obtain⟨q,hq,hc⟩:=find_cons h;have hrun:=zGy hkt hk hkey hq w;have hnow:=hd hk hkey hq;rcases hc with⟨rfl,rfl⟩ | ⟨rfl,hf⟩
  ·refine⟨some (i,e.val),by simp[Instr.findAsking,hrun],?_,0,e,rfl,rfl,hval⟩;rcases hnow with hn | hn
   ·left;simp[Instr.findNow,hn]
   ·right;simp[Instr.findNow,hn]
  ·obtain⟨o,h1,h2,h3⟩:=zF7 hkt hk hd w (i+1) hrest hf;refine⟨o,by simp[Instr.findAsking,hrun,h1],?_,?_⟩
   ·rcases hnow with hn | hn
    ·left;simp[Instr.findNow,hn]
    ·rcases h2 with h2 | h2
     ·left;simp[Instr.findNow,hn,h2]
     ·right;simp[Instr.findNow,hn,h2]
   ·cases r with
    | none=>exact h3
    | some v=>
     obtain⟨j,e',h4,h5,h6⟩:=h3;exact⟨j+1,e',by rw[h4];congr 2;omega,by simpa using h5,h6⟩
theorem zJt{kt:KT}{k:AV}(hkt:keyT P t=some kt)(hk:VR ρ k u){es:List (AV×AV×Nat)}{es':List MapEntry}{r:Option AV}(he:ERs ρ es es')(hf:find kt k es=some r)(w:World) :
  ∃o,(Instr.findKey t u es').run P w=.ok o w/\Found ρ es' 0 r o:=by
 obtain⟨d,hd,hn⟩:=key_now (ρ:=ρ) hkt;obtain⟨o,h1,h2,h3⟩:=zF7 hkt hk hn w 0 he hf;refine⟨o,?_,h3⟩;rcases h2 with h2 | h2
 ·simp[Instr.findKey,run_underlying hd,h2,h1]
 ·simp[Instr.findKey,run_underlying hd,h2]
theorem zId{k:SK}(hk:tySK P t=some k)(e:Bool)(n:Nat)(u:Value)(w:World):(Instr.checkKey e (n+1) t u).run P w=.ok () w:=by
 obtain⟨d,hd,hc⟩:=tySK_desc hk;unfold Instr.checkKey;simp only[Sem.run_bind,run_underlying hd,Result.andThen_ok];rcases hc with⟨_,rfl⟩ | ⟨i,_,rfl⟩ | ⟨_,rfl⟩<;>simp
def CheckFlat(P:Program)(ρ:Rho)(D:Nat)(t:TypeId)(ks:List SK):Prop:=
 ∀(e g:Bool) (u:Value) (l:List AV) (w:World),tyAgg P t=some g->VCell ρ g u l->l.length=ks.length->(Instr.checkKey e D t u).run P w=.ok () w
theorem checkF{d D:Nat}(e:Bool)(ih:∀t ks,zBg P d t=some ks->CheckFlat P ρ D t ks):∀(fs:List Field) (off:Nat) (ks:List SK),flatF P (zBg P d) fs off=some ks->
  ∀(l:List AV) (xs:List Value) (w:World) (B:Field->PUnit->Sem (ForInStep PUnit)),VCs ρ l xs->l.length=off+ks.length->
   (∀f u,f.name≠ "_" ->(part f.type xs.toArray f.offset).run P w=.ok u w->(Instr.checkKey e D f.type u).run P w=.ok () w->(B f ⟨⟩).run P w=.ok (.yield ⟨⟩) w)->(forIn fs PUnit.unit B:Sem PUnit).run P w=.ok PUnit.unit w
 | [],off,ks,hf,l,xs,w,B,hl,h1,hB=>by simp
 | f::fs,off,ks,hf,l,xs,w,B,hl,h1,hB=>by
  unfold flatF at hf;split at hf
  ·rename_i hc;obtain⟨hoff,hname⟩:=hc;cases hfe:zBg P d f.type with
   | none=>rw[hfe] at hf;cases hf
   | some k1=>
    rw[hfe] at hf;have hf:(if zAm P f.type=some k1.length then(flatF P (zBg P d) fs (off+k1.length)).map (k1++·) else none)=some ks:=hf;split at hf
    ·rename_i hsz;cases hrest:flatF P (zBg P d) fs (off+k1.length) with
     | none=>rw[hrest] at hf;cases hf
     | some k2=>
      rw[hrest] at hf;have hf:some (k1++k2)=some ks:=hf;injection hf with hf;subst hf;rw[q0o] at h1;obtain⟨g,hg,hg1⟩:=zIt hfe;obtain⟨u,hu,hcu⟩:=zEj (P:=P) hg hsz hl (off:=off) (by omega) hg1 w;have hrun:=ih _ _ hfe e g u _ w hg hcu (by rw[q0v,q0Q];omega);have hnext:=checkF e ih fs (off+k1.length) k2 hrest l xs w B hl (by omega) hB;have hb:=hB f u hname (by rw[hoff];exact hu) hrun;simp only[List.forIn_cons,Sem.run_bind,hb,Result.andThen_ok];exact hnext
    ·cases hf
  ·cases hf
theorem zHy:∀(d:Nat) (t:TypeId) (ks:List SK),zBg P d t=some ks->∀D,d<=D->CheckFlat P ρ D t ks
 | 0,t,ks,h,D,hD=>by cases h
 | d+1,t,ks,h,D,hD=>by
  obtain⟨D,rfl⟩:∃k,D=k+1:=⟨D-1,by omega⟩;intro e g u l w hg hu hlen;unfold zBg at h;split at h
  ·rename_i k hk;exact zId hk e D u w
  ·split at h
   ·rename_i fs hus;split at h
    ·cases h
    ·have hgt:g=true:=by
      have:tyAgg P t=some true:=by simp[tyAgg,hus]
      rw[this] at hg;injection hg with hg;exact hg.symm
     subst hgt;rcases hu with⟨_,xs,rfl,hxs⟩ | ⟨e,_⟩
     ·have:=checkF e (λt ks hh=>zHy d t ks hh D (by omega)) fs.toList 0 ks h l xs w;rw[Instr.checkKey];simp only[Sem.run_bind,run_underlying hus,Result.andThen_ok];rw[<-Array.forIn_toList];rw[this _ hxs (by omega) (λf u h1 h2 h3=>by simp[h1,h2,h3])];rfl
     ·cases e
   ·rename_i len el hus;cases hfe:zBg P d el with
    | none=>rw[hfe] at h;cases h
    | some k1=>
     rw[hfe] at h;have h:(if zAm P el=some k1.length then some (List.replicate len k1).flatten else none)=some ks:=h;split at h
     ·rename_i hsz;injection h with h;subst h;have hgt:g=true:=by
       have:tyAgg P t=some true:=by simp[tyAgg,hus]
       rw[this] at hg;injection hg with hg;exact hg.symm
      subst hgt;rcases hu with⟨_,xs,rfl,hxs⟩ | ⟨e,_⟩
      ·rw[zJr] at hlen;obtain⟨g1,hg1,hg2⟩:=zIt hfe;rw[Instr.checkKey];simp only[Sem.run_bind,run_underlying hus,Result.andThen_ok];simp only[Std.Legacy.Range.forIn_eq_forIn_range',Std.Legacy.Range.size,Nat.sub_zero,Nat.add_one_sub_one,Nat.div_one];have hall:∀j∈List.range' 0 len,j<len:=λj hj=>by simp at hj;omega
       generalize List.range' 0 len=is at hall;induction is with
       | nil=>simp
       | cons j is ih=>
        have hj:=hall j (by simp);have hmul:(j+1)*k1.length<=len*k1.length:=q0u _ hj;rw[Nat.succ_mul] at hmul;obtain⟨u,hu,hcu⟩:=zEj (P:=P) hg1 hsz hxs (off:=j*k1.length) (by omega) hg2 w;have hrun:=zHy d el k1 hfe D (by omega) e g1 u _ w hg1 hcu (by rw[q0v,q0Q];omega);simp only[List.forIn_cons,Sem.run_bind,zAj hsz,Result.andThen_ok,hu,hrun,Sem.run_pure];exact ih (λy hy=>hall y (by simp[hy]))
      ·cases e
     ·cases h
   ·cases h
theorem zB7{kt:KT}{k:AV}{q:Bool}(hkt:keyT P t=some kt)(hk:VR ρ k u)(hq:keyEq kt k k=some q)(e:Bool)(w:World):(Instr.checkKey e 10000 t u).run P w=.ok () w:=by
 unfold keyT at hkt;split at hkt
 ·rename_i sk hsk;exact zId hsk e 9999 u w
 ·rename_i hsk;cases hf:zBg P 20 t with
  | none=>rw[hf] at hkt;cases hkt
  | some ks=>
   rw[hf] at hkt;injection hkt with hkt;subst hkt;have hq:eqAgg ks (AH.mk T.leaf 0) k k=some q:=hq;obtain⟨l,l',rfl,_,hq⟩:=zF3 hq;exact zHy 20 t ks hf 10000 (by omega) e true u l w (zE4 hf hsk) hk.aggCell (zL1 hq).1
end
end Go.Ev
