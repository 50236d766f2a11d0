/- EvU5 EvU6 EvU7 EvU8 EvU9 EvV1 EvV2 EvV3 EvV4 EvW EvM EvX EvY EvZ -/
import Derived.Test.YticonknioobdjaaGreatPC
import Derived.Recover
import Derived.Below
set_option linter.unusedSimpArgs false
set_option linter.unusedVariables false
set_option linter.unusedSectionVars false
set_option linter.defProp false
set_option maxRecDepth 100000
set_option maxHeartbeats 4000000
namespace Go.Ev
open Go
variable[Glob]
theorem clsO_le(op:Op):clsO op<=3:=by
 unfold clsO
 repeat' split
 all_goals omega
section
variable{P:Program}{cx:Operand->Option Opd}{loc:T AV}{tmp:List AV}
theorem zLi{op:Op}{ao:AOp}(hc:cOp P cx false op=some ao)(h3:clsO op≠3)(h:AH):(∃n,evOp ao loc tmp h=.fail n)\/∃v h',evOp ao loc tmp h=.val v h':=by
 have:=clsO_le op;by_cases h0:clsO op=0
 ·rcases zLj (loc:=loc) (tmp:=tmp) hc h0 with⟨n,hn⟩ | ⟨v,hv⟩
  ·exact .inl ⟨n,hn h⟩
  ·exact .inr ⟨v,h,hv h⟩
 ·by_cases h1:clsO op=1
  ·rcases read_op (loc:=loc) (tmp:=tmp) hc h1 h with⟨n,hn⟩ | ⟨v,hv,_⟩
   ·exact .inl ⟨n,hn⟩
   ·exact .inr ⟨v,h,hv⟩
  ·rcases makeA_op (loc:=loc) (tmp:=tmp) hc (by omega) with⟨n,hn⟩ | ⟨V,o,hv⟩
   ·exact .inl ⟨n,hn h⟩
   ·exact .inr ⟨_,_,hv h⟩
end
def WF(h:AH):Prop:=∀id,h.next<=id->h.mem.get id=none
structure Grows(h h':AH):Prop where
 le:h.next<=h'.next
 old:∀{id},id<h.next->h'.mem.get id=h.mem.get id
 wf:WF h->WF h'
theorem Grows.refl(h:AH):Grows h h:=⟨q0c _,λ_=>rfl,id⟩
theorem Grows.trans{a b c:AH}(x:Grows a b)(y:Grows b c):Grows a c:=⟨q0m x.le y.le,λh=>by rw[y.old (q0d h x.le),x.old h],λh=>y.wf (x.wf h)⟩
theorem AH.add_get(h:AH)(o:AObj)(id:Nat):(h.add o).mem.get id=if h.next=id then some o else h.mem.get id:=T.get_put _ _ _ _
theorem AH.add_next(h:AH)(o:AObj):(h.add o).next=h.next+1:=rfl
theorem Grows.add(h:AH)(o:AObj):Grows h (h.add o):=by
 refine⟨q0w _,λhi=>?_,λhw id hi=>?_⟩
 ·rw[AH.add_get,if_neg (by omega)]
 ·rw[AH.add_next] at hi;rw[AH.add_get,if_neg (by omega)];exact hw id (by omega)
theorem Grows.ext{h h':AH}(g:Grows h h')(hw:WF h):Ext h h':=by
 intro id o e;rcases q0x id h.next with hl | hl
 ·rw[g.old hl];exact e
 ·rw[hw id hl] at e;cases e
theorem WR.wf{ρ:Rho}{h:AH}{w:World}(W:WR ρ h w):WF h:=λ_ hi=>W.fresh hi
theorem WR.grow{ρ:Rho}{h h':AH}{w:World}(W:WR ρ h w)(g:Grows h h'):WR ρ h' w/\Step ρ h w ρ h' w:=by
 have hold:∀{id x},ρ id=some x->h'.mem.get id=h.mem.get id:=λe=>g.old (W.dom e).1;refine W.step ⟨⟨λhg he=>?_,λh1 h2 hne e1 e2=>?_,λhe=>⟨q0d (W.dom he).1 g.le,(W.dom he).2⟩,λhi=>g.wf W.wf _ hi⟩,⟨ρ.le_refl,?_,λ_ _=>rfl,q0c _,rfl,rfl,rfl,g.le,λhi _=>g.old hi,λa b=>absurd a b⟩⟩
 ·rw[hold he] at hg;exact W.obj hg he
 ·rw[hold e1] at h1;rw[hold e2] at h2;exact W.inj h1 h2 hne e1 e2
 ·rintro k _ ⟨id,o,p,s,h1,h2,h3⟩;exact⟨id,o,p,s,by rw[<-hold h3];exact h1,h2,h3⟩
section
variable{P:Program}{cx:Operand->Option Opd}{loc:T AV}{tmp d d':List AV}{h h':AH}{call:Nat->List AV->AH->CR}{g:Option (Opd×Bool)}{re:List ARe}{v:AV}{op:Op}{ao:AOp}
theorem zDw(hs:StepA call loc tmp d h ao g re v d' h')(hc:cOp P cx false op=some ao)(h3:clsO op≠3):d'=d/\Grows h h'/\(clsO op<2->h'=h)/\(zAt loc tmp g=some false/\v=.tup []/\h'=h\/zAt loc tmp g=some true/\evOp ao loc tmp h=.val v h'):=by
 cases hs with
 | skip hg=>exact⟨rfl,.refl _,λ_=>rfl,.inl ⟨hg,rfl,rfl⟩⟩
 | val hg he hr=>
  have hle:=clsO_le op;have hsm:clsO op<2->h'=h:=by
   intro hl;by_cases h0:clsO op=0
   ·rcases zLj (loc:=loc) (tmp:=tmp) hc h0 with⟨n,hn⟩ | ⟨u,hu⟩
    ·cases he.symm.trans (hn h)
    ·have e:=he.symm.trans (hu h);injection e with _ e
   ·rcases read_op (loc:=loc) (tmp:=tmp) hc (by omega) h with⟨n,hn⟩ | ⟨u,hu,_⟩
    ·cases he.symm.trans hn
    ·have e:=he.symm.trans hu;injection e with _ e
  refine⟨rfl,?_,hsm,.inr ⟨hg,he⟩⟩;by_cases hl:clsO op<2
  ·rw[hsm hl];exact .refl _
  ·rcases makeA_op (loc:=loc) (tmp:=tmp) hc (by omega) with⟨n,hn⟩ | ⟨V,o,hv⟩
   ·cases he.symm.trans (hn h)
   ·have e:=he.symm.trans (hv h);injection e with _ e;rw[e];exact .add _ _
 | enter hg he _ _=>rcases zLi (loc:=loc) (tmp:=tmp) hc h3 h with⟨n,hn⟩ | ⟨u,h2,hu⟩<;>simp_all
 | dfr hg he=>rcases zLi (loc:=loc) (tmp:=tmp) hc h3 h with⟨n,hn⟩ | ⟨u,h2,hu⟩<;>simp_all
end
structure Dr(P:Program)(m:List Nat)(ops:Array Oper)(ord:List Nat)(call:Nat->List AV->AH->CR)(n:Nat)(R:Runs)(q:Nat):Prop where
 hcall:zG9 P call
 ok:DrawOk ops (ancs ops) ord
 x0:R.X 0=[]
 ql:q<=ord.length
 st:∀p,p<q->∃i o ao g re,StepAt P m ops (ancs ops) ord call R p i o ao g re
 en:q=ord.length\/∃i o,ord[q]?=some i/\ops[i]?=some o/\clsO o.op=3
 dst:∀{i:Nat} {o:Oper} {x:Nat},ops[i]?=some o->o.dst=some x->x<n
structure Inv(ops:Array Oper)(ord:List Nat)(n:Nat)(R:Runs)(q:Nat)(ρ0:Rho)(a0:Act)(w0:World)(listed:Array Bool)(a:Act)(w:World)(ρ:Rho)(ps:Nat):Prop where
 sz:listed.size=ops.size
 le:ps<=q
 act:ps=ord.length\/∃i o,ord[ps]?=some i/\ops[i]?=some o/\clsO o.op=3
 low:∀{p i:Nat} {o:Oper},p<ps->ord[p]?=some i->ops[i]?=some o->clsO o.op=3->listed.getD i false=true
 high:∀{p i:Nat},ps<=p->ord[p]?=some i->listed.getD i false=false
 dc:∀{i j:Nat},listed.getD i false=true->bef (ancs ops) j i=true->listed.getD j false=true
 W:WR ρ (R.H ps) w
 S:Step ρ0 (R.H 0) w0 ρ (R.H ps) w
 wf:∀p,p<=ps->WF (R.H p)
 nx:∀{p p':Nat},p<=p'->p'<=ps->(R.H p).next<=(R.H p').next
 fl:∀{p i:Nat} {ob:AObj},p<ps->ord[p]?=some i->listed.getD i false=false->R.H (p+1)=(R.H p).add ob->ρ (R.H p).next=none/\(R.H ps).mem.get (R.H p).next=some ob
 T:∀{p i:Nat} {o:Oper} {t:Nat},p<ps->ord[p]?=some i->ops[i]?=some o->listed.getD i false=true->o.dst=some t->VR ρ (R.V p) (a.tmps.getD t undef)
 U:∀{t:Nat},(∀i o,ops[i]?=some o->listed.getD i false=true->o.dst≠some t)->a.tmps.getD t undef=a0.tmps.getD t undef
 N:a.tmps.size=n
 Df:DefsR ρ (R.D ps) a.defers
section
variable{P:Program}{m:List Nat}{ops:Array Oper}{ord:List Nat}{call:Nat->List AV->AH->CR}{n:Nat}{R:Runs}{q:Nat}{ρ0:Rho}{a0:Act}{w0:World}{listed:Array Bool}{a:Act}{w:World}{ρ:Rho}{ps:Nat}
def Calm(ops:Array Oper)(ord:List Nat)(o:Oper)(p e:Nat):Prop:=∀b i' o' t,p<=b->b<e->ord[b]?=some i'->ops[i']?=some o'->o'.dst=some t->t∉zD2 ops o
theorem look_at(K:Dr P m ops ord call n R q)(L0:LocR ρ0 m (R.L 0) a0)(I:Inv ops ord n R q ρ0 a0 w0 listed a w ρ ps){p i e:Nat}{o:Oper}(hp:ord[p]?=some i)(ho:ops[i]?=some o)(hun:listed.getD i false=false)
  (hanc:∀j,bef (ancs ops) j i=true->listed.getD j false=true) (hpe:p<=e) (hes:e<=ps) (calm:Calm ops ord o p e) {t:Nat} (ht:t∈zD2 ops o) {y:Opd} (hy:cOpd m (TS ops ord e) (.tmp t)=some y) :
  VR ρ (ev (R.L e) (R.X e) y) (a.tmps.getD t undef):=by
 have heq:e<=q:=q0m hes I.le;have tv:=ts_val K.x0 K.st e heq t;unfold cOpd at hy;simp only at hy;cases hf:zF6 (TS ops ord e) t with
 | some k=>
  rw[hf] at hy tv;injection hy with hy;subst hy;obtain⟨b,i',o',hb,h1,h2,h3,h4⟩:=tv;rw[ev_t,h4];have hbp:b<p:=by
   rcases q0x b p with h | h
   ·exact h
   ·exact absurd ht (calm b i' o' t h hb h1 h2 h3)
  obtain⟨hne,hnb,_⟩:=K.ok.pair hp h1 hbp;have hl:listed.getD i' false=true:=by
   rcases(K.ok.dst ho h2 hne h3).2 ht with h | h
   ·exact hanc _ h
   ·rw[hnb] at h;cases h
  exact I.T (by omega) h1 h2 hl h3
 | none=>
  rw[hf] at hy tv;obtain⟨k,hk,e1⟩:=mapS hy;subst e1;rw[ev_l];have hs:slot (R.L e) k=slot (R.L 0) k:=by
   rcases zLd K.st k e heq with⟨h,_⟩ | ⟨b,i',o',hb,h1,h2,h3,_⟩
   ·exact h
   ·exfalso;cases hd:o'.dst with
    | none=>rw[hd] at h3;cases h3
    | some t'=>
     rw[hd] at h3;have:t'=t:=zFo h3 hk;subst this;exact tv b i' o' hb h1 h2 hd
  rw[hs,I.U (t:=t) ?_]
  ·exact(L0 t k hk).mono I.S.le
  ·intro i2 o2 h2 hl hd;have hne:i≠i2:=by intro e;subst e;rw[hun] at hl;cases hl
   rcases(K.ok.dst ho h2 hne hd).2 ht with h | h
   ·obtain⟨b,hb,hbe⟩:=q0y (K.ok.cover (Array.getElem?_eq_some_iff.1 h2).1);have hb2:ord[b]?=some i2:=by rw[q0a hb,hbe]
    rcases q0x b e with hlt | hge
    ·exact tv b i2 o2 hlt hb2 h2 hd
    ·have hbp:p<b:=by
      rcases q0x p b with h | h
      ·exact h
      ·have:b=p:=by omega
       subst this;rw[hp] at hb2;injection hb2 with hb2;exact absurd hb2 hne
     obtain⟨_,hnb,_⟩:=K.ok.pair hb2 hp hbp;rw[hnb] at h;cases h
   ·have:=I.dc hl h;rw[hun] at this;cases this
def own(ops:Array Oper)(o:Oper)(cx:Operand->Option Opd):Operand->Option Opd
 | .tmp t=>if t∈zD2 ops o then cx (.tmp t) else none
 | x=>cx x
theorem own_op{o:Oper}{cx:Operand->Option Opd}{ao:AOp}(h:cOp P cx false o.op=some ao):cOp P (own ops o cx) false o.op=some ao:=by
 rw[<-h];refine cOp_congr λx hx=>?_;cases x with
 | tmp t=>
  have:t∈zD2 ops o:=List.mem_append_left _ (List.mem_filterMap.2 ⟨.tmp t,by simpa using hx,rfl⟩);simp[own,this]
 | _=>rfl
theorem opds_at(K:Dr P m ops ord call n R q)(L0:LocR ρ0 m (R.L 0) a0)(I:Inv ops ord n R q ρ0 a0 w0 listed a w ρ ps){p i e:Nat}{o:Oper}(hp:ord[p]?=some i)(ho:ops[i]?=some o)(hun:listed.getD i false=false)
  (hanc:∀j,bef (ancs ops) j i=true->listed.getD j false=true) (hpe:p<=e) (hes:e<=ps) (calm:Calm ops ord o p e):OpdsR ρ (R.L e) (R.X e) (own ops o (cOpd m (TS ops ord e))) a.eval:=by
 intro x y hxy;cases x with
 | tmp t=>
  have hxy:(if t∈zD2 ops o then cOpd m (TS ops ord e) (.tmp t) else none)=some y:=hxy;split at hxy
  ·exact look_at K L0 I hp ho hun hanc hpe hes calm ‹_› hxy
  ·cases hxy
 | const v=>obtain⟨z,hz,e⟩:=mapS hxy;subst e;exact zB6 hz
 | func f=>injection hxy with e;subst e;exact .fn .nil .nil rfl rfl
 | global _=>injection hxy with e;subst e;exact .bad _
theorem zE2(K:Dr P m ops ord call n R q)(L0:LocR ρ0 m (R.L 0) a0)(I:Inv ops ord n R q ρ0 a0 w0 listed a w ρ ps){p i e:Nat}{o:Oper}(hp:ord[p]?=some i)(ho:ops[i]?=some o)(hun:listed.getD i false=false)
  (hanc:∀j,bef (ancs ops) j i=true->listed.getD j false=true) (hpe:p<=e) (hes:e<=ps) (calm:Calm ops ord o p e) {g:Option (Opd×Bool)} (hg:zFa m ops (TS ops ord e) o=some g) {b:Bool} (hb:zAt (R.L e) (R.X e) g=some b) :
  Region.wanted o (yielded ops a.tmps)=b:=by
 refine zFn (ρ:=ρ) hg (λgi want d y h1 h2 h3=>?_) hb;refine look_at K L0 I hp ho hun hanc hpe hes calm (List.mem_append_right _ ?_) h3;rw[h1];simp[h2]
end
theorem q2e:type_of% @AH.add_next:= @AH.add_next
variable[Glob]
section
variable{P:Program}{m:List Nat}{ops:Array Oper}{ord:List Nat}{call:Nat->List AV->AH->CR}{n:Nat}{R:Runs}{q:Nat}{ρ0:Rho}{a0:Act}{w0:World}{listed:Array Bool}{a:Act}{w:World}{ρ:Rho}{ps:Nat}
theorem lt_ord{p i:Nat}(h:ord[p]?=some i):p<ord.length:=by
 rcases q0x p ord.length with h1 | h1
 ·exact h1
 ·rw[q0i h1] at h;cases h
theorem Dr.grow(K:Dr P m ops ord call n R q):∀{s r:Nat},s<=r->r<=q->(∀p i o,s<=p->p<r->ord[p]?=some i->ops[i]?=some o->clsO o.op≠3)->Grows (R.H s) (R.H r)/\R.D r=R.D s:=by
 intro s r hsr;induction r with
 | zero=>
  intro _ _;have h0:s=0:=by omega
  rw[h0];exact⟨.refl _,rfl⟩
 | succ r ih=>
  intro hq hcl;by_cases hs:s=r+1
  ·subst hs;exact⟨.refl _,rfl⟩
  ·obtain⟨g1,d1⟩:=ih (by omega) (by omega) (λp i o h1 h2=>hcl p i o h1 (by omega));obtain⟨i,o,ao,g,re,S⟩:=K.st r (by omega);obtain⟨d2,g2,_⟩:=zDw S.st S.co (hcl r i o (by omega) (by omega) S.oi S.oo);exact⟨g1.trans g2,by rw[d2,d1]⟩
theorem stable(K:Dr P m ops ord call n R q)(L0:LocR ρ0 m (R.L 0) a0)(I:Inv ops ord n R q ρ0 a0 w0 listed a w ρ ps){p i:Nat}{o:Oper}{ao:AOp}{g:Option (Opd×Bool)}{re:List ARe}(S:StepAt P m ops (ancs ops) ord call R p i o ao g re)
  (hun:listed.getD i false=false) (hanc:∀j,bef (ancs ops) j i=true->listed.getD j false=true) (hcl:clsO o.op<2) (hg:zAt (R.L p) (R.X p) g=some true) :
  ∀r,p<=r->r<=ps->∃e ao',p<=e/\e<=r/\Calm ops ord o p e/\cOp P (cOpd m (TS ops ord e)) false o.op=some ao'/\evOp ao' (R.L e) (R.X e) (R.H r)=.val (R.V p) (R.H r):=by
 have hrd:∀{ao':AOp} {e:Nat},cOp P (cOpd m (TS ops ord e)) false o.op=some ao'->ReadF λh=>evOp ao' (R.L e) (R.X e) h:=by
  intro ao' e hc;by_cases h0:clsO o.op=0
  ·exact(zLj hc h0).read
  ·exact read_op hc (by omega)
 intro r hpr;induction r with
 | zero=>
  intro _;obtain rfl:p=0:=by omega
  obtain⟨_,_,hsm,hv⟩:=zDw S.st S.co (by omega);rcases hv with⟨h1,_⟩ | ⟨_,he⟩
  ·rw[hg] at h1;cases h1
  ·rw[hsm hcl] at he;exact⟨0,ao,q0c _,q0c _,λb _ _ _ h1 h2=>by omega,S.co,he⟩
 | succ r ih=>
  intro hps;by_cases hs:p=r+1
  ·subst hs;obtain⟨_,_,hsm,hv⟩:=zDw S.st S.co (by omega);rcases hv with⟨h1,_⟩ | ⟨_,he⟩
   ·rw[hg] at h1;cases h1
   ·rw[hsm hcl] at he;exact⟨r+1,ao,q0c _,q0c _,λb _ _ _ h1 h2=>by omega,S.co,he⟩
  ·obtain⟨e,ao',h1,h2,h3,h4,h5⟩:=ih (by omega) (by omega);obtain⟨i2,o2,ao2,g2,re2,S2⟩:=K.st r (by have:=I.le;omega);by_cases hc3:clsO o2.op=3
   ·by_cases h0:clsO o.op=0
    ·refine⟨e,ao',h1,by omega,h3,h4,?_⟩;rcases zLj (loc:=R.L e) (tmp:=R.X e) h4 h0 with⟨k,hk⟩ | ⟨v,hv⟩
     ·cases h5.symm.trans (hk _)
     ·have e1:=h5.symm.trans (hv (R.H r));injection e1 with e1 _;rw[e1];exact hv _
    ·have hl2:listed.getD i2 false=true:=I.low (by omega) S2.oi S2.oo hc3;have hnb:bef (ancs ops) i i2=false:=by
      cases hb:bef (ancs ops) i i2 with
      | false=>rfl
      | true=>have:=I.dc hl2 hb;rw[hun] at this;cases this
     have hpr2:p<r:=by
      rcases q0x p r with h | h
      ·exact h
      ·have:p=r:=by omega
       subst this;have:=S.oi.symm.trans S2.oi;injection this with this;subst this;rw[hun] at hl2;cases hl2
     have hdone:(DN ord r)[r-1-p]?=some i:=by
      have hlen:(ord.take r).length=r:=by rw[q0v];have:=lt_ord S2.oi;omega
      unfold DN;rw[List.getElem?_reverse (by omega),hlen,show r-1-(r-1-p)=p by omega,List.getElem?_take,if_pos hpr2];exact S.oi
     obtain⟨x,hx,x1,x2,x3,x4⟩:=reads_draw (S2.cr hc3) (r-1-p) i hdone o S.oo (by omega) hnb;have hcalm:Calm ops ord o p r:=by
      intro b i' o' t hb1 hb2 hi' ho' ht;refine x4 (r-1-b) i' o' t (by omega) ?_ ho' ht;have hlen:(ord.take r).length=r:=by rw[q0v];have:=lt_ord S2.oi;omega
      unfold DN;rw[List.getElem?_reverse (by omega),hlen,show r-1-(r-1-b)=b by omega,List.getElem?_take,if_pos hb2];exact hi'
     have hsame:R.H (r+1)=R.H r\/reads (R.L r) (R.X r) (R.H (r+1)) re2=true:=by
      have hstr:=S2.st;generalize R.H (r+1)=h' at hstr;generalize R.V r=v' at hstr;generalize R.D (r+1)=d' at hstr;cases hstr with
      | skip hgf=>exact .inl rfl
      | val _ _ hr=>exact .inr hr
      | enter _ _ _ hr=>exact .inr hr
      | dfr hgt he=>exact .inl rfl
     rcases hsame with hsame | hr
     ·exact⟨e,ao',h1,by omega,h3,h4,by rw[hsame];exact h5⟩
     have hrt:∃ao',cOp P (cOpd m (TS ops ord r)) false o.op=some ao'/\evOp ao' (R.L r) (R.X r) (R.H (r+1))=.val (R.V p) (R.H (r+1)):=by
      obtain⟨b,hb,hbt⟩:=zHg hr x hx;have w1:=zE2 K L0 I S.oi S.oo hun hanc (q0c _) (by omega) (λb _ _ _ h1 h2=>by omega) S.cg hg;have w2:=zE2 K L0 I S.oi S.oo hun hanc (by omega) (by omega) hcalm x3 hb;rw[w1] at w2;obtain⟨v,h2,hv,hve⟩:=hbt w2.symm;have hval:v=R.V p:=by
       rw[hve,x1];have:∀k,k<=q->∀b,b<k->nth (R.X k) (k-1-b)=R.V b:=by
        intro k;induction k with
        | zero=>intro _ b hb;omega
        | succ k ihk=>
         intro hk b hb;obtain⟨_,_,_,_,_,S3⟩:=K.st k (by omega);rw[S3.tm];by_cases hbk:b=k
         ·subst hbk;rw[show b+1-1-b=0 by omega];rfl
         ·rw[show k+1-1-b=(k-1-b)+1 by omega];exact ihk (by omega) b (by omega)
       exact this r (by have:=I.le;omega) p hpr2
      refine⟨x.op,x2,?_⟩;rcases hrd x2 (R.H (r+1)) with⟨k,hk⟩ | ⟨u,hu,_⟩
      ·cases hv.symm.trans hk
      ·have e1:=hv.symm.trans hu;injection e1 with e1 _;rw[<-hval,e1];exact hu
     obtain⟨ao3,c1,c2⟩:=hrt;exact⟨r,ao3,by omega,by omega,hcalm,c1,c2⟩
   ·obtain⟨_,gr,_,_⟩:=zDw S2.st S2.co hc3;refine⟨e,ao',h1,by omega,h3,h4,?_⟩;rcases hrd h4 (R.H r) with⟨k,hk⟩ | ⟨u,hu,hx⟩
    ·cases h5.symm.trans hk
    ·have e1:=h5.symm.trans hu;injection e1 with e1 _;rw[e1];exact hx _ (gr.ext (I.wf r (by omega)))
end
variable[Glob]
section
variable{P:Program}{m:List Nat}{ops:Array Oper}{ord:List Nat}{call:Nat->List AV->AH->CR}{n:Nat}{R:Runs}{q:Nat}{ρ0:Rho}{a0:Act}{w0:World}{listed:Array Bool}{a:Act}{w:World}{ρ:Rho}{ps:Nat}
theorem Dr.next(K:Dr P m ops ord call n R q):∀(k s:Nat),q-s=k->s<=q->∃ps',s<=ps'/\ps'<=q/\(∀p i o,s<=p->p<ps'->ord[p]?=some i->ops[i]?=some o->clsO o.op≠3)/\(ps'=ord.length\/∃i o,ord[ps']?=some i/\ops[i]?=some o/\clsO o.op=3)
 | 0,s,hk,hs=>⟨s,q0c _,hs,λp i o h1 h2=>by omega,by rw[show s=q by omega];exact K.en⟩
 | k+1,s,hk,hs=>by
  obtain⟨i,o,ao,g,re,S⟩:=K.st s (by omega);by_cases h3:clsO o.op=3
  ·exact⟨s,q0c _,hs,λp i o h1 h2=>by omega,.inr ⟨i,o,S.oi,S.oo,h3⟩⟩
  ·obtain⟨ps',h1,h2,h4,h5⟩:=Dr.next K k (s+1) (by omega) (by omega);refine⟨ps',by omega,h2,λp i2 o2 q1 q2 q3 q4=>?_,h5⟩;by_cases hp:p=s
   ·subst hp;rw[S.oi] at q3;injection q3 with q3;subst q3;rw[S.oo] at q4;injection q4 with q4;subst q4;exact h3
   ·exact h4 p i2 o2 (by omega) q2 q3 q4
theorem zLk(K:Dr P m ops ord call n R q){p p' i:Nat}(h:ord[p]?=some i)(h':ord[p']?=some i):p=p':=by
 rcases Nat.lt_trichotomy p p' with hl | hl | hl
 ·exact absurd rfl (K.ok.pair h' h hl).1
 ·exact hl
 ·exact absurd rfl (K.ok.pair h h' hl).1
theorem getD_set{i j:Nat}(h:i<listed.size):(listed.setIfInBounds i true).getD j false=if i=j then true else listed.getD j false:=by
 by_cases hij:i=j
 ·subst hij;simp[h]
 ·rw[if_neg hij,getD_set_ne false hij]
theorem Inv.put(K:Dr P m ops ord call n R q)(I:Inv ops ord n R q ρ0 a0 w0 listed a w ρ ps){p i:Nat}{o:Oper}(hp:ord[p]?=some i)(ho:ops[i]?=some o)(hps:p<ps)(hanc:∀j,bef (ancs ops) j i=true->listed.getD j false=true)
  {ρ':Rho} {w':World} {v':Value} (hv:VR ρ' (R.V p) v') (hle:ρ.le ρ') (W':WR ρ' (R.H ps) w') (S':Step ρ0 (R.H 0) w0 ρ' (R.H ps) w')
  (hfl:∀{p2 i2:Nat} {ob:AObj},p2<ps->ord[p2]?=some i2->i2≠i->listed.getD i2 false=false->R.H (p2+1)=(R.H p2).add ob->ρ' (R.H p2).next=none) :
  Inv ops ord n R q ρ0 a0 w0 (listed.setIfInBounds i true) (a.put o.dst v') w' ρ' ps:=by
 have hi:i<listed.size:=by rw[I.sz];exact(Array.getElem?_eq_some_iff.1 ho).1
 have hdo:∀x,o.dst=some x->x<a.tmps.size:=λx hx=>by rw[I.N];exact K.dst ho hx
 have hset:∀{j:Nat},(listed.setIfInBounds i true).getD j false=if i=j then true else listed.getD j false:=λ{j}=>getD_set hi;refine⟨by simp[I.sz],I.le,I.act,?_,?_,?_,W',S',I.wf,I.nx,?_,?_,?_,by rw[zEs];exact I.N,?_⟩
 ·intro p2 i2 o2 h1 h2 h3 h4;rw[hset];split
  ·rfl
  ·exact I.low h1 h2 h3 h4
 ·intro p2 i2 h1 h2;rw[hset,if_neg (λe=>?_)]
  ·exact I.high h1 h2
  ·subst e;have:=zLk K hp h2;omega
 ·intro i2 j h1 h2;rw[hset] at h1 ⊢;split at h1
  ·rename_i e;subst e;split
   ·rfl
   ·exact hanc j h2
  ·split
   ·rfl
   ·exact I.dc h1 h2
 ·intro p2 i2 ob h1 h2 h3 h4;rw[hset] at h3;split at h3
  ·cases h3
  ·rename_i hne;exact⟨hfl h1 h2 (Ne.symm hne) h3 h4,(I.fl h1 h2 h3 h4).2⟩
 ·intro p2 i2 o2 t h1 h2 h3 h4 h5;rw[zEq hdo];rw[hset] at h4;split at h4
  ·rename_i e;subst e;have:=zLk K hp h2;subst this;rw[ho] at h3;injection h3 with h3;subst h3;rw[if_pos h5];exact hv
  ·rename_i hne;rw[if_neg (λe=>(K.ok.dst h3 ho (Ne.symm hne) e).1 h5)];exact(I.T h1 h2 h3 h4 h5).mono hle
 ·intro t ht;rw[zEq hdo,if_neg (ht i o ho (by rw[hset,if_pos rfl]))];refine I.U λi2 o2 h1 h2=>ht i2 o2 h1 ?_;rw[hset];split
  ·rfl
  ·exact h2
 ·have:(a.put o.dst v').defers=a.defers:=by cases o.dst<;>rfl
  rw[this];exact I.Df.mono hle
theorem Inv.act_put(K:Dr P m ops ord call n R q)(I:Inv ops ord n R q ρ0 a0 w0 listed a w ρ ps)(hq:ps<q){i:Nat}{o:Oper}(hp:ord[ps]?=some i)(ho:ops[i]?=some o)(hanc:∀j,bef (ancs ops) j i=true->listed.getD j false=true)
  {ρ':Rho} {w':World} {v':Value} {ds':List Deferred} (hv:VR ρ' (R.V ps) v') (W':WR ρ' (R.H (ps+1)) w') (S':Step ρ (R.H ps) w ρ' (R.H (ps+1)) w') (D':DefsR ρ' (R.D (ps+1)) ds') :
  ∃ps',Inv ops ord n R q ρ0 a0 w0 (listed.setIfInBounds i true) (({a with defers:=ds'}:Act).put o.dst v') w' ρ' ps':=by
 have hi:i<listed.size:=by rw[I.sz];exact(Array.getElem?_eq_some_iff.1 ho).1
 have hdo:∀x,o.dst=some x->x<({a with defers:=ds'}:Act).tmps.size:=λx hx=>by show x<a.tmps.size;rw[I.N];exact K.dst ho hx
 have hset:∀{j:Nat},(listed.setIfInBounds i true).getD j false=if i=j then true else listed.getD j false:=λ{j}=>getD_set hi;obtain⟨ps',g1,g2,g3,g4⟩:=K.next (q-(ps+1)) (ps+1) rfl (by omega);have gr:∀r,ps+1<=r->r<=ps'->Grows (R.H (ps+1)) (R.H r)/\R.D r=R.D (ps+1):=λr h1 h2=>K.grow h1 (by omega) (λp i o q1 q2=>g3 p i o q1 (by omega));obtain⟨W2,S2⟩:=W'.grow (gr ps' g1 (q0c _)).1;refine⟨ps',by simp[I.sz],g2,g4,?_,?_,?_,W2,I.S.trans (S'.trans S2),?_,?_,?_,?_,?_,by rw[zEs];exact I.N,?_⟩
 ·intro p2 i2 o2 h1 h2 h3 h4;rw[hset];split
  ·rfl
  ·rename_i hne;rcases Nat.lt_trichotomy p2 ps with hl | hl | hl
   ·exact I.low hl h2 h3 h4
   ·subst hl;rw[hp] at h2;injection h2 with h2;exact absurd h2 hne
   ·exact absurd h4 (g3 p2 i2 o2 (by omega) h1 h2 h3)
 ·intro p2 i2 h1 h2;rw[hset,if_neg (λe=>?_)]
  ·exact I.high (by omega) h2
  ·subst e;have:=zLk K hp h2;omega
 ·intro i2 j h1 h2;rw[hset] at h1 ⊢;split at h1
  ·rename_i e;subst e;split
   ·rfl
   ·exact hanc j h2
  ·split
   ·rfl
   ·exact I.dc h1 h2
 ·intro p2 h1;rcases q0x ps p2 with hl | hl
  ·exact(gr p2 hl h1).1.wf W'.wf
  ·exact I.wf p2 hl
 ·intro p2 p3 h1 h2;rcases q0x ps p3 with hl | hl
  ·have b1:=(gr p3 hl h2).1.le;rcases q0x ps p2 with hl2 | hl2
   ·have cl:∀p i o,p2<=p->p<p3->ord[p]?=some i->ops[i]?=some o->clsO o.op≠3:=λp i o q1 q2=>g3 p i o (by omega) (by omega);exact(K.grow h1 (by omega) cl).1.le
   ·exact q0m (I.nx hl2 (q0c _)) (q0m S'.next b1)
  ·exact I.nx h1 hl
 ·intro p2 i2 ob h1 h2 h3 h4;rw[hset] at h3;split at h3
  ·cases h3
  ·rename_i hne;rcases Nat.lt_trichotomy p2 ps with hl | hl | hl
   ·obtain⟨f1,f2⟩:=I.fl hl h2 h3 h4;have hlt:(R.H p2).next<(R.H ps).next:=by
     rcases q0x (R.H p2).next (R.H ps).next with hh | hh
     ·exact hh
     ·rw[I.wf ps (q0c _) _ hh] at f2;cases f2
    refine⟨?_,?_⟩
    ·cases e:ρ' (R.H p2).next with
     | none=>rfl
     | some x=>have:=S'.new f1 (by rw[e];simp);omega
    ·rw[(gr ps' g1 (q0c _)).1.old (q0d hlt S'.next),S'.keep hlt f1];exact f2
   ·subst hl;rw[hp] at h2;injection h2 with h2;exact absurd h2 hne
   ·have b1:=(gr p2 hl (by omega)).1.le;refine⟨?_,?_⟩
    ·cases e:ρ' (R.H p2).next with
     | none=>rfl
     | some x=>have:=(W'.dom e).1;omega
    ·have cl:∀p i o,p2+1<=p->p<ps'->ord[p]?=some i->ops[i]?=some o->clsO o.op≠3:=λp i o q1 q2=>g3 p i o (by omega) (by omega);rw[(K.grow (s:=p2+1) (r:=ps') (by omega) (by omega) cl).1.old (by rw[h4];exact q0h _),h4,AH.add_get,if_pos rfl]
 ·intro p2 i2 o2 t h1 h2 h3 h4 h5;rw[zEq hdo];rw[hset] at h4;split at h4
  ·rename_i e;subst e;have:=zLk K hp h2;subst this;rw[ho] at h3;injection h3 with h3;subst h3;rw[if_pos h5];exact hv
  ·rename_i hne;rw[if_neg (λe=>(K.ok.dst h3 ho (Ne.symm hne) e).1 h5)];have hl:p2<ps:=by
    rcases q0x p2 ps with hh | hh
    ·exact hh
    ·rw[I.high hh h2] at h4;cases h4
   exact(I.T hl h2 h3 h4 h5).mono S'.le
 ·intro t ht;rw[zEq hdo,if_neg (ht i o ho (by rw[hset,if_pos rfl]))];refine I.U λi2 o2 h1 h2=>ht i2 o2 h1 ?_;rw[hset];split
  ·rfl
  ·exact h2
 ·have:(({a with defers:=ds'}:Act).put o.dst v').defers=ds':=by cases o.dst<;>rfl
  rw[this,(gr ps' g1 (q0c _)).2];exact D'
end
variable[Glob]
section
variable{P:Program}{m:List Nat}{ops:Array Oper}{ord:List Nat}{call:Nat->List AV->AH->CR}{n:Nat}{R:Runs}{q:Nat}{ρ0:Rho}{a0:Act}{w0:World}{listed:Array Bool}{a:Act}{w:World}{ρ:Rho}{ps:Nat}
theorem Inv.land(K:Dr P m ops ord call n R q)(I:Inv ops ord n R q ρ0 a0 w0 listed a w ρ ps){p i:Nat}{ob:AObj}(hp:ord[p]?=some i)(hps:p<ps)(hun:listed.getD i false=false)(hob:R.H (p+1)=(R.H p).add ob)
  {x:Obj} {sz:Nat} {w':World} (hx:ObjR ρ ob x 0 sz) (hh:w'.heap=w.heap.push x) (hs:Same w w') :
  ρ.le (ρ.ext (R.H p).next (w.heap.size,0,sz))/\WR (ρ.ext (R.H p).next (w.heap.size,0,sz)) (R.H ps) w'/\Step ρ0 (R.H 0) w0 (ρ.ext (R.H p).next (w.heap.size,0,sz)) (R.H ps) w'/\
   ∀{p2 i2:Nat} {ob2:AObj},p2<ps->ord[p2]?=some i2->i2≠i->listed.getD i2 false=false->R.H (p2+1)=(R.H p2).add ob2->(ρ.ext (R.H p).next (w.heap.size,0,sz)) (R.H p2).next=none:=by
 obtain⟨f1,f2⟩:=I.fl hps hp hun hob;have hle:ρ.le (ρ.ext (R.H p).next (w.heap.size,0,sz)):=Rho.le_ext f1;have hlt:(R.H p).next<(R.H ps).next:=by
  rcases q0x (R.H p).next (R.H ps).next with hh | hh
  ·exact hh
  ·rw[I.wf ps (q0c _) _ hh] at f2;cases f2
 have hold:∀k,k<w.heap.size->w'.heap[k]?=w.heap[k]?:=λk hk=>by rw[hh,Array.getElem?_push,if_neg (by omega)]
 have hsz:w.heap.size<=w'.heap.size:=by rw[hh];simp
 have gl:∀k,k<Glob.n->k<w'.heap.size/\w'.heap[k]?=Glob.g k/\¬Owned (ρ.ext (R.H p).next (w.heap.size,0,sz)) (R.H ps) k:=λk hk=>by
  obtain⟨a,b,c⟩:=I.W.gl k hk;refine⟨q0d a hsz,by rw[hold k a];exact b,?_⟩;rintro⟨id,o,p',s',h1,h2,h3⟩;by_cases hi:id=(R.H p).next
  ·subst hi;rw[q2i] at h3;injection h3 with h3;injection h3 with h3 _;omega
  ·rw[q2j _ _ hi] at h3;exact c ⟨id,o,p',s',h1,h2,h3⟩
 refine⟨hle,⟨⟨?_,?_,?_,?_⟩,gl⟩,⟨q2n I.S.le hle,?_,?_,q0m I.S.size hsz,hs.os.trans I.S.os,hs.tape.trans I.S.tape,hs.output.trans I.S.output,I.S.next,I.S.keep,?_⟩,?_⟩
 ·intro id o b p' s' hg he;by_cases hi:id=(R.H p).next
  ·subst hi;rw[q2i] at he;rw[f2] at hg;injection hg with hg;subst hg;injection he with he;injection he with h1 h2;injection h2 with h2 h3;subst h1;subst h2;subst h3;exact⟨x,by rw[hh];simp,hx.mono hle⟩
  ·rw[q2j _ _ hi] at he;obtain⟨y,hy,hr⟩:=I.W.obj hg he;exact⟨y,by rw[hold _ (I.W.dom he).2];exact hy,hr.mono hle⟩
 ·intro i1 j1 o1 o2 b p1 s1 p2 s2 h1 h2 hne e1 e2;by_cases hi:i1=(R.H p).next
  ·subst hi;rw[q2i] at e1;rw[q2j _ _ (Ne.symm hne)] at e2;injection e1 with e1;injection e1 with e1 _;have:=(I.W.dom e2).2;omega
  ·rw[q2j _ _ hi] at e1;by_cases hj:j1=(R.H p).next
   ·subst hj;rw[q2i] at e2;injection e2 with e2;injection e2 with e2 _;have:=(I.W.dom e1).2;omega
   ·rw[q2j _ _ hj] at e2;exact I.W.inj h1 h2 hne e1 e2
 ·intro id y he;by_cases hi:id=(R.H p).next
  ·subst hi;rw[q2i] at he;injection he with he;subst he;exact⟨hlt,by rw[hh];simp⟩
  ·rw[q2j _ _ hi] at he;exact⟨(I.W.dom he).1,q0d (I.W.dom he).2 hsz⟩
 ·intro id hid;exact I.W.fresh hid
 ·rintro k hk ⟨id,o,p',s',h1,h2,h3⟩;by_cases hi:id=(R.H p).next
  ·subst hi;rw[q2i] at h3;injection h3 with h3;injection h3 with h3 _;have:=I.S.size;omega
  ·rw[q2j _ _ hi] at h3;exact I.S.own hk ⟨id,o,p',s',h1,h2,h3⟩
 ·intro k hk ho;rw[hold k (q0d hk I.S.size)];exact I.S.frame hk ho
 ·intro id h1 h2;by_cases hi:id=(R.H p).next
  ·subst hi;exact I.nx (q0k _) (by omega)
  ·rw[q2j _ _ hi] at h2;exact I.S.new h1 h2
 ·intro p2 i2 ob2 h1 h2 hne h3 h4;rw[q2j _ _ (λe=>?_)]
  ·exact(I.fl h1 h2 h3 h4).1
  ·have hpp:p2≠p:=λe=>by subst e;rw[hp] at h2;injection h2 with h2;exact hne h2.symm
   rcases Nat.lt_or_gt_of_ne hpp with hl | hl
   ·have:=I.nx (p:=p2+1) (p':=p) (by omega) (by omega);rw[h4,q2e] at this;omega
   ·have:=I.nx (p:=p+1) (p':=p2) (by omega) (by omega);rw[hob,q2e] at this;omega
structure Fin(P:Program)(m:List Nat)(ops:Array Oper)(ord:List Nat)(call:Nat->List AV->AH->CR)(n:Nat)(R:Runs)(q:Nat)(whole:List AOper)(r:Res):Prop where
 outs:∀i o k,i∈ord->ops[i]?=some o->o.dst.bind (zAk m)=some k->k∈outs whole
 fin:(q=ord.length/\r=.norm (R.L q) (R.D q) (R.H q))\/∃v h',PanAt P m ops ord call R q v h'/\r=.pan v (forget whole (R.L 0)) (R.D q) h'
theorem wp_ready(K:Dr P m ops ord call n R q)(L0:LocR ρ0 m (R.L 0) a0){whole:List AOper}{r:Res}(F:Fin P m ops ord call n R q whole r)(I:Inv ops ord n R q ρ0 a0 w0 listed a w ρ ps){i:Nat}(hr:i∈Region.ready .any ops listed)
  {K':Act->World->Prop} (hK:∀a' w' ρ' ps',Inv ops ord n R q ρ0 a0 w0 (listed.setIfInBounds i true) a' w' ρ' ps'->K' a' w'):wpOp P ops (QRes ρ0 (R.H 0) w0 m n r) i K' a w:=by
 obtain⟨hun0,o,ho,hdeps⟩:=mem_ready.1 hr;have hi:i<ops.size:=(Array.getElem?_eq_some_iff.1 ho).1;have hun:listed.getD i false=false:=by
  have:i<listed.size:=by rw[I.sz];exact hi
  simp[this] at hun0 ⊢;exact hun0
 have hanc:∀j,bef (ancs ops) j i=true->listed.getD j false=true:=by
  intro j hb;obtain⟨o',e,h1,h2,h3,h4⟩:=bef_edge hb;rw[ho] at h1;injection h1 with h1;subst h1;have hl:=hdeps e h2 h3;rcases h4 with h4 | h4
  ·rw[<-h4];exact hl
  ·exact I.dc hl h4
 obtain⟨p,hp1,hp2⟩:=q0y (K.ok.cover hi);have hp:ord[p]?=some i:=by rw[q0a hp1,hp2]
 have hpps:p<=ps:=by
  rcases q0x ps p with hl | hl
  ·exfalso;rcases I.act with h | ⟨j,oj,h1,h2,h3⟩
   ·omega
   ·obtain⟨_,_,oi,oj',e1,e2,e3⟩:=K.ok.pair hp h1 hl;rw[h2] at e2;injection e2 with e2;subst e2;have:=hanc j (e3 h3);rw[I.high (q0c _) h1] at this;cases this
  ·exact hl
 have calm0:∀e,Calm ops ord o e e:=λe b _ _ _ h1 h2=>by omega
 unfold wpOp;rw[ho];simp only;rcases q0x p ps with hlt | hge
 ·obtain⟨i2,o2,ao,g,re,S⟩:=K.st p (by have:=I.le;omega);have e1:=hp.symm.trans S.oi;injection e1 with e1;subst e1;have e2:=ho.symm.trans S.oo;injection e2 with e2;subst e2;have hc3:clsO o.op≠3:=λh3=>by rw[I.low hlt hp ho h3] at hun;cases hun
  obtain⟨hd,hgr,hsm,hv⟩:=zDw S.st S.co hc3;rcases hv with⟨hg,hV,hH⟩ | ⟨hg,he⟩
  ·rw[if_neg (by rw[zE2 K L0 I hp ho hun hanc (q0c _) hpps (calm0 p) S.cg hg];simp)];exact hK _ _ ρ ps (I.put K hp ho hlt hanc (v':=undef) (by rw[hV];exact .tup .nil rfl) ρ.le_refl I.W I.S (λh1 h2 _ h3 h4=>(I.fl h1 h2 h3 h4).1))
  ·rw[if_pos (zE2 K L0 I hp ho hun hanc (q0c _) hpps (calm0 p) S.cg hg)];left;unfold Oper.wp;by_cases hc2:clsO o.op<2
   ·obtain⟨e,ao',h1,h2,h3,h4,h5⟩:=stable K L0 I S hun hanc hc2 hg ps hpps (q0c _);have G:=good_op (P:=P) (ρ:=ρ) (h:=R.H ps) (w:=w) (loc:=R.L e) (tmp:=R.X e) (kill:=false) I.W (opds_at K L0 I hp ho hun hanc h1 h2 h3) (λ_=>rfl) (λ_=>rfl) (own_op h4);rw[h5] at G;obtain⟨ρ',v',w',hrun,hvr,W',S'⟩:=G;have hnext:K' (a.put o.dst v') w':=by
     refine hK _ _ ρ' ps (I.put K hp ho hlt hanc hvr S'.le W' (I.S.trans S') (λq1 q2 _ q3 q4=>?_));obtain⟨f1,f2⟩:=I.fl q1 q2 q3 q4;cases hq:ρ' (R.H _).next with
     | none=>rfl
     | some x=>
      have b1:=S'.new f1 (by rw[hq];simp);have b2:=(W'.dom hq).1;omega
    rcases hrun with hrun | ⟨hrun,rfl⟩
    ·rw[hrun];exact hnext
    ·rw[hrun];exact hnext
   ·have hle3:=clsO_le o.op;have hcl2:clsO o.op=2:=by omega
    have X:=opds_at K L0 I hp ho hun hanc (q0c _) hpps (calm0 p);rcases make_op (P:=P) (w:=w) X (own_op S.co) hcl2 with⟨k,hk⟩ | ⟨V,ob,x,sz,w',v',hf,hox,hhp,hsame,hrun,hvv⟩
    ·cases he.symm.trans (hk _)
    ·have e3:=he.symm.trans (hf _);injection e3 with e3 e4;obtain⟨l1,l2,l3,l4⟩:=I.land K hp hlt hun e4 hox hhp hsame;rw[hrun];refine hK _ _ _ ps (I.put K hp ho hlt hanc ?_ l1 l2 l3 l4);rw[e3];exact hvv _ _ (q2i _ _ _)
 ·have hpe:p=ps:=by omega
  subst hpe;have h3:clsO o.op=3:=by
   rcases I.act with h | ⟨j,oj,h1,h2,h3⟩
   ·omega
   ·have e1:=hp.symm.trans h1;injection e1 with e1;subst e1;have e2:=ho.symm.trans h2;injection e2 with e2;subst e2;exact h3
  have X:=opds_at K L0 I hp ho hun hanc (q0c _) hpps (calm0 p);rcases q0x p q with hq | hq
  ·obtain⟨i2,o2,ao,g,re,S⟩:=K.st p hq;have e1:=hp.symm.trans S.oi;injection e1 with e1;subst e1;have e2:=ho.symm.trans S.oo;injection e2 with e2;subst e2;by_cases hgt:zAt (R.L p) (R.X p) g=some true
   ·rw[if_pos (zE2 K L0 I hp ho hun hanc (q0c _) hpps (calm0 p) S.cg hgt)];left;refine step_wp K.hcall S.st hgt I.W X (own_op S.co) I.Df ?_;intro ρ' v' w' ds' hv W' S' D';obtain⟨ps',I'⟩:=I.act_put K hq hp ho hanc hv W' S' D';exact hK _ _ _ _ I'
   ·have hst:=S.st;have hskip:zAt (R.L p) (R.X p) g=some false/\R.V p=.tup []/\R.D (p+1)=R.D p/\R.H (p+1)=R.H p:=by
     generalize R.V p=v at hst;generalize R.D (p+1)=d' at hst;generalize R.H (p+1)=h' at hst;cases hst with
     | skip hgf=>exact⟨hgf,rfl,rfl,rfl⟩
     | val h1 _ _=>exact absurd h1 hgt
     | enter h1 _ _ _=>exact absurd h1 hgt
     | dfr h1 _=>exact absurd h1 hgt
    obtain⟨hgf,hV,hD,hH⟩:=hskip;rw[if_neg (by rw[zE2 K L0 I hp ho hun hanc (q0c _) hpps (calm0 p) S.cg hgf];simp)];obtain⟨ps',I'⟩:=I.act_put K hq hp ho hanc (ρ':=ρ) (w':=w) (v':=undef) (ds':=a.defers) (by rw[hV];exact .tup .nil rfl) (by rw[hH];exact I.W) (by rw[hH];exact .refl _ _ _) (by rw[hD];exact I.Df);exact hK _ _ _ _ I'
  ·have hpq:p=q:=by have:=I.le;omega
   rcases F.fin with⟨h1,_⟩ | ⟨v,h',hpan,hres⟩
   ·omega
   ·obtain⟨i2,o2,ao,g,b1,b2,b3,b4,b5⟩:=hpan.ex;rw[<-hpq] at b1 b3 b4 b5 hres;have e1:=hp.symm.trans b1;injection e1 with e1;subst e1;have e2:=ho.symm.trans b2;injection e2 with e2;subst e2;have hgt:zAt (R.L p) (R.X p) g=some true:=by cases b5<;>assumption
    rw[if_pos (zE2 K L0 I hp ho hun hanc (q0c _) hpps (calm0 p) b4 hgt)];left;refine pan_wp K.hcall b5 I.W X (own_op b3) ?_;intro ρ' v' w' hv W' S';rw[hres];refine⟨ρ',v',rfl,hv,?_,I.Df.mono S'.le,W',I.S.trans S',I.N⟩;intro t k hk;rw[zE3];split
    ·exact .bad _
    ·rename_i hnk;rw[I.U (t:=t) ?_]
     ·exact(L0 t k hk).mono (q2n I.S.le S'.le)
     ·intro i2 o2 h1 h2 hd;have hmem:=K.ok.cover (Array.getElem?_eq_some_iff.1 h1).1;exact hnk (F.outs i2 o2 k hmem h1 (by rw[hd];exact hk))
end
variable[Glob]
theorem countP_lt{p p':Nat->Bool}:∀{l:List Nat} {i:Nat},i∈l->p i=true->p' i=false->(∀x,p' x=true->p x=true)->l.countP p'<l.countP p
 | [],i,h,_,_,_=>by simp at h
 | x::l,i,h,h1,h2,h3=>by
  rw[List.countP_cons,List.countP_cons];have hm:l.countP p'<=l.countP p:=List.countP_mono_left λy _ hy=>h3 y hy;rcases List.mem_cons.1 h with rfl | h
  ·rw[h1,h2];simp;omega
  ·have:=countP_lt h h1 h2 h3;by_cases hx:p' x=true
   ·rw[hx,h3 x hx];simp;omega
   ·have hx:p' x=false:=by simpa using hx
    rw[hx];simp;split<;>omega
section
variable{P:Program}{m:List Nat}{ops:Array Oper}{ord:List Nat}{call:Nat->List AV->AH->CR}{n:Nat}{R:Runs}{q:Nat}{ρ0:Rho}{a0:Act}{w0:World}
theorem all_listed{listed:Array Bool}(K:Dr P m ops ord call n R q)(hsz:listed.size=ops.size)(h:Region.ready .any ops listed=[]):∀i,i<ops.size->listed.getD i false=true:=by
 intro i;induction i using Nat.strongRecOn with
 | _ i ih=>
  intro hi;cases hl:listed.getD i false with
  | true=>rfl
  | false=>
   exfalso;have ho:ops[i]?=some ops[i]:=Array.getElem?_eq_getElem hi;have:i∈Region.ready .any ops listed:=by
    refine mem_ready.2 ⟨?_,ops[i],ho,λe he hb=>?_⟩
    ·have:i<listed.size:=by omega
     simp[this] at hl ⊢;exact hl
    ·have hlt:=K.ok.back ho e he hb;exact ih e.on hlt (by omega)
   rw[h] at this;simp at this
theorem zKw{listed:Array Bool}{a:Act}{w:World}{ρ:Rho}{ps:Nat}(K:Dr P m ops ord call n R q)(L0:LocR ρ0 m (R.L 0) a0){whole:List AOper}{r:Res}(F:Fin P m ops ord call n R q whole r)(I:Inv ops ord n R q ρ0 a0 w0 listed a w ρ ps)
  (hall:∀i,i<ops.size->listed.getD i false=true):QRes ρ0 (R.H 0) w0 m n r .normal a w:=by
 have hps:ps=ord.length:=by
  rcases I.act with h | ⟨i,o,h1,h2,_⟩
  ·exact h
  ·have:=hall i (Array.getElem?_eq_some_iff.1 h2).1;rw[I.high (q0c _) h1] at this;cases this
 have hq:q=ps:=by have:=I.le;have:=K.ql;omega
 rcases F.fin with⟨_,hr⟩ | ⟨v,h',hpan,_⟩
 ·rw[hr];subst hq;refine⟨ρ,?_,I.Df,I.W,I.S,I.N⟩;intro t k hk;rcases zLd K.st k q (q0c _) with⟨h1,h2⟩ | ⟨b,i,o,h1,h2,h3,h4,h5⟩
  ·rw[h1,I.U (t:=t) ?_]
   ·exact(L0 t k hk).mono I.S.le
   ·intro i o ho _ hd;obtain⟨b,hb,hbe⟩:=q0y (K.ok.cover (Array.getElem?_eq_some_iff.1 ho).1);exact h2 b i o (by omega) (by rw[q0a hb,hbe]) ho (by rw[hd];exact hk)
  ·rw[h5];cases hd:o.dst with
   | none=>rw[hd] at h4;cases h4
   | some t'=>
    rw[hd] at h4;have:t'=t:=zFo h4 hk;subst this;exact I.T h1 h2 h3 (hall i (Array.getElem?_eq_some_iff.1 h3).1) hd
 ·obtain⟨i,o,ao,g,h1,_⟩:=hpan.ex;rw[hq,hps,q0i (q0c _)] at h1;cases h1
theorem wp_any(K:Dr P m ops ord call n R q)(L0:LocR ρ0 m (R.L 0) a0){whole:List AOper}{r:Res}(F:Fin P m ops ord call n R q whole r):∀(fuel:Nat) (listed:Array Bool) (a:Act) (w:World) (ρ:Rho) (ps:Nat),
  Inv ops ord n R q ρ0 a0 w0 listed a w ρ ps->(List.range ops.size).countP (λi=>!listed.getD i true)<=fuel->wpAny P .any ops (QRes ρ0 (R.H 0) w0 m n r) fuel listed a w
 | 0,listed,a,w,ρ,ps,I,hc=>by
  have hall:∀i,i<ops.size->listed.getD i false=true:=by
   intro i hi;have h0:(List.range ops.size).countP (λi=>!listed.getD i true)=0:=by omega
   have:=List.countP_eq_zero.1 h0 i (by simpa using hi);have hs:i<listed.size:=by rw[I.sz];exact hi
   simp[hs] at this ⊢;exact this
  refine⟨?_,zKw K L0 F I hall⟩;apply List.eq_nil_iff_forall_not_mem.2;intro i hi;obtain⟨h1,o,ho,_⟩:=mem_ready.1 hi;have hlt:=(Array.getElem?_eq_some_iff.1 ho).1;have:=hall i hlt;have hs:i<listed.size:=by rw[I.sz];exact hlt
  simp[hs] at h1 this;rw[this] at h1;cases h1
 | fuel+1,listed,a,w,ρ,ps,I,hc=>by
  refine⟨λhr=>zKw K L0 F I (all_listed K I.sz hr),λi hi=>?_⟩;refine wp_ready K L0 F I hi λa' w' ρ' ps' I'=>wp_any K L0 F fuel _ a' w' ρ' ps' I' ?_;obtain⟨h1,o,ho,_⟩:=mem_ready.1 hi;have hlt:=(Array.getElem?_eq_some_iff.1 ho).1;have hs:i<listed.size:=by rw[I.sz];exact hlt
  have:=countP_lt (p:=λi=>!listed.getD i true) (p':=λj=>!(listed.setIfInBounds i true).getD j true) (l:=List.range ops.size) (i:=i) (by simpa using hlt) (by simp only[h1,q0A]) (by simp[hs]) (λx hx=>by
   by_cases hxi:i=x
   ·subst hxi;simp[hs] at hx
   ·rw[getD_set_ne true hxi] at hx;exact hx)
  omega
theorem draw_region{id:Nat}{ac:ACode}{loc:T AV}{d:List AV}{h:AH}{ρ:Rho}{a:Act}{w:World}{r:Res}(hm:P.follows .mixedOrders=true)(hcall:zG9 P call)(hdst:∀o∈ops,∀x,o.dst=some x->x<n)
  (hc:zDz P m ops true=some ac) (hr:∀aos,ac=.ops aos->evOps call aos loc aos loc [] d h=r) (hgood:r.good) (L:LocR ρ m loc a) (W:WR ρ h w) (D:DefsR ρ d a.defers) (hn:a.tmps.size=n) :
  (Code.region id ops true).wp P (QRes ρ h w m n r) a w:=by
 have hc:(do let ord <-order ops (ancs ops) ops.size [];if zK1 ops (ancs ops) ord then(do some (ACode.ops (<-cDraw P m ops (ancs ops) ord [] []))) else none)=some ac:=hc;obtain⟨ord,hord,hc⟩:=bindS hc;split at hc
 ·rename_i hok;obtain⟨aos,haos,hc⟩:=bindS hc;cases hc;have hr:=hr aos rfl;have ok:=drawOk_spec hok;obtain⟨R,q,h1,h2,e1,e2,e3,e4,hall,hend⟩:=trace_ex (call:=call) (anc:=ancs ops) ord 0 aos loc [] d h r (q0k _) rfl (by simpa[DN,TS] using haos) hr hgood;subst e1;subst e3;subst e4;have K:Dr P m ops ord call n R q:=by
   refine⟨hcall,ok,e2,h2,λp hp=>hall p (q0k _) hp,?_,λho hd=>hdst _ (Array.mem_of_getElem? ho) _ hd⟩;rcases hend with⟨hq,_⟩ | ⟨v,h',hpan,_⟩
   ·exact .inl hq
   ·obtain⟨i,o,ao,g,b1,b2,b3,b4,b5⟩:=hpan.ex;refine .inr ⟨i,o,b1,b2,?_⟩;by_cases h3:clsO o.op=3
    ·exact h3
    ·exfalso;rcases zLi (loc:=R.L q) (tmp:=R.X q) b3 h3 (R.H q) with⟨k,hk⟩ | ⟨u,hu,hk⟩
     ·cases b5 with
      | enter _ he _=>cases he.symm.trans hk
      | pan _ he=>cases he.symm.trans hk
     ·cases b5 with
      | enter _ he _=>cases he.symm.trans hk
      | pan _ he=>cases he.symm.trans hk
  have F:Fin P m ops ord call n R q aos r:=⟨λi o k hi ho hk=>outs_draw haos i o k hi ho hk,hend⟩;obtain⟨ps,g1,g2,g3,g4⟩:=K.next q 0 (by omega) (q0k _);have gr:∀s r,s<=r->r<=ps->Grows (R.H s) (R.H r)/\R.D r=R.D s:=λs r h1 h2=>K.grow h1 (by omega) (λp i o _ q2=>g3 p i o (q0k _) (by omega));have W1:WR ρ (R.H 0) {w with drawn:=w.drawn+1}:=W.of_heap rfl;obtain⟨W2,S2⟩:=W1.grow (gr 0 ps (q0k _) (q0c _)).1;refine wp_region_any hm ?_;refine wp_any K L F ops.size _ a _ ρ ps ?_ ?_
  ·have hf:∀i,(Array.replicate ops.size false).getD i false=false:=λi=>by
    rw[Array.getD_eq_getD_getElem?,Array.getElem?_replicate];split<;>rfl
   have S1:Step ρ (R.H 0) w ρ (R.H 0) {w with drawn:=w.drawn+1}:=Step.of_heap rfl ⟨rfl,rfl,rfl⟩;refine⟨by simp,g2,g4,λq1 q2 q3 q4=>absurd q4 (g3 _ _ _ (q0k _) q1 q2 q3),λ_ _=>hf _,λq1 _=>?_,W2,S1.trans S2,λp hp=>(gr 0 p (q0k _) hp).1.wf W.wf,λq1 q2=>(gr _ _ q1 q2).1.le,λ{p i ob} q1 q2 q3 q4=>?_,λ_ _ _ q4 _=>?_,λ_=>rfl,hn,?_⟩
   ·rw[hf] at q1;cases q1
   ·refine⟨?_,?_⟩
    ·cases e:ρ (R.H p).next with
     | none=>rfl
     | some x=>have:=(W.dom e).1;have:=(gr 0 p (q0k _) (by omega)).1.le;omega
    ·rw[(gr (p+1) ps (by omega) (q0c _)).1.old (by rw[q4];exact q0h _),q4,AH.add_get,if_pos rfl]
   ·rw[hf] at q4;cases q4
   ·rw[(gr 0 ps (q0k _) (q0c _)).2];exact D
  ·have:=List.countP_le_length (p:=λi=>!(Array.replicate ops.size false).getD i true) (l:=List.range ops.size);simpa using this
 ·cases hc
end
variable[Glob]
theorem Post.trans{ρ0 ρ:Rho}{h0 h:AH}{w0 w:World}{m:List Nat}{n:Nat}{loc:T AV}{d:List AV}{h':AH}{a':Act}{w':World}(S:Step ρ0 h0 w0 ρ h w)(p:Post ρ h w m n loc d h' a' w'):Post ρ0 h0 w0 m n loc d h' a' w':=by
 obtain⟨ρ',a1,a2,a3,a4,a5⟩:=p;exact⟨ρ',a1,a2,a3,S.trans a4,a5⟩
theorem QRes.trans{ρ0 ρ:Rho}{h0 h:AH}{w0 w:World}{m:List Nat}{n:Nat}{r:Res}{e:Exit}{a':Act}{w':World}(S:Step ρ0 h0 w0 ρ h w)(p:QRes ρ h w m n r e a' w'):QRes ρ0 h0 w0 m n r e a' w':=by
 cases r<;>cases e<;>first | exact p.elim | skip
 ·exact Post.trans S p
 ·exact⟨p.1,Post.trans S p.2⟩
 ·exact Post.trans S p
 ·obtain⟨ρ',v',q1,q2,a1,a2,a3,a4,a5⟩:=p;exact⟨ρ',v',q1,q2,a1,a2,a3,S.trans a4,a5⟩
def wpL(P:Program)(c:Code)(Q:Exit->Act->World->Prop)(a:Act)(w:World):Prop:=
 ∀(b:Frame) (k:List Item) (cs:List Frame),∃e a' w',Q e a' w'/\Arrives P (lone (b.at a (.code c::.inLoop c::k)) cs w) b k cs e a' w'
theorem wpL_of{P:Program}{c:Code}{Q:Exit->Act->World->Prop}{a:Act}{w:World}(h:c.wp P (Exit.then (wpL P c Q) Q) a w):wpL P c Q a w:=by
 intro b k cs;obtain⟨e,a₁,w₁,hq,harr⟩:=h b (.inLoop c::k) cs;cases e with
 | normal=>
  obtain⟨e₂,a₂,w₂,hq₂,harr₂⟩:=hq b k cs;exact⟨e₂,a₂,w₂,hq₂,.of_steps (Steps.trans harr (.one step_inLoop)) harr₂⟩
 | exit id=>exact⟨_,a₁,w₁,hq,.pass (x:=.inLoop c) rfl (λ_ _=>.inl (by simp)) harr⟩
 | goto l=>exact⟨_,a₁,w₁,hq,.pass (x:=.inLoop c) rfl (λ_ _=>.inl (by simp)) harr⟩
 | ret=>exact⟨_,a₁,w₁,hq,.pass (x:=.inLoop c) rfl (λ_ _=>.inl (by simp)) harr⟩
 | panic ch=>exact⟨_,a₁,w₁,hq,.pass (x:=.inLoop c) rfl (λ_ _=>.inl (by simp)) harr⟩
 | outgrown=>exact⟨_,a₁,w₁,hq,.pass (x:=.inLoop c) rfl (λ_ _=>.inl (by simp)) harr⟩
theorem wp_of_wpL{P:Program}{c:Code}{Q:Exit->Act->World->Prop}{a:Act}{w:World}(h:wpL P c Q a w):(Code.loop c).wp P Q a w:=by
 intro b k cs;obtain⟨e,a',w',hq,harr⟩:=h b k cs;exact⟨e,a',w',hq,.of_steps (.one step_loop) harr⟩
section
variable{P:Program}{tab:Nat->Option AFunc}
def zJ8(P:Program)(tab:Nat->Option AFunc)(n:Nat):Prop:=∀(m:List Nat) (N:Nat) (c:Code) (c':ACode),cCode P m c=some c'->dstOk N c=true->∀(loc:T AV) (d:List AV) (h:AH) (r:Res),evC tab n c' loc d h=r->r.good->
 ∀(ρ:Rho) (a:Act) (w:World),LocR ρ m loc a->WR ρ h w->DefsR ρ d a.defers->N<=a.tmps.size->c.wp P (QRes ρ h w m a.tmps.size r) a w
def LoopOK(P:Program)(tab:Nat->Option AFunc)(n:Nat):Prop:=∀(m:List Nat) (N:Nat) (c:Code) (c':ACode),cCode P m c=some c'->dstOk N c=true->∀(loc:T AV) (d:List AV) (h:AH) (r:Res),evC tab n (.loop c') loc d h=r->r.good->
 ∀(ρ:Rho) (a:Act) (w:World),LocR ρ m loc a->WR ρ h w->DefsR ρ d a.defers->N<=a.tmps.size->wpL P c (QRes ρ h w m a.tmps.size r) a w
theorem stuck_bad{n:Nat}{loc:T AV}{d:List AV}{h:AH}{r:Res}(hr:evC tab (n+1) zKd loc d h=r)(hg:r.good):False:=by
 have hr:Res.fail [59]=r:=hr;rw[<-hr] at hg;exact hg
theorem zHa{ρ:Rho}{a:Act}{tmp:List AV}:TmpR ρ [] tmp a:=λt i e=>by cases e
theorem zFc{ρ:Rho}{h:AH}{w:World}{m:List Nat}{n:Nat}{r1 r:Res}{K:Act->World->Prop}(hn:∀loc d h' a' w',r1=.norm loc d h'->Post ρ h w m n loc d h' a' w'->K a' w')(ho:(∀loc d h',r1≠.norm loc d h')->r=r1) :
  ∀e a' w',QRes ρ h w m n r1 e a' w'->Exit.then K (QRes ρ h w m n r) e a' w':=by
 intro e a' w' q;cases r1 with
 | norm loc d h'=>cases e<;>first | exact q.elim | exact hn _ _ _ _ _ rfl q
 | exit id loc d h'=>rw[ho (by intros;simp)];cases e<;>first | exact q.elim | exact q
 | ret loc d h'=>rw[ho (by intros;simp)];cases e<;>first | exact q.elim | exact q
 | pan v loc d h'=>rw[ho (by intros;simp)];cases e<;>first | exact q.elim | exact q
 | fail l=>cases e<;>exact q.elim
theorem code_step(hm:P.follows .mixedOrders=true){n:Nat}(hcall:zG9 P (zAw tab (evC tab n)))(A:zJ8 P tab n)(B:LoopOK P tab n):zJ8 P tab (n+1)/\LoopOK P tab (n+1):=by
 have loopOK:LoopOK P tab (n+1):=by
  intro m N c c' hc hd loc d h r hr hgood ρ a w L W D hN;have hr:(Res.rec (motive:=λ_=>Res) (λloc d h=>evC tab n (ACode.loop c') loc d h) Res.exit Res.ret Res.pan Res.fail (evC tab n c' loc d h):Res)=r:=hr;refine wpL_of ?_;cases h1:evC tab n c' loc d h with
  | fail l=>rw[h1] at hr;have hr:Res.fail l=r:=hr;rw[<-hr] at hgood;exact hgood.elim
  | norm l1 d1 hh1=>
   rw[h1] at hr;have X:=A m N c c' hc hd loc d h _ h1 trivial ρ a w L W D hN;refine wp_mono X (zFc (λloc2 d2 h2 a2 w2 e1 p=>?_) (λho=>absurd rfl (ho _ _ _)));injection e1 with e1 e2 e3;subst e1;subst e2;subst e3;obtain⟨ρ2,L2,D2,W2,S2,N2⟩:=p;have:=B m N c c' hc hd _ _ _ r hr hgood ρ2 a2 w2 L2 W2 D2 (by omega);intro b k cs;obtain⟨e,a',w',q,rr⟩:=this b k cs;refine⟨e,a',w',?_,rr⟩;rw[N2] at q;exact q.trans S2
  | exit id l1 d1 hh1=>
   rw[h1] at hr;have hr:Res.exit id l1 d1 hh1=r:=hr;have X:=A m N c c' hc hd loc d h _ h1 trivial ρ a w L W D hN;exact wp_mono X (zFc (λloc2 d2 h2 a2 w2 e1 p=>by cases e1) (λho=>hr.symm))
  | ret l1 d1 hh1=>
   rw[h1] at hr;have hr:Res.ret l1 d1 hh1=r:=hr;have X:=A m N c c' hc hd loc d h _ h1 trivial ρ a w L W D hN;exact wp_mono X (zFc (λloc2 d2 h2 a2 w2 e1 p=>by cases e1) (λho=>hr.symm))
  | pan v l1 d1 hh1=>
   rw[h1] at hr;have hr:Res.pan v l1 d1 hh1=r:=hr;have X:=A m N c c' hc hd loc d h _ h1 trivial ρ a w L W D hN;exact wp_mono X (zFc (λloc2 d2 h2 a2 w2 e1 p=>by cases e1) (λho=>hr.symm))
 refine⟨?_,loopOK⟩;intro m N c c' hc hd loc d h r hr hgood ρ a w L W D hN;cases c with
 | skip=>
  injection hc with hc;subst hc;have hr:Res.norm loc d h=r:=hr;subst hr;exact wp_skip ⟨ρ,L,D,W,.refl _ _ _,rfl⟩
 | ret=>
  injection hc with hc;subst hc;have hr:Res.ret loc d h=r:=hr;subst hr;exact wp_ret ⟨ρ,L,D,W,.refl _ _ _,rfl⟩
 | exit id=>
  injection hc with hc;subst hc;have hr:Res.exit id loc d h=r:=hr;subst hr;exact wp_exit ⟨rfl,ρ,L,D,W,.refl _ _ _,rfl⟩
 | region id ops draw=>
  have hdst:∀o∈ops,∀x,o.dst=some x->x<a.tmps.size:=by
   intro o ho x hx;have hd:(ops.all λo=>match o.dst with | some d=>decide (d<N) | none=>true)=true:=hd;have:=Array.all_eq_true_iff_forall_mem.1 hd o ho;rw[hx] at this;exact q0d (of_decide_eq_true this) hN
  have hc:(match zDz P m ops draw with | some c=>some c | none=>some zKd)=some c':=hc;cases hcr:zDz P m ops draw with
  | none=>
   rw[hcr] at hc;injection hc with hc;subst hc;exact(stuck_bad hr hgood).elim
  | some c1=>
  rw[hcr] at hc;injection hc with hc;subst hc;have hc:=hcr;cases draw with
  | true=>
   refine draw_region hm hcall hdst hc (λaos e=>?_) hgood L W D rfl;subst e;exact hr
  | false=>
   have hc:(if(ops.toList.any λo=>zFm o.op) then(do let r <-zEi ops.toList;if(zAk m r.1).isSome then none else some (ACode.recov (zAk m r.2))) else(do some (ACode.ops (<-zIf P m ops ops.toList []))))=some c1:=hc;split at hc
   ·obtain⟨s,hs,hc⟩:=bindS hc;split at hc
    ·cases hc
    ·injection hc with hc;subst hc;have hr:Res.fail [89]=r:=hr;rw[<-hr] at hgood;exact hgood.elim
   ·obtain⟨aos,haos,hc⟩:=bindS hc;injection hc with hc;subst hc;exact plain_region hcall hdst haos hr hgood L W D rfl
 | seq x y=>
  obtain⟨x',hx,hc⟩:=bindS hc;obtain⟨y',hy,hc⟩:=bindS hc;injection hc with hc;subst hc;have hd:(dstOk N x&&dstOk N y)=true:=hd;rw[q0C] at hd;have hr:(Res.rec (motive:=λ_=>Res) (λloc d h=>evC tab n y' loc d h) Res.exit Res.ret Res.pan Res.fail (evC tab n x' loc d h):Res)=r:=hr;refine wp_seq ?_;cases h1:evC tab n x' loc d h with
  | fail l=>rw[h1] at hr;have hr:Res.fail l=r:=hr;rw[<-hr] at hgood;exact hgood.elim
  | norm l1 d1 hh1=>
   rw[h1] at hr;have X:=A m N x x' hx hd.1 loc d h _ h1 trivial ρ a w L W D hN;refine wp_mono X (zFc (λloc2 d2 h2 a2 w2 e1 p=>?_) (λho=>absurd rfl (ho _ _ _)));injection e1 with e1 e2 e3;subst e1;subst e2;subst e3;obtain⟨ρ2,L2,D2,W2,S2,N2⟩:=p;have:=A m N y y' hy hd.2 _ _ _ r hr hgood ρ2 a2 w2 L2 W2 D2 (by omega);rw[N2] at this;exact wp_mono this λe a' w' q=>q.trans S2
  | exit id l1 d1 hh1=>
   rw[h1] at hr;have hr:Res.exit id l1 d1 hh1=r:=hr;have X:=A m N x x' hx hd.1 loc d h _ h1 trivial ρ a w L W D hN;exact wp_mono X (zFc (λloc2 d2 h2 a2 w2 e1 p=>by cases e1) (λho=>hr.symm))
  | ret l1 d1 hh1=>
   rw[h1] at hr;have hr:Res.ret l1 d1 hh1=r:=hr;have X:=A m N x x' hx hd.1 loc d h _ h1 trivial ρ a w L W D hN;exact wp_mono X (zFc (λloc2 d2 h2 a2 w2 e1 p=>by cases e1) (λho=>hr.symm))
  | pan v l1 d1 hh1=>
   rw[h1] at hr;have hr:Res.pan v l1 d1 hh1=r:=hr;have X:=A m N x x' hx hd.1 loc d h _ h1 trivial ρ a w L W D hN;exact wp_mono X (zFc (λloc2 d2 h2 a2 w2 e1 p=>by cases e1) (λho=>hr.symm))
 | cond cc x y=>
  obtain⟨o,ho,hc⟩:=bindS hc;obtain⟨x',hx,hc⟩:=bindS hc;obtain⟨y',hy,hc⟩:=bindS hc;injection hc with hc;subst hc;have hd:(dstOk N x&&dstOk N y)=true:=hd;rw[q0C] at hd;have hv:=zHj (ρ:=ρ) (tmp:=[]) (ts:=[]) L zHa _ _ ho;have hr:AV.on (Res.fail [90]) (λq=>bi q (evC tab n x' loc d h) (evC tab n y' loc d h)) (λ_ _=>Res.fail [90]) (λ_ _=>Res.fail [90]) (λ_ _=>Res.fail [90]) (Res.fail [90]) (λ_ _ _ _=>Res.fail [90]) (Res.fail [90]) (λ_=>Res.fail [90]) (Res.fail [90]) (λ_ _ _=>Res.fail [90]) (Res.fail [90]) (λ_ _=>Res.fail [90]) (Res.fail [90]) (λ_=>Res.fail [90]) (λ_=>Res.fail [90]) (ev loc [] o)=r:=hr;generalize ev loc [] o=av at hv hr;cases av<;>try (have hr:Res.fail [90]=r:=hr;rw[<-hr] at hgood;exact hgood.elim)
  rename_i b;generalize hae:a.eval cc=u at hv;cases hv;refine wp_cond hae ?_;cases b with
  | true=>exact A m N x x' hx hd.1 loc d h r hr hgood ρ a w L W D hN
  | false=>exact A m N y y' hy hd.2 loc d h r hr hgood ρ a w L W D hN
 | block id x=>
  obtain⟨x',hx,hc⟩:=bindS hc;injection hc with hc;subst hc;have hr:(Res.rec (motive:=λ_=>Res) Res.norm (λid' loc d h=>bi (Nat.beq id id') (Res.norm loc d h) (Res.exit id' loc d h)) Res.ret Res.pan Res.fail (evC tab n x' loc d h):Res)=r:=hr;refine wp_block ?_;cases h1:evC tab n x' loc d h with
  | fail l=>rw[h1] at hr;have hr:Res.fail l=r:=hr;rw[<-hr] at hgood;exact hgood.elim
  | norm l1 d1 hh1=>
   rw[h1] at hr;have hr:Res.norm l1 d1 hh1=r:=hr;subst hr;refine wp_mono (A m N x x' hx hd loc d h _ h1 trivial ρ a w L W D hN) λe a' w' q=>?_;cases e<;>first | exact q.elim | exact q
  | ret l1 d1 hh1=>
   rw[h1] at hr;have hr:Res.ret l1 d1 hh1=r:=hr;subst hr;refine wp_mono (A m N x x' hx hd loc d h _ h1 trivial ρ a w L W D hN) λe a' w' q=>?_;cases e<;>first | exact q.elim | exact q
  | pan v l1 d1 hh1=>
   rw[h1] at hr;have hr:Res.pan v l1 d1 hh1=r:=hr;subst hr;refine wp_mono (A m N x x' hx hd loc d h _ h1 trivial ρ a w L W D hN) λe a' w' q=>?_;cases e<;>first | exact q.elim | exact q
  | exit id' l1 d1 hh1=>
   rw[h1] at hr;have hr:bi (Nat.beq id id') (Res.norm l1 d1 hh1) (Res.exit id' l1 d1 hh1)=r:=hr;refine wp_mono (A m N x x' hx hd loc d h _ h1 trivial ρ a w L W D hN) λe a' w' q=>?_;cases e<;>try exact q.elim
   rename_i id2;obtain⟨e1,p⟩:=q;subst e1;show if id'=id then _ else _;rw[bi_eq] at hr;by_cases hid:id'=id
   ·subst hid;rw[if_pos (q0K _)] at hr;rw[if_pos rfl,<-hr];exact p
   ·have:Nat.beq id id'=false:=by
     cases hb:Nat.beq id id' with
     | false=>rfl
     | true=>exact absurd (q0f hb).symm hid
    rw[this] at hr;have hr:Res.exit id' l1 d1 hh1=r:=hr;rw[if_neg hid,<-hr];exact⟨rfl,p⟩
 | loop x=>
  obtain⟨x',hx,hc⟩:=bindS hc;injection hc with hc;subst hc;exact wp_of_wpL (loopOK m N x x' hx hd loc d h r hr hgood ρ a w L W D hN)
 | _=>injection hc with hc;subst hc;exact(stuck_bad hr hgood).elim
end
variable[Glob]
theorem wpS_block{P:Program}{Q:Exit->Act->List Frame->World->Prop}{a:Act}{cs:List Frame}{w:World}{id:Nat}{c:Code}(h:c.wpS P (λe a cs w=>match e with | .exit id'=>if id'=id then Q .normal a cs w else Q (.exit id') a cs w | e=>Q e a cs w) a cs w):(Code.block id c).wpS P Q a cs w:=by
 intro b k hb hr;obtain⟨e,a₁,cs₁,w₁,hq,harr⟩:=h b (.inBlock id::k) hb hr;cases e with
 | normal=>exact⟨.normal,a₁,cs₁,w₁,hq,.head step_block (Steps.trans harr (.one step_inBlock))⟩
 | exit id'=>
  by_cases hid:id'=id
  ·simp only[hid,if_true] at hq;exact⟨.normal,a₁,cs₁,w₁,hq,.head step_block (harr k (by simp[exitTo,hid]))⟩
  ·simp only[hid,if_false] at hq;refine⟨.exit id',a₁,cs₁,w₁,hq,λk' hk=>.head step_block (harr k' ?_)⟩;have:(id == id')=false:=by simp;exact λh=>hid h.symm
   simp[exitTo,this,hk]
 | goto l=>exact⟨_,a₁,cs₁,w₁,hq,λk' hk=>.head step_block (harr k' (by simp[gotoIn,hk]))⟩
 | ret=>exact⟨_,a₁,cs₁,w₁,hq,.of_steps (.one step_block) harr⟩
 | panic ch=>exact⟨_,a₁,cs₁,w₁,hq,.of_steps (.one step_block) harr⟩
 | outgrown=>exact⟨_,a₁,cs₁,w₁,hq,.of_steps (b:=b) (k:=k) (cs:=cs₁) (e:=.outgrown) (.one step_block) harr⟩
theorem zDh{P:Program}{Q Q':Exit->Act->List Frame->World->Prop}{a:Act}{cs:List Frame}{w:World}{c:Code}(h:c.wpS P Q a cs w)(hq:∀e a cs w,Q e a cs w->Q' e a cs w):c.wpS P Q' a cs w:=
 λb k hb hr=>let⟨e,a',cs',w',q,r⟩:=h b k hb hr;⟨e,a',cs',w',hq _ _ _ _ q,r⟩
inductive ModeR(ρ:Rho):Mode->FrameMode->Prop
 | ret:ModeR ρ .ret .returning
 | pan {v:AV} {v':Value} {r:Bool}:VR ρ v v'->ModeR ρ (.pan v r) (.panicking [{v:=v',recovered:=r}])
theorem ModeR.mono{ρ ρ':Rho}(h:ρ.le ρ'){m:Mode}{u:FrameMode}(k:ModeR ρ m u):ModeR ρ' m u:=by
 cases k with
 | ret=>exact .ret
 | pan v=>exact .pan (v.mono h)
section
variable{P:Program}{tab:Nat->Option AFunc}
def QD(ρ0:Rho)(h0:AH)(w0:World)(m:List Nat)(n:Nat)(c0:Frame)(cs:List Frame):DR->Exit->Act->List Frame->World->Prop
 | .norm md loc h,.normal,a,cs',w=>∃ρ u',cs'={c0 with mode:=u'}::cs/\ModeR ρ md u'/\LocR ρ m loc a/\a.defers=[]/\WR ρ h w/\Step ρ0 h0 w0 ρ h w/\a.tmps.size=n
 | .exit id md loc h,.exit id',a,cs',w=>id=id'/\∃ρ u',cs'={c0 with mode:=u'}::cs/\ModeR ρ md u'/\LocR ρ m loc a/\a.defers=[]/\WR ρ h w/\Step ρ0 h0 w0 ρ h w/\a.tmps.size=n
 | .ret md h,.ret,a,cs',w=>∃ρ u',cs'={c0 with mode:=u'}::cs/\ModeR ρ md u'/\a.defers=[]/\WR ρ h w/\Step ρ0 h0 w0 ρ h w/\a.tmps.size=n
 | _,_,_,_,_=>False
def DR.good:DR->Prop
 | .fail _=>False
 | _=>True
theorem QD.trans{ρ0 ρ:Rho}{h0 h:AH}{w0 w:World}{m:List Nat}{n:Nat}{c0:Frame}{cs:List Frame}{r:DR}{e:Exit}{a':Act}{cs':List Frame}{w':World}(S:Step ρ0 h0 w0 ρ h w)(p:QD ρ h w m n c0 cs r e a' cs' w'):QD ρ0 h0 w0 m n c0 cs r e a' cs' w':=by
 cases r<;>cases e<;>first | exact p.elim | skip
 ·obtain⟨ρ',u',q1,q2,q3,q4,q5,q6,q7⟩:=p;exact⟨ρ',u',q1,q2,q3,q4,q5,S.trans q6,q7⟩
 ·obtain⟨hid,ρ',u',q1,q2,q3,q4,q5,q6,q7⟩:=p;exact⟨hid,ρ',u',q1,q2,q3,q4,q5,S.trans q6,q7⟩
 ·obtain⟨ρ',u',q1,q2,q4,q5,q6,q7⟩:=p;exact⟨ρ',u',q1,q2,q4,q5,S.trans q6,q7⟩
theorem plain_d{evc:ACode->T AV->List AV->AH->Res}{m:List Nat}{c:Code}{c':ACode}{md:Mode}{loc:T AV}{h:AH}{r:DR}{ρ:Rho}{a:Act}{c0:Frame}{cs:List Frame}{w:World}{u:FrameMode}
  (A:∀r,evc c' loc [] h=r->r.good->c.wp P (QRes ρ h w m a.tmps.size r) a w) (hr:zE9 evc c' md loc h=r) (hgood:r.good) (hmd:ModeR ρ md u) :
  c.wpS P (QD ρ h w m a.tmps.size c0 cs r) a ({c0 with mode:=u}::cs) w:=by
 have hr:(Res.rec (motive:=λ_=>DR) (λloc d h=>List.rec (motive:=λ_=>DR) (DR.norm md loc h) (λ_ _ _=>DR.fail [80]) d) (λid loc d h=>List.rec (motive:=λ_=>DR) (DR.exit id md loc h) (λ_ _ _=>DR.fail [80]) d)
  (λ_ d h=>List.rec (motive:=λ_=>DR) (DR.ret md h) (λ_ _ _=>DR.fail [80]) d) (λ_ _ _ _=>DR.fail [81]) DR.fail (evc c' loc [] h):DR)=r:=hr
 have dn:∀{ρ':Rho} {ds:List Deferred},DefsR ρ' [] ds->ds=[]:=λhd=>by cases hd;rfl
 cases h1:evc c' loc [] h with
 | fail l=>rw[h1] at hr;have hr:DR.fail l=r:=hr;rw[<-hr] at hgood;exact hgood.elim
 | pan v l d h2=>rw[h1] at hr;have hr:DR.fail [81]=r:=hr;rw[<-hr] at hgood;exact hgood.elim
 | norm l d h2=>
  rw[h1] at hr;cases d with
  | cons _ _=>have hr:DR.fail [80]=r:=hr;rw[<-hr] at hgood;exact hgood.elim
  | nil=>
   have hr:DR.norm md l h2=r:=hr;subst hr;refine wpS_of_wp (wp_mono (A _ h1 trivial) λe a' w' q=>?_);cases e<;>try exact q.elim
   obtain⟨ρ',q1,q2,q3,q4,q5⟩:=q;exact⟨ρ',u,rfl,hmd.mono q4.le,q1,dn q2,q3,q4,q5⟩
 | exit id l d h2=>
  rw[h1] at hr;cases d with
  | cons _ _=>have hr:DR.fail [80]=r:=hr;rw[<-hr] at hgood;exact hgood.elim
  | nil=>
   have hr:DR.exit id md l h2=r:=hr;subst hr;refine wpS_of_wp (wp_mono (A _ h1 trivial) λe a' w' q=>?_);cases e<;>try exact q.elim
   obtain⟨hid,ρ',q1,q2,q3,q4,q5⟩:=q;exact⟨hid,ρ',u,rfl,hmd.mono q4.le,q1,dn q2,q3,q4,q5⟩
 | ret l d h2=>
  rw[h1] at hr;cases d with
  | cons _ _=>have hr:DR.fail [80]=r:=hr;rw[<-hr] at hgood;exact hgood.elim
  | nil=>
   have hr:DR.ret md h2=r:=hr;subst hr;refine wpS_of_wp (wp_mono (A _ h1 trivial) λe a' w' q=>?_);cases e<;>try exact q.elim
   obtain⟨ρ',q1,q2,q3,q4,q5⟩:=q;exact⟨ρ',u,rfl,hmd.mono q4.le,dn q2,q3,q4,q5⟩
theorem zD9{ops:Array Oper}{Q:Exit->Act->List Frame->World->Prop}{i:Nat}{rest:List Nat}{o:Oper}{a:Act}{cs:List Frame}{w:World}(ho:ops[i]?=some o)(hg:o.guard=none)(hr:(execOp a.eval o).run P w=.ok .recover w)
  (h:match recoverD cs with | some (v,cs')=>wpOpsS P ops Q rest (a.put o.dst v) cs' w | none=>wpOpsS P ops Q rest (a.put o.dst .nilIface) cs w):wpOpsS P ops Q (i::rest) a cs w:=by
 unfold wpOpsS;rw[ho];simp only[Region.wanted,hg,if_true,hr];exact h
theorem wpOpsS_value{ops:Array Oper}{Q:Exit->Act->List Frame->World->Prop}{i:Nat}{rest:List Nat}{o:Oper}{a:Act}{cs:List Frame}{w:World}{v:Value}(ho:ops[i]?=some o)(hg:o.guard=none)(hr:(execOp a.eval o).run P w=.ok (.value v) w)
  (h:wpOpsS P ops Q rest (a.put o.dst v) cs w):wpOpsS P ops Q (i::rest) a cs w:=by
 unfold wpOpsS;rw[ho];simp only[Region.wanted,hg,if_true,hr];exact h
theorem recov_ok{m:List Nat}{ops:Array Oper}{id:Nat}{x y:Nat}(hs:zEi ops.toList=some (x,y))(hx:zAk m x=none){N:Nat}(hdst:∀o∈ops,∀x,o.dst=some x->x<N){md:Mode}{loc:T AV}{h:AH}{ρ:Rho}{a:Act}{w:World}{u:FrameMode}{c0:Frame}{cs:List Frame}
  (L:LocR ρ m loc a) (W:WR ρ h w) (hd:a.defers=[]) (hN:a.tmps.size=N) (hmd:ModeR ρ md u) :
  (Code.region id ops false).wpS P (QD ρ h w m N c0 cs (Mode.rec (motive:=λ_=>DR) (DR.norm Mode.ret (zAc (zAk m y) AV.nili loc) h) (λv r=>bi r (DR.norm (Mode.pan v r) (zAc (zAk m y) AV.nili loc) h) (DR.norm (Mode.pan v true) (zAc (zAk m y) v loc) h)) md)) a ({c0 with mode:=u}::cs) w:=by
 unfold zEi at hs;split at hs
 ·rename_i x1 args1 ats1 ty1 ps1 af1 y1 c1 ty2 ps2 af2 hops;split at hs
  ·rename_i hcond;injection hs with hs;injection hs with hs1 hs2;subst hs1;subst hs2;obtain⟨rfl,hargs⟩:=hcond;obtain⟨l⟩:=ops;have hops:l=_:=hops;subst hops;have b1:x1<a.tmps.size:=by rw[hN];exact hdst _ (List.mem_toArray.2 (q0H ..)) _ rfl
   have b2:y1<a.tmps.size:=by rw[hN];exact hdst _ (List.mem_toArray.2 (q0s _ (q0H ..))) _ rfl
   refine wpS_region ?_;have hput:∀(v:AV) (v':Value) (md2:Mode) (u2:FrameMode),VR ρ v v'->ModeR ρ md2 u2->QD ρ h w m N c0 cs (DR.norm md2 (zAc (zAk m y1) v loc) h) .normal ((a.put (some x1) v').put (some y1) ((a.put (some x1) v').eval (.tmp x1))) ({c0 with mode:=u2}::cs) w:=by
    intro v v' md2 u2 hv hm2;have he:(a.put (some x1) v').eval (.tmp x1)=v':=by
     show(a.put (some x1) v').tmps.getD x1 undef=v';rw[zEq (λx e=>by injection e with e;subst e;exact b1),if_pos rfl]
    rw[he];have hsz:(a.put (some x1) v').tmps.size=a.tmps.size:=zEs;refine⟨ρ,u2,rfl,hm2,?_,by simp[Act.put,hd],W,.refl _ _ _,by rw[zEs,hsz];exact hN⟩;have L1:LocR ρ m loc (a.put (some x1) v'):=by
     have:=LocR.put (d:=some x1) (m:=m) (loc:=loc) (λx e=>by injection e with e;subst e;exact b1) hv L;have e0:((some x1:Option Nat).bind (zAk m))=none:=hx;rw[e0] at this;exact this
    exact LocR.put (d:=some y1) (λx e=>by injection e with e;subst e;rw[hsz];exact b2) hv L1
   have hr1:∀{o:Oper} {a:Act},o={dst:=some x1,op:=Op.call {callee:=Callee.builtin Builtin.recover,args:=args1,argTypes:=ats1},type:=ty1,pos:=ps1,after:=af1,guard:=none}->(execOp a.eval o).run P w=.ok .recover w:=by
    intro o a e;subst e;simp[execOp,resolve,invoke,builtin]
   have fin:∀(v:AV) (v':Value) (md2:Mode) (u2:FrameMode),VR ρ v v'->ModeR ρ md2 u2->wpOpsS P _ (QD ρ h w m N c0 cs (DR.norm md2 (zAc (zAk m y1) v loc) h)) [1] (a.put (some x1) v') ({c0 with mode:=u2}::cs) w:=
    λv v' md2 u2 hv hm2=>wpOpsS_value (ops:=⟨[{dst:=some x1,op:=Op.call {callee:=Callee.builtin Builtin.recover,args:=args1,argTypes:=ats1},type:=ty1,pos:=ps1,after:=af1,guard:=none},{dst:=some y1,op:=Op.assign (Operand.tmp x1),type:=ty2,pos:=ps2,after:=af2,guard:=none}]⟩) (i:=1) rfl rfl rfl (hput v v' md2 u2 hv hm2)
   cases hmd with
   | ret=>exact zD9 (i:=0) (rest:=[1]) rfl rfl (hr1 rfl) (fin .nili .nilIface .ret .returning .nili .ret)
   | pan hv=>
    rename_i v v' r;cases r with
    | true=>exact zD9 (i:=0) (rest:=[1]) rfl rfl (hr1 rfl) (fin .nili .nilIface (.pan v true) _ .nili (.pan hv))
    | false=>exact zD9 (i:=0) (rest:=[1]) rfl rfl (hr1 rfl) (fin v v' (.pan v true) _ hv (.pan hv))
  ·cases hs
 ·cases hs
theorem evD_ok{n:Nat}(A:zJ8 P tab n):∀(c:Code) (c':ACode) (m:List Nat) (N:Nat),cCode P m c=some c'->dstOk N c=true->∀(md:Mode) (loc:T AV) (h:AH) (r:DR),evD (evC tab n) c' md loc h=r->r.good->
  ∀(ρ:Rho) (a:Act) (w:World) (u:FrameMode) (c0:Frame) (cs:List Frame),LocR ρ m loc a->WR ρ h w->a.defers=[]->N<=a.tmps.size->ModeR ρ md u->c.wpS P (QD ρ h w m a.tmps.size c0 cs r) a ({c0 with mode:=u}::cs) w:=by
 intro c
 have plain:∀(c:Code) (c':ACode) (m:List Nat) (N:Nat),cCode P m c=some c'->dstOk N c=true->∀(md:Mode) (loc:T AV) (h:AH) (r:DR),zE9 (evC tab n) c' md loc h=r->r.good->
  ∀(ρ:Rho) (a:Act) (w:World) (u:FrameMode) (c0:Frame) (cs:List Frame),LocR ρ m loc a->WR ρ h w->a.defers=[]->N<=a.tmps.size->ModeR ρ md u->c.wpS P (QD ρ h w m a.tmps.size c0 cs r) a ({c0 with mode:=u}::cs) w:=by
  intro c c' m N hc hd md loc h r hr hgood ρ a w u c0 cs L W hdf hN hmd;exact plain_d (λr1 h1 g1=>A m N c c' hc hd loc [] h r1 h1 g1 ρ a w L W (by rw[hdf];exact .nil) hN) hr hgood hmd
 induction c with
 | skip=>intro c' m N hc hd md loc h r hr;cases hc;exact plain _ _ m N rfl hd md loc h r hr
 | ret=>intro c' m N hc hd md loc h r hr;cases hc;exact plain _ _ m N rfl hd md loc h r hr
 | exit id=>intro c' m N hc hd md loc h r hr;cases hc;exact plain _ _ m N rfl hd md loc h r hr
 | loop x ih=>
  intro c' m N hc hd md loc h r hr;obtain⟨x',hx,hc'⟩:=bindS hc;injection hc' with hc';subst hc';exact plain _ _ m N hc hd md loc h r hr
 | region id ops draw=>
  intro c' m N hc hd md loc h r hr hgood ρ a w u c0 cs L W hdf hN hmd;have hcx:(match zDz P m ops draw with | some c=>some c | none=>some zKd)=some c':=hc;cases hcr:zDz P m ops draw with
  | none=>
   rw[hcr] at hcx;injection hcx with hcx;subst hcx;exact plain _ _ m N hc hd md loc h r hr hgood ρ a w u c0 cs L W hdf hN hmd
  | some c1=>
  rw[hcr] at hcx;injection hcx with hcx;subst hcx;cases draw with
  | true=>
   have hc0:(do let ord <-order ops (ancs ops) ops.size [];if zK1 ops (ancs ops) ord then(do some (ACode.ops (<-cDraw P m ops (ancs ops) ord [] []))) else none)=some c1:=hcr;obtain⟨ord,hord,hc1⟩:=bindS hc0;split at hc1
   ·obtain⟨aos,haos,hc1⟩:=bindS hc1;injection hc1 with hc1;subst hc1;exact plain _ _ m N hc hd md loc h r hr hgood ρ a w u c0 cs L W hdf hN hmd
   ·cases hc1
  | false=>
   have hc0:(if(ops.toList.any λo=>zFm o.op) then(do let r <-zEi ops.toList;if(zAk m r.1).isSome then none else some (ACode.recov (zAk m r.2))) else(do some (ACode.ops (<-zIf P m ops ops.toList []))))=some c1:=hcr;split at hc0
   ·obtain⟨⟨x,y⟩,hs,hc1⟩:=bindS hc0;split at hc1
    ·cases hc1
    ·rename_i hx;injection hc1 with hc1;subst hc1;have hx:zAk m x=none:=by
      cases hh:zAk m x with
      | none=>rfl
      | some k=>rw[hh] at hx;exact absurd rfl hx
     have hdst:∀o∈ops,∀x,o.dst=some x->x<a.tmps.size:=by
      intro o ho x hx;have hd:(ops.all λo=>match o.dst with | some d=>decide (d<N) | none=>true)=true:=hd;have:=Array.all_eq_true_iff_forall_mem.1 hd o ho;rw[hx] at this;exact q0d (of_decide_eq_true this) hN
     have:=recov_ok (P:=P) (id:=id) (c0:=c0) (cs:=cs) hs hx hdst L W hdf rfl hmd;have hr:(Mode.rec (motive:=λ_=>DR) (DR.norm Mode.ret (zAc (zAk m y) AV.nili loc) h) (λv r=>bi r (DR.norm (Mode.pan v r) (zAc (zAk m y) AV.nili loc) h) (DR.norm (Mode.pan v true) (zAc (zAk m y) v loc) h)) md)=r:=hr;rw[hr] at this;exact this
   ·obtain⟨aos,haos,hc1⟩:=bindS hc0;injection hc1 with hc1;subst hc1;exact plain _ _ m N hc hd md loc h r hr hgood ρ a w u c0 cs L W hdf hN hmd
 | seq x y ihx ihy=>
  intro c' m N hc hd md loc h r hr hgood ρ a w u c0 cs L W hdf hN hmd;obtain⟨x',hx,hc⟩:=bindS hc;obtain⟨y',hy,hc⟩:=bindS hc;cases hc;have hd:(dstOk N x&&dstOk N y)=true:=hd;rw[q0C] at hd;have hr:(DR.rec (motive:=λ_=>DR) (λm loc h=>evD (evC tab n) y' m loc h) DR.exit DR.ret DR.fail (evD (evC tab n) x' md loc h):DR)=r:=hr;refine wpS_seq ?_;cases h1:evD (evC tab n) x' md loc h with
  | fail l=>rw[h1] at hr;have hr:DR.fail l=r:=hr;rw[<-hr] at hgood;exact hgood.elim
  | norm md1 l1 h2=>
   rw[h1] at hr;refine zDh (ihx x' m N hx hd.1 md loc h _ h1 trivial ρ a w u c0 cs L W hdf hN hmd) λe a' cs' w' q=>?_;cases e<;>try exact q.elim
   obtain⟨ρ',u',rfl,q2,q3,q4,q5,q6,q7⟩:=q;have:=ihy y' m N hy hd.2 md1 l1 h2 r hr hgood ρ' a' w' u' c0 cs q3 q5 q4 (by omega) q2;rw[q7] at this;exact zDh this λe a2 cs2 w2 q=>q.trans q6
  | exit id md1 l1 h2=>
   rw[h1] at hr;have hr:DR.exit id md1 l1 h2=r:=hr;refine zDh (ihx x' m N hx hd.1 md loc h _ h1 trivial ρ a w u c0 cs L W hdf hN hmd) λe a' cs' w' q=>?_;rw[<-hr];cases e<;>first | exact q.elim | exact q
  | ret md1 h2=>
   rw[h1] at hr;have hr:DR.ret md1 h2=r:=hr;refine zDh (ihx x' m N hx hd.1 md loc h _ h1 trivial ρ a w u c0 cs L W hdf hN hmd) λe a' cs' w' q=>?_;rw[<-hr];cases e<;>first | exact q.elim | exact q
 | cond cc x y ihx ihy=>
  intro c' m N hc hd md loc h r hr hgood ρ a w u c0 cs L W hdf hN hmd;obtain⟨o,ho,hc⟩:=bindS hc;obtain⟨x',hx,hc⟩:=bindS hc;obtain⟨y',hy,hc⟩:=bindS hc;cases hc;have hd:(dstOk N x&&dstOk N y)=true:=hd;rw[q0C] at hd;have hv:=zHj (ρ:=ρ) (tmp:=[]) (ts:=[]) L zHa _ _ ho;have hr:AV.on (DR.fail [82]) (λq=>bi q (evD (evC tab n) x' md loc h) (evD (evC tab n) y' md loc h)) (λ_ _=>DR.fail [82]) (λ_ _=>DR.fail [82]) (λ_ _=>DR.fail [82]) (DR.fail [82]) (λ_ _ _ _=>DR.fail [82]) (DR.fail [82]) (λ_=>DR.fail [82]) (DR.fail [82]) (λ_ _ _=>DR.fail [82]) (DR.fail [82]) (λ_ _=>DR.fail [82]) (DR.fail [82]) (λ_=>DR.fail [82]) (λ_=>DR.fail [82]) (ev loc [] o)=r:=hr;generalize ev loc [] o=av at hv hr;cases av<;>try (have hr:DR.fail [82]=r:=hr;rw[<-hr] at hgood;exact hgood.elim)
  rename_i b;generalize hae:a.eval cc=vv at hv;cases hv;refine wpS_cond hae ?_;cases b with
  | true=>exact ihx x' m N hx hd.1 md loc h r hr hgood ρ a w u c0 cs L W hdf hN hmd
  | false=>exact ihy y' m N hy hd.2 md loc h r hr hgood ρ a w u c0 cs L W hdf hN hmd
 | block id x ih=>
  intro c' m N hc hd md loc h r hr hgood ρ a w u c0 cs L W hdf hN hmd;obtain⟨x',hx,hc⟩:=bindS hc;cases hc;have hr:(DR.rec (motive:=λ_=>DR) DR.norm (λid' m loc h=>bi (Nat.beq id id') (DR.norm m loc h) (DR.exit id' m loc h)) DR.ret DR.fail (evD (evC tab n) x' md loc h):DR)=r:=hr;refine wpS_block ?_;cases h1:evD (evC tab n) x' md loc h with
  | fail l=>rw[h1] at hr;have hr:DR.fail l=r:=hr;rw[<-hr] at hgood;exact hgood.elim
  | norm md1 l1 h2=>
   rw[h1] at hr;have hr:DR.norm md1 l1 h2=r:=hr;subst hr;refine zDh (ih x' m N hx hd md loc h _ h1 trivial ρ a w u c0 cs L W hdf hN hmd) λe a' cs' w' q=>?_;cases e<;>first | exact q.elim | exact q
  | ret md1 h2=>
   rw[h1] at hr;have hr:DR.ret md1 h2=r:=hr;subst hr;refine zDh (ih x' m N hx hd md loc h _ h1 trivial ρ a w u c0 cs L W hdf hN hmd) λe a' cs' w' q=>?_;cases e<;>first | exact q.elim | exact q
  | exit id' md1 l1 h2=>
   rw[h1] at hr;have hr:bi (Nat.beq id id') (DR.norm md1 l1 h2) (DR.exit id' md1 l1 h2)=r:=hr;refine zDh (ih x' m N hx hd md loc h _ h1 trivial ρ a w u c0 cs L W hdf hN hmd) λe a' cs' w' q=>?_;cases e<;>try exact q.elim
   rename_i id2;obtain⟨e1,p⟩:=q;subst e1;show if id'=id then _ else _;rw[bi_eq] at hr;by_cases hid:id'=id
   ·subst hid;rw[if_pos (q0K _)] at hr;rw[if_pos rfl,<-hr];exact p
   ·have:Nat.beq id id'=false:=by
     cases hb:Nat.beq id id' with
     | false=>rfl
     | true=>exact absurd (q0f hb).symm hid
    rw[this] at hr;have hr:DR.exit id' md1 l1 h2=r:=hr;rw[if_neg hid,<-hr];exact⟨rfl,p⟩
 | _=>intro c' m N hc hd md loc h r hr;have hc1:=hc;injection hc1 with hc1;subst hc1;exact plain _ _ m N hc hd md loc h r hr
end
variable[Glob]
theorem zJz:∀(l acc:List Nat),∃s,dedup acc l=acc.reverse++s
 | [],acc=>⟨[],by simp[dedup]⟩
 | x::l,acc=>by
  unfold dedup;split
  ·exact zJz l acc
  ·obtain⟨s,hs⟩:=zJz l (x::acc);exact⟨x::s,by rw[hs];simp⟩
theorem dedup_get(l:List Nat){n k:Nat}(h:k<n):(dedup (List.range n).reverse l)[k]?=some k:=by
 obtain⟨s,hs⟩:=zJz l (List.range n).reverse;rw[hs,List.reverse_reverse,List.getElem?_append_left (by simpa using h)];simp[h]
theorem slots_get{fn:Func}{c:Code}{k:Nat}(h:k<fn.params.size+fn.nfree):(slots fn c)[k]?=some k:=dedup_get _ h
section
variable{P:Program}{tab:Nat->Option AFunc}
theorem zH0{f:Nat}{af:AFunc}(h:cFunc P f=some af):∃fn c,P.funcs[f]?=some fn/\fn.body=some c/\dstOk fn.ntmps c=true/\zBc P f=true/\af.nargs=fn.params.size+fn.nfree/\cCode P (slots fn c) c=some af.body/\fn.results.toList.mapM (cRes P (slots fn c))=some af.res:=by
 obtain⟨fn,hfn,h⟩:=bindS h;obtain⟨c,hc,h⟩:=bindS h;have h:(if fn.name= "runtime.NumGoroutine" \/dstOk fn.ntmps c=false then none else(do some {nargs:=fn.params.size+fn.nfree,body:=<-cCode P (slots fn c) c,res:=<-fn.results.toList.mapM (cRes P (slots fn c))}))=some af:=h
 split at h
 ·cases h
 ·rename_i hcond;obtain⟨b,hb,h⟩:=bindS h;obtain⟨rs,hrs,h⟩:=bindS h;injection h with h;subst h;have h1:fn.name≠ "runtime.NumGoroutine" :=λe=>hcond (.inl e)
  have h2:dstOk fn.ntmps c=true:=by
   cases hd:dstOk fn.ntmps c with
   | true=>rfl
   | false=>exact absurd (.inr hd) hcond
  refine⟨fn,c,hfn,hc,h2,?_,rfl,hb,hrs⟩;unfold zBc;rw[hfn];simp[h1,hc]
def zEk(fn:Func)(args':List Value):Act:={tmps:=args'.toArray++Array.replicate (fn.ntmps-args'.toArray.size) undef,defers:=[]}
theorem zCv(fn:Func)(args':List Value):fn.ntmps<=(zEk fn args').tmps.size:=by
 simp[zEk];omega
theorem zHs{ρ:Rho}{fn:Func}{c:Code}{args:List AV}{args':List Value}(hlen:args.length=fn.params.size+fn.nfree)(ha:VRs ρ args args'):LocR ρ (slots fn c) (zAb args) (zEk fn args'):=by
 intro t k hk;have hm:=zFp hk;have hl:=ha.length;unfold slot zAb;rw[zAe];rcases q0x k args.length with h | h
 ·rw[slots_get (by omega)] at hm;injection hm with hm;subst hm;have:args[k]?=some args[k]:=q0a h;obtain⟨v,hv,hr⟩:=ha.get this;rw[this];show VR ρ args[k] _;have hk':k<args'.length:=by omega
  have:(zEk fn args').tmps.getD k undef=v:=by
   have h2:(zEk fn args').tmps[k]?=some v:=by
    simp only[zEk];rw[Array.getElem?_append_left (by simpa using hk')];simpa using hv
   rw[Array.getD_eq_getD_getElem?,h2];rfl
  rw[this];exact hr
 ·rw[q0i h];exact .bad _
theorem load_res{ρ:Rho}{h:AH}{w:World}(W:WR ρ h w){id off:Nat}{c:T AV}{s:Nat}{o:Option Nat}{r:Bool}{t:TypeId}{v:Value}(hg:h.mem.get id=some (.cells c s o r))(hv:VR ρ (.ptr id off) v) :
  ∃addr,v=.pointer (some addr)/\(∀a,tyAgg P t=some false->c.get off=some a->∃u,(loadVar t addr).run P w=.ok u w/\VR ρ a u)/\
   ∀n l,tyAgg P t=some true->zAm P t=some n->loadL c n off=some l->∃u,(loadVar t addr).run P w=.ok u w/\VR ρ (.agg l) u:=by
 cases hv with
 | ptr hr hp=>
  subst hp;obtain⟨y,hy,hyr⟩:=W.obj hg hr;refine⟨_,rfl,λa ht ha=>?_,λn l ht hn hl=>?_⟩
  ·cases hyr with
   | cells a1 a2 a3 a4 a5=>
    obtain⟨_,_,u,hu,hur⟩:=a3 _ _ ha;refine⟨u,?_,hur⟩;simp only[loadVar,Sem.run_bind,zC1 ht,Result.andThen_ok,q0G,if_false,run_load,zHz hy hu]
  ·obtain⟨l',hrun,hl'⟩:=zEg (P:=P) hy hyr hl;refine⟨_,?_,.agg hl' rfl⟩;simp only[loadVar,Sem.run_bind,zC1 ht,Result.andThen_ok,if_true,zAj hn,hrun];rfl
theorem zH2{ρ:Rho}{m:List Nat}{loc:T AV}{a:Act}{h:AH}{w:World}(L:LocR ρ m loc a)(W:WR ρ h w)(g:ResultVar->Sem Value)(hg1:∀t,(g (.tmp t)).run P w=.ok (a.tmps.getD t undef) w)
  (hg2:∀x t addr u,a.tmps.getD x undef=.pointer (some addr)->(loadVar t addr).run P w=.ok u w->(g (.cell x t)).run P w=.ok u w):∀(l:List ResultVar) (rs:List ARes) (vs:List AV),l.mapM (cRes P m)=some rs->results rs loc h=some vs->∃us:List Value,(l.mapM g).run P w=.ok us w/\VRs ρ vs us
 | [],rs,vs,hc,hr=>by
  simp at hc;subst hc;injection hr with hr;subst hr;exact⟨[],by simp,.nil⟩
 | x::l,rs,vs,hc,hr=>by
  rw[List.mapM_cons] at hc;obtain⟨r1,h1,hc⟩:=bindS hc;obtain⟨rs',h2,hc⟩:=bindS hc;cases hc
  have hr:obind (results rs' loc h) none (λl=>ARes.rec (motive:=λ_=>Option (List AV)) (λx=>some (ev loc [] x::l))
   (λx=>AV.on none (λ_=>none) (λ_ _=>none) (λ_ _=>none) (λid off=>obind (AH.get h id) none λo=>AObj.rec (motive:=λ_=>Option (List AV)) (λc _ _ _=>obind (T.get c off) none λv=>some (v::l)) (λ_ _=>none) (λ_ _ _ _=>none) o) none (λ_ _ _ _=>none) none (λ_=>none) none (λ_ _ _=>none) none (λ_ _=>none) none (λ_=>none) (λ_=>none) (ev loc [] x))
   (λn x=>AV.on none (λ_=>none) (λ_ _=>none) (λ_ _=>none) (λid off=>obind (AH.get h id) none λo=>AObj.rec (motive:=λ_=>Option (List AV)) (λc _ _ _=>obind (loadL c n off) none λv=>some (AV.agg v::l)) (λ_ _=>none) (λ_ _ _ _=>none) o) none (λ_ _ _ _=>none) none (λ_=>none) none (λ_ _ _=>none) none (λ_ _=>none) none (λ_=>none) (λ_=>none) (ev loc [] x)) r1)=some vs:=hr
  cases hrr:results rs' loc h with
  | none=>rw[hrr] at hr;cases hr
  | some vs'=>
   rw[hrr] at hr;obtain⟨us,hus,hvs⟩:=zH2 L W g hg1 hg2 l rs' vs' h2 hrr;have O:=zHj (ρ:=ρ) (tmp:=[]) (ts:=[]) L zHa;have fin:∀{v:AV} {u:Value},(g x).run P w=.ok u w->VR ρ v u->some (v::vs')=some vs->∃us:List Value,((x::l).mapM g).run P w=.ok us w/\VRs ρ vs us:=by
    intro v u hrun hv e;injection e with e;subst e;refine⟨u::us,?_,.cons hv hvs⟩;rw[List.mapM_cons];simp only[Sem.run_bind,hrun,Result.andThen_ok,hus,Sem.run_pure]
   cases x with
   | tmp t=>
    obtain⟨y,hy,e⟩:=mapS h1;subst e;exact fin (hg1 t) (O _ _ hy) hr
   | cell x t=>
    obtain⟨y,hy,h1⟩:=bindS h1;obtain⟨ga,hga,h1⟩:=bindS h1;have hv:VR ρ (ev loc [] y) (a.tmps.getD x undef):=O _ _ hy;cases ga with
    | true=>
     obtain⟨n,hn,h1⟩:=bindS h1;injection h1 with h1;subst h1;generalize hev:ev loc [] y=av at hv;have hr:AV.on none (λ_=>none) (λ_ _=>none) (λ_ _=>none) (λid off=>obind (AH.get h id) none λo=>AObj.rec (motive:=λ_=>Option (List AV)) (λc _ _ _=>obind (loadL c n off) none λv=>some (AV.agg v::vs')) (λ_ _=>none) (λ_ _ _ _=>none) o) none (λ_ _ _ _=>none) none (λ_=>none) none (λ_ _ _=>none) none (λ_ _=>none) none (λ_=>none) (λ_=>none) (ev loc [] y)=some vs:=hr;rw[hev] at hr;cases av<;>try (cases hr;done)
     rename_i id off;have hr:obind (AH.get h id) none (λo=>AObj.rec (motive:=λ_=>Option (List AV)) (λc _ _ _=>obind (loadL c n off) none λv=>some (AV.agg v::vs')) (λ_ _=>none) (λ_ _ _ _=>none) o)=some vs:=hr;rw[q2f] at hr;cases hgt:h.mem.get id with
     | none=>rw[hgt] at hr;cases hr
     | some ob=>
      rw[hgt] at hr;cases ob<;>try (cases hr;done)
      rename_i c s o r;have hr:obind (loadL c n off) none (λv=>some (AV.agg v::vs'))=some vs:=hr;cases hl:loadL c n off with
      | none=>rw[hl] at hr;cases hr
      | some ll=>
       rw[hl] at hr;obtain⟨addr,e1,_,e3⟩:=load_res (P:=P) (t:=t) W hgt hv;obtain⟨u,hrun,hvu⟩:=e3 n ll hga hn hl;exact fin (hg2 x t addr u e1 hrun) hvu hr
    | false=>
     injection h1 with h1;subst h1;generalize hev:ev loc [] y=av at hv;have hr:AV.on none (λ_=>none) (λ_ _=>none) (λ_ _=>none) (λid off=>obind (AH.get h id) none λo=>AObj.rec (motive:=λ_=>Option (List AV)) (λc _ _ _=>obind (T.get c off) none λv=>some (v::vs')) (λ_ _=>none) (λ_ _ _ _=>none) o) none (λ_ _ _ _=>none) none (λ_=>none) none (λ_ _ _=>none) none (λ_ _=>none) none (λ_=>none) (λ_=>none) (ev loc [] y)=some vs:=hr;rw[hev] at hr;cases av<;>try (cases hr;done)
     rename_i id off;have hr:obind (AH.get h id) none (λo=>AObj.rec (motive:=λ_=>Option (List AV)) (λc _ _ _=>obind (T.get c off) none λv=>some (v::vs')) (λ_ _=>none) (λ_ _ _ _=>none) o)=some vs:=hr;rw[q2f] at hr;cases hgt:h.mem.get id with
     | none=>rw[hgt] at hr;cases hr
     | some ob=>
      rw[hgt] at hr;cases ob<;>try (cases hr;done)
      rename_i c s o r;have hr:obind (T.get c off) none (λv=>some (v::vs'))=some vs:=hr;cases hl:T.get c off with
      | none=>rw[hl] at hr;cases hr
      | some ll=>
       rw[hl] at hr;obtain⟨addr,e1,e2,_⟩:=load_res (P:=P) (t:=t) W hgt hv;obtain⟨u,hrun,hvu⟩:=e2 ll hga hl;exact fin (hg2 x t addr u e1 hrun) hvu hr
theorem zKi{ρ:Rho}{m:List Nat}{loc:T AV}{a:Act}{h:AH}{w:World}{fn:Func}{rs:List ARes}{vs:List AV}(L:LocR ρ m loc a)(W:WR ρ h w)(hc:fn.results.toList.mapM (cRes P m)=some rs)(hr:results rs loc h=some vs) :
  ∃u,(Go.results fn a.tmps).run P w=.ok u w/\VR ρ (one vs) u:=by
 let g:ResultVar->Sem Value:=fun
  | .tmp t=>pure (a.tmps.getD t undef)
  | .cell x t=>do loadVar t (<-asAddr (a.tmps.getD x undef))
 obtain⟨us,hus,hvs⟩:=zH2 (P:=P) L W g (λt=>rfl) (λx t addr u e1 hrun=>by
  show(do loadVar t (<-asAddr (a.tmps.getD x undef)):Sem Value).run P w=_;rw[e1];simp only[asAddr,Sem.run_bind,Sem.run_pure,Result.andThen_ok,hrun]) _ _ _ hc hr
 have hm:(fn.results.mapM g).run P w=.ok us.toArray w:=by
  rw[Array.mapM_eq_mapM_toList];simp only[Sem.run_map,hus];rfl
 refine⟨if h:us.toArray.size=1 then us.toArray[0] else .tuple us.toArray,?_,?_⟩
 ·show(do let vs <-fn.results.mapM g;pure (if h:vs.size=1 then vs[0] else .tuple vs):Sem Value).run P w=_;simp only[Sem.run_bind,hm,Result.andThen_ok,Sem.run_pure]
 ·cases hvs with
  | nil=>exact .tup .nil rfl
  | cons h1 h2=>
   cases h2 with
   | nil=>exact h1
   | cons h3 h4=>
    rw[dif_neg (by simp)];exact .tup (.cons h1 (.cons h3 h4)) rfl
def RC(ρ0:Rho)(h0:AH)(w0:World):CR->Ending->World->Prop
 | .ret v h',e,w'=>∃ρ' v',e=.returned v'/\VR ρ' v v'/\WR ρ' h' w'/\Step ρ0 h0 w0 ρ' h' w'
 | .pan v h',e,w'=>∃ρ' v',e=.panicked [{v:=v',recovered:=false}]/\VR ρ' v v'/\WR ρ' h' w'/\Step ρ0 h0 w0 ρ' h' w'
 | .fail _,_,_=>False
def CR.good:CR->Prop
 | .fail _=>False
 | _=>True
inductive Going:Mode->Prop
 | ret:Going .ret
 | pan (v:AV):Going (.pan v false)
def zCe:Nat->Nat->List Opd
 | 0,_=>[]
 | n+1,i=>.l i::zCe n (i+1)
def natF(n:Nat)(g:List AV->AH->Option (AV×AH)):AFunc:=.mk n (.ops [⟨.nat g (zCe n 0),none,some 0,[]⟩]) [.val (.l 0)]
noncomputable def knownF(n:Nat)(rows:List (List AV×AV)):AFunc:=natF n (rowsG rows)
def NatOK(P:Program)(f:Nat)(g:List AV->AH->Option (AV×AH)):Prop:=zBc P f=true/\∀(args:List AV) (h:AH) (v:AV) (h':AH),g args h=some (v,h')->
 ∀(ρ:Rho) (w:World) (args':List Value),VRs ρ args args'->WR ρ h w->Calls P f args'.toArray w (RC ρ h w (.ret v h'))
def TabOK(P:Program)(tab:Nat->Option AFunc):Prop:=∀f af,tab f=some af->cFunc P f=some af\/∃n g,af=natF n g/\NatOK P f g
theorem zJv:∀(n i:Nat) (args:List AV),i+n<=args.length->evs (zAa args) [] (zCe n i)=(args.drop i).take n
 | 0,i,args,_=>by simp[zCe];rfl
 | n+1,i,args,h=>by
  show ev (zAa args) [] (.l i)::evs (zAa args) [] (zCe n (i+1))=_;rw[zJv n (i+1) args (by omega)];have hi:i<args.length:=by omega
  have:ev (zAa args) [] (.l i)=args[i]:=by
   show obind (T.get (zAa args) i) AV.bad (λv=>v)=_;rw[zAe,q0a hi];rfl
  rw[this,List.drop_eq_getElem_cons (i:=i) hi,List.take_succ_cons]
theorem zIc{args:List AV}{v:AV}:∀{rows:List (List AV×AV)},zJs args rows=some v->∃r∈rows,r.1=args/\r.2=v
 | [],h=>by cases h
 | r::rows,h=>by
  have h:bi (same (.tup r.1) (.tup args)) (some r.2) (zJs args rows)=some v:=h;rw[bi_eq] at h;split at h
  ·rename_i hs;injection h with h;exact⟨r,by simp,zFv hs,h⟩
  ·obtain⟨r',h1,h2⟩:=zIc h;exact⟨r',by simp[h1],h2⟩
theorem zDr{n:Nat}(htab:TabOK P tab)(A:zJ8 P tab n){fn:Func}{m:List Nat}{rs:List ARes}{loc:T AV}{a:Act}{ρ0:Rho}{h0:AH}{w0:World}(hrs:fn.results.toList.mapM (cRes P m)=some rs) :
  ∀(ds:List AV) (md:Mode) (h:AH) (r:CR),runD tab (evC tab n) (zAn rs loc) ds md h=r->r.good->Going md->∀(ρ:Rho) (w:World) (u:FrameMode) (ds':List Deferred),DefsR ρ ds ds'->LocR ρ m loc a->WR ρ h w->Step ρ0 h0 w0 ρ h w->ModeR ρ md u->
  Leaves P fn a.tmps (RC ρ0 h0 w0 r) ds' u w
 | [],md,h,r,hr,hgood,hgo,ρ,w,u,ds',hds,L,W,S,hmd=>by
  cases hds;have hr:(Mode.rec (motive:=λ_=>CR) (obind (results rs loc h) (CR.fail [86]) λl=>CR.ret (one l) h) (λv _=>CR.pan v h) md)=r:=hr;cases hmd with
  | ret=>
   have hr:obind (results rs loc h) (CR.fail [86]) (λl=>CR.ret (one l) h)=r:=hr;cases hres:results rs loc h with
   | none=>rw[hres] at hr;have hr:CR.fail [86]=r:=hr;rw[<-hr] at hgood;exact hgood.elim
   | some vs=>
    rw[hres] at hr;have hr:CR.ret (one vs) h=r:=hr;subst hr;obtain⟨v,hrun,hv⟩:=zKi L W hrs hres;exact⟨v,hrun,ρ,v,rfl,hv,W,S⟩
  | pan hv=>
   have hr:CR.pan _ h=r:=hr;subst hr;cases hgo;exact⟨ρ,_,rfl,hv,W,S⟩
 | d::ds,md,h,r,hr,hgood,hgo,ρ,w,u,ds',hds,L,W,S,hmd=>by
  cases hds with
  | cons hd hds=>
   rename_i dd ds';obtain⟨f,first,caps,first',caps',rfl,rfl,hf1,hf2⟩:=hd
   have hr:obind (tab f) (CR.fail [84]) (λfn=>AFunc.rec (motive:=λ_=>CR) (λn1 body rs1=>bi (Nat.beq n1 (llen (lapp first caps)))
    (List.rec (motive:=λ_=>CR) (DR.rec (motive:=λ_=>CR)
     (λm _ h=>Mode.rec (motive:=λ_=>CR) (runD tab (evC tab n) (zAn rs loc) ds Mode.ret h) (λv r=>bi r (runD tab (evC tab n) (zAn rs loc) ds Mode.ret h) (runD tab (evC tab n) (zAn rs loc) ds (Mode.pan v r) h)) m) (λ_ _ _ _=>CR.fail [85])
     (λm h=>Mode.rec (motive:=λ_=>CR) (runD tab (evC tab n) (zAn rs loc) ds Mode.ret h) (λv r=>bi r (runD tab (evC tab n) (zAn rs loc) ds Mode.ret h) (runD tab (evC tab n) (zAn rs loc) ds (Mode.pan v r) h)) m) CR.fail (evD (evC tab n) body md (zAb (lapp first caps)) h)) (λ_ _ _=>CR.fail [93]) rs1) (CR.fail [92])) fn)=r:=hr
   cases ht:tab f with
   | none=>rw[ht] at hr;have hr:CR.fail [84]=r:=hr;rw[<-hr] at hgood;exact hgood.elim
   | some af=>
    rw[ht] at hr;rcases htab f af ht with hcf | ⟨k0,rows,rfl,_⟩
    rotate_left
    ·have hr:bi (Nat.beq k0 (llen (lapp first caps))) (CR.fail [93]) (CR.fail [92])=r:=hr;rw[bi_eq] at hr;split at hr<;>(rw[<-hr] at hgood;exact hgood.elim)
    obtain⟨fn1,c,hfn,hbody,hdst,hcb,hna,hcode,hres1⟩:=zH0 hcf;obtain⟨n1,body,rs1⟩:=af
    have hr:bi (Nat.beq n1 (llen (lapp first caps)))
     (List.rec (motive:=λ_=>CR) (DR.rec (motive:=λ_=>CR)
      (λm _ h=>Mode.rec (motive:=λ_=>CR) (runD tab (evC tab n) (zAn rs loc) ds Mode.ret h) (λv r=>bi r (runD tab (evC tab n) (zAn rs loc) ds Mode.ret h) (runD tab (evC tab n) (zAn rs loc) ds (Mode.pan v r) h)) m) (λ_ _ _ _=>CR.fail [85])
      (λm h=>Mode.rec (motive:=λ_=>CR) (runD tab (evC tab n) (zAn rs loc) ds Mode.ret h) (λv r=>bi r (runD tab (evC tab n) (zAn rs loc) ds Mode.ret h) (runD tab (evC tab n) (zAn rs loc) ds (Mode.pan v r) h)) m) CR.fail (evD (evC tab n) body md (zAb (lapp first caps)) h)) (λ_ _ _=>CR.fail [93]) rs1) (CR.fail [92])=r:=hr
    rw[bi_eq] at hr;split at hr
    ·rename_i hlen;cases rs1 with
     | cons _ _=>have hr:CR.fail [93]=r:=hr;rw[<-hr] at hgood;exact hgood.elim
     | nil=>
      have hlen:=q0f hlen;rw[zBd,zCt] at hlen;have hna:n1=fn1.params.size+fn1.nfree:=hna;have hra:VRs ρ (first++caps) (first'++caps'):=hf1.append hf2;have L1:=zHs (fn:=fn1) (c:=c) (by omega) hra;have hnil:fn1.results.toList=[]:=by
       cases hl:fn1.results.toList with
       | nil=>rfl
       | cons x l=>
        have hres1:fn1.results.toList.mapM (cRes P (slots fn1 c))=some []:=hres1;rw[hl,List.mapM_cons] at hres1;obtain⟨_,_,h3⟩:=bindS hres1;obtain⟨_,_,h3⟩:=bindS h3;cases h3
      have hnil2:fn1.results=#[]:=by apply Array.ext';simpa using hnil
      have hrun0:∀tm w1,(Go.results fn1 tm).run P w1=.ok (.tuple #[]) w1:=λtm w1=>by simp[Go.results,hnil2]
      have hr:(DR.rec (motive:=λ_=>CR)
       (λm _ h=>Mode.rec (motive:=λ_=>CR) (runD tab (evC tab n) (zAn rs loc) ds Mode.ret h) (λv r=>bi r (runD tab (evC tab n) (zAn rs loc) ds Mode.ret h) (runD tab (evC tab n) (zAn rs loc) ds (Mode.pan v r) h)) m) (λ_ _ _ _=>CR.fail [85])
       (λm h=>Mode.rec (motive:=λ_=>CR) (runD tab (evC tab n) (zAn rs loc) ds Mode.ret h) (λv r=>bi r (runD tab (evC tab n) (zAn rs loc) ds Mode.ret h) (runD tab (evC tab n) (zAn rs loc) ds (Mode.pan v r) h)) m) CR.fail (evD (evC tab n) body md (zAb (lapp first caps)) h))=r:=hr
      have hu:u≠.run:=by cases hmd<;>simp
      have hinv:∀w,(invoke (.fn (.func f) caps'.toArray) first'.toArray).run P w=.ok (.enter f (first'++caps').toArray) w:=by
       intro w;simp only[invoke,zFe hcb];congr 2;apply Array.ext';simp
      refine leaves_cons hu (hinv w) ?_;rw[zCt] at hr
      have go:∀(md1:Mode) (h1:AH) (ρ1:Rho) (u1:FrameMode) (w1:World),(Mode.rec (motive:=λ_=>CR) (runD tab (evC tab n) (zAn rs loc) ds Mode.ret h1) (λv r=>bi r (runD tab (evC tab n) (zAn rs loc) ds Mode.ret h1) (runD tab (evC tab n) (zAn rs loc) ds (Mode.pan v r) h1)) md1)=r->
        ModeR ρ1 md1 u1->WR ρ1 h1 w1->Step ρ h w ρ1 h1 w1->Leaves P fn a.tmps (RC ρ0 h0 w0 r) ds' (settle u1) w1:=by
       intro md1 h1 ρ1 u1 w1 hr1 hm1 W1 S1;cases hm1 with
       | ret=>exact zDr htab A hrs ds .ret h1 r hr1 hgood .ret ρ1 w1 _ ds' (hds.mono S1.le) (L.mono S1.le) W1 (S.trans S1) .ret
       | pan hv=>
        rename_i v v' rc;cases rc with
        | true=>exact zDr htab A hrs ds .ret h1 r hr1 hgood .ret ρ1 w1 _ ds' (hds.mono S1.le) (L.mono S1.le) W1 (S.trans S1) .ret
        | false=>exact zDr htab A hrs ds (.pan v false) h1 r hr1 hgood (.pan v) ρ1 w1 _ ds' (hds.mono S1.le) (L.mono S1.le) W1 (S.trans S1) (.pan hv)
      refine callsD_of_wpS hfn hbody λc0 cs hc0=>?_;have hc0':c0={c0 with mode:=u}:=by subst hc0;rfl
      have D:=evD_ok A c body (slots fn1 c) fn1.ntmps hcode hdst md (zAb (first++caps)) h _ rfl;cases hev:evD (evC tab n) body md (zAb (first++caps)) h with
      | fail l=>rw[hev] at hr;have hr:CR.fail l=r:=hr;rw[<-hr] at hgood;exact hgood.elim
      | exit id md1 l1 h1=>rw[hev] at hr;have hr:CR.fail [85]=r:=hr;rw[<-hr] at hgood;exact hgood.elim
      | norm md1 l1 h1=>
       rw[hev] at hr D;have D:=D trivial ρ (zEk fn1 (first'++caps')) w u c0 cs L1 W rfl (zCv _ _) hmd;rw[<-hc0'] at D;refine zDh D λe a' cs' w' q=>?_;cases e<;>try exact q.elim
       obtain⟨ρ1,u1,q1,q2,q3,q4,q5,q6,q7⟩:=q;exact⟨q4,u1,q1,_,hrun0 _ _,go md1 h1 ρ1 u1 w' hr q2 q5 q6⟩
      | ret md1 h1=>
       rw[hev] at hr D;have D:=D trivial ρ (zEk fn1 (first'++caps')) w u c0 cs L1 W rfl (zCv _ _) hmd;rw[<-hc0'] at D;refine zDh D λe a' cs' w' q=>?_;cases e<;>try exact q.elim
       obtain⟨ρ1,u1,q1,q2,q4,q5,q6,q7⟩:=q;exact⟨q4,u1,q1,_,hrun0 _ _,go md1 h1 ρ1 u1 w' hr q2 q5 q6⟩
    ·have hr:CR.fail [92]=r:=hr;rw[<-hr] at hgood;exact hgood.elim
end
end Go.Ev
namespace Go.Ev
open Go
section
variable[Glob]
section
variable{P:Program}{tab:Nat->Option AFunc}
theorem defs_nil{ρ:Rho}{ds:List Deferred}(h:DefsR ρ [] ds):ds=[]:=by cases h;rfl
theorem zIw{n:Nat}(htab:TabOK P tab)(A:zJ8 P tab n){f:Nat}{args:List AV}{h:AH}{r:CR}(hr:zAw tab (evC tab n) f args h=r)(hgood:r.good) :
  zBc P f=true/\∀{ρ:Rho} {w:World} {args':List Value},VRs ρ args args'->WR ρ h w->Calls P f args'.toArray w (RC ρ h w r):=by
 have hr:obind (tab f) (CR.fail [87,f]) (λfn=>AFunc.rec (motive:=λ_=>CR) (λn1 body rs=>bi (Nat.beq n1 (llen args))
  (Res.rec (motive:=λ_=>CR) (λloc d h=>runD tab (evC tab n) (zAn rs loc) d Mode.ret h) (λ_ _ _ _=>CR.fail [88]) (λloc d h=>runD tab (evC tab n) (zAn rs loc) d Mode.ret h)
   (λv loc d h=>runD tab (evC tab n) (zAn rs loc) d (Mode.pan v false) h) (λl=>CR.fail (f::l)) (evC tab n body (zAb args) [] h)) (CR.fail [92])) fn)=r:=hr
 cases ht:tab f with
 | none=>rw[ht] at hr;have hr:CR.fail [87,f]=r:=hr;rw[<-hr] at hgood;exact hgood.elim
 | some af=>
  rw[ht] at hr;rcases htab f af ht with hcf | ⟨k0,g,rfl,hyes⟩
  rotate_left
  ·have hr:bi (Nat.beq k0 (llen args)) (Res.rec (motive:=λ_=>CR) (λloc d h=>runD tab (evC tab n) (zAn [.val (.l 0)] loc) d Mode.ret h) (λ_ _ _ _=>CR.fail [88]) (λloc d h=>runD tab (evC tab n) (zAn [.val (.l 0)] loc) d Mode.ret h)
    (λv loc d h=>runD tab (evC tab n) (zAn [.val (.l 0)] loc) d (Mode.pan v false) h) (λl=>CR.fail (f::l)) (evC tab n (.ops [⟨.nat g (zCe k0 0),none,some 0,[]⟩]) (zAb args) [] h)) (CR.fail [92])=r:=hr
   rw[bi_eq] at hr;split at hr
   ·rename_i hlen;have hlen:=q0f hlen;rw[zBd] at hlen;cases n with
    | zero=>have hr:CR.fail [f,91]=r:=hr;rw[<-hr] at hgood;exact hgood.elim
    | succ n=>
     have hargs:evs (zAb args) [] (zCe k0 0)=args:=by
      show evs (zAa args) [] (zCe k0 0)=args;rw[zJv k0 0 args (by omega),hlen];simp
     have hev:evOp (.nat g (zCe k0 0)) (zAb args) [] h=obind (g args h) (F 67) λr=>Prod.rec (motive:=λ_=>OR) (λv h=>OR.val v h) r:=by
      show obind (g (evs (zAb args) [] (zCe k0 0)) h) (F 67) (λr=>Prod.rec (motive:=λ_=>OR) (λv h=>OR.val v h) r)=_;rw[hargs]
     have hC:evC tab (n+1) (.ops [⟨.nat g (zCe k0 0),none,some 0,[]⟩]) (zAb args) [] h=(OR.rec (motive:=λ_=>Res) (λv h=>Res.norm (T.put (some v) (zAb args) 0) [] h)
       (opEnter (zAw tab (evC tab n)) [⟨.nat g (zCe k0 0),none,some 0,[]⟩] (zAb args) (evOps (zAw tab (evC tab n)) [⟨.nat g (zCe k0 0),none,some 0,[]⟩] (zAb args) []) (zAb args) [] [] h (some 0) [])
       (opPan [⟨.nat g (zCe k0 0),none,some 0,[]⟩] (zAb args) [] h) (opDfr (evOps (zAw tab (evC tab n)) [⟨.nat g (zCe k0 0),none,some 0,[]⟩] (zAb args) []) (zAb args) [] [] h (some 0)) opFail (evOp (.nat g (zCe k0 0)) (zAb args) [] h):Res):=rfl
     rw[hC,hev] at hr;cases hf:g args h with
     | none=>rw[hf] at hr;have hr:CR.fail [f,67]=r:=hr;rw[<-hr] at hgood;exact hgood.elim
     | some x=>
      obtain⟨v,h1⟩:=x;rw[hf] at hr;have hr:obind (some [ev (T.put (some v) (zAb args) 0) [] (.l 0)]) (CR.fail [86]) (λl=>CR.ret (one l) h1)=r:=hr;have hv:ev (T.put (some v) (zAb args) 0) [] (.l 0)=v:=by
       show obind (T.get (T.put (some v) (zAb args) 0) 0) AV.bad (λv=>v)=v;rw[q1b];rfl
      rw[hv] at hr;have hr:CR.ret v h1=r:=hr;subst hr;exact⟨hyes.1,λ{ρ w args'} ha W=>hyes.2 args h v h1 hf ρ w args' ha W⟩
   ·have hr:CR.fail [92]=r:=hr;rw[<-hr] at hgood;exact hgood.elim
  obtain⟨fn,c,hfn,hbody,hdst,hcb,hna,hcode,hres⟩:=zH0 hcf;obtain⟨n1,body,rs⟩:=af
  have hr:bi (Nat.beq n1 (llen args))
   (Res.rec (motive:=λ_=>CR) (λloc d h=>runD tab (evC tab n) (zAn rs loc) d Mode.ret h) (λ_ _ _ _=>CR.fail [88]) (λloc d h=>runD tab (evC tab n) (zAn rs loc) d Mode.ret h)
    (λv loc d h=>runD tab (evC tab n) (zAn rs loc) d (Mode.pan v false) h) (λl=>CR.fail (f::l)) (evC tab n body (zAb args) [] h)) (CR.fail [92])=r:=hr
  rw[bi_eq] at hr;split at hr
  ·rename_i hlen;refine⟨hcb,λ{ρ w args'} ha W=>?_⟩;have hlen:=q0f hlen;rw[zBd] at hlen;have hna:n1=fn.params.size+fn.nfree:=hna;have L1:=zHs (fn:=fn) (c:=c) (ρ:=ρ) (args':=args') (by omega) ha;refine calls_of_wp_defers hfn hbody ?_;have X:=A (slots fn c) fn.ntmps c body hcode hdst (zAb args) [] h _ rfl;cases hev:evC tab n body (zAb args) [] h with
   | fail l=>rw[hev] at hr;have hr:CR.fail (f::l)=r:=hr;rw[<-hr] at hgood;exact hgood.elim
   | exit id l d h1=>rw[hev] at hr;have hr:CR.fail [88]=r:=hr;rw[<-hr] at hgood;exact hgood.elim
   | norm l d h1=>
    rw[hev] at hr X;refine wp_mono (X trivial ρ (zEk fn args') w L1 W .nil (zCv _ _)) λe a' w' q=>?_;cases e<;>try exact q.elim
    obtain⟨ρ1,q1,q2,q3,q4,q5⟩:=q;exact zDr htab A hres d .ret h1 r hr hgood .ret ρ1 w' _ a'.defers q2 q1 q3 q4 .ret
   | ret l d h1=>
    rw[hev] at hr X;refine wp_mono (X trivial ρ (zEk fn args') w L1 W .nil (zCv _ _)) λe a' w' q=>?_;cases e<;>try exact q.elim
    obtain⟨ρ1,q1,q2,q3,q4,q5⟩:=q;exact zDr htab A hres d .ret h1 r hr hgood .ret ρ1 w' _ a'.defers q2 q1 q3 q4 .ret
   | pan v l d h1=>
    rw[hev] at hr X;refine wp_mono (X trivial ρ (zEk fn args') w L1 W .nil (zCv _ _)) λe a' w' q=>?_;cases e<;>try exact q.elim
    obtain⟨ρ1,v',rfl,qv,q1,q2,q3,q4,q5⟩:=q;exact zDr htab A hres d (.pan v false) h1 r hr hgood (.pan v) ρ1 w' _ a'.defers q2 q1 q3 q4 (.pan qv)
  ·have hr:CR.fail [92]=r:=hr;rw[<-hr] at hgood;exact hgood.elim
theorem call_ok{n:Nat}(htab:TabOK P tab)(A:zJ8 P tab n):zG9 P (zAw tab (evC tab n)):=by
 refine⟨λ{f args h} hne=>?_,λ{f args h ρ w args'} ha W=>?_⟩
 ·refine(zIw htab A (f:=f) (args:=args) (h:=h) rfl ?_).1;cases hc:zAw tab (evC tab n) f args h with
  | fail l=>exact absurd hc (hne l)
  | ret v h=>trivial
  | pan v h=>trivial
 ·cases hc:zAw tab (evC tab n) f args h with
  | fail l=>trivial
  | ret v h'=>exact(zIw htab A hc trivial).2 ha W
  | pan v h'=>exact(zIw htab A hc trivial).2 ha W
theorem all_ok(hm:P.follows .mixedOrders=true)(htab:TabOK P tab):∀n,zJ8 P tab n/\LoopOK P tab n
 | 0=>by
  refine⟨?_,?_⟩
  ·intro m N c c' hc hd loc d h r hr hgood;have hr:Res.fail [91]=r:=hr;rw[<-hr] at hgood;exact hgood.elim
  ·intro m N c c' hc hd loc d h r hr hgood;have hr:Res.fail [91]=r:=hr;rw[<-hr] at hgood;exact hgood.elim
 | n+1=>by
  obtain⟨A,B⟩:=all_ok hm htab n;exact code_step hm (call_ok htab A) A B
theorem evF_ok(hm:P.follows .mixedOrders=true)(htab:TabOK P tab){n f:Nat}{args:List AV}{h:AH}{r:CR}(hr:evF tab n f args h=r)(hgood:r.good)
  {ρ:Rho} {w:World} {args':List Value} (ha:VRs ρ args args') (W:WR ρ h w):Calls P f args'.toArray w (RC ρ h w r):=
 (zIw htab (all_ok hm htab n).1 hr hgood).2 ha W
end
end
section
variable{P:Program}{tab:Nat->Option AFunc}
theorem WR.empty(w:World):WR (λ_=>none) (AH.mk T.leaf 0) w:=by
 refine⟨⟨λh _=>?_,λh _ _ _ _=>?_,λh=>?_,λ_=>T.get_leaf _⟩,λk hk=>absurd hk (Nat.not_lt_zero k)⟩
 ·rw[T.get_leaf] at h;cases h
 ·rw[T.get_leaf] at h;cases h
 ·cases h
theorem evF_bool(hm:P.follows .mixedOrders=true)(htab:TabOK P tab){n f:Nat}{b:Bool}{h':AH}(hr:evF tab n f [] (AH.mk T.leaf 0)=.ret (.bool b) h')(w:World) :
  Calls P f #[] w λe w'=>e=.returned (.bool b)/\w.heap.size<=w'.heap.size/\(∀k,k<w.heap.size->w'.heap[k]?=w.heap[k]?)/\w'.os=w.os/\w'.tape=w.tape/\w'.output=w.output:=by
 refine Calls.mono (evF_ok hm htab hr trivial (ρ:=λ_=>none) (args':=[]) .nil (WR.empty w)) λe w' he=>?_;obtain⟨ρ',v',rfl,hv,W',S'⟩:=he;cases hv;refine⟨rfl,S'.size,λk hk=>S'.frame hk ?_,S'.os,S'.tape,S'.output⟩;rintro⟨id,o,p,s,h1,_⟩;rw[T.get_leaf] at h1;cases h1
end
end Go.Ev
#print axioms Go.Ev.evF_bool
namespace Go.Ev
open Go
noncomputable def isTrue(c:CR):Bool:=CR.rec (motive:=λ_=>Bool) (λv _=>AV.on false (λb=>b) (λ_ _=>false) (λ_ _=>false) (λ_ _=>false) false (λ_ _ _ _=>false) false (λ_=>false) false (λ_ _ _=>false) false (λ_ _=>false) false (λ_=>false) (λ_=>false) v) (λ_ _=>false) (λ_=>false) c
theorem isTrue_eq{c:CR}(h:isTrue c=true):∃h',c=.ret (.bool true) h':=by
 cases c with
 | ret v h'=>
  cases v<;>try (cases h;done)
  rename_i b;have h:b=true:=h;subst h;exact⟨h',rfl⟩
 | _=>cases h
theorem RC.below[Glob]  {ρ:Rho}{h:AH}{w w':World}{v:AV}{v':Value}(W:WR ρ h w)(hv:VR ρ v v')(B:Go.RowKit.Below w.heap.size w w'):RC ρ h w (.ret v h) (.returned v') w':=
 ⟨ρ,v',rfl,hv,W.step ⟨⟨λ{id o b p s} h1 h2=>by rw[B.block b (W.dom h2).2];exact W.obj h1 h2,W.inj,λ{id x} h1=>⟨(W.dom h1).1,q0d (W.dom h1).2 B.size⟩,W.fresh⟩,
  ⟨ρ.le_refl,λ_ k=>k,λhk _=>B.block _ hk,B.size,B.os,B.tape,B.output,q0c _,λ_ _=>rfl,λa b=>absurd a b⟩⟩⟩
theorem TabOK.logN[Glob]  {P:Program}{t:T AFunc}(h:TabOK P (λf=>T.get t f)){n k m:Nat}{g:List AV->AH->Option (AV×AH)}(hk:NatOK P k g):TabOK P (λf=>T.get (T.log n k (some (natF m g)) t) f):=by
 intro f af e0;have e:(T.log n k (some (natF m g)) t).get f=some af:=e0;clear e0;rw[T.get_log] at e;split at e
 ·rename_i hf;injection e with e1;subst hf;exact .inr ⟨m,g,e1.symm,hk⟩
 ·exact h f af e
def LeC(f g:ACode->T AV->List AV->AH->Res):Prop:=∀c loc d h,(f c loc d h).good->g c loc d h=f c loc d h
def LeK(f g:Nat->List AV->AH->CR):Prop:=∀k args h,(f k args h).good->g k args h=f k args h
theorem zEl{f g:Nat->List AV->AH->CR}(H:LeK f g){whole:List AOper}{loc0:T AV}:∀(l:List AOper) (loc:T AV) (tmp d:List AV) (h:AH),(evOps f whole loc0 l loc tmp d h).good->evOps g whole loc0 l loc tmp d h=evOps f whole loc0 l loc tmp d h
 | [],loc,tmp,d,h,hg=>rfl
 | ⟨op,gd,out,re⟩::l,loc,tmp,d,h,hg=>by
  have e:∀k:Nat->List AV->AH->CR,evOps k whole loc0 (⟨op,gd,out,re⟩::l) loc tmp d h=obind (zAt loc tmp gd) (Res.fail [70]) (λq=>bi q
   (OR.rec (motive:=λ_=>Res)
    (λv h=>bi (reads loc tmp h re) (evOps k whole loc0 l (zAc out v loc) (v::tmp) d h) (Res.fail [71]))
    (λf args=>CR.rec (motive:=λ_=>Res) (λv h=>bi (reads loc tmp h re) (evOps k whole loc0 l (zAc out v loc) (v::tmp) d h) (Res.fail [71])) (λv h=>Res.pan v (forget whole loc0) d h) (λl=>Res.fail l) (k f args h))
    (λv=>Res.pan v (forget whole loc0) d h)
    (λv=>evOps k whole loc0 l (zAc out (AV.tup []) loc) (AV.tup []::tmp) (v::d) h)
    (λn=>Res.fail [n]) (evOp op loc tmp h)) (evOps k whole loc0 l (zAc out (AV.tup []) loc) (AV.tup []::tmp) d h)):=λ_=>rfl
  rw[e] at hg;rw[e,e];cases hgd:zAt loc tmp gd with
  | none=>rfl
  | some q=>
   rw[hgd] at hg;cases q with
   | false=>exact zEl H l _ _ _ _ hg
   | true=>
    have hg:(OR.rec (motive:=λ_=>Res)
     (λv h=>bi (reads loc tmp h re) (evOps f whole loc0 l (zAc out v loc) (v::tmp) d h) (Res.fail [71]))
     (λfn args=>CR.rec (motive:=λ_=>Res) (λv h=>bi (reads loc tmp h re) (evOps f whole loc0 l (zAc out v loc) (v::tmp) d h) (Res.fail [71])) (λv h=>Res.pan v (forget whole loc0) d h) (λl=>Res.fail l) (f fn args h))
     (λv=>Res.pan v (forget whole loc0) d h)
     (λv=>evOps f whole loc0 l (zAc out (AV.tup []) loc) (AV.tup []::tmp) (v::d) h)
     (λn=>Res.fail [n]) (evOp op loc tmp h):Res).good:=hg
    show(OR.rec (motive:=λ_=>Res)
     (λv h=>bi (reads loc tmp h re) (evOps g whole loc0 l (zAc out v loc) (v::tmp) d h) (Res.fail [71]))
     (λf args=>CR.rec (motive:=λ_=>Res) (λv h=>bi (reads loc tmp h re) (evOps g whole loc0 l (zAc out v loc) (v::tmp) d h) (Res.fail [71])) (λv h=>Res.pan v (forget whole loc0) d h) (λl=>Res.fail l) (g f args h))
     (λv=>Res.pan v (forget whole loc0) d h)
     (λv=>evOps g whole loc0 l (zAc out (AV.tup []) loc) (AV.tup []::tmp) (v::d) h)
     (λn=>Res.fail [n]) (evOp op loc tmp h):Res)=(OR.rec (motive:=λ_=>Res)
     (λv h=>bi (reads loc tmp h re) (evOps f whole loc0 l (zAc out v loc) (v::tmp) d h) (Res.fail [71]))
     (λfn args=>CR.rec (motive:=λ_=>Res) (λv h=>bi (reads loc tmp h re) (evOps f whole loc0 l (zAc out v loc) (v::tmp) d h) (Res.fail [71])) (λv h=>Res.pan v (forget whole loc0) d h) (λl=>Res.fail l) (f fn args h))
     (λv=>Res.pan v (forget whole loc0) d h)
     (λv=>evOps f whole loc0 l (zAc out (AV.tup []) loc) (AV.tup []::tmp) (v::d) h)
     (λn=>Res.fail [n]) (evOp op loc tmp h):Res)
    cases ho:evOp op loc tmp h with
    | val v h'=>
     rw[ho] at hg;have hg:(bi (reads loc tmp h' re) (evOps f whole loc0 l (zAc out v loc) (v::tmp) d h') (Res.fail [71])).good:=hg;show bi (reads loc tmp h' re) (evOps g whole loc0 l (zAc out v loc) (v::tmp) d h') (Res.fail [71])=bi (reads loc tmp h' re) (evOps f whole loc0 l (zAc out v loc) (v::tmp) d h') (Res.fail [71]);cases hr:reads loc tmp h' re with
     | false=>rfl
     | true=>rw[hr] at hg;exact zEl H l _ _ _ _ hg
    | enter fn args=>
     rw[ho] at hg;have hg:(CR.rec (motive:=λ_=>Res) (λv h=>bi (reads loc tmp h re) (evOps f whole loc0 l (zAc out v loc) (v::tmp) d h) (Res.fail [71])) (λv h=>Res.pan v (forget whole loc0) d h) (λl=>Res.fail l) (f fn args h):Res).good:=hg
     show(CR.rec (motive:=λ_=>Res) (λv h=>bi (reads loc tmp h re) (evOps g whole loc0 l (zAc out v loc) (v::tmp) d h) (Res.fail [71])) (λv h=>Res.pan v (forget whole loc0) d h) (λl=>Res.fail l) (g fn args h):Res) =
      (CR.rec (motive:=λ_=>Res) (λv h=>bi (reads loc tmp h re) (evOps f whole loc0 l (zAc out v loc) (v::tmp) d h) (Res.fail [71])) (λv h=>Res.pan v (forget whole loc0) d h) (λl=>Res.fail l) (f fn args h):Res)
     cases hc:f fn args h with
     | fail l=>rw[hc] at hg;exact hg.elim
     | pan v h'=>rw[H fn args h (by rw[hc];trivial),hc]
     | ret v h'=>
      rw[H fn args h (by rw[hc];trivial),hc];rw[hc] at hg;have hg:(bi (reads loc tmp h' re) (evOps f whole loc0 l (zAc out v loc) (v::tmp) d h') (Res.fail [71])).good:=hg;show bi (reads loc tmp h' re) (evOps g whole loc0 l (zAc out v loc) (v::tmp) d h') (Res.fail [71])=bi (reads loc tmp h' re) (evOps f whole loc0 l (zAc out v loc) (v::tmp) d h') (Res.fail [71]);cases hr:reads loc tmp h' re with
      | false=>rfl
      | true=>rw[hr] at hg;exact zEl H l _ _ _ _ hg
    | pan v=>rfl
    | dfr v=>rw[ho] at hg;exact zEl H l _ _ _ _ hg
    | fail n=>rfl
theorem zDy{f g:ACode->T AV->List AV->AH->Res}(H:LeC f g){c:ACode}{md:Mode}{loc:T AV}{h:AH}(hg:(zE9 f c md loc h).good):zE9 g c md loc h=zE9 f c md loc h:=by
 have:(f c loc [] h).good:=by
  cases e:f c loc [] h with
  | fail l=>unfold zE9 at hg;rw[e] at hg;exact hg.elim
  | _=>trivial
 unfold zE9;rw[H c loc [] h this]
theorem zDo{f g:ACode->T AV->List AV->AH->Res}(H:LeC f g):∀(c:ACode) (md:Mode) (loc:T AV) (h:AH),(evD f c md loc h).good->evD g c md loc h=evD f c md loc h
 | .skip,md,loc,h,hg=>zDy H hg
 | .ops l,md,loc,h,hg=>zDy H hg
 | .recov o,md,loc,h,hg=>rfl
 | .loop a,md,loc,h,hg=>zDy H hg
 | .exit id,md,loc,h,hg=>zDy H hg
 | .ret,md,loc,h,hg=>zDy H hg
 | .seq a b,md,loc,h,hg=>by
  have e:∀k,evD k (.seq a b) md loc h=(DR.rec (motive:=λ_=>DR) (λm loc h=>evD k b m loc h) DR.exit DR.ret DR.fail (evD k a md loc h):DR):=λ_=>rfl;rw[e] at hg;rw[e,e];cases h1:evD f a md loc h with
  | fail l=>rw[h1] at hg;exact hg.elim
  | norm md1 l1 h2=>rw[zDo H a md loc h (by rw[h1];trivial),h1];rw[h1] at hg;exact zDo H b _ _ _ hg
  | exit id md1 l1 h2=>rw[zDo H a md loc h (by rw[h1];trivial),h1]
  | ret md1 h2=>rw[zDo H a md loc h (by rw[h1];trivial),h1]
 | .cond c a b,md,loc,h,hg=>by
  have e:∀k,evD k (.cond c a b) md loc h=AV.on (DR.fail [82]) (λq=>bi q (evD k a md loc h) (evD k b md loc h)) (λ_ _=>DR.fail [82]) (λ_ _=>DR.fail [82]) (λ_ _=>DR.fail [82]) (DR.fail [82]) (λ_ _ _ _=>DR.fail [82]) (DR.fail [82]) (λ_=>DR.fail [82]) (DR.fail [82]) (λ_ _ _=>DR.fail [82]) (DR.fail [82]) (λ_ _=>DR.fail [82]) (DR.fail [82]) (λ_=>DR.fail [82]) (λ_=>DR.fail [82]) (ev loc [] c):=λ_=>rfl;rw[e] at hg;rw[e,e];cases hv:ev loc [] c<;>rw[hv] at hg<;>try rfl
  rename_i q;cases q with
  | true=>exact zDo H a _ _ _ hg
  | false=>exact zDo H b _ _ _ hg
 | .block id a,md,loc,h,hg=>by
  have e:∀k,evD k (.block id a) md loc h=(DR.rec (motive:=λ_=>DR) DR.norm (λid' m loc h=>bi (Nat.beq id id') (DR.norm m loc h) (DR.exit id' m loc h)) DR.ret DR.fail (evD k a md loc h):DR):=λ_=>rfl;rw[e] at hg;rw[e,e];cases h1:evD f a md loc h with
  | fail l=>rw[h1] at hg;exact hg.elim
  | _=>rw[zDo H a md loc h (by rw[h1];trivial),h1]
section
variable{tab:Nat->Option AFunc}
theorem zEh{f g:ACode->T AV->List AV->AH->Res}(H:LeC f g){fin:Mode->AH->CR}:∀(ds:List AV) (md:Mode) (h:AH),(runD tab f fin ds md h).good->runD tab g fin ds md h=runD tab f fin ds md h
 | [],md,h,hg=>rfl
 | d::ds,md,h,hg=>by
  have go:∀(m:Mode) (h:AH),(Mode.rec (motive:=λ_=>CR) (runD tab f fin ds Mode.ret h) (λv r=>bi r (runD tab f fin ds Mode.ret h) (runD tab f fin ds (Mode.pan v r) h)) m:CR).good->
    (Mode.rec (motive:=λ_=>CR) (runD tab g fin ds Mode.ret h) (λv r=>bi r (runD tab g fin ds Mode.ret h) (runD tab g fin ds (Mode.pan v r) h)) m:CR)=(Mode.rec (motive:=λ_=>CR) (runD tab f fin ds Mode.ret h) (λv r=>bi r (runD tab f fin ds Mode.ret h) (runD tab f fin ds (Mode.pan v r) h)) m:CR):=by
   intro m h hg;cases m with
   | ret=>exact zEh H ds _ _ hg
   | pan v r=>
    cases r with
    | true=>exact zEh H ds _ _ hg
    | false=>exact zEh H ds _ _ hg
  cases d<;>try (exact hg.elim)
  rename_i fn first caps
  have e:∀k,runD tab k fin (AV.fn fn first caps::ds) md h=obind (tab fn) (CR.fail [84]) (λfn=>AFunc.rec (motive:=λ_=>CR) (λn body rs=>bi (Nat.beq n (llen (lapp first caps)))
   (List.rec (motive:=λ_=>CR) (DR.rec (motive:=λ_=>CR) (λm _ h=>(Mode.rec (motive:=λ_=>CR) (runD tab k fin ds Mode.ret h) (λv r=>bi r (runD tab k fin ds Mode.ret h) (runD tab k fin ds (Mode.pan v r) h)) m)) (λ_ _ _ _=>CR.fail [85])
    (λm h=>(Mode.rec (motive:=λ_=>CR) (runD tab k fin ds Mode.ret h) (λv r=>bi r (runD tab k fin ds Mode.ret h) (runD tab k fin ds (Mode.pan v r) h)) m)) CR.fail (evD k body md (zAb (lapp first caps)) h)) (λ_ _ _=>CR.fail [93]) rs) (CR.fail [92])) fn):=λ_=>rfl
  rw[e] at hg;rw[e,e];cases ht:tab fn with
  | none=>rfl
  | some af=>
   rw[ht] at hg;obtain⟨n,body,rs⟩:=af
   have hg:(bi (Nat.beq n (llen (lapp first caps))) (List.rec (motive:=λ_=>CR) (DR.rec (motive:=λ_=>CR) (λm _ h=>(Mode.rec (motive:=λ_=>CR) (runD tab f fin ds Mode.ret h) (λv r=>bi r (runD tab f fin ds Mode.ret h) (runD tab f fin ds (Mode.pan v r) h)) m)) (λ_ _ _ _=>CR.fail [85])
    (λm h=>(Mode.rec (motive:=λ_=>CR) (runD tab f fin ds Mode.ret h) (λv r=>bi r (runD tab f fin ds Mode.ret h) (runD tab f fin ds (Mode.pan v r) h)) m)) CR.fail (evD f body md (zAb (lapp first caps)) h)) (λ_ _ _=>CR.fail [93]) rs) (CR.fail [92])).good:=hg
   show bi (Nat.beq n (llen (lapp first caps))) (List.rec (motive:=λ_=>CR) (DR.rec (motive:=λ_=>CR) (λm _ h=>(Mode.rec (motive:=λ_=>CR) (runD tab g fin ds Mode.ret h) (λv r=>bi r (runD tab g fin ds Mode.ret h) (runD tab g fin ds (Mode.pan v r) h)) m)) (λ_ _ _ _=>CR.fail [85])
    (λm h=>(Mode.rec (motive:=λ_=>CR) (runD tab g fin ds Mode.ret h) (λv r=>bi r (runD tab g fin ds Mode.ret h) (runD tab g fin ds (Mode.pan v r) h)) m)) CR.fail (evD g body md (zAb (lapp first caps)) h)) (λ_ _ _=>CR.fail [93]) rs) (CR.fail [92]) =
    bi (Nat.beq n (llen (lapp first caps))) (List.rec (motive:=λ_=>CR) (DR.rec (motive:=λ_=>CR) (λm _ h=>(Mode.rec (motive:=λ_=>CR) (runD tab f fin ds Mode.ret h) (λv r=>bi r (runD tab f fin ds Mode.ret h) (runD tab f fin ds (Mode.pan v r) h)) m)) (λ_ _ _ _=>CR.fail [85])
    (λm h=>(Mode.rec (motive:=λ_=>CR) (runD tab f fin ds Mode.ret h) (λv r=>bi r (runD tab f fin ds Mode.ret h) (runD tab f fin ds (Mode.pan v r) h)) m)) CR.fail (evD f body md (zAb (lapp first caps)) h)) (λ_ _ _=>CR.fail [93]) rs) (CR.fail [92])
   cases hb:Nat.beq n (llen (lapp first caps)) with
   | false=>rfl
   | true=>
    rw[hb] at hg;cases rs with
    | cons _ _=>rfl
    | nil=>
     cases hev:evD f body md (zAb (lapp first caps)) h with
     | fail l=>rw[hev] at hg;exact hg.elim
     | exit id md1 l1 h1=>rw[hev] at hg;exact hg.elim
     | norm md1 l1 h1=>
      rw[zDo H body md _ h (by rw[hev];trivial),hev];rw[hev] at hg;exact go _ _ hg
     | ret md1 h1=>
      rw[zDo H body md _ h (by rw[hev];trivial),hev];rw[hev] at hg;exact go _ _ hg
theorem zJx{f g:ACode->T AV->List AV->AH->Res}(H:LeC f g):LeK (zAw tab f) (zAw tab g):=by
 intro fn args h hg
 have e:∀k,zAw tab k fn args h=obind (tab fn) (CR.fail [87,fn]) (λaf=>AFunc.rec (motive:=λ_=>CR) (λn1 body rs=>bi (Nat.beq n1 (llen args))
  (Res.rec (motive:=λ_=>CR) (λloc d h=>runD tab k (zAn rs loc) d Mode.ret h) (λ_ _ _ _=>CR.fail [88]) (λloc d h=>runD tab k (zAn rs loc) d Mode.ret h)
   (λv loc d h=>runD tab k (zAn rs loc) d (Mode.pan v false) h) (λl=>CR.fail (fn::l)) (k body (zAb args) [] h)) (CR.fail [92])) af):=λ_=>rfl
 rw[e] at hg;rw[e,e];cases ht:tab fn with
 | none=>rfl
 | some af=>
  rw[ht] at hg;obtain⟨n,body,rs⟩:=af
  have hg:(bi (Nat.beq n (llen args)) (Res.rec (motive:=λ_=>CR) (λloc d h=>runD tab f (zAn rs loc) d Mode.ret h) (λ_ _ _ _=>CR.fail [88]) (λloc d h=>runD tab f (zAn rs loc) d Mode.ret h)
   (λv loc d h=>runD tab f (zAn rs loc) d (Mode.pan v false) h) (λl=>CR.fail (fn::l)) (f body (zAb args) [] h)) (CR.fail [92])).good:=hg
  show bi (Nat.beq n (llen args)) (Res.rec (motive:=λ_=>CR) (λloc d h=>runD tab g (zAn rs loc) d Mode.ret h) (λ_ _ _ _=>CR.fail [88]) (λloc d h=>runD tab g (zAn rs loc) d Mode.ret h)
   (λv loc d h=>runD tab g (zAn rs loc) d (Mode.pan v false) h) (λl=>CR.fail (fn::l)) (g body (zAb args) [] h)) (CR.fail [92])=bi (Nat.beq n (llen args)) (Res.rec (motive:=λ_=>CR) (λloc d h=>runD tab f (zAn rs loc) d Mode.ret h) (λ_ _ _ _=>CR.fail [88]) (λloc d h=>runD tab f (zAn rs loc) d Mode.ret h)
   (λv loc d h=>runD tab f (zAn rs loc) d (Mode.pan v false) h) (λl=>CR.fail (fn::l)) (f body (zAb args) [] h)) (CR.fail [92])
  cases hb:Nat.beq n (llen args) with
  | false=>rfl
  | true=>
   rw[hb] at hg;cases hev:f body (zAb args) [] h with
   | fail l=>rw[hev] at hg;exact hg.elim
   | exit id l d h1=>rw[hev] at hg;exact hg.elim
   | norm l d h1=>rw[H body _ _ h (by rw[hev];trivial),hev];rw[hev] at hg;exact zEh H _ _ _ hg
   | ret l d h1=>rw[H body _ _ h (by rw[hev];trivial),hev];rw[hev] at hg;exact zEh H _ _ _ hg
   | pan v l d h1=>rw[H body _ _ h (by rw[hev];trivial),hev];rw[hev] at hg;exact zEh H _ _ _ hg
theorem stepC_mono{f g:ACode->T AV->List AV->AH->Res}(H:LeC f g):LeC (stepC tab f) (stepC tab g):=by
 intro c loc d h hg;cases c with
 | skip=>rfl
 | ops l=>exact zEl (zJx H) l loc [] d h hg
 | recov o=>rfl
 | exit id=>rfl
 | ret=>rfl
 | seq a b=>
  have e:∀k,stepC tab k (.seq a b) loc d h=(Res.rec (motive:=λ_=>Res) (λloc d h=>k b loc d h) Res.exit Res.ret Res.pan Res.fail (k a loc d h):Res):=λ_=>rfl;rw[e] at hg;rw[e,e];cases h1:f a loc d h with
  | fail l=>rw[h1] at hg;exact hg.elim
  | norm l1 d1 h2=>rw[H a loc d h (by rw[h1];trivial),h1];rw[h1] at hg;exact H b _ _ _ hg
  | _=>rw[H a loc d h (by rw[h1];trivial),h1]
 | cond c a b=>
  have e:∀k,stepC tab k (.cond c a b) loc d h=AV.on (Res.fail [90]) (λq=>bi q (k a loc d h) (k b loc d h)) (λ_ _=>Res.fail [90]) (λ_ _=>Res.fail [90]) (λ_ _=>Res.fail [90]) (Res.fail [90]) (λ_ _ _ _=>Res.fail [90]) (Res.fail [90]) (λ_=>Res.fail [90]) (Res.fail [90]) (λ_ _ _=>Res.fail [90]) (Res.fail [90]) (λ_ _=>Res.fail [90]) (Res.fail [90]) (λ_=>Res.fail [90]) (λ_=>Res.fail [90]) (ev loc [] c):=λ_=>rfl;rw[e] at hg;rw[e,e];cases hv:ev loc [] c<;>rw[hv] at hg<;>try rfl
  rename_i q;cases q with
  | true=>exact H a _ _ _ hg
  | false=>exact H b _ _ _ hg
 | block id a=>
  have e:∀k,stepC tab k (.block id a) loc d h=(Res.rec (motive:=λ_=>Res) Res.norm (λid' loc d h=>bi (Nat.beq id id') (Res.norm loc d h) (Res.exit id' loc d h)) Res.ret Res.pan Res.fail (k a loc d h):Res):=λ_=>rfl;rw[e] at hg;rw[e,e];cases h1:f a loc d h with
  | fail l=>rw[h1] at hg;exact hg.elim
  | _=>rw[H a loc d h (by rw[h1];trivial),h1]
 | loop a=>
  have e:∀k,stepC tab k (.loop a) loc d h=(Res.rec (motive:=λ_=>Res) (λloc d h=>k (.loop a) loc d h) Res.exit Res.ret Res.pan Res.fail (k a loc d h):Res):=λ_=>rfl;rw[e] at hg;rw[e,e];cases h1:f a loc d h with
  | fail l=>rw[h1] at hg;exact hg.elim
  | norm l1 d1 h2=>rw[H a loc d h (by rw[h1];trivial),h1];rw[h1] at hg;exact H (.loop a) _ _ _ hg
  | _=>rw[H a loc d h (by rw[h1];trivial),h1]
theorem evC_succ:∀n,LeC (evC tab n) (evC tab (n+1))
 | 0=>λc loc d h hg=>hg.elim
 | n+1=>stepC_mono (evC_succ n)
theorem evC_mono{n m:Nat}(h:n<=m):LeC (evC tab n) (evC tab m):=by
 induction h with
 | refl=>exact λ_ _ _ _ _=>rfl
 | step _ ih=>intro c loc d h hg;rw[evC_succ _ c loc d h (by rw[ih c loc d h hg];exact hg),ih c loc d h hg]
theorem evF_mono{n m:Nat}(h:n<=m){f:Nat}{args:List AV}{hp:AH}{r:CR}(hr:evF tab n f args hp=r)(hg:r.good):evF tab m f args hp=r:=by
 subst hr;exact zJx (evC_mono h) f args hp hg
end
section
variable{tab:Nat->Option AFunc}
def Does(tab:Nat->Option AFunc)(c:ACode)(loc:T AV)(d:List AV)(h:AH)(r:Res):Prop:=r.good/\∃n,evC tab n c loc d h=r
def Gives(tab:Nat->Option AFunc)(f:Nat)(args:List AV)(h:AH)(r:CR):Prop:=r.good/\∃n,evF tab n f args h=r
theorem Does.at{c:ACode}{loc:T AV}{d:List AV}{h:AH}{r:Res}(x:Does tab c loc d h r):∃n,∀m,n<=m->evC tab m c loc d h=r:=by
 obtain⟨hg,n,hn⟩:=x;refine⟨n,λm hm=>?_⟩;rw[evC_mono hm c loc d h (by rw[hn];exact hg),hn]
variable{loc l1:T AV}{d d1:List AV}{h h1:AH}{r:Res}{a b:ACode}
theorem does_skip:Does tab .skip loc d h (.norm loc d h):=⟨trivial,1,rfl⟩
theorem does_ret:Does tab .ret loc d h (.ret loc d h):=⟨trivial,1,rfl⟩
theorem does_exit{id:Nat}:Does tab (.exit id) loc d h (.exit id loc d h):=⟨trivial,1,rfl⟩
theorem does_seq(x:Does tab a loc d h (.norm l1 d1 h1))(y:Does tab b l1 d1 h1 r):Does tab (.seq a b) loc d h r:=by
 obtain⟨n,hn⟩:=x.at;obtain⟨m,hm⟩:=y.at;refine⟨y.1,max n m+1,?_⟩;show(Res.rec (motive:=λ_=>Res) (λloc d h=>evC tab (max n m) b loc d h) Res.exit Res.ret Res.pan Res.fail (evC tab (max n m) a loc d h):Res)=r;rw[hn _ (Nat.le_max_left _ _)];exact hm _ (Nat.le_max_right _ _)
def Res.out:Res->Prop
 | .norm _ _ _=>False
 | _=>True
theorem zFq(x:Does tab a loc d h r)(ho:r.out):Does tab (.seq a b) loc d h r:=by
 obtain⟨n,hn⟩:=x.at;refine⟨x.1,n+1,?_⟩;show(Res.rec (motive:=λ_=>Res) (λloc d h=>evC tab n b loc d h) Res.exit Res.ret Res.pan Res.fail (evC tab n a loc d h):Res)=r;rw[hn _ (q0c _)];cases r<;>first | exact ho.elim | rfl
theorem does_cond{c:Opd}{q:Bool}(hc:ev loc [] c=.bool q)(x:Does tab (if q then a else b) loc d h r):Does tab (.cond c a b) loc d h r:=by
 obtain⟨n,hn⟩:=x.at;refine⟨x.1,n+1,?_⟩;show AV.on (Res.fail [90]) (λq=>bi q (evC tab n a loc d h) (evC tab n b loc d h)) (λ_ _=>Res.fail [90]) (λ_ _=>Res.fail [90]) (λ_ _=>Res.fail [90]) (Res.fail [90]) (λ_ _ _ _=>Res.fail [90]) (Res.fail [90]) (λ_=>Res.fail [90]) (Res.fail [90]) (λ_ _ _=>Res.fail [90]) (Res.fail [90]) (λ_ _=>Res.fail [90]) (Res.fail [90]) (λ_=>Res.fail [90]) (λ_=>Res.fail [90]) (ev loc [] c)=r;rw[hc];have:=hn n (q0c _);cases q<;>exact this
def zCd(id:Nat):Res->Res
 | .exit id' l d h=>if id=id' then .norm l d h else .exit id' l d h
 | r=>r
theorem zK2{id:Nat}(x:Does tab a loc d h r):Does tab (.block id a) loc d h (zCd id r):=by
 obtain⟨n,hn⟩:=x.at;refine⟨?_,n+1,?_⟩
 ·have:=x.1;cases r<;>first | exact this | (simp only[zCd];split<;>trivial)
 show(Res.rec (motive:=λ_=>Res) Res.norm (λid' loc d h=>bi (Nat.beq id id') (Res.norm loc d h) (Res.exit id' loc d h)) Res.ret Res.pan Res.fail (evC tab n a loc d h):Res)=_;rw[hn _ (q0c _)];cases r with
 | exit id' l d h=>
  show bi (Nat.beq id id') _ _=if id=id' then _ else _;rw[bi_eq];by_cases he:id=id'
  ·subst he;rw[if_pos (q0K _),if_pos rfl]
  ·rw[if_neg he];have:Nat.beq id id'=false:=by
    cases hb:Nat.beq id id' with
    | false=>rfl
    | true=>exact absurd (q0f hb) he
   rw[this];rfl
 | _=>rfl
theorem does_loop(x:Does tab a loc d h (.norm l1 d1 h1))(y:Does tab (.loop a) l1 d1 h1 r):Does tab (.loop a) loc d h r:=by
 obtain⟨n,hn⟩:=x.at;obtain⟨m,hm⟩:=y.at;refine⟨y.1,max n m+1,?_⟩;show(Res.rec (motive:=λ_=>Res) (λloc d h=>evC tab (max n m) (.loop a) loc d h) Res.exit Res.ret Res.pan Res.fail (evC tab (max n m) a loc d h):Res)=r;rw[hn _ (Nat.le_max_left _ _)];exact hm _ (Nat.le_max_right _ _)
theorem zB2(x:Does tab a loc d h r)(ho:r.out):Does tab (.loop a) loc d h r:=by
 obtain⟨n,hn⟩:=x.at;refine⟨x.1,n+1,?_⟩;show(Res.rec (motive:=λ_=>Res) (λloc d h=>evC tab n (.loop a) loc d h) Res.exit Res.ret Res.pan Res.fail (evC tab n a loc d h):Res)=r;rw[hn _ (q0c _)];cases r<;>first | exact ho.elim | rfl
end
section
variable{tab:Nat->Option AFunc}
def zC2(K:T AV->List AV->AH->Prop)(Q:Res->Prop):Res->Prop
 | .norm l d h=>K l d h
 | r=>Q r
def WC(tab:Nat->Option AFunc)(c:ACode)(loc:T AV)(d:List AV)(h:AH)(Q:Res->Prop):Prop:=∃r,Does tab c loc d h r/\Q r
def GP(tab:Nat->Option AFunc)(f:Nat)(args:List AV)(h:AH)(Q:AV->AH->Prop):Prop:=∃v h1,Gives tab f args h (.ret v h1)/\Q v h1
variable{loc:T AV}{d tmp:List AV}{h:AH}{a b:ACode}{Q Q1:Res->Prop}
theorem WC.mono{c:ACode}(x:WC tab c loc d h Q)(hq:∀r,Q r->Q1 r):WC tab c loc d h Q1:=let⟨r,h1,h2⟩:=x;⟨r,h1,hq r h2⟩
theorem GP.mono{f:Nat}{args:List AV}{Q Q1:AV->AH->Prop}(x:GP tab f args h Q)(hq:∀v h1,Q v h1->Q1 v h1):GP tab f args h Q1:=let⟨v,h1,g,q⟩:=x;⟨v,h1,g,hq v h1 q⟩
theorem wc_loop(x:WC tab a loc d h (zC2 (λl d h=>WC tab (.loop a) l d h Q) Q)):WC tab (.loop a) loc d h Q:=by
 obtain⟨r,hr,hq⟩:=x;cases r with
 | norm l d1 h1=>obtain⟨r2,hr2,hq2⟩:=hq;exact⟨r2,does_loop hr hr2,hq2⟩
 | fail l=>exact hr.1.elim
 | exit id l d1 h1=>exact⟨_,zB2 hr trivial,hq⟩
 | ret l d1 h1=>exact⟨_,zB2 hr trivial,hq⟩
 | pan v l d1 h1=>exact⟨_,zB2 hr trivial,hq⟩
def PO(tab:Nat->Option AFunc)(whole:List AOper)(loc0:T AV):List AOper->T AV->List AV->List AV->AH->(Res->Prop)->Prop
 | [],loc,_,d,h,Q=>Q (.norm loc d h)
 | ⟨op,g,out,re⟩::l,loc,tmp,d,h,Q=>
  match zAt loc tmp g with
  | none=>False
  | some q=>(q=false->PO tab whole loc0 l (zAc out (.tup []) loc) (.tup []::tmp) d h Q)/\(q=true->
   match evOp op loc tmp h with
   | .val v h1=>reads loc tmp h1 re=true/\PO tab whole loc0 l (zAc out v loc) (v::tmp) d h1 Q
   | .enter f args=>GP tab f args h λv h1=>reads loc tmp h1 re=true/\PO tab whole loc0 l (zAc out v loc) (v::tmp) d h1 Q
   | .pan v=>Q (.pan v (forget whole loc0) d h)
   | .dfr v=>PO tab whole loc0 l (zAc out (.tup []) loc) (.tup []::tmp) (v::d) h Q
   | .fail _=>False)
theorem Gives.at{f:Nat}{args:List AV}{r:CR}(x:Gives tab f args h r):∃n,∀m,n<=m->zAw tab (evC tab m) f args h=r:=by
 obtain⟨hg,n,hn⟩:=x;refine⟨n,λm hm=>?_⟩;exact evF_mono hm hn hg
theorem PO.ok{whole:List AOper}{loc0:T AV}:∀(l:List AOper) (loc:T AV) (tmp d:List AV) (h:AH),PO tab whole loc0 l loc tmp d h Q->
  ∃r,r.good/\Q r/\∃n,∀m,n<=m->evOps (zAw tab (evC tab m)) whole loc0 l loc tmp d h=r
 | [],loc,tmp,d,h,x=>⟨.norm loc d h,trivial,x,0,λ_ _=>rfl⟩
 | ⟨op,g,out,re⟩::l,loc,tmp,d,h,x=>by
  have e:∀k:Nat->List AV->AH->CR,evOps k whole loc0 (⟨op,g,out,re⟩::l) loc tmp d h=obind (zAt loc tmp g) (Res.fail [70]) (λq=>bi q
   (OR.rec (motive:=λ_=>Res)
    (λv h=>bi (reads loc tmp h re) (evOps k whole loc0 l (zAc out v loc) (v::tmp) d h) (Res.fail [71]))
    (λf args=>CR.rec (motive:=λ_=>Res) (λv h=>bi (reads loc tmp h re) (evOps k whole loc0 l (zAc out v loc) (v::tmp) d h) (Res.fail [71])) (λv h=>Res.pan v (forget whole loc0) d h) (λl=>Res.fail l) (k f args h))
    (λv=>Res.pan v (forget whole loc0) d h)
    (λv=>evOps k whole loc0 l (zAc out (AV.tup []) loc) (AV.tup []::tmp) (v::d) h)
    (λn=>Res.fail [n]) (evOp op loc tmp h)) (evOps k whole loc0 l (zAc out (AV.tup []) loc) (AV.tup []::tmp) d h)):=λ_=>rfl
  simp only[PO] at x;cases hg:zAt loc tmp g with
  | none=>rw[hg] at x;exact x.elim
  | some q=>
   rw[hg] at x;cases q with
   | false=>
    obtain⟨r,h1,h2,n,h3⟩:=PO.ok l _ _ _ _ (x.1 rfl);refine⟨r,h1,h2,n,λm hm=>?_⟩;rw[e,hg];exact h3 m hm
   | true=>
    have x:=x.2 rfl;cases ho:evOp op loc tmp h with
    | val v h1=>
     rw[ho] at x;obtain⟨r,g1,g2,n,g3⟩:=PO.ok l _ _ _ _ x.2;refine⟨r,g1,g2,n,λm hm=>?_⟩;rw[e,hg,ho];show bi (reads loc tmp h1 re) _ _=r;rw[x.1];exact g3 m hm
    | enter f args=>
     rw[ho] at x;obtain⟨v,h1,hc,hre,hx⟩:=x;obtain⟨n1,hc⟩:=hc.at;obtain⟨r,g1,g2,n,g3⟩:=PO.ok l _ _ _ _ hx;refine⟨r,g1,g2,max n n1,λm hm=>?_⟩;rw[e,hg,ho];show(CR.rec (motive:=λ_=>Res) (λv h=>bi (reads loc tmp h re) (evOps (zAw tab (evC tab m)) whole loc0 l (zAc out v loc) (v::tmp) d h) (Res.fail [71])) (λv h=>Res.pan v (forget whole loc0) d h) (λl=>Res.fail l) (zAw tab (evC tab m) f args h):Res)=r;rw[hc m (q0m (Nat.le_max_right _ _) hm)];show bi (reads loc tmp h1 re) _ _=r;rw[hre];exact g3 m (q0m (Nat.le_max_left _ _) hm)
    | pan v=>
     rw[ho] at x;refine⟨_,?_,x,0,λm _=>?_⟩
     ·trivial
     ·rw[e,hg,ho];rfl
    | dfr v=>
     rw[ho] at x;obtain⟨r,g1,g2,n,g3⟩:=PO.ok l _ _ _ _ x;refine⟨r,g1,g2,n,λm hm=>?_⟩;rw[e,hg,ho];exact g3 m hm
    | fail k=>rw[ho] at x;exact x.elim
theorem wc_ops{l:List AOper}(x:PO tab l loc l loc [] d h Q):WC tab (.ops l) loc d h Q:=by
 obtain⟨r,h1,h2,n,h3⟩:=PO.ok l _ _ _ _ x;exact⟨r,⟨h1,n+1,h3 n (q0c _)⟩,h2⟩
def onEnd(rs:List ARes)(Q:AV->AH->Prop):Res->Prop
 | .norm l [] h=>∃vs,results rs l h=some vs/\Q (one vs) h
 | .ret l [] h=>∃vs,results rs l h=some vs/\Q (one vs) h
 | _=>False
theorem gp_of{f n:Nat}{body:ACode}{rs:List ARes}{args:List AV}{Q:AV->AH->Prop}(ht:tab f=some (.mk n body rs))(hn:args.length=n)(x:WC tab body (zAb args) [] h (onEnd rs Q)):GP tab f args h Q:=by
 obtain⟨r,hr,hq⟩:=x;obtain⟨m,hm⟩:=hr.at;have hm:=hm m (q0c _)
 have e:∀r,evC tab m body (zAb args) [] h=r->evF tab m f args h=(Res.rec (motive:=λ_=>CR) (λloc d h=>runD tab (evC tab m) (zAn rs loc) d Mode.ret h) (λ_ _ _ _=>CR.fail [88]) (λloc d h=>runD tab (evC tab m) (zAn rs loc) d Mode.ret h)
   (λv loc d h=>runD tab (evC tab m) (zAn rs loc) d (Mode.pan v false) h) (λl=>CR.fail (f::l)) r):=by
  intro r hr;subst hr;show obind (tab f) _ _=_;rw[ht];show bi (Nat.beq n (llen args)) _ _=_;rw[zBd,hn,q0K];rfl
 have e:=e r hm;cases r with
 | norm l d1 h1=>
  cases d1 with
  | cons _ _=>exact hq.elim
  | nil=>
   obtain⟨vs,h2,h3⟩:=hq;refine⟨one vs,h1,⟨trivial,m,?_⟩,h3⟩;rw[e];show obind (results rs l h1) _ _=_;rw[h2];rfl
 | ret l d1 h1=>
  cases d1 with
  | cons _ _=>exact hq.elim
  | nil=>
   obtain⟨vs,h2,h3⟩:=hq;refine⟨one vs,h1,⟨trivial,m,?_⟩,h3⟩;rw[e];show obind (results rs l h1) _ _=_;rw[h2];rfl
 | exit id l d1 h1=>exact hq.elim
 | pan v l d1 h1=>exact hq.elim
 | fail l=>exact hq.elim
end
theorem evl{loc:T AV}{tmp:List AV}{k:Nat}:ev loc tmp (.l k)=(T.get loc k).getD .bad:=by
 show obind (T.get loc k) AV.bad (λv=>v)=_;cases T.get loc k<;>rfl
theorem nth_zero{v:AV}{l:List AV}:nth (v::l) 0=v:=rfl
theorem nth_succ{v:AV}{l:List AV}{i:Nat}:nth (v::l) (i+1)=nth l i:=rfl
theorem evs_nil{loc:T AV}{tmp:List AV}:evs loc tmp []=[]:=rfl
theorem evs_cons{loc:T AV}{tmp:List AV}{x:Opd}{l:List Opd}:evs loc tmp (x::l)=ev loc tmp x::evs loc tmp l:=rfl
theorem putOut_none{v:AV}{loc:T AV}:zAc none v loc=loc:=rfl
theorem zGa{k:Nat}{v:AV}{loc:T AV}:zAc (some k) v loc=T.put (some v) loc k:=rfl
theorem zGh{loc:T AV}{tmp:List AV}:zAt loc tmp none=some true:=rfl
theorem guardB_some{loc:T AV}{tmp:List AV}{x:Opd}{want:Bool}{b:Bool}(hb:ev loc tmp x=.bool b):zAt loc tmp (some (x,want))=some (if want then b else !b):=by
 show AV.on Option.none (λb=>some (bi want b (bi b false true))) _ _ _ _ _ _ _ _ _ _ _ _ _ _ (ev loc tmp x)=_;rw[hb];show some (bi want b (bi b false true))=_;cases want<;>cases b<;>rfl
theorem reads_nil{loc:T AV}{tmp:List AV}{h:AH}:reads loc tmp h []=true:=rfl
theorem zA5{loc:T AV}{h:AH}:results [] loc h=some []:=rfl
theorem zEw{loc:T AV}{h:AH}{x:Opd}{rs:List ARes}{l:List AV}(hl:results rs loc h=some l):results (.val x::rs) loc h=some (ev loc [] x::l):=by
 show obind (results rs loc h) Option.none _=_;rw[hl];rfl
theorem zHk{v:AV}:one [v]=v:=rfl
theorem one_nil:one []=.tup []:=rfl
theorem one_more{v w:AV}{l:List AV}:one (v::w::l)=.tup (v::w::l):=rfl
section
variable{loc:T AV}{tmp:List AV}{h:AH}
theorem op_move{x:Opd}:evOp (.move x) loc tmp h=oMove (.c (ev loc tmp x)) .leaf [] h:=rfl
theorem op_pick{c a b:Opd}:evOp (.pick c a b) loc tmp h=oPick (.c (ev loc tmp c)) (.c (ev loc tmp a)) (.c (ev loc tmp b)) .leaf [] h:=rfl
theorem op_load{x:Opd}:evOp (.load x) loc tmp h=oLoad (.c (ev loc tmp x)) .leaf [] h:=rfl
theorem op_loadN{n:Nat}{x:Opd}:evOp (.loadN n x) loc tmp h=zAy n (.c (ev loc tmp x)) .leaf [] h:=rfl
theorem op_store{n:Nat}{a x:Opd}:evOp (.store n a x) loc tmp h=oStore n (.c (ev loc tmp a)) (.c (ev loc tmp x)) .leaf [] h:=rfl
theorem op_nil{x:Opd}:evOp (.nilCheck x) loc tmp h=oNil (.c (ev loc tmp x)) .leaf [] h:=rfl
theorem op_bin{o:ABin}{x y:Opd}:evOp (.bin o x y) loc tmp h=oBin o (.c (ev loc tmp x)) (.c (ev loc tmp y)) .leaf [] h:=rfl
theorem op_eq{neg:Bool}{t:EqT}{x y:Opd}:evOp (.eq neg t x y) loc tmp h=oEq neg t (.c (ev loc tmp x)) (.c (ev loc tmp y)) .leaf [] h:=rfl
theorem op_not{x:Opd}:evOp (.not x) loc tmp h=oNot (.c (ev loc tmp x)) .leaf [] h:=rfl
theorem op_neg{x:Opd}:evOp (.neg x) loc tmp h=oNeg (.c (ev loc tmp x)) .leaf [] h:=rfl
theorem op_convI{k:IntKind}{x:Opd}:evOp (.convI k x) loc tmp h=oConvI k (.c (ev loc tmp x)) .leaf [] h:=rfl
theorem op_len{t:LenT}{x:Opd}:evOp (.len t x) loc tmp h=oLen t (.c (ev loc tmp x)) .leaf [] h:=by cases t<;>rfl
theorem op_idxAddr{es:Nat}{x i:Opd}:evOp (.idxAddr es x i) loc tmp h=zCx es (.c (ev loc tmp x)) (.c (ev loc tmp i)) .leaf [] h:=rfl
theorem op_fieldAddr{o:Nat}{x:Opd}:evOp (.fieldAddr o x) loc tmp h=zFx o (.c (ev loc tmp x)) .leaf [] h:=rfl
theorem op_field{o n:Nat}{ag:Bool}{x:Opd}:evOp (.field o n ag x) loc tmp h=oField o n ag (.c (ev loc tmp x)) .leaf [] h:=rfl
theorem op_extract{i:Nat}{x:Opd}:evOp (.extract i x) loc tmp h=zD4 i (.c (ev loc tmp x)) .leaf [] h:=rfl
theorem op_callF{f:Nat}{l:List Opd}:evOp (.callF f l) loc tmp h=.enter f (evs loc tmp l):=rfl
theorem op_alloc{z:List AV}:evOp (.alloc z) loc tmp h=.val (.ptr h.next 0) (h.add (.cells (zAa z) (llen z) none false)):=by
 show AH.new h (AObj.cells (zAa z) (llen z) none false) (λid h=>OR.val (AV.ptr id 0) h)=_;rw[q2k]
def AV.mv:AV->Bool
 | .bad | .tup _=>false
 | _=>true
theorem zAg{v:AV}(hv:v.mv=true):oMove (.c v) .leaf [] h=.val v h:=by
 cases v<;>first | rfl | cases hv
theorem move_int{k:IntKind}{n:Int}:oMove (.c (.int k n)) .leaf [] h=.val (.int k n) h:=rfl
theorem move_bool{q:Bool}:oMove (.c (.bool q)) .leaf [] h=.val (.bool q) h:=rfl
theorem move_ptr{n m:Nat}:oMove (.c (.ptr n m)) .leaf [] h=.val (.ptr n m) h:=rfl
theorem move_nilp:oMove (.c .nilp) .leaf [] h=.val .nilp h:=rfl
theorem move_sl{i o l:Nat}{c:ACap}:oMove (.c (.sl i o l c)) .leaf [] h=.val (.sl i o l c) h:=rfl
theorem move_nils:oMove (.c .nils) .leaf [] h=.val .nils h:=rfl
theorem move_agg{l:List AV}:oMove (.c (.agg l)) .leaf [] h=.val (.agg l) h:=rfl
theorem bin_lss{k:IntKind}{m n:Int}:oBin .lss (.c (.int k m)) (.c (.int k n)) .leaf [] h=.val (.bool (decide (m<n))) h:=by
 show bi (eqK k k) (Ev.bool (ltI m n) h) _=_;cases k<;>(show Ev.bool (ltI m n) h=_;rw[zCc,zH5])
theorem bin_leq{k:IntKind}{m n:Int}:oBin .leq (.c (.int k m)) (.c (.int k n)) .leaf [] h=.val (.bool (decide (m<=n))) h:=by
 show bi (eqK k k) (Ev.bool (leI m n) h) _=_;cases k<;>(show Ev.bool (leI m n) h=_;rw[zCc,leI_eq])
theorem bin_gtr{k:IntKind}{m n:Int}:oBin .gtr (.c (.int k m)) (.c (.int k n)) .leaf [] h=.val (.bool (decide (n<m))) h:=by
 show bi (eqK k k) (Ev.bool (ltI n m) h) _=_;cases k<;>(show Ev.bool (ltI n m) h=_;rw[zCc,zH5])
theorem bin_geq{k:IntKind}{m n:Int}:oBin .geq (.c (.int k m)) (.c (.int k n)) .leaf [] h=.val (.bool (decide (n<=m))) h:=by
 show bi (eqK k k) (Ev.bool (leI n m) h) _=_;cases k<;>(show Ev.bool (leI n m) h=_;rw[zCc,leI_eq])
theorem bin_add{k:IntKind}{m n:Int}:oBin .add (.c (.int k m)) (.c (.int k n)) .leaf [] h=.val (.int k (k.wrap (m+n))) h:=by
 show bi (eqK k k) (intV k (m+n) h) _=_;cases k<;>(show intV _ (m+n) h=_;rw[zCb])
theorem bin_sub{k:IntKind}{m n:Int}:oBin .sub (.c (.int k m)) (.c (.int k n)) .leaf [] h=.val (.int k (k.wrap (m-n))) h:=by
 show bi (eqK k k) (intV k (m-n) h) _=_;cases k<;>(show intV _ (m-n) h=_;rw[zCb])
theorem bin_mul{k:IntKind}{m n:Int}:oBin .mul (.c (.int k m)) (.c (.int k n)) .leaf [] h=.val (.int k (k.wrap (m*n))) h:=by
 show bi (eqK k k) (intV k (m*n) h) _=_;cases k<;>(show intV _ (m*n) h=_;rw[zCb])
theorem eq_int{neg:Bool}{k:IntKind}{m n:Int}:oEq neg .num (.c (.int k m)) (.c (.int k n)) .leaf [] h=.val (.bool (if neg then !decide (m=n) else decide (m=n))) h:=by
 show obind (bi (eqK k k) (some (eqI m n)) none) _ _=_;cases k<;>(show Ev.bool (bi neg (bi (eqI m n) false true) (eqI m n)) h=_;rw[zCc,zEm];cases neg<;>cases decide (m=n)<;>rfl)
theorem eq_str{neg:Bool}{l s l' s':Nat}:oEq neg .num (.c (.str l s)) (.c (.str l' s')) .leaf [] h=.val (.bool (if neg then !decide (l=l'/\s=s') else decide (l=l'/\s=s'))) h:=by
 show Ev.bool (bi neg (bi (bi (Nat.beq l l') (Nat.beq s s') false) false true) (bi (Nat.beq l l') (Nat.beq s s') false)) h=_;have:bi (Nat.beq l l') (Nat.beq s s') false=decide (l=l'/\s=s'):=by
  rw[bi_eq];by_cases h1:l=l'
  ·subst h1;rw[if_pos (q0K _)];by_cases h2:s=s'
   ·subst h2;simp
   ·have:Nat.beq s s'=false:=by cases hb:Nat.beq s s' with
     | false=>rfl
     | true=>exact absurd (q0f hb) h2
    rw[this];simp[h2]
  ·have:Nat.beq l l'=false:=by cases hb:Nat.beq l l' with
    | false=>rfl
    | true=>exact absurd (q0f hb) h1
   rw[this];simp[h1]
 rw[this,zCc];cases neg<;>cases decide (l=l'/\s=s')<;>rfl
theorem eq_bool{neg p q:Bool}:oEq neg .bool (.c (.bool p)) (.c (.bool q)) .leaf [] h=.val (.bool (if neg then !decide (p=q) else decide (p=q))) h:=by
 cases neg<;>cases p<;>cases q<;>rfl
theorem not_bool{q:Bool}:oNot (.c (.bool q)) .leaf [] h=.val (.bool (!q)) h:=by cases q<;>rfl
theorem zGv{i o l:Nat}{c:ACap}:oLen .sl (.c (.sl i o l c)) .leaf [] h=.val (.int .i64 l) h:=by
 show natV l h=_;rw[zCj]
theorem len_nils:oLen .sl (.c .nils) .leaf [] h=.val (.int .i64 ((0:Nat):Int)) h:=rfl
theorem len_str{l b:Nat}:oLen .str (.c (.str l b)) .leaf [] h=.val (.int .i64 l) h:=by
 show natV l h=_;rw[zCj]
theorem idx_sl{es id o l i:Nat}{c:ACap}{k:IntKind}(hi:i<l):zCx es (.c (.sl id o l c)) (.c (.int k (i:Int))) .leaf [] h=.val (.ptr id (o+i*es)) h:=by
 show bi (Nat.ble (Nat.succ i) l) (fN (Nat.add o (Nat.mul i es)) λo=>OR.val (AV.ptr id o) h) _=_;rw[bi_eq,if_pos (Nat.ble_eq.mpr hi),fN_eq];rfl
theorem zL0{o id p:Nat}:zFx o (.c (.ptr id p)) .leaf [] h=.val (.ptr id (p+o)) h:=by
 show fN (Nat.add p o) (λo=>OR.val (AV.ptr id o) h)=_;rw[fN_eq];rfl
theorem zBa{id o:Nat}{c:T AV}{s:Nat}{p:Option Nat}{r:Bool}{v:AV}(hg:h.mem.get id=some (.cells c s p r))(hc:c.get o=some v):oLoad (.c (.ptr id o)) .leaf [] h=.val v h:=by
 show zAq (AH.get h id) _=_;rw[q2f,hg];show obind (T.get c o) _ _=_;rw[hc];rfl
theorem zAp{n id o:Nat}{c:T AV}{s:Nat}{p:Option Nat}{r:Bool}{l:List AV}(hg:h.mem.get id=some (.cells c s p r))(hc:loadL c n o=some l):zAy n (.c (.ptr id o)) .leaf [] h=.val (.agg l) h:=by
 show zAq (AH.get h id) _=_;rw[q2f,hg];show obind (loadL c n o) _ _=_;rw[hc];rfl
theorem loadL_zero{c:T AV}{o:Nat}:loadL c 0 o=some []:=rfl
theorem zBk{c:T AV}{n o:Nat}{v:AV}{l:List AV}(h1:c.get o=some v)(h2:loadL c n (o+1)=some l):loadL c (n+1) o=some (v::l):=by
 show obind (T.get c o) none (λv=>obind (loadL c n (o+1)) none λl=>some (v::l))=_;rw[h1];show obind (loadL c n (o+1)) none _=_;rw[h2];rfl
end
section
variable{loc:T AV}{tmp:List AV}{h:AH}
noncomputable def gv(v:AV)(want:Bool):Option Bool:=zAt .leaf [] (some (.c v,want))
theorem gb_any{x:Opd}{want:Bool}:zAt loc tmp (some (x,want))=gv (ev loc tmp x) want:=rfl
theorem gb_bool{b want:Bool}:gv (.bool b) want=some (if want then b else !b):=guardB_some rfl
theorem pick_bool{q:Bool}{a b:AV}:oPick (.c (.bool q)) (.c a) (.c b) .leaf [] h=if q then oMove (.c a) .leaf [] h else oMove (.c b) .leaf [] h:=by cases q<;>rfl
theorem op_build{z:List AV}{ps:List Part}:evOp (.build z ps) loc tmp h=obind (fill loc tmp ps z) (F 15) λl=>OR.val (AV.agg l) h:=by
 rw[<-zF2];rfl
theorem fill_nil{z:List AV}:fill loc tmp [] z=some z:=rfl
theorem zCf{c:T AV}{s:Nat}{p:Option Nat}{r:Bool}{k:T AV->Nat->Option Nat->Bool->OR}:zAq (some (.cells c s p r)) k=k c s p r:=rfl
theorem zBj{α β:Type}{a:α}{d:β}{k:α->β}:obind (some a) d k=k a:=rfl
theorem obind_none{α β:Type}{d:β}{k:α->β}:obind (none:Option α) d k=d:=rfl
theorem zA8{β:Type}{x y:β}:bi true x y=x:=rfl
theorem zBi{β:Type}{x y:β}:bi false x y=y:=rfl
theorem AH.add_mem{o:AObj}:(h.add o).mem=T.put (some o) h.mem h.next:=rfl
theorem AH.set_mem{id:Nat}{o:AObj}:(h.set id o).mem=T.put (some o) h.mem id:=by rw[AH.set_eq]
theorem AH.get_set{id:Nat}{o:AObj}:(h.set id o).mem.get id=some o:=by rw[AH.set_eq];exact q1b _ _ _
theorem AH.set_next{id:Nat}{o:AObj}:(h.set id o).next=h.next:=by rw[AH.set_eq]
theorem load_cells{id o:Nat}:oLoad (.c (.ptr id o)) .leaf [] h=zAq (h.mem.get id) λc _ _ _=>obind (T.get c o) (F 17) λv=>OR.val v h:=by
 rw[<-q2f];rfl
theorem loadN_cells{n id o:Nat}:zAy n (.c (.ptr id o)) .leaf [] h=zAq (h.mem.get id) λc _ _ _=>obind (loadL c n o) (F 18) λl=>OR.val (AV.agg l) h:=by
 rw[<-q2f];rfl
theorem store_cells{n id o:Nat}{x:AV}:oStore n (.c (.ptr id o)) (.c x) .leaf [] h=zAq (h.mem.get id) λc s p r=>bi r (F 19) (obind (cellsOf x) (F 21) λvs=>bi (Nat.beq (llen vs) n) (obind (zBr vs c o) (F 20) λc'=>OR.val (AV.tup []) (h.set id (AObj.cells c' s p r))) (F 21)):=by
 rw[<-q2f];rfl
theorem cells_agg{l:List AV}:cellsOf (.agg l)=some l:=rfl
theorem cells_int{k:IntKind}{n:Int}:cellsOf (.int k n)=some [.int k n]:=rfl
theorem loadL_more{c:T AV}{n o:Nat}:loadL c (n+1) o=obind (c.get o) none λv=>obind (loadL c n (o+1)) none λl=>some (v::l):=rfl
theorem storeL_nil{c:T AV}{o:Nat}:zBr [] c o=some c:=rfl
theorem zDv{v:AV}{l:List AV}{c:T AV}{o:Nat}:zBr (v::l) c o=obind (c.get o) none λ_=>zBr l (T.put (some v) c o) (o+1):=rfl
theorem llen_nil:llen []=0:=rfl
theorem llen_cons{v:AV}{l:List AV}:llen (v::l)=llen l+1:=rfl
theorem zDc{m n:Nat}:Nat.beq m n=decide (m=n):=by
 by_cases h:m=n
 ·subst h;rw[q0K];simp
 ·cases hb:Nat.beq m n with
  | false=>simp[h]
  | true=>exact absurd (q0f hb) h
theorem zGb{K:T AV->List AV->AH->Prop}{Q:Res->Prop}{l:T AV}{d:List AV}:zC2 K Q (.norm l d h)=K l d h:=rfl
theorem onNorm_ret{K:T AV->List AV->AH->Prop}{Q:Res->Prop}{l:T AV}{d:List AV}:zC2 K Q (.ret l d h)=Q (.ret l d h):=rfl
theorem onNorm_exit{K:T AV->List AV->AH->Prop}{Q:Res->Prop}{l:T AV}{d:List AV}{id:Nat}:zC2 K Q (.exit id l d h)=Q (.exit id l d h):=rfl
theorem atBlock_norm{id:Nat}{l:T AV}{d:List AV}:zCd id (.norm l d h)=.norm l d h:=rfl
theorem atBlock_ret{id:Nat}{l:T AV}{d:List AV}:zCd id (.ret l d h)=.ret l d h:=rfl
theorem atBlock_exit{id id':Nat}{l:T AV}{d:List AV}:zCd id (.exit id' l d h)=if id=id' then .norm l d h else .exit id' l d h:=rfl
section
variable{tab:Nat->Option AFunc}
def stepO(tab:Nat->Option AFunc)(whole:List AOper)(loc0:T AV)(l:List AOper)(out:Option Nat)(re:List ARe)(loc:T AV)(tmp d:List AV)(h:AH)(Q:Res->Prop):OR->Prop
 | .val v h1=>reads loc tmp h1 re=true/\PO tab whole loc0 l (zAc out v loc) (v::tmp) d h1 Q
 | .enter f args=>GP tab f args h λv h1=>reads loc tmp h1 re=true/\PO tab whole loc0 l (zAc out v loc) (v::tmp) d h1 Q
 | .pan v=>Q (.pan v (forget whole loc0) d h)
 | .dfr v=>PO tab whole loc0 l (zAc out (.tup []) loc) (.tup []::tmp) (v::d) h Q
 | .fail _=>False
def guardO(tab:Nat->Option AFunc)(whole:List AOper)(loc0:T AV)(l:List AOper)(op:AOp)(out:Option Nat)(re:List ARe)(loc:T AV)(tmp d:List AV)(h:AH)(Q:Res->Prop):Option Bool->Prop
 | none=>False
 | some false=>PO tab whole loc0 l (zAc out (.tup []) loc) (.tup []::tmp) d h Q
 | some true=>stepO tab whole loc0 l out re loc tmp d h Q (evOp op loc tmp h)
variable{whole l:List AOper}{loc0:T AV}{op:AOp}{g:Option (Opd×Bool)}{out:Option Nat}{re:List ARe}{d:List AV}{Q:Res->Prop}
theorem PO_nil:PO tab whole loc0 [] loc tmp d h Q=Q (.norm loc d h):=rfl
theorem PO_cons:PO tab whole loc0 (⟨op,g,out,re⟩::l) loc tmp d h Q=guardO tab whole loc0 l op out re loc tmp d h Q (zAt loc tmp g):=by
 rw[PO];cases zAt loc tmp g with
 | none=>rfl
 | some q=>
  cases q with
  | false=>simp[guardO]
  | true=>simp only[guardO];cases evOp op loc tmp h<;>simp[stepO]
theorem guardO_true:guardO tab whole loc0 l op out re loc tmp d h Q (some true)=stepO tab whole loc0 l out re loc tmp d h Q (evOp op loc tmp h):=rfl
end
theorem zBx{op:AOp}{i:Nat}{g:Option (Opd×Bool)}{l:List ARe}{v:AV}{h':AH}(hg:zAt loc tmp g=some true)(hv:evOp op loc tmp h=.val v h')(hs:same v (nth tmp i)=true):reads loc tmp h (⟨op,i,g⟩::l)=reads loc tmp h l:=by
 show obind (zAt loc tmp g) false (λq=>bi q (OR.rec (motive:=λ_=>Bool) (λv _=>bi (same v (nth tmp i)) (reads loc tmp h l) false) (λ_ _=>false) (λ_=>false) (λ_=>false) (λ_=>false) (evOp op loc tmp h)) (reads loc tmp h l))=_;rw[hg,hv];show bi (same v (nth tmp i)) (reads loc tmp h l) false=_;rw[hs];rfl
theorem zGp{k:IntKind}{n:Int}:same (.int k n) (.int k n)=true:=by
 show bi (eqK k k) (eqI n n) false=true;rw[zEm];cases k<;>exact decide_eq_true rfl
theorem same_agg_nil:same (.agg []) (.agg [])=true:=rfl
theorem zLf{x y:AV}{xs ys:List AV}:same (.agg (x::xs)) (.agg (y::ys))=bi (same x y) (same (.agg xs) (.agg ys)) false:=rfl
theorem eq_agg{neg:Bool}{ks:List SK}{a b:List AV}:oEq neg (.agg ks) (.c (.agg a)) (.c (.agg b)) .leaf [] h=obind (eqL ks a b) (F 29) λq=>OR.val (.bool (if neg then !q else q)) h:=by
 show obind (eqL ks a b) (F 29) (λq=>Ev.bool (bi neg (bi q false true) q) h)=_;cases eqL ks a b with
 | none=>rfl
 | some q=>cases neg<;>cases q<;>rfl
theorem eqLz:eqL [] [] []=some true:=rfl
theorem eqLs{k:SK}{ks:List SK}{x y:AV}{xs ys:List AV}:eqL (k::ks) (x::xs) (y::ys)=obind (eqS k x y) none λq=>bi q (eqL ks xs ys) (obind (eqL ks xs ys) none λ_=>some false):=rfl
theorem eqS_int{k:IntKind}{m n:Int}:eqS .int (.int k m) (.int k n)=some (decide (m=n)):=by
 show bi (eqK k k) (some (eqI m n)) none=_;rw[zEm];cases k<;>rfl
theorem eqS_bool{p q:Bool}:eqS .bool (.bool p) (.bool q)=some (decide (p=q)):=by cases p<;>cases q<;>rfl
noncomputable def yesF:AFunc:=knownF 0 [([],.bool true)]
theorem gp_yes{tab:Nat->Option AFunc}{f:Nat}{Q:AV->AH->Prop}(ht:tab f=some yesF)(q:Q (.bool true) h):GP tab f [] h Q:=by
 refine gp_of ht rfl (wc_ops ?_);rw[PO_cons,zGh,guardO_true];show stepO tab _ _ [] (some 0) [] _ [] [] h _ (OR.val (.bool true) h);refine⟨rfl,?_⟩;rw[PO_nil];refine⟨_,zEw zA5,?_⟩;rw[zHk,evl,zGa,q1b];exact q
structure More(h h':AH):Prop where
 next:h.next<=h'.next
 keep:∀id,id<h.next->h'.mem.get id=h.mem.get id
theorem More.refl(h:AH):More h h:=⟨q0c _,λ_ _=>rfl⟩
theorem More.trans{a b c:AH}(x:More a b)(y:More b c):More a c:=⟨q0m x.next y.next,λid hi=>by rw[y.keep id (q0d hi x.next),x.keep id hi]⟩
theorem More.add(h:AH)(o:AObj):More h (h.add o):=⟨q0w _,λid hi=>by rw[AH.add_mem,q1a _ _ _ _ (by omega)]⟩
theorem More.set{h h':AH}(x:More h h'){id:Nat}(hi:h.next<=id)(o:AObj):More h (h'.set id o):=⟨by rw[AH.set_next];exact x.next,λi hj=>by rw[AH.set_mem,q1a _ _ _ _ (by omega),x.keep i hj]⟩
theorem wc_while{tab:Nat->Option AFunc}{a:ACode}{Q:Res->Prop}(I:Nat->T AV->List AV->AH->Prop)(step:∀k loc d h,I k loc d h->WC tab a loc d h (zC2 (λl d h=>∃k',k'<k/\I k' l d h) Q)) :
  ∀(k:Nat) {loc:T AV} {d:List AV} {h:AH},I k loc d h->WC tab (.loop a) loc d h Q:=by
 intro k;induction k using Nat.strongRecOn with
 | ind k ih=>
  intro loc d h hI;refine wc_loop ((step k loc d h hI).mono λr hr=>?_);cases r with
  | norm l d1 h1=>obtain⟨k',hk,hI'⟩:=hr;exact ih k' hk hI'
  | _=>exact hr
theorem zFt{n:Nat}(hn:n<9223372036854775808):IntKind.i64.wrap (n:Int)=n:=zBu (by show Nat.ble n (nat_lit 9223372036854775807)=true;exact Nat.ble_eq.mpr (Nat.le_of_lt_succ hn))
end
theorem q2a:type_of% @AH.add_mem:= @AH.add_mem
theorem q2b:type_of% @AH.set_next:= @AH.set_next
theorem q2c:type_of% @AH.set_mem:= @AH.set_mem
theorem q2d:type_of% @AH.get_set:= @AH.get_set
theorem q2g:type_of% @More.add:= @More.add
theorem q2o:type_of% @More.refl:= @More.refl
end Go.Ev
