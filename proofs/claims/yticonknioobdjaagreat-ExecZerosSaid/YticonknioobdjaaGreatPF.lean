/- EvCh EvNs CoVA VaT -/
import Derived.Test.YticonknioobdjaaGreatPE
import Derived.Test.YticonknioobdjaaGreatPD
set_option linter.unusedSimpArgs false
set_option linter.unusedVariables false
set_option linter.unusedSectionVars false
set_option linter.defProp false
set_option maxRecDepth 100000
set_option maxHeartbeats 4000000
namespace Go.Ev
open Go
variable[Glob]
def zC9:ACode->Bool
 | .seq a b=>zC9 a||zC9 b
 | .cond _ a b=>zC9 a||zC9 b
 | .block _ a=>zC9 a
 | .loop a=>zC9 a
 | .ops [⟨.next _,none,none,[]⟩,⟨.extract 0 (.t 0),none,some _,[]⟩]=>true
 | _=>false
def NCg(tab:Nat->Option AFunc):Nat->ACode->T AV->List AV->AH->(Res->Prop)->Prop
 | 0,_,_,_,_,_=>False
 | n+1,c,loc,d,h,Q=>(zC9 c=false/\WC tab c loc d h Q)\/(zC9 c=true/\match c with
  | .seq a b=>NCg tab n a loc d h (zC2 (λl d h=>NCg tab n b l d h Q) Q)
  | .cond o a b=>∃q,ev loc [] o=.bool q/\(q=true->NCg tab n a loc d h Q)/\(q=false->NCg tab n b loc d h Q)
  | .block id a=>NCg tab n a loc d h λr=>Q (zCd id r)
  | .loop a=>NCg tab n a loc d h (zC2 (λl d h=>NCg tab n (.loop a) l d h Q) Q)
  | .ops [⟨.next o,none,none,[]⟩,⟨.extract 0 (.t 0),none,some j,[]⟩]=>NextN o j loc d h Q
  | _=>False)
section
variable{tab:Nat->Option AFunc}{n:Nat}{loc:T AV}{d:List AV}{h:AH}{Q:Res->Prop}{a b c:ACode}
theorem zEz(hc:zC9 c=false)(x:WC tab c loc d h Q):NCg tab (n+1) c loc d h Q:=.inl ⟨hc,x⟩
theorem zHn(hc:zC9 (.seq a b)=true)(x:NCg tab n a loc d h (zC2 (λl d h=>NCg tab n b l d h Q) Q)):NCg tab (n+1) (.seq a b) loc d h Q:=.inr ⟨hc,x⟩
theorem ncg_block{id:Nat}(hc:zC9 a=true)(x:NCg tab n a loc d h λr=>Q (zCd id r)):NCg tab (n+1) (.block id a) loc d h Q:=.inr ⟨hc,x⟩
theorem ncg_loop(hc:zC9 a=true)(x:NCg tab n a loc d h (zC2 (λl d h=>NCg tab n (.loop a) l d h Q) Q)):NCg tab (n+1) (.loop a) loc d h Q:=.inr ⟨hc,x⟩
theorem ncg_next{o:Opd}{j:Nat}(x:NextN o j loc d h Q):NCg tab (n+1) (.ops [⟨.next o,none,none,[]⟩,⟨.extract 0 (.t 0),none,some j,[]⟩]) loc d h Q:=.inr ⟨rfl,x⟩
theorem NextN.mono{o:Opd}{j:Nat}{Q':Res->Prop}(x:NextN o j loc d h Q)(hq:∀r,Q r->Q' r):NextN o j loc d h Q':=by
 obtain⟨id,m,since,last,clock,seen,es,e0,g1,g2,ok,old,hend,hone⟩:=x;exact⟨id,m,since,last,clock,seen,es,e0,g1,g2,ok,old,λhh=>hq _ (hend hh),λa x n h1 h2=>hq _ (hone a x n h1 h2)⟩
theorem zCr{K K':T AV->List AV->AH->Prop}{Q Q':Res->Prop}(hk:∀l d h,K l d h->K' l d h)(hq:∀r,Q r->Q' r):∀r,zC2 K Q r->zC2 K' Q' r:=λr x=>by
 cases r with
 | norm l d h=>exact hk _ _ _ x
 | _=>exact hq _ x
theorem zD5:∀(n:Nat) (c:ACode) (loc:T AV) (d:List AV) (h:AH) (Q Q':Res->Prop),(∀r,Q r->Q' r)->NCg tab n c loc d h Q->NCg tab n c loc d h Q'
 | 0,_,_,_,_,_,_,_,x=>x.elim
 | n+1,c,loc,d,h,Q,Q',hq,x=>by
  rcases x with⟨hc,x⟩ | ⟨hc,x⟩
  ·exact .inl ⟨hc,x.mono hq⟩
  refine .inr ⟨hc,?_⟩;split at x
  ·exact zD5 n _ _ _ _ _ _ (zCr (λl d h=>zD5 n _ _ _ _ _ _ hq) hq) x
  ·obtain⟨q,h0,h1,h2⟩:=x;exact⟨q,h0,λe=>zD5 n _ _ _ _ _ _ hq (h1 e),λe=>zD5 n _ _ _ _ _ _ hq (h2 e)⟩
  ·exact zD5 n _ _ _ _ _ _ (λr=>hq _) x
  ·exact zD5 n _ _ _ _ _ _ (zCr (λl d h=>zD5 n _ _ _ _ _ _ hq) hq) x
  ·exact NextN.mono x hq
  ·exact x.elim
theorem zDl:∀(n:Nat) (c:ACode) (loc:T AV) (d:List AV) (h:AH) (Q Q':Res->Prop),(∀r,Q r->Q' r)->NCf tab n c loc d h Q->NCf tab n c loc d h Q'
 | 0,_,_,_,_,_,_,_,x=>x.elim
 | n+1,c,loc,d,h,Q,Q',hq,x=>by
  rcases x with⟨r,x,y⟩ | x
  ·exact .inl ⟨r,x,hq r y⟩
  refine .inr ?_;split at x
  ·exact zDl n _ _ _ _ _ _ (zCr (λl d h=>zDl n _ _ _ _ _ _ hq) hq) x
  ·obtain⟨q,h0,h1,h2⟩:=x;exact⟨q,h0,λe=>zDl n _ _ _ _ _ _ hq (h1 e),λe=>zDl n _ _ _ _ _ _ hq (h2 e)⟩
  ·exact zDl n _ _ _ _ _ _ (λr=>hq _) x
  ·exact zDl n _ _ _ _ _ _ (zCr (λl d h=>zDl n _ _ _ _ _ _ hq) hq) x
  ·exact NextN.mono x hq
  ·exact x.elim
theorem ncg_f:∀(n:Nat) (c:ACode) (loc:T AV) (d:List AV) (h:AH) (Q:Res->Prop),NCg tab n c loc d h Q->NCf tab n c loc d h Q
 | 0,_,_,_,_,_,x=>x.elim
 | n+1,c,loc,d,h,Q,x=>by
  rcases x with⟨hc,x⟩ | ⟨hc,x⟩
  ·exact .inl x
  refine .inr ?_;split at x
  ·exact zDl n _ _ _ _ _ _ (zCr (λl d h=>ncg_f n _ _ _ _ _) λr x=>x) (ncg_f n _ _ _ _ _ x)
  ·obtain⟨q,h0,h1,h2⟩:=x;exact⟨q,h0,λe=>ncg_f n _ _ _ _ _ (h1 e),λe=>ncg_f n _ _ _ _ _ (h2 e)⟩
  ·exact ncg_f n _ _ _ _ _ x
  ·exact zDl n _ _ _ _ _ _ (zCr (λl d h=>ncg_f n _ _ _ _ _) λr x=>x) (ncg_f n _ _ _ _ _ x)
  ·exact x
  ·exact x.elim
theorem zDk:∀(n m:Nat) (c:ACode) (loc:T AV) (d:List AV) (h:AH) (Q Q':Res->Prop),NCg tab n c loc d h Q->NCg tab m c loc d h Q'->∃r,Q r/\Q' r
 | 0,_,_,_,_,_,_,_,x,_=>x.elim
 | _+1,0,_,_,_,_,_,_,_,y=>y.elim
 | n+1,m+1,c,loc,d,h,Q,Q',x,y=>by
  have two:∀{a:ACode} {K K':T AV->List AV->AH->Prop} {R:Prop},(∃r,zC2 K Q r/\zC2 K' Q' r)->(∀l d h,K l d h->K' l d h->∃r,Q r/\Q' r)->∃r,Q r/\Q' r:=by
   rintro a K K' R ⟨r,h1,h2⟩ hk;cases r with
   | norm l d h=>exact hk _ _ _ h1 h2
   | _=>exact⟨_,h1,h2⟩
  rcases x with⟨hc,r,x,q⟩ | ⟨hc,x⟩<;>rcases y with⟨hc',r',y,q'⟩ | ⟨hc',y⟩
  ·exact⟨r,q,by rw[Does.fn x y];exact q'⟩
  ·rw[hc] at hc';cases hc'
  ·rw[hc] at hc';cases hc'
  split at x
  ·exact two (a:=.skip) (R:=True) (zDk n m _ _ _ _ _ _ x y) λl d h k1 k2=>zDk n m _ _ _ _ _ _ k1 k2
  ·obtain⟨q,h0,h1,h2⟩:=x;obtain⟨q',h0',h1',h2'⟩:=y;rw[h0] at h0';injection h0' with e;subst e;cases q with
   | true=>exact zDk n m _ _ _ _ _ _ (h1 rfl) (h1' rfl)
   | false=>exact zDk n m _ _ _ _ _ _ (h2 rfl) (h2' rfl)
  ·obtain⟨r,h1,h2⟩:=zDk n m _ _ _ _ _ _ x y;exact⟨_,h1,h2⟩
  ·exact two (a:=.skip) (R:=True) (zDk n m _ _ _ _ _ _ x y) λl d h k1 k2=>zDk n m _ _ _ _ _ _ k1 k2
  ·obtain⟨id,m,since,last,clock,seen,es,e0,g1,g2,ok,old,hend,hone⟩:=x;obtain⟨id',m',since',last',clock',seen',es',e0',g1',g2',ok',old',hend',hone'⟩:=y;rw[e0] at e0';injection e0' with e _;subst e;rw[g1] at g1';injection g1' with e;injection e with e1 e2 e3 e4;injection e1 with e1;subst e1;subst e2;subst e3;subst e4;rw[g2] at g2';injection g2' with e;injection e with e1 e2;subst e1;subst e2;by_cases hall:∀e∈es,e.2.2∈seen
   ·exact⟨_,hend hall,hend' hall⟩
   ·simp only[Classical.not_forall] at hall;obtain⟨⟨a,x,n⟩,h1,h2⟩:=hall;exact⟨_,hone a x n h1 h2,hone' a x n h1 h2⟩
  ·exact x.elim
end
def OEq(a b:AObj):Prop:=a=b\/∃c c' s t r,a=.cells c s t r/\b=.cells c' s t r/\∀i,c.get i=c'.get i
theorem OEq.ro{a b:AObj}(x:OEq a b):a.ro=b.ro:=by
 rcases x with rfl | ⟨c,c',s,t,r,rfl,rfl,_⟩<;>rfl
theorem ObjR.oeq{ρ:Rho}{a b:AObj}{x:Obj}{o s:Nat}(e:OEq a b)(k:ObjR ρ a x o s):ObjR ρ b x o s:=by
 rcases e with rfl | ⟨c,c',sz,t,r,rfl,rfl,hc⟩
 ·exact k
 ·cases k with
  | cells a b c d f=>exact .cells a b (λi x hx=>c i x (by rw[hc];exact hx)) d f
structure Eqv(h h1 h2:AH):Prop where
 next:h1.next=h2.next
 get:∀id,(h.next<=id/\h2.mem.get id=h.mem.get id)\/(id<h.next/\h1.mem.get id=none/\h2.mem.get id=none)\/(id<h.next/\∃o1 o,h1.mem.get id=some o1/\h2.mem.get id=some o/\OEq o1 o/\(h1.mem.get id=h.mem.get id->o=o1))
theorem rc_eqv{ρ:Rho}{h h1 h2:AH}{w w':World}{v:AV}{e:Ending}(W:WR ρ h w)(E:Eqv h h1 h2)(x:RC ρ h w (.ret v h1) e w'):RC ρ h w (.ret v h2) e w':=by
 obtain⟨ρ',v',e,hv,W',S⟩:=x;have back:∀{id o},h2.mem.get id=some o->∃o1,h1.mem.get id=some o1/\OEq o1 o:=by
  intro id o g;rcases E.get id with⟨a,b⟩ | ⟨a,b,c⟩ | ⟨a,o1,o',b,c,q,_⟩
  ·rw[b,W.fresh a] at g;cases g
  ·rw[c] at g;cases g
  ·rw[c] at g;injection g with g;subst g;exact⟨o1,b,q⟩
 have own:∀{k},Owned ρ' h2 k->Owned ρ' h1 k:=by
  rintro k ⟨id,o,p,s,g,r,m⟩;obtain⟨o1,g1,q⟩:=back g;exact⟨id,o1,p,s,g1,by rw[q.ro];exact r,m⟩
 refine⟨ρ',v',e,hv,⟨⟨λg m=>?_,λg1 g2 hne m1 m2=>?_,λm=>by rw[<-E.next];exact W'.dom m,λ{id} hi=>?_⟩,λk hk=>?_⟩,⟨S.le,λhk o=>S.own hk (own o),S.frame,S.size,S.os,S.tape,S.output,by rw[<-E.next];exact S.next,λ{id} hi hn=>?_,S.new⟩⟩
 ·obtain⟨o1,g1,q⟩:=back g;obtain⟨x,hx,k⟩:=W'.obj g1 m;exact⟨x,hx,k.oeq q⟩
 ·obtain⟨a1,b1,q1⟩:=back g1;obtain⟨a2,b2,q2⟩:=back g2;have:=W'.inj b1 b2 hne m1 m2;rw[q1.ro,q2.ro] at this;exact this
 ·have hb:h.next<=id:=q0m S.next (by rw[E.next];exact hi);rcases E.get id with⟨a,b⟩ | ⟨a,_⟩ | ⟨a,_⟩
  ·rw[b,W.fresh a]
  ·omega
  ·omega
 ·obtain⟨a,b,c⟩:=W'.gl k hk;exact⟨a,b,λo=>c (own o)⟩
 ·have k1:=S.keep hi hn;rcases E.get id with⟨a,b⟩ | ⟨a,b,c⟩ | ⟨a,o1,o,b,c,q,f⟩
  ·omega
  ·rw[c,<-b,k1]
  ·rw[c,f k1,<-b,k1]
def ChOK(tab:Nat->Option AFunc)(body:ACode)(rs:List ARes)(args:List AV)(h h2:AH):Prop:=∃k,NCg tab k body (zAb args) [] h (zGt rs λv h1=>v=.tup []/\Eqv h h1 h2)
open Classical in
noncomputable def chG(tab:Nat->Option AFunc)(n:Nat)(body:ACode)(rs:List ARes):List AV->AH->Option (AV×AH):=λargs h=>
 if e:args.length=n/\∃h2,ChOK tab body rs args h h2 then some (.tup [],Classical.choose e.2) else none
theorem ch_nat{P:Program}{tab:Nat->Option AFunc}(hm:P.follows .mixedOrders=true)(htab:TabOK P tab){f n:Nat}{body:ACode}{rs:List ARes}(hcf:cFunc P f=some (.mk n body rs))(hcalm:calmF P f=true)(hcall:zBc P f=true):NatOK P f (chG tab n body rs):=by
 refine⟨hcall,λargs h v h' e ρ w args' ha W=>?_⟩;unfold chG at e;split at e
 ·rename_i ex;injection e with e;injection e with e1 e2;obtain⟨k,x⟩:=Classical.choose_spec ex.2;rw[e2] at x;refine(ncall_ok hm htab hcf hcalm ex.1 (ncg_f _ _ _ _ _ _ x) ha W).mono λe w' q=>?_;obtain⟨v1,h1,⟨rfl,E⟩,rc⟩:=q;rw[<-e1];exact rc_eqv W E rc
 ·cases e
theorem onEndN_mono{rs:List ARes}{R R':AV->AH->Prop}(hr:∀v h,R v h->R' v h):∀r,zGt rs R r->zGt rs R' r:=λr x=>by
 cases r with
 | norm l d h=>
  cases d with
  | nil=>obtain⟨vs,a,b⟩:=x;exact⟨vs,a,hr _ _ b⟩
  | cons=>exact x.elim
 | ret l d h=>
  cases d with
  | nil=>obtain⟨vs,a,b⟩:=x;exact⟨vs,a,hr _ _ b⟩
  | cons=>exact x.elim
 | exit _ _ d _=>cases d<;>exact x.elim
 | pan _ _ d _=>cases d<;>exact x.elim
 | fail _=>exact x.elim
theorem zJc{rs:List ARes}{R R':AV->AH->Prop}{r:Res}(x:zGt rs R r)(y:zGt rs R' r):∃v h,R v h/\R' v h:=by
 cases r with
 | norm l d h=>
  cases d with
  | nil=>
   obtain⟨vs,a,b⟩:=x;obtain⟨vs',a',b'⟩:=y;rw[a] at a';injection a' with e;subst e;exact⟨_,_,b,b'⟩
  | cons=>exact x.elim
 | ret l d h=>
  cases d with
  | nil=>
   obtain⟨vs,a,b⟩:=x;obtain⟨vs',a',b'⟩:=y;rw[a] at a';injection a' with e;subst e;exact⟨_,_,b,b'⟩
  | cons=>exact x.elim
 | exit _ _ d _=>cases d<;>exact x.elim
 | pan _ _ d _=>cases d<;>exact x.elim
 | fail _=>exact x.elim
theorem nat_gp{tab:Nat->Option AFunc}{h:AH}{f n:Nat}{g:List AV->AH->Option (AV×AH)}{args:List AV}{v:AV}{h':AH}(ht:tab f=some (natF n g))(hn:args.length=n)(e:g args h=some (v,h')):GP tab f args h λw h1=>w=v/\h1=h':=by
 refine GE.gp (ge_of (n:=n) ht hn (wc_opse ?_)) (E:=λ_ _=>False) λ_ _ hh=>hh;rw[PE_cons,zGh,zJo];have hargs:evs (zAb args) [] (zCe n 0)=args:=by
  show evs (zAa args) [] (zCe n 0)=args;rw[zJv n 0 args (by omega),<-hn];simp
 have hev:evOp (.nat g (zCe n 0)) (zAb args) [] h=.val v h':=by
  show obind (g (evs (zAb args) [] (zCe n 0)) h) (F 67) (λr=>Prod.rec (motive:=λ_=>OR) (λv h=>OR.val v h) r)=_;rw[hargs,e];rfl
 rw[hev,stepE_val];refine⟨rfl,?_⟩;rw[PE_nil];refine⟨_,zEw zA5,?_⟩;rw[zHk,evl,zGa,q1b];exact⟨rfl,rfl⟩
theorem ch_gp{tab0 tab:Nat->Option AFunc}{f n k:Nat}{body:ACode}{rs:List ARes}{args:List AV}{h:AH}{R:AH->Prop}{Q:AV->AH->Prop}(ht:tab f=some (natF n (chG tab0 n body rs)))(hn:args.length=n)(x:NCg tab0 k body (zAb args) [] h (zGt rs λv h1=>v=.tup []/\R h1))(ex:∀h0,R h0->∃h2,∀h1,R h1->Eqv h h1 h2)(hq:∀h1 h2,R h1->Eqv h h1 h2->Q (.tup []) h2):GP tab f args h Q:=by
 obtain⟨r,r1,r2⟩:=zDk _ _ _ _ _ _ _ _ x x;obtain⟨_,h0,⟨_,q0⟩,_⟩:=zJc r1 r2;obtain⟨h2,hh2⟩:=ex h0 q0;have e:args.length=n/\∃h2,ChOK tab0 body rs args h h2:=⟨hn,h2,k,zD5 _ _ _ _ _ _ _ (onEndN_mono λv h1 q=>⟨q.1,hh2 h1 q.2⟩) x⟩;have eg:chG tab0 n body rs args h=some (.tup [],Classical.choose e.2):=by unfold chG;rw[dif_pos e]
 refine(nat_gp ht hn eg).mono λv h1 q=>?_;obtain⟨rfl,rfl⟩:=q;obtain⟨k',y⟩:=Classical.choose_spec e.2;obtain⟨r,r1,r2⟩:=zDk _ _ _ _ _ _ _ _ x y;obtain⟨v,h1,⟨_,q1⟩,_,q2⟩:=zJc r1 r2;exact hq h1 _ q1 q2
theorem OEq.symm{a b:AObj}(x:OEq a b):OEq b a:=by
 rcases x with rfl | ⟨c,c',s,t,r,rfl,rfl,h⟩
 ·exact .inl rfl
 ·exact .inr ⟨c',c,s,t,r,rfl,rfl,λi=>(h i).symm⟩
theorem OEq.trans{a b c:AObj}(x:OEq a b)(y:OEq b c):OEq a c:=by
 rcases x with rfl | ⟨c1,c2,s,t,r,rfl,rfl,h⟩
 ·exact y
 ·rcases y with rfl | ⟨c3,c4,s',t',r',e,rfl,h'⟩
  ·exact .inr ⟨c1,c2,s,t,r,rfl,rfl,h⟩
  ·injection e with e1 e2 e3 e4;subst e1;subst e2;subst e3;subst e4;exact .inr ⟨c1,c4,s,t,r,rfl,rfl,λi=>(h i).trans (h' i)⟩
open Classical in
theorem eqv_two{h:AH}{I1 I2 N:Nat}{R:AH->Prop}(i1:I1<h.next)(i2:I2<h.next)(hR:∀h1,R h1->h1.next=N/\∀k,k<h.next->k≠I1->k≠I2->h1.mem.get k=h.mem.get k)(two:∀h0 h1,R h0->R h1->∀k,k=I1\/k=I2->(h0.mem.get k=none/\h1.mem.get k=none)\/∃a b,h0.mem.get k=some a/\h1.mem.get k=some b/\OEq a b){h0:AH}(r0:R h0):∃h2,∀h1,R h1->Eqv h h1 h2:=by
 obtain⟨pick,ep⟩:∃pick:Nat->Option AObj,pick=λk=>if(∃a b,h.mem.get k=some a/\h0.mem.get k=some b/\OEq a b) then h.mem.get k else h0.mem.get k:=⟨_,rfl⟩;have ep:∀k,pick k=if(∃a b,h.mem.get k=some a/\h0.mem.get k=some b/\OEq a b) then h.mem.get k else h0.mem.get k:=λk=>by rw[ep]
 refine⟨⟨T.put (pick I2) (T.put (pick I1) h.mem I1) I2,N⟩,λh1 r1=>⟨(hR h1 r1).1,λid=>?_⟩⟩;show(_/\(T.put (pick I2) (T.put (pick I1) h.mem I1) I2).get id=_)\/(_/\_/\(T.put (pick I2) (T.put (pick I1) h.mem I1) I2).get id=none)\/(_/\∃o1 o,_/\(T.put (pick I2) (T.put (pick I1) h.mem I1) I2).get id=some o/\_);by_cases hid:id=I1\/id=I2
 ·have e:(T.put (pick I2) (T.put (pick I1) h.mem I1) I2).get id=pick id:=by
   by_cases e2:id=I2
   ·rw[e2,q1b]
   ·rw[q1a _ _ _ _ (Ne.symm e2),hid.resolve_right e2,q1b]
  have hlt:id<h.next:=by rcases hid with e | e<;>omega
  rw[e,ep];refine .inr ?_;rcases two h0 h1 r0 r1 id hid with⟨a,b⟩ | ⟨b,o1,hb,h1o,q⟩
  ·refine .inl ⟨hlt,b,?_⟩;rw[if_neg (λ⟨_,y,_,hy,_⟩=>by rw[a] at hy;cases hy)];exact a
  ·refine .inr ⟨hlt,?_⟩;by_cases hp:∃a b,h.mem.get id=some a/\h0.mem.get id=some b/\OEq a b
   ·obtain⟨a,b',h3,h4,h5⟩:=hp;rw[hb] at h4;injection h4 with h4;subst h4;exact⟨o1,a,h1o,by rw[if_pos ⟨a,b,h3,hb,h5⟩];exact h3,q.symm.trans h5.symm,λe=>by rw[h1o,h3] at e;injection e with e;exact e.symm⟩
   ·refine⟨o1,b,h1o,by rw[if_neg hp];exact hb,q.symm,λe=>?_⟩;rw[h1o] at e;exact absurd ⟨o1,b,e.symm,hb,q.symm⟩ hp
 ·have e:(T.put (pick I2) (T.put (pick I1) h.mem I1) I2).get id=h.mem.get id:=by
   rw[q1a _ _ _ _ (λe=>hid (.inr e.symm)),q1a _ _ _ _ (λe=>hid (.inl e.symm))]
  rw[e];by_cases hlt:id<h.next
  ·refine .inr ?_;have k:=(hR h1 r1).2 id hlt (λe=>hid (.inl e)) (λe=>hid (.inr e));rw[k];cases hg:h.mem.get id with
   | none=>exact .inl ⟨hlt,rfl,rfl⟩
   | some o=>exact .inr ⟨hlt,o,o,rfl,rfl,.inl rfl,λ_=>rfl⟩
  ·exact .inl ⟨Nat.le_of_not_lt hlt,rfl⟩
theorem WR.agrees[Glob]{ρ:Rho}{h:AH}{w:World}(W:WR ρ h w):∀k,k<Glob.n->k<w.heap.size/\w.heap[k]?=Glob.g k:=λk hk=>⟨(W.gl k hk).1,(W.gl k hk).2.1⟩
theorem nat_true[Glob]{P:Program}{tab:Nat->Option AFunc}(hm:P.follows .mixedOrders=true)(htab:TabOK P tab){n f:Nat}(hc:zBc P f=true)(h:isTrue (evF tab n f [] (AH.mk T.leaf 0))=true):NatOK P f (rowsG [([],.bool true)]):=by
 refine⟨hc,λargs h0 v h0' hg ρ w args' ha W=>?_⟩;have hg:obind (zJs args [([],.bool true)]) Option.none (λv=>some (v,h0))=some (v,h0'):=hg;cases hf:zJs args [([],.bool true)] with
 | none=>rw[hf] at hg;cases hg
 | some u=>
  rw[hf] at hg;have hg:some (u,h0)=some (v,h0'):=hg;injection hg with hg;injection hg with g1 g2;subst g1;subst g2;obtain⟨rw',hm',h1,h2⟩:=zIc hf;simp only[List.mem_singleton] at hm';subst hm';subst h1;subst h2;cases ha;obtain⟨h',hr⟩:=isTrue_eq h;refine Calls.mono (evF_ok hm htab hr trivial .nil (WR.start W.agrees)) λe w' he=>?_;obtain⟨ρ',v',rfl,hv,W',S'⟩:=he;cases hv;refine RC.below W (.bool _) ⟨S'.os,S'.tape,S'.output,S'.size,λk hk=>S'.frame hk ?_⟩;rintro⟨id,o,p,s,g1,g2,_⟩;rw[T.get_leaf] at g1;cases g1
def T.inB{α:Type}(ks:List Nat):T α->(Nat->Nat)->Bool
 | .leaf,_=>true
 | .log _ _ _ _,_=>false
 | .node v l r,g=>(v.isNone||ks.contains (g 0))&&(T.inB ks l (λj=>g (2*j+1))&&T.inB ks r λj=>g (2*j+2))
theorem T.inB_get{α:Type}{ks:List Nat}:∀{t:T α} {g:Nat->Nat},T.inB ks t g=true->∀{k:Nat} {a:α},t.get k=some a->g k∈ks:=by
 intro t;induction t with
 | leaf=>intro g _ k a e;rw[T.get_leaf] at e;cases e
 | log=>intro g h;cases h
 | node v l r il ir=>
  intro g h k a e;simp only[T.inB,q0C,Bool.or_eq_true] at h;cases k with
  | zero=>
   have e:v=some a:=e;rcases h.1 with h1 | h1
   ·rw[e] at h1;cases h1
   ·simpa using h1
  | succ k=>
   rw[T.get_succ] at e;split at e
   ·rename_i hk;have:=il h.2.1 e;have h2:2*(k / 2)+1=k+1:=by omega
    simp only[h2] at this;exact this
   ·rename_i hk;have:=ir h.2.2 e;have h2:2*(k / 2)+2=k+1:=by omega
    simp only[h2] at this;exact this
theorem tab_keys{P:Program}{t:T AFunc}{ks:List Nat}(h1:T.inB ks t id=true)(h2:ks.map (cFunc P)=ks.map t.get):∀f af,t.get f=some af->cFunc P f=some af:=λf af e=>(List.map_inj_left.mp h2 f (T.inB_get h1 e)).trans e
end Go.Ev
namespace Go.Ev
noncomputable def af4:AFunc:=.mk 4 (sq ([o2 (.box k0) 5,mc (.bool false) 13])
 (.seq (sq ([o1 (cf 9 []),o2 (.not u0) 4])
 (.cond k4 (sq ([mc (.bool false) 13])
 .ret) .skip))
 (.seq (sq ([o1 (lN 3 k5),o1 (cf 10 [u0]),m0,o3 (.move k1) 0 false,o3 (ll u0) 1 false,o3 (gt u0 (.c (iz 100))) 2 false,o1 (pk u3 (.c (.bool true)) u0),m0,o3 (.move k2) 0 false,o3 (ls u0 (.c (iz 0))) 1 false,o1 (pk u2 (.c (.bool true)) u0),m0,o3 (.move k2) 0 false,o3 (gt u0 (.c (iz 2048))) 1 false,o1 (pk u2 (.c (.bool true)) u0),m0,o3 (lN 3 k5) 0 false,o3 (cf 16 [u0]) 1 false,o3 (.not u0) 2 false,o2 (pk u3 (.c (.bool true)) u0) 6])
 (.cond k6 (sq ([mc (.bool true) 13])
 .ret) .skip))
 (sq ([o1 (.bslice [] 0 []),ml 1,o1 (ap 1 8 u1 u0),ml 3,o1 (.convI .u64 u0),o1 (.bin .rem u0 (.c (.int .u64 (.ofNat 50)))),o1 (.convI .i64 u0),o1 (.appendZ [(iz 0)] 8 u4 u0),mt 0 7])
 (sq ([o1 (lN 3 k5),ml 1,ml 2,o1 (cf 11 [u2,u1,u0]),m0,ox 0,ox 1,ox 2,o2 (.alloc [.nils,(iz 0),(iz 0),(iz 0),(iz 0)]) 9,o1 (st 5 u0 u3),mt 3 11,o1 (.move u3)])
 (sq ([o1 (lN 3 k5),ml 7,ml 2,o1 (cf 11 [u2,u1,u0]),m0,ox 0,ox 1,ox 2,o2 (.alloc [.nils,(iz 0),(iz 0),(iz 0),(iz 0)]) 10,o1 (st 5 u0 u3),mt 3 12,mt 3 8])
 (sq ([ml 8,o1 (en u0 (.c (iz 0))),m0,o3 (lN 5 k9) 0 true,o3 (lN 5 k10) 1 true,o3 (cf 13 [u1,u0]) 2 true,o1 (pk u3 u0 (.c (.bool false))),m0,o3 (fa 3 k9) 0 true,o3 (ld u0) 1 true,o3 (fa 3 k10) 2 true,o3 (ld u0) 3 true,o3 (en u2 u0) 4 true,o1 (pk u5 u0 (.c (.bool false))),m0,o3 (fa 4 k9) 0 true,o3 (ld u0) 1 true,o3 (fa 4 k10) 2 true,o3 (ld u0) 3 true,o3 (en u2 u0) 4 true,o1 (pk u5 u0 (.c (.bool false))),m0,o3 (.move k11) 0 true,o3 (.move k12) 1 true,o3 (en u1 u0) 2 true,o1 (pk u3 u0 (.c (.bool false))),mt 0 13])
 .ret))))))) [.val k13]
noncomputable def af9:AFunc:=.mk 0 (sq ([mc (.bool false) 10])
 (sq ([o1 (cf 24 [(.c (iz 1))]),o1 (cf 11 [u0,(.c .nils),(.c (iz 20))]),m0,ox 0,ox 1,ox 2,o2 (.alloc [.nils,(iz 0),(iz 0),(iz 0),(iz 0)]) 2,o1 (st 5 u0 u3),mt 3 3,mt 3 1])
 (sq ([o1 (cf 24 [(.c (iz 0))]),o1 (cf 11 [u0,(.c .nils),(.c (iz 20))]),m0,ox 0,ox 1,ox 2,o2 (.alloc [.nils,(iz 0),(iz 0),(iz 0),(iz 0)]) 5,o1 (st 5 u0 u3),mt 3 6,mt 3 4])
 (sq ([o1 (cf 24 [(.c (iz 0))]),o1 (cf 11 [u0,(.c .nils),(.c (iz 5))]),m0,ox 0,ox 1,ox 2,o2 (.alloc [.nils,(iz 0),(iz 0),(iz 0),(iz 0)]) 7,o1 (st 5 u0 u3),o1 (.move u3),o1 (.move u3)])
 (sq ([o1 (.build [.nils,.nils,.nils] []),o1 (cf 11 [u0,(.c .nils),(.c (iz 20))]),m0,ox 0,ox 1,ox 2,o1 (.alloc [.nils,(iz 0),(iz 0),(iz 0),(iz 0)]),o1 (st 5 u0 u3),o1 (.move u3),mt 3 8])
 (sq ([o1 (cf 24 [(.c (iz 0))]),o1 (cf 11 [u0,(.c .nils),(.c (.int .i64 (.negSucc 0)))]),m0,ox 0,ox 1,ox 2,o1 (.alloc [.nils,(iz 0),(iz 0),(iz 0),(iz 0)]),o1 (st 5 u0 u3),o1 (.move u3),mt 3 9])
 (sq ([o1 (.bslice [] 0 []),o2 (.alloc [.nils]) 0,o1 (st 1 u0 u1)])
 (sq ([o1 (cf 24 [(.c (iz 0))]),o1 (.mkFn 26 [] [k0]),o1 (cf 25 [u1,(.c .nils),(.c (iz 20)),u0])])
 (sq ([ml 1,o1 (en u0 (.c (iz 0))),m0,o3 (fa 1 k2) 0 true,o3 (ld u0) 1 true,o3 (en u0 (.c (iz 4))) 2 true,o1 (pk u3 u0 (.c (.bool false))),m0,o3 (fa 2 k2) 0 true,o3 (ld u0) 1 true,o3 (en u0 (.c (iz 14))) 2 true,o1 (pk u3 u0 (.c (.bool false))),m0,o3 (.move k3) 0 true,o3 (en u0 (.c (iz 1))) 1 true,o1 (pk u2 u0 (.c (.bool false))),m0,o3 (.move k4) 0 true,o3 (en u0 (.c (iz 0))) 1 true,o1 (pk u2 u0 (.c (.bool false))),m0,o3 (fa 1 k5) 0 true,o3 (ld u0) 1 true,o3 (en u0 (.c (iz 1))) 2 true,o1 (pk u3 u0 (.c (.bool false))),m0,o3 (.move k6) 0 true,o3 (en u0 (.c (iz 0))) 1 true,o1 (pk u2 u0 (.c (.bool false))),m0,o3 (fa 4 k5) 0 true,o3 (ld u0) 1 true,o3 (en u0 (.c (iz 1))) 2 true,o1 (pk u3 u0 (.c (.bool false))),m0,o3 (fa 0 k5) 0 true,o3 (ld u0) 1 true,o3 (ll u0) 2 true,o3 (en u0 (.c (iz 1))) 3 true,o1 (pk u4 u0 (.c (.bool false))),m0,o3 (fa 0 k5) 0 true,o3 (ld u0) 1 true,o3 (ia 1 u0 (.c (iz 0))) 2 true,o3 (ld u0) 3 true,o3 (en u0 (.c (iz 0))) 4 true,o1 (pk u5 u0 (.c (.bool false))),m0,o3 (fa 3 k5) 0 true,o3 (ld u0) 1 true,o3 (en u0 (.c (iz 6))) 2 true,o1 (pk u3 u0 (.c (.bool false))),m0,o3 (fa 1 k7) 0 true,o3 (ld u0) 1 true,o3 (en u0 (.c (iz 3))) 2 true,o1 (pk u3 u0 (.c (.bool false))),m0,o3 (.move k8) 0 true,o3 (en u0 (.c (iz 1))) 1 true,o1 (pk u2 u0 (.c (.bool false))),m0,o3 (.move k9) 0 true,o3 (en u0 (.c (iz 9))) 1 true,o1 (pk u2 u0 (.c (.bool false))),m0,o3 (ld k0) 0 true,o3 (ll u0) 1 true,o3 (en u0 (.c (iz 4))) 2 true,o1 (pk u3 u0 (.c (.bool false))),m0,o3 (ld k0) 0 true,o3 (ia 1 u0 (.c (iz 0))) 1 true,o3 (ld u0) 2 true,o3 (en u0 (.c (iz 1))) 3 true,o1 (pk u4 u0 (.c (.bool false))),m0,o3 (ld k0) 0 true,o3 (ia 1 u0 (.c (iz 1))) 1 true,o3 (ld u0) 2 true,o3 (en u0 (.c (iz 2))) 3 true,o1 (pk u4 u0 (.c (.bool false))),m0,o3 (ld k0) 0 true,o3 (ia 1 u0 (.c (iz 2))) 1 true,o3 (ld u0) 2 true,o3 (en u0 (.c (iz 2))) 3 true,o1 (pk u4 u0 (.c (.bool false))),m0,o3 (ld k0) 0 true,o3 (ia 1 u0 (.c (iz 3))) 1 true,o3 (ld u0) 2 true,o3 (en u0 (.c (iz 4))) 3 true,o1 (pk u4 u0 (.c (.bool false))),mt 0 10])
 .ret))))))))) [.val k10]
noncomputable def af10:AFunc:=.mk 1 (sq ([o2 (.box k0) 1,mc (.bool false) 15])
 (.seq (sq ([o1 (fa 0 k1),o1 (ld u0),o1 (ll u0),o1 (gt u0 (.c (iz 16))),m0,o3 (fa 1 k1) 0 false,o3 (ld u0) 1 false,o3 (ll u0) 2 false,o3 (gt u0 (.c (iz 20))) 3 false,o1 (pk u4 (.c (.bool true)) u0),m0,o3 (fa 2 k1) 0 false,o3 (ld u0) 1 false,o3 (ll u0) 2 false,o3 (gt u0 (.c (iz 30))) 3 false,o2 (pk u4 (.c (.bool true)) u0) 2])
 (.cond k2 (sq ([mc (.bool true) 15])
 .ret) .skip))
 (sq ([mc (iz 0) 12])
 (.seq (sq ([mc (iz 0) 3])
 (.block 0 (.loop (.seq (sq ([ml 3,o1 (fa 0 k1),o1 (ld u0),o1 (ll u0),o2 (ls u3 u0) 4])
 (.cond k4 .skip (.exit 0)))
 (.seq (.block 1 (sq ([o1 (fa 0 k1),o1 (ld u0),ml 3,o1 (ia 2 u1 u0),o1 (fa 1 u0),o1 (ld u0),o1 (ll u0),o2 (gt u0 (.c (iz 12))) 5])
 (.cond k5 (sq ([mc (.bool true) 15])
 .ret) .skip)))
 (.ops [ml 3,o1 (ad u0 (.c (iz 1))),mt 0 3]))))))
 (.seq (sq ([mc (iz 0) 6])
 (.block 2 (.loop (.seq (sq ([ml 6,o1 (fa 2 k1),o1 (ld u0),o1 (ll u0),o2 (ls u3 u0) 7])
 (.cond k7 .skip (.exit 2)))
 (.seq (.block 3 (sq ([o1 (fa 2 k1),o1 (ld u0),ml 6,o1 (ia 6 u1 u0),o1 (lN 6 u0),o2 (.alloc [(.str 0 0),.nils,(.str 0 0),.nils,.nils,.nils]) 8,o1 (st 6 u0 u1)])
 (.seq (sq ([o1 (fa 1 k8),o1 (ld u0),o1 (ll u0),o1 (gt u0 (.c (iz 10))),m0,o3 (fa 3 k8) 0 false,o3 (ld u0) 1 false,o3 (ll u0) 2 false,o3 (gt u0 (.c (iz 100))) 3 false,o1 (pk u4 (.c (.bool true)) u0),m0,o3 (fa 4 k8) 0 false,o3 (ld u0) 1 false,o3 (ll u0) 2 false,o3 (gt u0 (.c (iz 600))) 3 false,o1 (pk u4 (.c (.bool true)) u0),m0,o3 (fa 5 k8) 0 false,o3 (ld u0) 1 false,o3 (ll u0) 2 false,o3 (gt u0 (.c (iz 60))) 3 false,o2 (pk u4 (.c (.bool true)) u0) 9])
 (.cond k9 (sq ([mc (.bool true) 15])
 .ret) .skip))
 (.seq (sq ([mc (iz 0) 10])
 (.block 4 (.loop (.seq (sq ([ml 10,o1 (fa 4 k8),o1 (ld u0),o1 (ll u0),o2 (ls u3 u0) 11])
 (.cond k11 .skip (.exit 4)))
 (.seq (.block 5 (.ops [ml 12,o1 (fa 4 k8),o1 (ld u0),ml 10,o1 (ia 5 u1 u0),o1 (fa 2 u0),o1 (ld u0),o1 (ll u0),o1 (ad u7 u0),mt 0 12]))
 (.ops [ml 10,o1 (ad u0 (.c (iz 1))),mt 0 10]))))))
 (sq ([mc (iz 0) 13])
 (.block 6 (.loop (.seq (sq ([ml 13,o1 (fa 5 k8),o1 (ld u0),o1 (ll u0),o2 (ls u3 u0) 14])
 (.cond k14 .skip (.exit 6)))
 (.seq (.block 7 (.ops [ml 12,o1 (fa 5 k8),o1 (ld u0),ml 13,o1 (ia 5 u1 u0),o1 (fa 0 u0),o1 (ld u0),o1 (ll u0),o1 (ad u7 u0),mt 0 12]))
 (.ops [ml 13,o1 (ad u0 (.c (iz 1))),mt 0 13]))))))))))
 (.ops [ml 6,o1 (ad u0 (.c (iz 1))),mt 0 6]))))))
 (sq ([ml 12,o1 (gt u0 (.c (iz 1500))),mt 0 15])
 .ret)))))) [.val k15]
noncomputable def af11:AFunc:=.mk 3 (sq ([o2 (.box k0) 3,o2 (.alloc [.nils,(iz 0),(iz 0),(iz 0),(iz 0)]) 4,mc (iz 0) 5,mc (iz 0) 6])
 (sq ([o1 (lN 3 k3),ml 1,ml 2,o1 (cf 25 [u2,u1,u0,(.c .nilf)]),ox 0,ox 1,ox 2,o1 (st 5 k4 u2),mt 2 5,mt 2 6])
 .ret)) [.cellN 5 k4,.val k5,.val k6]
noncomputable def af13:AFunc:=.mk 2 (sq ([o2 (.box k0) 2,o2 (.box k1) 3,mc (.bool false) 4])
 (sq ([o1 (fa 0 k2),o1 (ld u0),o1 (fa 0 k3),o1 (ld u0),o1 (cf 29 [u2,u0]),m0,o3 (fa 1 k2) 0 true,o3 (ld u0) 1 true,o3 (fa 1 k3) 2 true,o3 (ld u0) 3 true,o3 (en u2 u0) 4 true,o1 (pk u5 u0 (.c (.bool false))),m0,o3 (fa 2 k2) 0 true,o3 (ld u0) 1 true,o3 (fa 2 k3) 2 true,o3 (ld u0) 3 true,o3 (en u2 u0) 4 true,o1 (pk u5 u0 (.c (.bool false))),mt 0 4])
 .ret)) [.val k4]
noncomputable def af16:AFunc:=.mk 1 (sq ([o2 (.box k0) 1,mc (.bool false) 9])
 (.seq (sq ([o1 (lN 3 k1),o1 (cf 35 [u0]),o2 (.not u0) 2])
 (.cond k2 (sq ([mc (.bool false) 9])
 .ret) .skip))
 (.seq (sq ([o1 (fa 2 k1),o2 (ld u0) 6,o2 (ll u0) 4,mc (iz 0) 3])
 (.block 0 (.loop (sq ([o2 (ls k3 k4) 5])
 (.seq (.cond k5 .skip (.exit 0))
 (.seq (.block 1 (sq ([o1 (ia 6 k6 k3),o1 (lN 6 u0),o2 (.alloc [(.str 0 0),.nils,(.str 0 0),.nils,.nils,.nils]) 7,o1 (st 6 u0 u1)])
 (sq ([o1 (lN 3 k1),o1 (lN 6 k7),o1 (.build [.nils,.nils,.nils,(.str 0 0),.nils,(.str 0 0),.nils,.nils,.nils,.nils,.nils,.nils,.nils] [(.mk 0 3 u1),(.mk 3 6 u0)]),o1 (.box u0),o1 (cf 36 [u0]),o2 (.not u0) 8])
 (.cond k8 (sq ([mc (.bool false) 9])
 .ret) .skip))))
 (.ops [o1 (ad k3 (.c (iz 1))),mt 0 3])))))))
 (sq ([mc (.bool true) 9])
 .ret)))) [.val k9]
noncomputable def af24:AFunc:=.mk 1 (sq ([o2 (.alloc [.nils,.nils,.nils]) 1])
 (sq ([o1 (.build [(.str 0 0),(.str 0 0)] [(.mk 0 1 (.c (.str 1 110))),(.mk 1 1 (.c (.str 3 7630441)))]),o1 (.bslice [(.str 0 0),(.str 0 0)] 1 [(.mk 0 2 u0)]),o1 (.build [(.str 0 0),.nils] [(.mk 0 1 (.c (.str 1 84))),(.mk 1 1 u0)]),o1 (.bslice [(.str 0 0),.nils] 1 [(.mk 0 2 u0)]),ml 0,o1 (.build [(iz 0),(.str 0 0),.nils,(iz 0),(.str 0 0)] [(.mk 0 1 (.c (iz 24))),(.mk 1 1 (.c (.str 2 21546))),(.mk 4 1 (.c (.str 1 84))),(.mk 3 1 u0)]),o1 (.bslice [(iz 0),(.str 0 0),.nils,(iz 0),(.str 0 0)] 1 [(.mk 0 5 u0)]),o1 (.bslice [(iz 0)] 1 [(.mk 0 1 (.c (iz 0)))]),o1 (.build [.nils,(iz 0),(iz 0),(iz 0),(iz 0)] [(.mk 0 1 u0),(.mk 1 1 (.c (iz 3))),(.mk 2 1 (.c (iz 0)))]),o1 (.bslice [.nils,(iz 0),(iz 0),(iz 0),(iz 0)] 1 [(.mk 0 5 u0)]),o1 (.build [(.str 0 0),.nils,(.str 0 0),.nils,.nils,.nils] [(.mk 0 1 (.c (.str 1 102))),(.mk 2 1 (.c (.str 2 21546))),(.mk 4 1 u3),(.mk 5 1 u0)]),o1 (.build [(iz 0),(.str 0 0),.nils,(iz 0),(.str 0 0)] [(.mk 0 1 (.c (iz 31))),(.mk 1 1 (.c (.str 2 21546)))]),o1 (.bslice [(iz 0)] 1 [(.mk 0 1 (.c (iz 0)))]),o1 (.build [(iz 0),(.str 0 0),.nils,(iz 0),(.str 0 0)] [(.mk 0 1 (.c (iz 25))),(.mk 1 1 (.c (.str 3 7630441))),(.mk 2 1 u0)]),o1 (.bslice [(iz 0)] 1 [(.mk 0 1 (.c (iz 1)))]),o1 (.build [(iz 0),(.str 0 0),.nils,(iz 0),(.str 0 0)] [(.mk 0 1 (.c (iz 32))),(.mk 2 1 u0)]),o1 (.bslice [(iz 0),(.str 0 0),.nils,(iz 0),(.str 0 0),(iz 0),(.str 0 0),.nils,(iz 0),(.str 0 0),(iz 0),(.str 0 0),.nils,(iz 0),(.str 0 0)] 3 [(.mk 0 5 u4),(.mk 5 5 u2),(.mk 10 5 u0)]),o1 (.bslice [(iz 0),(iz 0),(iz 0)] 3 [(.mk 0 1 (.c (iz 0))),(.mk 1 1 (.c (iz 1))),(.mk 2 1 (.c (iz 2)))]),o1 (.build [.nils,(iz 0),(iz 0),(iz 0),(iz 0)] [(.mk 0 1 u0),(.mk 1 1 (.c (iz 3))),(.mk 2 1 (.c (.int .i64 (.negSucc 0))))]),o1 (.bslice [.nils,(iz 0),(iz 0),(iz 0),(iz 0)] 1 [(.mk 0 5 u0)]),o1 (.build [(.str 0 0),.nils,(.str 0 0),.nils,.nils,.nils] [(.mk 0 1 (.c (.str 4 1852399981))),(.mk 4 1 u3),(.mk 5 1 u0)]),o1 (.bslice [(.str 0 0),.nils,(.str 0 0),.nils,.nils,.nils,(.str 0 0),.nils,(.str 0 0),.nils,.nils,.nils] 2 [(.mk 0 6 u10),(.mk 6 6 u0)]),o1 (.build [.nils,.nils,.nils] [(.mk 0 1 u18),(.mk 2 1 u0)]),o1 (st 3 k1 u0)])
 .ret)) [.cellN 3 k1]
noncomputable def af25:AFunc:=.mk 4 (sq ([o2 (.box k0) 4,o2 (.alloc [.nils,(iz 0),(iz 0),(iz 0),(iz 0)]) 6,mc (iz 0) 14,mc (iz 0) 15])
 (.seq (.block 0 (sq ([o1 (lN 3 k4),o1 (cf 16 [u0]),o1 (.not u0),mt 0 5])
 (.cond k5 (sq ([o1 (.build [.nils,(iz 0),(iz 0),(iz 0),(iz 0)] []),o1 (st 5 k6 u0),mc (iz 0) 14,mc (iz 1) 15])
 .ret) (sq ([ml 2,o1 (ls u0 (.c (iz 0))),m0,o3 (.move k2) 0 false,o3 (gt u0 (.c (iz 1048576))) 1 false,o1 (pk u2 (.c (.bool true)) u0),mt 0 7])
 (.cond k7 (sq ([o1 (.build [.nils,(iz 0),(iz 0),(iz 0),(iz 0)] []),o1 (st 5 k6 u0),mc (iz 0) 14,mc (iz 9) 15])
 .ret) .skip)))))
 (sq ([o1 (lN 3 k4),o1 (fa 1 k4),o1 (ld u0),o1 (ll u0),o1 (.mkSlice [(iz 0)] 8 u0 u0),o1 (fa 0 k4),o1 (ld u0),ml 1,ml 2,ml 3,.mk (cf 43 [u3]) none none [.mk (ll u7) 6 none,.mk (ld u8) 7 none,.mk (lN 3 k4) 9 none],o1 (.build [.nils,.nils,.nils,.nils,.nils,.nilp,.nils,(iz 0),.nils,(iz 0),(iz 0),(iz 0),(iz 0),.nils,.nils,.nilf] [(.mk 0 3 u10),(.mk 4 1 u6),(.mk 5 1 u0),(.mk 6 1 u3),(.mk 7 1 u2),(.mk 15 1 u1)]),o1 (.box u0),mt 0 12])
 (.seq (sq ([o1 (fa 2 k4),o2 (ld u0) 11,o2 (ll u0) 9,mc (iz 0) 8])
 (.block 1 (.loop (sq ([o2 (ls k8 k9) 10])
 (.seq (.cond k10 .skip (.exit 1))
 (.seq (.block 2 (sq ([o1 (ia 6 k11 k8),o1 (lN 6 u0),o2 (.alloc [(.str 0 0),.nils,(.str 0 0),.nils,.nils,.nils]) 13,o1 (st 6 u0 u1)])
 (.ops [ml 12,ml 12,o1 (nc u0),o1 (fa 3 u0),o1 (ld u0),o1 (lN 6 k13),.mk (cf 44 [u0]) none none [.mk (ld u2) 1 none],o1 (.bslice [.nils] 1 [(.mk 0 1 u0)]),o1 (ap 1 24 u3 u0),o1 (nc u8),o1 (fa 3 u0),o1 (st 1 u0 u2)])))
 (.ops [o1 (ad k8 (.c (iz 1))),mt 0 8])))))))
 (sq ([ml 12,o1 (cf 45 [u0])])
 (sq ([ml 12,ml 12,o1 (nc u0),o1 (fa 5 u0),o1 (ld u0),o1 (cf 46 [u0,(.c (.bool false))]),o1 (nc u5),o1 (fa 8 u0),o1 (fa 4 u0),o1 (st 1 u0 u3)])
 (sq ([ml 12,o1 (nc u0),o1 (fa 8 u0),o1 (lN 5 u0),ml 12,o1 (nc u0),o1 (fa 5 u0),o1 (ld u0),.mk (cf 46 [u0,(.c (.bool true))]) none none [.mk (lN 5 u5) 4 none],o1 (st 5 k6 u5),mt 1 14,mc (iz 0) 15])
 .ret))))))) [.cellN 5 k6,.val k14,.val k15]
noncomputable def af26:AFunc:=.mk 2 (sq ([o2 (.box k0) 2])
 (.ops [o1 (ld k1),o1 (fa 0 k2),o1 (ld u0),o1 (.bslice [(iz 0)] 1 [(.mk 0 1 u0)]),o1 (ap 1 8 u3 u0),o1 (st 1 k1 u0)])) []
noncomputable def af29:AFunc:=.mk 2 (sq ([mc (.bool false) 8])
 (.seq (sq ([ml 0,o1 (ll u0),ml 1,o1 (ll u0),o2 (nn u2 u0) 2])
 (.cond k2 (sq ([mc (.bool false) 8])
 .ret) .skip))
 (.seq (sq ([ml 0,o2 (ll u0) 4,mc (iz 0) 3])
 (.block 0 (.loop (sq ([o2 (ls k3 k4) 5])
 (.seq (.cond k5 .skip (.exit 0))
 (.seq (.block 1 (sq ([ml 3,mt 0 6])
 (sq ([ml 0,ml 6,o1 (ia 1 u1 u0),o1 (ld u0),ml 1,ml 6,o1 (ia 1 u1 u0),o1 (ld u0),o2 (nn u4 u0) 7])
 (.cond k7 (sq ([mc (.bool false) 8])
 .ret) .skip))))
 (.ops [o1 (ad k3 (.c (iz 1))),mt 0 3])))))))
 (sq ([mc (.bool true) 8])
 .ret)))) [.val k8]
noncomputable def af35:AFunc:=.mk 1 (sq ([o2 (.box k0) 1,mc (.bool false) 21])
 (.seq (sq ([o1 (fa 0 k1),o1 (ld u0),o1 (cf 64 [u0]),m0,ox 0,ox 1,o1 (.move u1),mt 1 2])
 (sq ([ml 2,o1 (nn u0 (.c (iz 0))),m0,o3 (fa 1 k1) 0 false,o3 (ld u0) 1 false,o3 (ll u0) 2 false,o3 (gt u0 (.c (iz 12))) 3 false,o1 (pk u4 (.c (.bool true)) u0),m0,o3 (fa 2 k1) 0 false,o3 (ld u0) 1 false,o3 (ll u0) 2 false,o3 (gt u0 (.c (iz 24))) 3 false,o2 (pk u4 (.c (.bool true)) u0) 3])
 (.cond k3 (sq ([mc (.bool false) 21])
 .ret) .skip)))
 (sq ([.mk .mkMap none none [],mt 0 8])
 (.seq (sq ([o1 (fa 1 k1),o2 (ld u0) 7,o2 (ll u0) 5,mc (iz 0) 4])
 (.block 0 (.loop (sq ([o2 (ls k4 k5) 6])
 (.seq (.cond k6 .skip (.exit 0))
 (.seq (.block 1 (sq ([o1 (ia 2 k7 k4),o1 (lN 2 u0),o2 (.alloc [(.str 0 0),(.str 0 0)]) 9,o1 (st 2 u0 u1)])
 (.seq (sq ([ml 8,o1 (fa 0 k9),o1 (ld u0),o1 (.lookup (.one .str) (.bool false) false u2 u0),m0,o3 (fa 0 k9) 0 false,o3 (ld u0) 1 false,o3 (cf 65 [u0]) 2 false,o3 (.not u0) 3 false,o1 (pk u4 (.c (.bool true)) u0),m0,o3 (fa 0 k1) 0 false,o3 (ld u0) 1 false,o3 (fa 1 k9) 2 false,o3 (ld u0) 3 false,o3 (cf 66 [u2,u0]) 4 false,o3 (.not u0) 5 false,o2 (pk u6 (.c (.bool true)) u0) 10])
 (.cond k10 (sq ([mc (.bool false) 21])
 .ret) .skip))
 (.ops [ml 8,o1 (fa 0 k9),o1 (ld u0),o1 (.mapUpd (.one .str) u2 u0 (.c (.bool true)))]))))
 (.ops [o1 (ad k4 (.c (iz 1))),mt 0 4])))))))
 (.seq (sq ([o1 (fa 2 k1),o2 (ld u0) 14,o2 (ll u0) 12,mc (iz 0) 11])
 (.block 2 (.loop (sq ([o2 (ls k11 k12) 13])
 (.seq (.cond k13 .skip (.exit 2))
 (.seq (.block 3 (sq ([ml 11,o1 (ia 6 k14 k11),o1 (lN 6 u0),o2 (.alloc [(.str 0 0),.nils,(.str 0 0),.nils,.nils,.nils]) 15,mt 3 17,o1 (st 6 u1 u2)])
 (sq ([o1 (lN 3 k1),o1 (fa 0 k15),o1 (ld u0),o1 (cf 67 [u2,u0]),m0,ox 0,ox 1,mt 1 16,o1 (.move u1)])
 (sq ([ml 16,ml 17,o1 (nn u1 u0),m0,o3 (fa 0 k15) 0 false,o3 (ld u0) 1 false,o3 (cf 65 [u0]) 2 false,o3 (.not u0) 3 false,o2 (pk u4 (.c (.bool true)) u0) 18])
 (.cond k18 (sq ([mc (.bool false) 21])
 .ret) .skip)))))
 (.ops [o1 (ad k11 (.c (iz 1))),mt 0 11])))))))
 (sq ([o1 (lN 3 k1),o1 (cf 67 [u0,(.c (.str 4 1852399981))]),m0,ox 0,ox 1,mt 1 20,mt 1 19])
 (sq ([ml 19,m0,o3 (fa 2 k1) 0 true,o3 (ld u0) 1 true,o3 (.move k20) 2 true,o3 (ia 6 u1 u0) 3 true,o3 (fa 1 u0) 4 true,o3 (ld u0) 5 true,o3 (ll u0) 6 true,o3 (en u0 (.c (iz 0))) 7 true,o1 (pk u8 u0 (.c (.bool false))),m0,o3 (fa 2 k1) 0 true,o3 (ld u0) 1 true,o3 (.move k20) 2 true,o3 (ia 6 u1 u0) 3 true,o3 (fa 2 u0) 4 true,o3 (ld u0) 5 true,o3 (en u0 (.c (.str 0 0))) 6 true,o1 (pk u7 u0 (.c (.bool false))),mt 0 21])
 .ret))))))) [.val k21]
noncomputable def af36:AFunc:=.mk 1 (sq ([mc (.bool false) 14])
 (.seq (sq ([ml 0,o1 (cf 68 [u0]),o1 (.not u0),m0,o3 (.move k0) 0 false,o3 (cf 69 [u0]) 1 false,o3 (.not u0) 2 false,o1 (pk u3 (.c (.bool true)) u0),m0,o3 (.move k0) 0 false,o3 (cf 70 [u0]) 1 false,o3 (.not u0) 2 false,o2 (pk u3 (.c (.bool true)) u0) 1])
 (.cond k1 (sq ([mc (.bool false) 14])
 .ret) .skip))
 (sq ([ml 0,ml 0,ml 0,o1 (nc u0),o1 (fa 3 u0),o1 (lN 6 u0),ml 0,o1 (nc u0),o1 (fa 3 u0),o1 (lN 6 u0),.mk (cf 44 [u4]) none none [.mk (lN 6 u1) 0 none],o1 (cf 71 [u1]),o1 (nc u11),o1 (fa 11 u0),o1 (st 1 u0 u3),o1 (nc u13),o1 (fa 12 u0),o1 (st 1 u0 u5)])
 (.seq (sq ([ml 0,o1 (nc u0),o1 (fa 3 u0),o1 (fa 5 u0),o2 (ld u0) 5,o2 (ll u0) 3,mc (iz 0) 2])
 (.block 0 (.loop (sq ([o2 (ls k2 k3) 4])
 (.seq (.cond k4 .skip (.exit 0))
 (.seq (.block 1 (sq ([ml 2,o1 (ia 5 k5 k2),o1 (lN 5 u0),o2 (.alloc [.nils,(iz 0),(iz 0),(iz 0),(iz 0)]) 6,mt 3 10,o1 (st 5 u1 u2)])
 (.seq (sq ([o1 (fa 0 k6),o1 (ld u0),o2 (ll u0) 8,mc (iz 0) 7])
 (.block 2 (.loop (sq ([o2 (ls k7 k8) 9])
 (.seq (.cond k9 .skip (.exit 2))
 (.seq (.block 3 (sq ([ml 7,mt 0 11])
 (sq ([ml 0,ml 10,ml 11,o1 (cf 72 [u2,u1,u0]),o2 (.not u0) 12])
 (.cond k12 (sq ([mc (.bool false) 14])
 .ret) .skip))))
 (.ops [o1 (ad k7 (.c (iz 1))),mt 0 7])))))))
 (sq ([ml 0,ml 10,o1 (cf 73 [u1,u0]),o2 (.not u0) 13])
 (.cond k13 (sq ([mc (.bool false) 14])
 .ret) .skip)))))
 (.ops [o1 (ad k2 (.c (iz 1))),mt 0 2])))))))
 (sq ([mc (.bool true) 14])
 .ret))))) [.val k14]
noncomputable def af37:AFunc:=.mk 1 (sq ([mc .nils 2])
 (.seq (sq ([ml 0,o2 (.eq false .sl u0 (.c .nils)) 1])
 (.cond k1 (sq ([mc .nils 2])
 .ret) .skip))
 (sq ([o1 (.bslice [] 0 []),ml 0,o1 (ap 2 32 u1 u0),mt 0 2])
 .ret))) [.val k2]
noncomputable def af43:AFunc:=.mk 1 (sq ([mc .nilp 9])
 (.seq (sq ([ml 0,o1 (cf 64 [u0]),m0,ox 0,ox 1,o1 (.move u1),mt 1 1])
 (sq ([ml 1,o2 (nn u0 (.c (iz 0))) 2])
 (.cond k2 (sq ([mc .nilp 9])
 .ret) .skip)))
 (sq ([o1 (.build [.nils,.nils,.nils,(iz 0)] []),o1 (.box u0),mt 0 7])
 (.seq (sq ([o2 (.move k0) 6,o2 (ll u0) 4,mc (iz 0) 3])
 (.block 0 (.loop (sq ([o2 (ls k3 k4) 5])
 (.seq (.cond k5 .skip (.exit 0))
 (.seq (.block 1 (sq ([o1 (ia 2 k6 k3),o1 (lN 2 u0),o2 (.alloc [(.str 0 0),.nils]) 8,o1 (st 2 u0 u1)])
 (.ops [ml 7,ml 7,o1 (nc u0),o1 (fa 0 u0),o1 (ld u0),o1 (fa 0 k8),o1 (ld u0),o1 (fa 1 k8),o1 (ld u0),.mk (cf 37 [u0]) none none [.mk (ld u3) 2 none,.mk (ld u5) 4 none],o1 (.build [(.str 0 0),.nils] [(.mk 0 1 u3),(.mk 1 1 u0)]),o1 (.bslice [(.str 0 0),.nils] 1 [(.mk 0 2 u0)]),o1 (ap 2 40 u7 u0),o1 (nc u12),o1 (fa 0 u0),o1 (st 1 u0 u2)])))
 (.ops [o1 (ad k3 (.c (iz 1))),mt 0 3])))))))
 (sq ([ml 7,mt 0 9])
 .ret))))) [.val k9]
noncomputable def af44:AFunc:=.mk 1 (sq ([o2 (.box k0) 1,mc .nils 12])
 (sq ([o1 (fa 5 k1),o1 (ld u0),o1 (ll u0),o1 (.mkSlice [.nils] 24 u0 u0),mt 0 10])
 (.seq (sq ([o1 (fa 5 k1),o1 (ld u0),o2 (ll u0) 3,mc (iz 0) 2])
 (.block 0 (.loop (sq ([o2 (ls k2 k3) 4])
 (.seq (.cond k4 .skip (.exit 0))
 (.seq (.block 1 (sq ([ml 2,mt 0 5])
 (sq ([o1 (lN 6 k1),ml 5,o2 (cf 76 [u1,u0]) 9,o2 (ll u0) 7,mc (iz 0) 6])
 (.block 2 (.loop (sq ([o2 (ls k6 k7) 8])
 (.seq (.cond k8 .skip (.exit 2))
 (.seq (.block 3 (sq ([o1 (ia 1 k9 k6),o1 (ld u0),mt 0 11])
 (.ops [ml 10,ml 11,ml 10,ml 11,o1 (ia 1 u1 u0),o1 (ld u0),ml 5,o1 (.bslice [(iz 0)] 1 [(.mk 0 1 u0)]),o1 (ap 1 8 u2 u0),o1 (ia 1 u8 u7),o1 (st 1 u0 u1)])))
 (.ops [o1 (ad k6 (.c (iz 1))),mt 0 6])))))))))
 (.ops [o1 (ad k2 (.c (iz 1))),mt 0 2])))))))
 (sq ([ml 10,mt 0 12])
 .ret)))) [.val k12]
noncomputable def af45:AFunc:=.mk 1 (sq ([o2 (.box k0) 1])
 (sq ([o1 (.mkFn 77 [] [k1]),o1 (.dfr u0)])
 (sq ([o1 (ld k1),o1 (nc u0),o1 (fa 0 u0),o1 (lN 3 u0),o1 (cf 67 [u0,(.c (.str 4 1852399981))]),m0,ox 0,ox 1,mt 1 2,o1 (.move u1)])
 (sq ([o1 (ld k1),ml 2,o1 (cf 79 [u1,u0,(.c .nils)])])
 (.ops [o1 (ld k1),o1 (nc u0),o1 (fa 8 u0),o1 (fa 1 u0),o1 (st 1 u0 (.c (iz 1)))]))))) []
noncomputable def af46:AFunc:=.mk 2 (sq ([mc (iz 0) 4])
 (.seq (.block 0 (sq ([ml 0,o1 (.eq false .ptr u0 (.c .nilp)),mt 0 2])
 (.cond k2 (sq ([mc (iz 0) 4])
 .ret) (sq ([ml 1,mt 0 3])
 (.cond k3 (sq ([ml 0,o1 (nc u0),o1 (fa 3 u0),o1 (ld u0),mt 0 4])
 .ret) .skip)))))
 (sq ([ml 0,o1 (nc u0),o1 (fa 1 u0),o1 (ld u0),o1 (ll u0),ml 0,o1 (nc u0),o1 (fa 3 u0),o1 (ld u0),o1 (sb u4 u0),mt 0 4])
 .ret))) [.val k4]
noncomputable def af64:AFunc:=.mk 1 (sq ([mc (iz 0) 8,mc (iz 0) 9])
 (.seq (sq ([ml 0,o1 (ll u0),o2 (gt u0 (.c (iz 12))) 1])
 (.cond k1 (sq ([mc (iz 0) 8,mc (iz 4) 9])
 .ret) .skip))
 (.seq (sq ([ml 0,o2 (ll u0) 3,mc (iz 0) 2])
 (.block 0 (.loop (sq ([o2 (ls k2 k3) 4])
 (.seq (.cond k4 .skip (.exit 0))
 (.seq (.block 1 (sq ([ml 2,mt 0 5])
 (sq ([ml 0,ml 5,o1 (cf 104 [u1,u0]),mt 0 6])
 (sq ([ml 6,o2 (nn u0 (.c (iz 0))) 7])
 (.cond k7 (sq ([ml 5,ml 6,mt 1 8,mt 1 9])
 .ret) .skip)))))
 (.ops [o1 (ad k2 (.c (iz 1))),mt 0 2])))))))
 (sq ([mc (iz 0) 8,mc (iz 0) 9])
 .ret)))) [.val k8,.val k9]
noncomputable def af65:AFunc:=.mk 1 (sq ([mc (.bool false) 1])
 (sq ([ml 0,o1 (cf 105 [u0]),m0,o3 (.move k0) 0 true,o3 (lt u0) 1 true,o3 (le u0 (.c (iz 12))) 2 true,o1 (pk u3 u0 (.c (.bool false))),m0,o3 (.move k0) 0 true,o3 (cf 106 [u0]) 1 true,o3 (.not u0) 2 true,o1 (pk u3 u0 (.c (.bool false))),mt 0 1])
 .ret)) [.val k1]
noncomputable def af66:AFunc:=.mk 2 (sq ([mc (.bool false) 6])
 (.seq (sq ([ml 1,o1 (en u0 (.c (.str 3 7630441))),m0,o3 (.move k1) 0 false,o3 (en u0 (.c (.str 4 1819242338))) 1 false,o2 (pk u2 (.c (.bool true)) u0) 2])
 (.cond k2 (sq ([mc (.bool true) 6])
 .ret) .skip))
 (sq ([ml 1,o1 (cf 107 [u0,(.c (.str 1 42))]),m0,ox 0,ox 1,mt 1 5,mt 1 3])
 (.seq (sq ([ml 3,o2 (.not u0) 4])
 (.cond k4 (sq ([mc (.bool false) 6])
 .ret) .skip))
 (sq ([ml 0,ml 5,o1 (cf 108 [u1,u0]),m0,ox 0,ox 1,mt 0 3])
 (sq ([ml 3,mt 0 6])
 .ret)))))) [.val k6]
noncomputable def af67:AFunc:=.mk 2 (sq ([o2 (.box k0) 2,o2 (.box k1) 3,mc (iz 0) 5,mc (.bool false) 6])
 (sq ([o1 (fa 2 k2),o1 (ld u0),o1 (.mkFn 110 [] [k3]),o1 (cf 109 [u1,u0]),mt 0 4])
 (sq ([ml 4,o1 (.max u0 (.c (iz 0))),ml 4,o1 (ge u0 (.c (iz 0))),mt 2 5,mt 1 6])
 .ret))) [.val k5,.val k6]
noncomputable def af68:AFunc:=.mk 1 (sq ([o2 (.box k0) 1,mc (.bool false) 5])
 (sq ([o1 (ld k1),o1 (nc u0),o1 (fa 3 u0),o1 (lN 6 u0),o2 (.alloc [(.str 0 0),.nils,(.str 0 0),.nils,.nils,.nils]) 2,o1 (st 6 u0 u1)])
 (.seq (sq ([o1 (fa 1 k2),o1 (ld u0),o1 (ll u0),o1 (gt u0 (.c (iz 6))),m0,o3 (fa 3 k2) 0 false,o3 (ld u0) 1 false,o3 (ll u0) 2 false,o3 (gt u0 (.c (iz 16384))) 3 false,o1 (pk u4 (.c (.bool true)) u0),m0,o3 (fa 4 k2) 0 false,o3 (ld u0) 1 false,o3 (ll u0) 2 false,o3 (gt u0 (.c (iz 16384))) 3 false,o1 (pk u4 (.c (.bool true)) u0),m0,o3 (fa 5 k2) 0 false,o3 (ld u0) 1 false,o3 (ll u0) 2 false,o3 (gt u0 (.c (iz 4096))) 3 false,o1 (pk u4 (.c (.bool true)) u0),m0,o3 (fa 5 k2) 0 false,o3 (ld u0) 1 false,o3 (ll u0) 2 false,o3 (en u0 (.c (iz 0))) 3 false,o2 (pk u4 (.c (.bool true)) u0) 3])
 (.cond k3 (sq ([mc (.bool false) 5])
 .ret) .skip))
 (sq ([o1 (.mkFn 111 [] [k1]),mt 0 4])
 (sq ([o1 (fa 1 k2),o1 (ld u0),ml 4,o1 (cf 112 [u1,u0]),o1 (.not u0),m0,o3 (fa 3 k2) 0 true,o3 (ld u0) 1 true,o3 (.move k4) 2 true,o3 (cf 112 [u1,u0]) 3 true,o3 (.not u0) 4 true,o1 (pk u5 u0 (.c (.bool false))),m0,o3 (fa 2 k2) 0 true,o3 (ld u0) 1 true,o3 (en u0 (.c (.str 0 0))) 2 true,o3 (.move u0) 3 true,o3 (.move k4) 0 false,o3 (fa 2 k2) 1 false,o3 (ld u0) 2 false,o3 (.callV u2 [u0]) 3 false,o3 (.not u0) 4 false,o3 (pk u5 (.c (.bool true)) u0) 9 true,o1 (pk u10 u0 (.c (.bool false))),mt 0 5])
 .ret))))) [.val k5]
noncomputable def af69:AFunc:=.mk 1 (sq ([mc (.bool false) 14])
 (sq ([ml 0,o1 (.bslice [(iz 0)] 1 [(.mk 0 1 (.c (.int .i64 (.negSucc 0))))]),ml 0,o1 (nc u0),o1 (fa 3 u0),o1 (fa 4 u0),o1 (ld u0),o1 (ll u0),o1 (cf 113 [u6,u0]),o1 (nc u8),o1 (fa 9 u0),o1 (st 1 u0 u2)])
 (sq ([ml 0,ml 0,o1 (nc u0),o1 (fa 3 u0),o1 (fa 4 u0),o1 (ld u0),o1 (ll u0),o1 (.mkSlice [(iz 0)] 8 u0 u0),o1 (nc u7),o1 (fa 10 u0),o1 (st 1 u0 u2)])
 (.seq (sq ([ml 0,o1 (nc u0),o1 (fa 3 u0),o1 (fa 5 u0),o2 (ld u0) 4,o2 (ll u0) 2,mc (iz 0) 1])
 (.block 0 (.loop (sq ([o2 (ls k1 k2) 3])
 (.seq (.cond k3 .skip (.exit 0))
 (.seq (.block 1 (sq ([ml 1,o1 (ia 5 k4 k1),o1 (lN 5 u0),o2 (.alloc [.nils,(iz 0),(iz 0),(iz 0),(iz 0)]) 5,mt 3 12,o1 (st 5 u1 u2)])
 (sq ([o1 (fa 0 k5),o2 (ld u0) 9,o2 (ll u0) 7,mc (iz 0) 6])
 (.block 2 (.loop (sq ([o2 (ls k6 k7) 8])
 (.seq (.cond k8 .skip (.exit 2))
 (.seq (.block 3 (sq ([ml 6,o1 (ia 1 k9 k6),o1 (ld u0),mt 2 13,mt 1 10])
 (.seq (sq ([ml 10,o1 (ls u0 (.c (iz 0))),m0,o3 (.move k10) 0 false,o3 (.move k0) 1 false,o3 (nc u0) 2 false,o3 (fa 3 u0) 3 false,o3 (fa 4 u0) 4 false,o3 (ld u0) 5 false,o3 (ll u0) 6 false,o3 (ge u6 u0) 7 false,o1 (pk u8 (.c (.bool true)) u0),m0,o3 (.move k0) 0 false,o3 (nc u0) 1 false,o3 (fa 9 u0) 2 false,o3 (ld u0) 3 false,o3 (.move k10) 4 false,o3 (ia 1 u1 u0) 5 false,o3 (ld u0) 6 false,o3 (nn u0 (.c (.int .i64 (.negSucc 0)))) 7 false,o2 (pk u8 (.c (.bool true)) u0) 11])
 (.cond k11 (sq ([mc (.bool false) 14])
 .ret) .skip))
 (.ops [ml 0,o1 (nc u0),o1 (fa 9 u0),o1 (ld u0),ml 10,ml 0,o1 (nc u0),o1 (fa 10 u0),o1 (ld u0),ml 10,ml 12,ml 13,o1 (ia 1 u8 u7),o1 (st 1 u0 u2),o1 (ia 1 u5 u4),o1 (st 1 u0 u3)]))))
 (.ops [o1 (ad k6 (.c (iz 1))),mt 0 6])))))))))
 (.ops [o1 (ad k1 (.c (iz 1))),mt 0 1])))))))
 (sq ([mc (.bool true) 14])
 .ret))))) [.val k14]
noncomputable def af70:AFunc:=.mk 1 (sq ([o2 (.box k0) 1,mc (.bool false) 2])
 (sq ([o1 (ld k1),o1 (nc u0),o1 (fa 3 u0),o1 (fa 5 u0),o1 (ld u0),o1 (.mkFn 115 [] [k1]),o1 (cf 114 [u1,u0]),o1 (.not u0),m0,o3 (ld k1) 0 true,o3 (nc u0) 1 true,o3 (fa 3 u0) 2 true,o3 (lN 6 u0) 3 true,o3 (cf 118 [u0]) 4 true,o3 (cf 117 [u0,(.c (.bool false))]) 5 true,o3 (.not u0) 6 true,o1 (pk u7 u0 (.c (.bool false))),mt 0 2])
 .ret)) [.val k2]
noncomputable def af71:AFunc:=.mk 1 (sq ([o2 (.box k0) 1,mc .nils 4])
 (.seq (sq ([o1 (lN 6 k1),o1 (cf 119 [u0]),mt 0 2])
 (sq ([ml 2,o2 (.eq true .ptr u0 (.c .nilp)) 3])
 (.cond k3 (sq ([ml 2,o1 (nc u0),o1 (fa 3 u0),o1 (ld u0),mt 0 4])
 .ret) .skip)))
 (sq ([mc .nils 4])
 .ret))) [.val k4]
noncomputable def af72:AFunc:=.mk 3 (sq ([mc (.bool false) 13])
 (sq ([ml 0,o1 (nc u0),o1 (fa 3 u0),o1 (fa 4 u0),o1 (ld u0),ml 0,o1 (nc u0),o1 (fa 3 u0),o1 (fa 5 u0),o1 (ld u0),ml 1,o1 (ia 5 u1 u0),o1 (fa 0 u0),o1 (ld u0),ml 2,o1 (ia 1 u1 u0),o1 (ld u0),o1 (ia 5 u12 u0),o1 (lN 5 u0),o2 (.alloc [(iz 0),(.str 0 0),.nils,(iz 0),(.str 0 0)]) 3,o1 (st 5 u0 u1)])
 (.seq (sq ([o1 (fa 0 k3),o1 (ld u0),o1 (cf 120 [u0]),mt 0 4])
 (sq ([o1 (fa 0 k3),o1 (ld u0),o1 (cf 121 [u0]),o1 (.not u0),m0,o3 (.move k4) 0 false,o3 (ge u0 (.c (iz 0))) 1 false,o3 (.move u0) 2 false,o3 (.move k4) 0 true,o3 (fa 2 k3) 1 true,o3 (ld u0) 2 true,o3 (ll u0) 3 true,o3 (nn u3 u0) 4 true,o3 (pk u5 u0 (.c (.bool false))) 8 false,o1 (pk u9 (.c (.bool true)) u0),m0,o3 (lN 5 k3) 0 false,o3 (cf 122 [u0]) 1 false,o3 (.not u0) 2 false,o1 (pk u3 (.c (.bool true)) u0),m0,o3 (fa 0 k3) 0 false,o3 (ld u0) 1 false,o3 (en u0 (.c (iz 20))) 2 false,o3 (.move u0) 3 false,o3 (.move k1) 0 true,o3 (nn u0 (.c (iz 0))) 1 true,o3 (pk u2 u0 (.c (.bool false))) 6 false,o2 (pk u7 (.c (.bool true)) u0) 5])
 (.cond k5 (sq ([mc (.bool false) 13])
 .ret) .skip)))
 (.seq (sq ([o1 (fa 0 k3),o1 (ld u0),o2 (en u0 (.c (iz 34))) 6])
 (.cond k6 (sq ([ml 0,o1 (lN 5 k3),ml 1,ml 2,o1 (cf 123 [u3,u2,u1,u0]),mt 0 13])
 .ret) .skip))
 (sq ([mc .nils 11])
 (.seq (sq ([o1 (fa 2 k3),o2 (ld u0) 10,o2 (ll u0) 8,mc (iz 0) 7])
 (.block 0 (.loop (sq ([o2 (ls k7 k8) 9])
 (.seq (.cond k9 .skip (.exit 0))
 (.seq (.block 1 (sq ([o1 (ia 1 k10 k7),o1 (ld u0),mt 0 12])
 (.ops [ml 11,ml 0,ml 12,ml 1,ml 2,o1 (cf 124 [u3,u2,u1,u0]),o1 (.bslice [(.str 0 0)] 1 [(.mk 0 1 u0)]),o1 (ap 1 16 u6 u0),mt 0 11])))
 (.ops [o1 (ad k7 (.c (iz 1))),mt 0 7])))))))
 (sq ([ml 11,o1 (cf 125 [u0,(.c (.str 0 0))]),o1 (.not u0),m0,o3 (.move k0) 0 true,o3 (lN 5 k3) 1 true,o3 (.move k11) 2 true,o3 (cf 126 [u2,u1,u0]) 3 true,o1 (pk u4 u0 (.c (.bool false))),mt 0 13])
 .ret))))))) [.val k13]
noncomputable def af73:AFunc:=.mk 2 (sq ([mc (.bool false) 6])
 (sq ([ml 0,o1 (nc u0),o1 (fa 3 u0),o1 (fa 5 u0),o1 (ld u0),ml 1,o1 (ia 5 u1 u0),o1 (lN 5 u0),o2 (.alloc [.nils,(iz 0),(iz 0),(iz 0),(iz 0)]) 2,o1 (st 5 u0 u1)])
 (.seq (.block 0 (sq ([o1 (fa 1 k2),o1 (ld u0),o1 (en u0 (.c (iz 2))),mt 0 3])
 (.cond k3 (sq ([ml 0,o1 (fa 2 k2),o1 (ld u0),ml 1,o1 (cf 127 [u3,u1,u0]),o1 (en u0 (.c (.str 4 1819242338))),mt 0 6])
 .ret) (sq ([o1 (fa 1 k2),o1 (ld u0),o1 (en u0 (.c (iz 3))),m0,o3 (.move k0) 0 true,o3 (nc u0) 1 true,o3 (fa 3 u0) 2 true,o3 (fa 2 u0) 3 true,o3 (ld u0) 4 true,o3 (en u0 (.c (.str 0 0))) 5 true,o1 (pk u6 u0 (.c (.bool false))),mt 0 4])
 (.cond k4 (sq ([o1 (fa 2 k2),o1 (ld u0),o1 (en u0 (.c (.int .i64 (.negSucc 0)))),mt 0 6])
 .ret) (sq ([o1 (fa 1 k2),o1 (ld u0),o1 (en u0 (.c (iz 3))),mt 0 5])
 (.cond k5 (sq ([ml 0,o1 (fa 2 k2),o1 (ld u0),ml 1,ml 0,o1 (nc u0),o1 (fa 3 u0),o1 (fa 2 u0),o1 (ld u0),.mk (cf 127 [u8,u6,u5]) none none [.mk (ld u1) 0 none],o1 (en u0 u1),mt 0 6])
 .ret) .skip)))))))
 (sq ([mc (.bool true) 6])
 .ret)))) [.val k6]
noncomputable def af76:AFunc:=.mk 2 (sq ([o2 (.box k0) 2,mc .nils 9])
 (.seq (sq ([ml 1,o1 (ls u0 (.c (iz 0))),m0,o3 (.move k1) 0 false,o3 (fa 5 k2) 1 false,o3 (ld u0) 2 false,o3 (ll u0) 3 false,o3 (ge u3 u0) 4 false,o2 (pk u5 (.c (.bool true)) u0) 3])
 (.cond k3 (sq ([mc .nils 9])
 .ret) .skip))
 (sq ([o1 (fa 5 k2),o1 (ld u0),ml 1,o1 (ia 5 u1 u0),o1 (lN 5 u0),o2 (.alloc [.nils,(iz 0),(iz 0),(iz 0),(iz 0)]) 4,o1 (st 5 u0 u1)])
 (sq ([mc .nils 8])
 (.seq (sq ([o1 (fa 1 k4),o2 (ld u0) 5])
 (.block 0 (sq ([o1 (en k5 (.c (iz 1))),mt 0 6])
 (.cond k6 (.ops [o1 (fa 3 k4),o1 (.idxAddrA 2 1 u0 (.c (iz 0))),o1 (ld u0),o1 (.bslice [(iz 0)] 1 [(.mk 0 1 u0)]),mt 0 8]) (sq ([o1 (en k5 (.c (iz 2))),mt 0 7])
 (.cond k7 (.ops [o1 (fa 3 k4),o1 (.idxAddrA 2 1 u0 (.c (iz 0))),o1 (ld u0),o1 (fa 3 k4),o1 (.idxAddrA 2 1 u0 (.c (iz 1))),o1 (ld u0),o1 (.bslice [(iz 0),(iz 0)] 2 [(.mk 0 1 u3),(.mk 1 1 u0)]),o1 (cf 128 [u0]),mt 0 8]) .skip))))))
 (sq ([ml 8,o1 (.mkFn 130 [] [k2]),o1 (cf 129 [u1,u0]),mt 0 9])
 .ret)))))) [.val k9]
noncomputable def af77:AFunc:=.mk 1 (.seq (.seq (.recov (some 1))
 (sq ([ml 1,o2 (.eq true .ifc u0 (.c .nili)) 2])
 (.cond k2 (.ops [o1 (ld k0),o1 (ld k0),ml 1,o1 (.assert 146 false (.agg [(iz 0),(iz 0)]) u0),o1 (.field 0 1 false u0),ml 1,o1 (.assert 146 false (.agg [(iz 0),(iz 0)]) u0),o1 (.field 1 1 false u0),o1 (nc u7),o1 (fa 8 u0),o1 (fa 1 u0),o1 (st 1 u0 u6),o1 (nc u10),o1 (fa 8 u0),o1 (fa 2 u0),o1 (st 1 u0 u7)]) .skip)))
 (.ops [o1 (ld k0),o1 (ld k0),o1 (nc u0),o1 (fa 13 u0),o1 (ld u0),o1 (cf 78 [u4,(.c (iz 4)),(.c (.int .i64 (.negSucc 0))),(.c (iz 0)),(.c .nils),u0])])) []
noncomputable def af78:AFunc:=.mk 6 (sq ([o2 (.box k0) 6])
 (.seq (sq ([o1 (ld k6),o1 (nc u0),o1 (fa 15 u0),o1 (ld u0),o2 (.eq false .fn u0 (.c .nilf)) 7])
 (.cond k7 .ret .skip))
 (sq ([mc .nils 12])
 (.seq (sq ([o2 (.move k5) 11,o2 (ll u0) 9,mc (iz 0) 8])
 (.block 0 (.loop (sq ([o2 (ls k8 k9) 10])
 (.seq (.cond k10 .skip (.exit 0))
 (.seq (.block 1 (sq ([o1 (ia 1 k11 k8),o1 (ld u0),mt 0 13])
 (.ops [ml 12,o1 (ld k6),ml 13,o1 (cf 131 [u1,u0]),o1 (ap 1 8 u3 u0),mt 0 12])))
 (.ops [o1 (ad k8 (.c (iz 1))),mt 0 8])))))))
 (sq ([o1 (ld k6),o1 (nc u0),o1 (fa 4 u0),o1 (ld u0),o1 (.mkFn 133 [] [k6]),o1 (cf 132 [u1,u0]),mt 0 14])
 (.ops [o1 (ld k6),o1 (nc u0),o1 (fa 15 u0),o1 (ld u0),ml 1,ml 2,ml 3,ml 4,ml 14,ml 12,o1 (ld k6),o1 (nc u0),o1 (fa 5 u0),o1 (ld u0),o1 (ld k6),o1 (nc u0),o1 (fa 14 u0),o1 (ld u0),.mk (cf 134 [u10]) none none [.mk (ld u1) 0 none,.mk (ld k6) 3 none,.mk (ld u5) 4 none,.mk (ld k6) 7 none,.mk (ld u15) 14 none,.mk (ld k6) 17 none],.mk (cf 134 [u10]) none none [.mk (ld u2) 1 none,.mk (ld k6) 4 none,.mk (ld u6) 5 none,.mk (ld k6) 8 none,.mk (ld u16) 15 none,.mk (ld k6) 18 none],.mk (cf 134 [u10]) none none [.mk (ld u3) 2 none,.mk (ld k6) 5 none,.mk (ld u7) 6 none,.mk (ld k6) 9 none,.mk (ld u17) 16 none,.mk (ld k6) 19 none],.mk (cf 135 [u3]) none none [.mk (ld u8) 7 none,.mk (ld k6) 10 none,.mk (ld u18) 17 none,.mk (ld k6) 20 none],o1 (.build [(iz 0),(iz 0),(iz 0),.nils,.nils,.nils,.nilp,.nils] [(.mk 0 1 u17),(.mk 1 1 u16),(.mk 2 1 u15),(.mk 3 1 u3),(.mk 4 1 u2),(.mk 5 1 u1),(.mk 6 1 u8),(.mk 7 1 u0)]),o1 (.callV u19 [u0])])))))) []
noncomputable def af79:AFunc:=.mk 3 (sq ([mc (iz 0) 10])
 (sq ([ml 0,o1 (nc u0),o1 (fa 0 u0),o1 (fa 2 u0),o1 (ld u0),ml 1,o1 (ia 6 u1 u0),o1 (lN 6 u0),o2 (.alloc [(.str 0 0),.nils,(.str 0 0),.nils,.nils,.nils]) 3,o1 (st 6 u0 u1)])
 (sq ([ml 1,ml 0,o1 (nc u0),o1 (fa 5 u0),o1 (ld u0),ml 2,o1 (fa 4 k3),o1 (ld u0),o1 (ll u0),o1 (.mkSlice [(iz 0)] 8 u0 u0),o1 (fa 4 k3),o1 (ld u0),o1 (ll u0),o1 (.mkSlice [(.bool false)] 1 u0 u0),o1 (fa 3 k3),o1 (ld u0),o1 (ll u0),o1 (.mkSlice [(iz 0)] 8 u0 u0),.mk (cf 136 [u13]) none none [.mk (ll u2) 1 none,.mk (ld u3) 2 none,.mk (ll u6) 5 none,.mk (ld u7) 6 none,.mk (ll u10) 9 none,.mk (ld u11) 10 none],o1 (.build [(iz 0),(iz 0),.nils,.nils,.nils,.nils] [(.mk 0 1 u18),(.mk 1 1 u0),(.mk 2 1 u13),(.mk 3 1 u9),(.mk 4 1 u5),(.mk 5 1 u1)]),o1 (.box u0),mt 0 4])
 (sq ([ml 0,ml 0,o1 (nc u0),o1 (fa 13 u0),o1 (ld u0),ml 4,o1 (.bslice [.nilp] 1 [(.mk 0 1 u0)]),o1 (ap 1 8 u2 u0),o1 (nc u7),o1 (fa 13 u0),o1 (st 1 u0 u2)])
 (sq ([mc (iz 0) 5,mc (.int .i64 (.negSucc 0)) 7,mc (iz 0) 9])
 (.seq (.block 0 (.loop (.seq (sq ([ml 5,o2 (ge u0 (.c (iz 0))) 6])
 (.cond k6 .skip (.exit 0)))
 (.block 1 (sq ([ml 5,mt 0 8])
 (sq ([ml 0,ml 4,ml 5,ml 7,o1 (cf 137 [u3,u2,u1,u0]),m0,ox 0,ox 1,mt 1 5,mt 1 9])
 (.ops [ml 8,mt 0 7])))))))
 (sq ([ml 0,ml 4,ml 9,o1 (cf 138 [u2,u1,u0])])
 (sq ([ml 9,mt 0 10])
 .ret)))))))) [.val k10]
noncomputable def af104:AFunc:=.mk 2 (sq ([mc (iz 0) 15])
 (sq ([ml 0,ml 1,o1 (ia 2 u1 u0),o1 (lN 2 u0),o2 (.alloc [(.str 0 0),.nils]) 2,o1 (st 2 u0 u1)])
 (.seq (sq ([o1 (fa 0 k2),o1 (ld u0),o1 (cf 65 [u0]),o2 (.not u0) 3])
 (.cond k3 (sq ([mc (iz 1) 15])
 .ret) .skip))
 (.seq (sq ([ml 0,o1 (fa 0 k2),o1 (ld u0),o1 (cf 108 [u2,u0]),m0,ox 0,ox 1,mt 1 4,o1 (.move u1)])
 (sq ([ml 4,ml 1,o2 (ls u1 u0) 5])
 (.cond k5 (sq ([mc (iz 6) 15])
 .ret) .skip)))
 (.seq (sq ([o1 (fa 1 k2),o1 (ld u0),o1 (ll u0),o2 (gt u0 (.c (iz 8))) 6])
 (.cond k6 (sq ([mc (iz 4) 15])
 .ret) .skip))
 (.seq (sq ([o1 (fa 1 k2),o2 (ld u0) 10,o2 (ll u0) 8,mc (iz 0) 7])
 (.block 0 (.loop (sq ([o2 (ls k7 k8) 9])
 (.seq (.cond k9 .skip (.exit 0))
 (.seq (.block 1 (sq ([ml 7,o1 (ia 2 k10 k7),o1 (lN 2 u0),o2 (.alloc [(.str 0 0),(.str 0 0)]) 12,mt 3 11,o1 (st 2 u1 u2)])
 (sq ([ml 0,o1 (fa 1 k2),o1 (ld u0),ml 11,o1 (.sliceV false 2 u1 none (some u0) none),o1 (lN 2 k12),o1 (cf 141 [u5,u1,u0]),mt 0 13])
 (sq ([ml 13,o2 (nn u0 (.c (iz 0))) 14])
 (.cond k14 (sq ([ml 13,mt 0 15])
 .ret) .skip)))))
 (.ops [o1 (ad k7 (.c (iz 1))),mt 0 7])))))))
 (sq ([mc (iz 0) 15])
 .ret))))))) [.val k15]
noncomputable def af105:AFunc:=.mk 1 (sq ([mc (.bool false) 1])
 (sq ([ml 0,o1 (nn u0 (.c (.str 0 0))),m0,o3 (.move k0) 0 true,o3 (.idxS u0 (.c (iz 0))) 1 true,o3 (cf 142 [u0]) 2 true,o1 (pk u3 u0 (.c (.bool false))),m0,o3 (.move k0) 0 true,o3 (cf 143 [u0,(.c (.fn 144 [] []))]) 1 true,o3 (.move k0) 2 true,o3 (lt u0) 3 true,o3 (en u2 u0) 4 true,o1 (pk u5 u0 (.c (.bool false))),mt 0 1])
 .ret)) [.val k1]
noncomputable def af106:AFunc:=.mk 1 (sq ([mc (.bool false) 1])
 (sq ([o1 (cf 146 []),ml 0,o1 (cf 125 [u1,u0]),mt 0 1])
 .ret)) [.val k1]
noncomputable def af107:AFunc:=.mk 2 (sq ([mc (.str 0 0) 2,mc (.bool false) 3])
 (sq ([ml 0,ml 1,o1 (cf 147 [u1,u0]),ox 0,ox 1,mt 1 2,mt 1 3])
 .ret)) [.val k2,.val k3]
noncomputable def af108:AFunc:=.mk 2 (sq ([o2 (.box k1) 2,mc (iz 0) 4,mc (.bool false) 5])
 (sq ([ml 0,o1 (.mkFn 149 [] [k2]),o1 (cf 148 [u1,u0]),mt 0 3])
 (sq ([ml 3,o1 (.max u0 (.c (iz 0))),ml 3,o1 (ge u0 (.c (iz 0))),mt 2 4,mt 1 5])
 .ret))) [.val k4,.val k5]
noncomputable def af109:AFunc:=.mk 2 (sq ([mc (iz 0) 7])
 (.seq (sq ([ml 0,o2 (ll u0) 3,mc (iz 0) 2])
 (.block 0 (.loop (sq ([o2 (ls k2 k3) 4])
 (.seq (.cond k4 .skip (.exit 0))
 (.seq (.block 1 (sq ([ml 2,mt 0 5])
 (sq ([ml 1,ml 0,ml 5,o1 (ia 6 u1 u0),o1 (lN 6 u0),o2 (.callV u4 [u0]) 6])
 (.cond k6 (sq ([ml 5,mt 0 7])
 .ret) .skip))))
 (.ops [o1 (ad k2 (.c (iz 1))),mt 0 2])))))))
 (sq ([mc (.int .i64 (.negSucc 0)) 7])
 .ret))) [.val k7]
noncomputable def af110:AFunc:=.mk 2 (sq ([o2 (.box k0) 2,mc (.bool false) 3])
 (sq ([o1 (fa 0 k2),o1 (ld u0),o1 (ld k1),o1 (en u1 u0),mt 0 3])
 .ret)) [.val k3]
noncomputable def af111:AFunc:=.mk 2 (sq ([mc (.bool false) 2])
 (sq ([o1 (ld k1),o1 (nc u0),o1 (fa 0 u0),o1 (fa 0 u0),o1 (ld u0),ml 0,o1 (cf 66 [u1,u0]),o1 (.not u0),mt 0 2])
 .ret)) [.val k2]
noncomputable def af112:AFunc:=.mk 2 (sq ([mc (.bool false) 2])
 (sq ([ml 0,ml 1,o1 (cf 150 [u1,u0]),o1 (ge u0 (.c (iz 0))),mt 0 2])
 .ret)) [.val k2]
noncomputable def af113:AFunc:=.mk 2 (sq ([mc .nils 9])
 (.seq (sq ([ml 1,o2 (ls u0 (.c (iz 0))) 2])
 (.cond k2 (.ops [o1 (.mkIfc 9 (.c (.str 18 8838634371626034279618351153450530198413667))),o1 (.panic u0)]) .skip))
 (sq ([ml 0,o1 (ll u0),o1 (.convI .u64 u0),ml 1,o1 (.convI .u64 u0),o1 (cf 151 [u2,u0]),m0,ox 0,ox 1,mt 1 3,mt 1 4])
 (.seq (sq ([ml 3,o1 (gt u0 (.c (.int .u64 (.ofNat 0)))),m0,o3 (.move k4) 0 false,o3 (gt u0 (.c (.int .u64 (.ofNat 9223372036854775807)))) 1 false,o2 (pk u2 (.c (.bool true)) u0) 5])
 (.cond k5 (.ops [o1 (.mkIfc 9 (.c (.str 40 963418128638552869720407654453272125421877327008697887680703274632671259614598848762731909441652))),o1 (.panic u0)]) .skip))
 (sq ([ml 4,o1 (.convI .i64 u0),o1 (.mkSlice [(iz 0)] 8 u0 u0),mt 0 6])
 (sq ([ml 6,ml 0,o1 (.copy 1 u1 u0),mt 0 7])
 (.seq (.block 0 (.loop (.seq (sq ([ml 7,ml 6,o1 (ll u0),o2 (ls u2 u0) 8])
 (.cond k8 .skip (.exit 0)))
 (.block 1 (.ops [ml 7,ml 6,ml 7,o1 (.sliceV false 1 u1 (some u0) none none),ml 6,ml 7,o1 (.sliceV false 1 u1 none (some u0) none),o1 (.copy 1 u3 u0),o1 (ad u7 u0),mt 0 7])))))
 (sq ([ml 6,mt 0 9])
 .ret)))))))) [.val k9]
noncomputable def af114:AFunc:=.mk 2 (sq ([mc (.bool false) 2])
 (sq ([ml 0,ml 1,o1 (cf 152 [u1,u0]),o1 (ge u0 (.c (iz 0))),mt 0 2])
 .ret)) [.val k2]
noncomputable def af115:AFunc:=.mk 2 (sq ([o2 (.box k0) 2,mc (.bool false) 3])
 (sq ([o1 (ld k1),o1 (lN 5 k2),o1 (cf 116 [u1,u0]),o1 (.not u0),mt 0 3])
 .ret)) [.val k3]
noncomputable def af116:AFunc:=.mk 2 (sq ([o2 (.box k1) 2,mc (.bool false) 6])
 (.seq (sq ([o1 (fa 1 k2),o2 (ld u0) 3])
 (.block 0 (sq ([o1 (en k3 (.c (iz 1))),mt 0 4])
 (.cond k4 (sq ([ml 0,o1 (fa 3 k2),o1 (.idxAddrA 2 1 u0 (.c (iz 0))),o1 (ld u0),o1 (cf 153 [u3,u0]),m0,o3 (fa 3 k2) 0 true,o3 (.idxAddrA 2 1 u0 (.c (iz 1))) 1 true,o3 (ld u0) 2 true,o3 (en u0 (.c (iz 0))) 3 true,o1 (pk u4 u0 (.c (.bool false))),m0,o3 (fa 2 k2) 0 true,o3 (ld u0) 1 true,o3 (en u0 (.c (.int .i64 (.negSucc 0)))) 2 true,o1 (pk u3 u0 (.c (.bool false))),mt 0 6])
 .ret) (sq ([o1 (en k3 (.c (iz 2))),mt 0 5])
 (.cond k5 (sq ([ml 0,o1 (fa 3 k2),o1 (.idxAddrA 2 1 u0 (.c (iz 0))),o1 (ld u0),o1 (cf 153 [u3,u0]),m0,o3 (.move k0) 0 true,o3 (fa 3 k2) 1 true,o3 (.idxAddrA 2 1 u0 (.c (iz 1))) 2 true,o3 (ld u0) 3 true,o3 (cf 153 [u3,u0]) 4 true,o1 (pk u5 u0 (.c (.bool false))),m0,o3 (fa 3 k2) 0 true,o3 (.idxAddrA 2 1 u0 (.c (iz 0))) 1 true,o3 (ld u0) 2 true,o3 (fa 3 k2) 3 true,o3 (.idxAddrA 2 1 u0 (.c (iz 1))) 4 true,o3 (ld u0) 5 true,o3 (nn u3 u0) 6 true,o1 (pk u7 u0 (.c (.bool false))),mt 0 6])
 .ret) .skip))))))
 (sq ([o1 (fa 1 k2),o1 (ld u0),o1 (en u0 (.c (iz 3))),m0,o3 (fa 3 k2) 0 true,o3 (lN 2 u0) 1 true,o3 (.build [(iz 0),(iz 0)] []) 2 true,o3 (.eq false (.agg [.int,.int]) u1 u0) 3 true,o1 (pk u4 u0 (.c (.bool false))),mt 0 6])
 .ret))) [.val k6]
noncomputable def af117:AFunc:=.mk 2 (sq ([mc (.bool false) 2])
 (sq ([ml 0,ml 1,o1 (cf 154 [u1,u0]),o1 (ge u0 (.c (iz 0))),mt 0 2])
 .ret)) [.val k2]
noncomputable def af118:AFunc:=.mk 1 (sq ([o2 (.box k0) 1,mc .nils 2])
 (sq ([o1 (lN 6 k1),o1 (cf 155 [u0]),o1 (nc u0),o1 (fa 6 u0),o1 (ld u0),mt 0 2])
 .ret)) [.val k2]
noncomputable def af119:AFunc:=.mk 1 (sq ([o2 (.box k0) 1,mc .nilp 11])
 (.seq (sq ([o1 (fa 5 k1),o1 (ld u0),o1 (ll u0),o2 (en u0 (.c (iz 0))) 2])
 (.cond k2 (sq ([mc .nilp 11])
 .ret) .skip))
 (sq ([o1 (lN 6 k1),o1 (lN 6 k1),o1 (.bslice [(iz 0)] 1 [(.mk 0 1 (.c (.int .i64 (.negSucc 0))))]),o1 (fa 5 k1),o1 (ld u0),o1 (ll u0),o1 (.bslice [(iz 0)] 1 [(.mk 0 1 (.c (.int .i64 (.negSucc 0))))]),o1 (fa 5 k1),o1 (ld u0),o1 (ll u0),.mk (cf 156 [u9]) none none [.mk (ll u1) 0 none,.mk (ld u2) 1 none,.mk (ll u5) 4 none,.mk (ld u6) 5 none,.mk (lN 6 k1) 8 none],.mk (cf 44 [u9]) none none [.mk (ll u2) 1 none,.mk (ld u3) 2 none,.mk (ll u6) 5 none,.mk (ld u7) 6 none],.mk (cf 113 [u9,u6]) none none [.mk (ll u3) 2 none,.mk (ld u4) 3 none],o1 (cf 113 [u6,u3]),o1 (.build [.nils,.nils,.nils,.nils] [(.mk 0 1 u3),(.mk 2 1 u2),(.mk 1 1 u1),(.mk 3 1 u0)]),o1 (.box u0),mt 0 3])
 (.seq (sq ([ml 3,o1 (nc u0),o1 (fa 0 u0),o2 (ld u0) 7,o2 (ll u0) 5,mc (iz 0) 4])
 (.block 0 (.loop (sq ([o2 (ls k4 k5) 6])
 (.seq (.cond k6 .skip (.exit 0))
 (.seq (.block 1 (sq ([ml 4,o1 (ia 1 k7 k4),o1 (ld u0),mt 2 9,mt 1 8])
 (.ops [ml 3,o1 (nc u0),o1 (fa 1 u0),o1 (ld u0),ml 8,ml 9,o1 (ia 1 u2 u1),o1 (st 1 u0 u1)])))
 (.ops [o1 (ad k4 (.c (iz 1))),mt 0 4])))))))
 (sq ([ml 3,o1 (nc u0),o1 (fa 3 u0),o1 (ld u0),o1 (ia 1 u0 (.c (iz 0))),o1 (st 1 u0 (.c (iz 0)))])
 (.seq (.block 2 (.loop (.seq (sq ([ml 3,o2 (cf 157 [u0]) 10])
 (.cond k10 .skip (.exit 2)))
 (.block 3 .skip))))
 (sq ([ml 3,o1 (nc u0),o1 (fa 3 u0),o1 (ld u0),o1 (ia 1 u0 (.c (iz 0))),o1 (st 1 u0 (.c (.int .i64 (.negSucc 0))))])
 (sq ([ml 3,mt 0 11])
 .ret)))))))) [.val k11]
noncomputable def af120:AFunc:=.mk 1 (sq ([mc (iz 0) 6])
 (.seq (sq ([o2 (.move k0) 1])
 (.block 0 (.seq (sq ([o1 (en k1 (.c (iz 17))),mt 0 2])
 (.cond k2 .skip (sq ([o1 (en k1 (.c (iz 18))),mt 0 2])
 (.cond k2 .skip (sq ([o1 (en k1 (.c (iz 25))),mt 0 2])
 (.cond k2 .skip (sq ([o1 (en k1 (.c (iz 28))),mt 0 2])
 (.cond k2 .skip (sq ([o1 (en k1 (.c (iz 30))),mt 0 2])
 (.cond k2 .skip (.ops [o1 (en k1 (.c (iz 32))),mt 0 2])))))))))))
 (.cond k2 (sq ([mc (iz 1) 6])
 .ret) (sq ([o1 (en k1 (.c (iz 26))),mt 0 3])
 (.cond k3 (sq ([mc (iz 2) 6])
 .ret) (.seq (sq ([o1 (en k1 (.c (iz 20))),mt 0 4])
 (.cond k4 .skip (sq ([o1 (en k1 (.c (iz 21))),mt 0 4])
 (.cond k4 .skip (sq ([o1 (en k1 (.c (iz 22))),mt 0 4])
 (.cond k4 .skip (sq ([o1 (en k1 (.c (iz 23))),mt 0 4])
 (.cond k4 .skip (sq ([o1 (en k1 (.c (iz 24))),mt 0 4])
 (.cond k4 .skip (sq ([o1 (en k1 (.c (iz 27))),mt 0 4])
 (.cond k4 .skip (sq ([o1 (en k1 (.c (iz 29))),mt 0 4])
 (.cond k4 .skip (.ops [o1 (en k1 (.c (iz 33))),mt 0 4])))))))))))))))
 (.cond k4 (sq ([mc (iz 0) 6])
 .ret) .skip))))))))
 (.seq (sq ([ml 0,o1 (ge u0 (.c (iz 1))),m0,o3 (.move k0) 0 true,o3 (le u0 (.c (iz 16))) 1 true,o2 (pk u2 u0 (.c (.bool false))) 5])
 (.cond k5 (sq ([mc (iz 2) 6])
 .ret) .skip))
 (sq ([mc (.int .i64 (.negSucc 0)) 6])
 .ret)))) [.val k6]
noncomputable def af121:AFunc:=.mk 1 (sq ([mc (.bool false) 1])
 (sq ([ml 0,o1 (ge u0 (.c (iz 1))),m0,o3 (.move k0) 0 true,o3 (le u0 (.c (iz 34))) 1 true,o1 (pk u2 u0 (.c (.bool false))),m0,o3 (.move k0) 0 true,o3 (nn u0 (.c (iz 19))) 1 true,o1 (pk u2 u0 (.c (.bool false))),mt 0 1])
 .ret)) [.val k1]
noncomputable def af122:AFunc:=.mk 1 (sq ([o2 (.box k0) 1,mc (.bool false) 5])
 (.seq (sq ([o1 (fa 0 k1),o2 (ld u0) 2])
 (.block 0 (sq ([o1 (en k2 (.c (iz 24))),mt 0 3])
 (.cond k3 (sq ([mc (.bool true) 5])
 .ret) (.seq (sq ([o1 (en k2 (.c (iz 20))),mt 0 4])
 (.cond k4 .skip (sq ([o1 (en k2 (.c (iz 21))),mt 0 4])
 (.cond k4 .skip (sq ([o1 (en k2 (.c (iz 22))),mt 0 4])
 (.cond k4 .skip (sq ([o1 (en k2 (.c (iz 25))),mt 0 4])
 (.cond k4 .skip (sq ([o1 (en k2 (.c (iz 26))),mt 0 4])
 (.cond k4 .skip (sq ([o1 (en k2 (.c (iz 27))),mt 0 4])
 (.cond k4 .skip (sq ([o1 (en k2 (.c (iz 28))),mt 0 4])
 (.cond k4 .skip (sq ([o1 (en k2 (.c (iz 29))),mt 0 4])
 (.cond k4 .skip (sq ([o1 (en k2 (.c (iz 30))),mt 0 4])
 (.cond k4 .skip (.ops [o1 (en k2 (.c (iz 31))),mt 0 4])))))))))))))))))))
 (.cond k4 (sq ([o1 (fa 4 k1),o1 (ld u0),o1 (en u0 (.c (.str 0 0))),mt 0 5])
 .ret) .skip))))))
 (sq ([o1 (fa 4 k1),o1 (ld u0),o1 (en u0 (.c (.str 0 0))),m0,o3 (fa 3 k1) 0 true,o3 (ld u0) 1 true,o3 (en u0 (.c (iz 0))) 2 true,o1 (pk u3 u0 (.c (.bool false))),mt 0 5])
 .ret))) [.val k5]
noncomputable def af123:AFunc:=.mk 4 (sq ([o2 (.box k1) 5,mc (.bool false) 14])
 (sq ([ml 0,o1 (nc u0),o1 (fa 3 u0),o1 (fa 5 u0),o1 (ld u0),ml 2,o1 (ia 5 u1 u0),o1 (fa 0 u0),o1 (ld u0),mt 0 4])
 (.seq (sq ([ml 2,o1 (en u0 (.c (iz 0))),m0,o3 (.move k3) 0 false,o3 (gt u0 (.c (iz 0))) 1 false,o3 (.move u0) 2 false,o3 (.move k0) 0 true,o3 (nc u0) 1 true,o3 (fa 3 u0) 2 true,o3 (fa 4 u0) 3 true,o3 (ld u0) 4 true,o3 (.move k4) 5 true,o3 (.move k3) 6 true,o3 (sb u0 (.c (iz 1))) 7 true,o3 (ia 1 u2 u0) 8 true,o3 (ld u0) 9 true,o3 (ia 5 u5 u0) 10 true,o3 (fa 0 u0) 11 true,o3 (ld u0) 12 true,o3 (nn u0 (.c (iz 34))) 13 true,o3 (pk u14 u0 (.c (.bool false))) 17 false,o1 (pk u18 (.c (.bool true)) u0),m0,o3 (fa 2 k5) 0 false,o3 (ld u0) 1 false,o3 (ll u0) 2 false,o3 (.move k0) 3 false,o3 (nc u0) 4 false,o3 (fa 11 u0) 5 false,o3 (ld u0) 6 false,o3 (.move k2) 7 false,o3 (ia 1 u1 u0) 8 false,o3 (ld u0) 9 false,o3 (ll u0) 10 false,o3 (nn u8 u0) 11 false,o1 (pk u12 (.c (.bool true)) u0),m0,o3 (.move k0) 0 false,o3 (nc u0) 1 false,o3 (fa 0 u0) 2 false,o3 (fa 0 u0) 3 false,o3 (ld u0) 4 false,o3 (fa 1 k5) 5 false,o3 (ld u0) 6 false,o3 (cf 66 [u2,u0]) 7 false,o3 (.not u0) 8 false,o2 (pk u9 (.c (.bool true)) u0) 6])
 (.cond k6 (sq ([mc (.bool false) 14])
 .ret) .skip))
 (.seq (sq ([ml 0,o1 (nc u0),o1 (fa 11 u0),o1 (ld u0),ml 2,o1 (ia 1 u1 u0),o2 (ld u0) 10,o2 (ll u0) 8,mc (iz 0) 7])
 (.block 0 (.loop (sq ([o2 (ls k7 k8) 9])
 (.seq (.cond k9 .skip (.exit 0))
 (.seq (.block 1 (sq ([ml 7,o1 (ia 1 k10 k7),o1 (ld u0),mt 2 11,mt 1 12])
 (sq ([ml 0,o1 (fa 2 k5),o1 (ld u0),ml 11,o1 (ia 1 u1 u0),o1 (ld u0),ml 12,o1 (fa 1 k5),o1 (ld u0),.mk (cf 127 [u8,u3,u2]) none none [.mk (ld u1) 0 none],o2 (nn u0 u1) 13])
 (.cond k13 (sq ([mc (.bool false) 14])
 .ret) .skip))))
 (.ops [o1 (ad k7 (.c (iz 1))),mt 0 7])))))))
 (sq ([mc (.bool true) 14])
 .ret))))) [.val k14]
noncomputable def af124:AFunc:=.mk 4 (sq ([mc (.str 0 0) 7])
 (.seq (sq ([ml 1,o1 (ls u0 (.c (iz 0))),m0,o3 (.move k1) 0 false,o3 (.move k0) 1 false,o3 (nc u0) 2 false,o3 (fa 3 u0) 3 false,o3 (fa 4 u0) 4 false,o3 (ld u0) 5 false,o3 (ll u0) 6 false,o3 (ge u6 u0) 7 false,o1 (pk u8 (.c (.bool true)) u0),m0,o3 (.move k0) 0 false,o3 (nc u0) 1 false,o3 (fa 9 u0) 2 false,o3 (ld u0) 3 false,o3 (.move k1) 4 false,o3 (ia 1 u1 u0) 5 false,o3 (ld u0) 6 false,o3 (en u0 (.c (.int .i64 (.negSucc 0)))) 7 false,o2 (pk u8 (.c (.bool true)) u0) 4])
 (.cond k4 (sq ([mc (.str 0 0) 7])
 .ret) .skip))
 (sq ([ml 0,o1 (nc u0),o1 (fa 9 u0),o1 (ld u0),ml 1,o1 (ia 1 u1 u0),o1 (ld u0),ml 2,o1 (en u1 u0),m0,o3 (.move k0) 0 true,o3 (nc u0) 1 true,o3 (fa 10 u0) 2 true,o3 (ld u0) 3 true,o3 (.move k1) 4 true,o3 (ia 1 u1 u0) 5 true,o3 (ld u0) 6 true,o3 (.move k3) 7 true,o3 (ls u1 u0) 8 true,o1 (pk u9 u0 (.c (.bool false))),m0,o3 (.move k0) 0 false,o3 (nc u0) 1 false,o3 (fa 9 u0) 2 false,o3 (ld u0) 3 false,o3 (.move k1) 4 false,o3 (ia 1 u1 u0) 5 false,o3 (ld u0) 6 false,o3 (.move k2) 7 false,o3 (nn u1 u0) 8 false,o3 (.move u0) 9 false,o3 (.move k0) 0 true,o3 (.move k0) 1 true,o3 (nc u0) 2 true,o3 (fa 9 u0) 3 true,o3 (ld u0) 4 true,o3 (.move k1) 5 true,o3 (ia 1 u1 u0) 6 true,o3 (ld u0) 7 true,o3 (.move k2) 8 true,o3 (cf 158 [u8,u1,u0]) 9 true,o3 (pk u10 u0 (.c (.bool false))) 20 false,o1 (pk u21 (.c (.bool true)) u0),mt 0 5])
 (.seq (sq ([ml 5,o2 (.not u0) 6])
 (.cond k6 (sq ([mc (.str 0 0) 7])
 .ret) .skip))
 (sq ([ml 0,o1 (nc u0),o1 (fa 3 u0),o1 (fa 4 u0),o1 (ld u0),ml 1,o1 (ia 5 u1 u0),o1 (fa 1 u0),o1 (ld u0),mt 0 7])
 .ret))))) [.val k7]
noncomputable def af125:AFunc:=.mk 2 (sq ([mc (.bool false) 2])
 (sq ([ml 0,ml 1,o1 (cf 159 [u1,u0]),o1 (ge u0 (.c (iz 0))),mt 0 2])
 .ret)) [.val k2]
noncomputable def af126:AFunc:=.mk 3 (sq ([o2 (.box k1) 3,mc (.bool false) 11])
 (.seq (.block 0 (sq ([o1 (fa 0 k3),o1 (ld u0),o1 (le u0 (.c (iz 18))),mt 0 4])
 (.cond k4 (sq ([o1 (lN 5 k3),ml 2,o1 (cf 160 [u1,u0]),mt 0 11])
 .ret) (sq ([o1 (fa 0 k3),o1 (ld u0),o1 (en u0 (.c (iz 25))),mt 0 5])
 (.cond k5 (sq ([o1 (fa 1 k3),o1 (ld u0),o1 (nn u0 (.c (.str 0 0))),m0,o3 (fa 1 k3) 0 true,o3 (ld u0) 1 true,o3 (.move k0) 2 true,o3 (.move k2) 3 true,o3 (ia 1 u0 (.c (iz 0))) 4 true,o3 (ld u0) 5 true,o3 (fa 3 k3) 6 true,o3 (ld u0) 7 true,.mk (cf 161 [u5,u2,u0]) (some (u8,true)) none [.mk (ld u7) 6 (some (u8,true))],o3 (en u7 u0) 9 true,o1 (pk u10 u0 (.c (.bool false))),mt 0 11])
 .ret) (sq ([o1 (fa 0 k3),o1 (ld u0),o1 (en u0 (.c (iz 26))),mt 0 6])
 (.cond k6 (sq ([o1 (fa 1 k3),o1 (ld u0),o1 (en u0 (.c (.str 0 0))),m0,o3 (.move k2) 0 true,o3 (ia 1 u0 (.c (iz 1))) 1 true,o3 (ld u0) 2 true,o3 (.move k0) 3 true,o3 (.move k2) 4 true,o3 (ia 1 u0 (.c (iz 0))) 5 true,o3 (ld u0) 6 true,o3 (fa 3 k3) 7 true,o3 (ld u0) 8 true,.mk (cf 161 [u5,u2,u0]) (some (u9,true)) none [.mk (ld u7) 6 (some (u9,true))],o3 (en u7 u0) 10 true,o1 (pk u11 u0 (.c (.bool false))),mt 0 11])
 .ret) (sq ([o1 (fa 0 k3),o1 (ld u0),o1 (en u0 (.c (iz 28))),mt 0 7])
 (.cond k7 (sq ([o1 (lN 5 k3),ml 2,ml 0,o1 (nc u0),o1 (fa 3 u0),o1 (fa 3 u0),o1 (ld u0),o1 (fa 3 k3),o1 (ld u0),.mk (cf 163 [u2,u0]) none none [.mk (lN 5 k3) 8 none],o1 (.bslice [(.str 0 0)] 1 [(.mk 0 1 u0)]),o1 (cf 162 [u10,(.c (.str 0 0)),u9,u0]),mt 0 11])
 .ret) (sq ([o1 (fa 0 k3),o1 (ld u0),o1 (en u0 (.c (iz 30))),mt 0 8])
 (.cond k8 (sq ([o1 (lN 5 k3),ml 2,ml 0,o1 (fa 3 k3),o1 (ld u0),.mk (cf 164 [u2,u0]) none none [.mk (lN 5 k3) 4 none],o1 (.bslice [(.str 0 0)] 1 [(.mk 0 1 u0)]),o1 (cf 162 [u6,(.c (.str 0 0)),u5,u0]),mt 0 11])
 .ret) (sq ([o1 (fa 0 k3),o1 (ld u0),o1 (en u0 (.c (iz 32))),mt 0 9])
 (.cond k9 (sq ([o1 (lN 5 k3),ml 2,o1 (.bslice [(.str 0 0)] 1 [(.mk 0 1 (.c (.str 3 7630441)))]),o1 (cf 162 [u2,(.c (.str 0 0)),u1,u0]),mt 0 11])
 .ret) (sq ([o1 (fa 0 k3),o1 (ld u0),o1 (en u0 (.c (iz 31))),mt 0 10])
 (.cond k10 (sq ([ml 0,o1 (lN 5 k3),ml 2,o1 (cf 165 [u2,u1,u0]),mt 0 11])
 .ret) .skip)))))))))))))))
 (sq ([ml 0,o1 (lN 5 k3),o1 (cf 166 [u1,u0]),mt 0 11])
 .ret))) [.val k11]
noncomputable def af127:AFunc:=.mk 3 (sq ([mc (.str 0 0) 3])
 (sq ([ml 0,ml 1,ml 2,ml 0,o1 (nc u0),o1 (fa 3 u0),o1 (fa 5 u0),o1 (ld u0),ml 2,o1 (ia 5 u1 u0),o1 (fa 0 u0),o1 (ld u0),o1 (ll u0),o1 (cf 124 [u12,u11,u10,u0]),mt 0 3])
 .ret)) [.val k3]
noncomputable def af128:AFunc:=.mk 1 (sq ([mc .nils 9])
 (.seq (sq ([ml 0,o1 (ll u0),o2 (ls u0 (.c (iz 2))) 1])
 (.cond k1 (sq ([ml 0,mt 0 9])
 .ret) .skip))
 (.seq (sq ([mc (iz 1) 2])
 (.block 0 (.loop (.seq (sq ([ml 2,ml 0,o1 (ll u0),o2 (ls u2 u0) 3])
 (.cond k3 .skip (.exit 0)))
 (.seq (.block 1 (sq ([ml 0,ml 2,o1 (ia 1 u1 u0),o1 (ld u0),ml 0,ml 2,o1 (sb u0 (.c (iz 1))),o1 (ia 1 u2 u0),o1 (ld u0),o2 (en u5 u0) 4])
 (.cond k4 (sq ([ml 0,ml 2,o1 (.sliceV true 1 u1 (some u0) none none),mt 0 6])
 (.seq (sq ([mc (iz 1) 5])
 (.block 2 (.loop (.seq (sq ([ml 5,ml 6,o1 (ll u0),o2 (ls u2 u0) 7])
 (.cond k7 .skip (.exit 2)))
 (.seq (.block 3 (sq ([ml 6,ml 5,o1 (ia 1 u1 u0),o1 (ld u0),ml 6,ml 5,o1 (sb u0 (.c (iz 1))),o1 (ia 1 u2 u0),o1 (ld u0),o2 (nn u5 u0) 8])
 (.cond k8 (sq ([ml 0,ml 2,ml 6,ml 5,o1 (ia 1 u1 u0),o1 (ld u0),o1 (ia 1 u5 u4),o1 (st 1 u0 u1)])
 (.ops [ml 2,o1 (ad u0 (.c (iz 1))),mt 0 2])) .skip)))
 (.ops [ml 5,o1 (ad u0 (.c (iz 1))),mt 0 5]))))))
 (sq ([ml 0,ml 2,o1 (.sliceV true 1 u1 (some u0) none none),o1 (.clear [(iz 0)] u0)])
 (sq ([ml 0,ml 2,o1 (.sliceV true 1 u1 none (some u0) none),mt 0 9])
 .ret)))) .skip)))
 (.ops [ml 2,o1 (ad u0 (.c (iz 1))),mt 0 2]))))))
 (sq ([ml 0,mt 0 9])
 .ret)))) [.val k9]
noncomputable def af129:AFunc:=.mk 2 (sq ([mc .nils 8])
 (sq ([ml 0,ml 1,o1 (cf 167 [u1,u0]),mt 0 2])
 (.seq (sq ([ml 2,o2 (en u0 (.c (.int .i64 (.negSucc 0)))) 3])
 (.cond k3 (sq ([ml 0,mt 0 8])
 .ret) .skip))
 (.seq (sq ([ml 2,o1 (ad u0 (.c (iz 1))),mt 0 4])
 (.block 0 (.loop (.seq (sq ([ml 4,ml 0,o1 (ll u0),o2 (ls u2 u0) 5])
 (.cond k5 .skip (.exit 0)))
 (.seq (.block 1 (sq ([ml 0,ml 4,o1 (ia 1 u1 u0),o1 (ld u0),mt 0 6])
 (sq ([ml 1,ml 6,o1 (.callV u1 [u0]),o2 (.not u0) 7])
 (.cond k7 (sq ([ml 0,ml 2,ml 6,o1 (ia 1 u2 u1),o1 (st 1 u0 u1)])
 (.ops [ml 2,o1 (ad u0 (.c (iz 1))),mt 0 2])) .skip))))
 (.ops [ml 4,o1 (ad u0 (.c (iz 1))),mt 0 4]))))))
 (sq ([ml 0,ml 2,o1 (.sliceV true 1 u1 (some u0) none none),o1 (.clear [(iz 0)] u0)])
 (sq ([ml 0,ml 2,o1 (.sliceV true 1 u1 none (some u0) none),mt 0 8])
 .ret)))))) [.val k8]
noncomputable def af130:AFunc:=.mk 2 (sq ([mc (.bool false) 2])
 (sq ([ml 0,o1 (ls u0 (.c (iz 0))),m0,o3 (.move k0) 0 false,o3 (fa 5 k1) 1 false,o3 (ld u0) 2 false,o3 (ll u0) 3 false,o3 (ge u3 u0) 4 false,o1 (pk u5 (.c (.bool true)) u0),mt 0 2])
 .ret)) [.val k2]
noncomputable def af131:AFunc:=.mk 2 (sq ([mc .nils 11])
 (sq ([ml 0,o1 (nc u0),o1 (fa 0 u0),o1 (fa 2 u0),o1 (ld u0),ml 1,o1 (nc u0),o1 (fa 0 u0),o1 (ld u0),o1 (ia 6 u4 u0),o1 (lN 6 u0),o2 (.alloc [(.str 0 0),.nils,(.str 0 0),.nils,.nils,.nils]) 2,o1 (st 6 u0 u1)])
 (sq ([ml 1,o1 (nc u0),o1 (fa 2 u0),o1 (ld u0),o1 (.mkFn 168 [] [k2]),o1 (cf 132 [u1,u0]),mt 0 3])
 (sq ([ml 3,ml 1,o1 (nc u0),o1 (fa 5 u0),o1 (ld u0),o1 (.mkFn 169 [] [k2]),o1 (cf 132 [u1,u0]),o1 (ap 1 8 u6 u0),mt 0 3])
 (.seq (sq ([ml 1,o1 (nc u0),o1 (fa 4 u0),o2 (ld u0) 7,o2 (ll u0) 5,mc (iz 0) 4])
 (.block 0 (.loop (sq ([o2 (ls k4 k5) 6])
 (.seq (.cond k6 .skip (.exit 0))
 (.seq (.block 1 (sq ([ml 4,o1 (ia 1 k7 k4),o1 (ld u0),mt 2 9,mt 1 8])
 (sq ([ml 8,m0,o3 (fa 4 k2) 0 true,o3 (ld u0) 1 true,o3 (.move k9) 2 true,o3 (ia 5 u1 u0) 3 true,o3 (fa 1 u0) 4 true,o3 (ld u0) 5 true,o3 (cf 170 [u0]) 6 true,o2 (pk u7 u0 (.c (.bool false))) 10])
 (.cond k10 (.ops [ml 3,ml 1,o1 (nc u0),o1 (fa 3 u0),o1 (ld u0),ml 9,o1 (ia 1 u1 u0),o1 (ld u0),o1 (.bslice [(iz 0)] 1 [(.mk 0 1 u0)]),o1 (ap 1 8 u8 u0),mt 0 3]) .skip))))
 (.ops [o1 (ad k4 (.c (iz 1))),mt 0 4])))))))
 (sq ([ml 3,mt 0 11])
 .ret)))))) [.val k11]
noncomputable def af132:AFunc:=.mk 2 (sq ([mc .nils 10])
 (sq ([mc .nils 8])
 (.seq (sq ([o2 (.move k0) 5,o2 (ll u0) 3,mc (iz 0) 2])
 (.block 0 (.loop (sq ([o2 (ls k2 k3) 4])
 (.seq (.cond k4 .skip (.exit 0))
 (.seq (.block 1 (sq ([ml 2,o1 (ia 1 k5 k2),o1 (ld u0),mt 2 6,mt 1 9])
 (sq ([ml 1,ml 6,o1 (.callV u1 [u0]),o2 (cf 170 [u0]) 7])
 (.cond k7 (.ops [ml 8,ml 9,o1 (.bslice [(iz 0)] 1 [(.mk 0 1 u0)]),o1 (ap 1 8 u2 u0),mt 0 8]) .skip))))
 (.ops [o1 (ad k2 (.c (iz 1))),mt 0 2])))))))
 (sq ([ml 8,mt 0 10])
 .ret)))) [.val k10]
noncomputable def af133:AFunc:=.mk 2 (sq ([mc (.str 0 0) 2])
 (sq ([o1 (ld k1),o1 (nc u0),o1 (fa 0 u0),o1 (fa 1 u0),o1 (ld u0),ml 0,o1 (ia 2 u1 u0),o1 (fa 1 u0),o1 (ld u0),mt 0 2])
 .ret)) [.val k2]
noncomputable def af134:AFunc:=.mk 1 (sq ([mc .nils 2])
 (sq ([ml 0,o1 (cf 171 [u0])])
 (sq ([ml 0,o1 (cf 128 [u0]),o1 (cf 129 [u0,(.c (.fn 172 [] []))]),mt 0 0])
 (.seq (sq ([ml 0,o1 (ll u0),o2 (en u0 (.c (iz 0))) 1])
 (.cond k1 (sq ([mc .nils 2])
 .ret) .skip))
 (sq ([ml 0,mt 0 2])
 .ret))))) [.val k2]
noncomputable def af135:AFunc:=.mk 1 (sq ([mc .nils 2])
 (.seq (sq ([ml 0,o2 (.eq false .sl u0 (.c .nils)) 1])
 (.cond k1 (sq ([mc .nils 2])
 .ret) .skip))
 (sq ([o1 (.bslice [] 0 []),ml 0,o1 (ap 2 16 u1 u0),mt 0 2])
 .ret))) [.val k2]
noncomputable def af136:AFunc:=.mk 1 (sq ([mc (iz 0) 2])
 (.seq (sq ([ml 0,o2 (.eq false .ptr u0 (.c .nilp)) 1])
 (.cond k1 (sq ([mc (iz 0) 2])
 .ret) .skip))
 (sq ([ml 0,ml 0,o1 (nc u0),o1 (fa 2 u0),o1 (ld u0),o1 (.bslice [(.bool false)] 1 [(.mk 0 1 (.c (.bool true)))]),o1 (ap 1 1 u1 u0),o1 (nc u6),o1 (fa 2 u0),o1 (st 1 u0 u2)])
 (sq ([ml 0,o1 (nc u0),o1 (fa 2 u0),o1 (ld u0),o1 (ll u0),mt 0 2])
 .ret)))) [.val k2]
noncomputable def af137:AFunc:=.mk 4 (sq ([mc (iz 0) 15,mc (iz 0) 16])
 (sq ([ml 0,ml 1,ml 2,ml 3,o1 (cf 173 [u3,u2,u1,u0])])
 (sq ([ml 0,o1 (nc u0),o1 (fa 0 u0),o1 (fa 2 u0),o1 (ld u0),ml 1,o1 (nc u0),o1 (fa 0 u0),o1 (ld u0),o1 (ia 6 u4 u0),o1 (lN 6 u0),o2 (.alloc [(.str 0 0),.nils,(.str 0 0),.nils,.nils,.nils]) 4,o1 (st 6 u0 u1)])
 (sq ([o1 (fa 5 k4),o1 (ld u0),ml 2,o1 (ia 5 u1 u0),o1 (lN 5 u0),o2 (.alloc [.nils,(iz 0),(iz 0),(iz 0),(iz 0)]) 5,o1 (st 5 u0 u1)])
 (.seq (sq ([o1 (fa 0 k5),o2 (ld u0) 9,o2 (ll u0) 7,mc (iz 0) 6])
 (.block 0 (.loop (sq ([o2 (ls k6 k7) 8])
 (.seq (.cond k8 .skip (.exit 0))
 (.seq (.block 1 (sq ([o1 (ia 1 k9 k6),o1 (ld u0),mt 0 10])
 (.seq (sq ([o1 (fa 4 k4),o1 (ld u0),ml 10,o1 (ia 5 u1 u0),o1 (fa 0 u0),o1 (ld u0),o2 (en u0 (.c (iz 34))) 11])
 (.cond k11 (.exit 1) .skip))
 (sq ([ml 0,o1 (cf 174 [u0])])
 (sq ([ml 1,o1 (nc u0),o1 (fa 3 u0),o1 (ld u0),ml 10,ml 0,ml 1,ml 10,.mk (cf 175 [u2,u1,u0]) none none [.mk (ld u5) 4 none],o1 (ia 1 u5 u4),o1 (st 1 u0 u1)])
 (.ops [ml 1,o1 (nc u0),o1 (fa 4 u0),o1 (ld u0),ml 10,o1 (ia 1 u1 u0),o1 (st 1 u0 (.c (.bool true)))]))))))
 (.ops [o1 (ad k6 (.c (iz 1))),mt 0 6])))))))
 (sq ([ml 0,o1 (cf 174 [u0])])
 (.seq (.block 2 (sq ([o1 (fa 1 k5),o1 (ld u0),o1 (en u0 (.c (iz 1))),m0,o3 (fa 1 k5) 0 false,o3 (ld u0) 1 false,o3 (en u0 (.c (iz 2))) 2 false,o3 (.move u0) 3 false,o3 (.move k1) 0 true,o3 (nc u0) 1 true,o3 (fa 3 u0) 2 true,o3 (ld u0) 3 true,o3 (fa 2 k5) 4 true,o3 (ld u0) 5 true,o3 (ia 1 u2 u0) 6 true,o3 (ld u0) 7 true,o3 (nn u0 (.c (iz 0))) 8 true,o3 (pk u9 u0 (.c (.bool false))) 13 false,o1 (pk u14 (.c (.bool true)) u0),mt 0 12])
 (.cond k12 (sq ([o1 (fa 3 k5),o1 (.idxAddrA 2 1 u0 (.c (iz 0))),o1 (ld u0),mt 0 15,mc (iz 0) 16])
 .ret) (sq ([o1 (fa 1 k5),o1 (ld u0),o1 (en u0 (.c (iz 2))),mt 0 13])
 (.cond k13 (sq ([o1 (fa 3 k5),o1 (.idxAddrA 2 1 u0 (.c (iz 1))),o1 (ld u0),mt 0 15,mc (iz 0) 16])
 .ret) (sq ([o1 (fa 2 k5),o1 (ld u0),o1 (ge u0 (.c (iz 0))),mt 0 14])
 (.cond k14 (sq ([ml 1,o1 (nc u0),o1 (fa 3 u0),o1 (ld u0),o1 (fa 2 k5),o1 (ld u0),o1 (ia 1 u2 u0),o1 (ld u0),mc (.int .i64 (.negSucc 0)) 15,mt 1 16])
 .ret) .skip)))))))
 (sq ([mc (.int .i64 (.negSucc 0)) 15,mc (iz 0) 16])
 .ret)))))))) [.val k15,.val k16]
noncomputable def af138:AFunc:=.mk 3 (sq ([ml 0,o1 (nc u0),o1 (fa 0 u0),o1 (fa 2 u0),o1 (ld u0),ml 1,o1 (nc u0),o1 (fa 0 u0),o1 (ld u0),o1 (ia 6 u4 u0),o1 (lN 6 u0),o2 (.alloc [(.str 0 0),.nils,(.str 0 0),.nils,.nils,.nils]) 3,o1 (st 6 u0 u1)])
 (sq ([ml 1,o1 (nc u0),o1 (fa 2 u0),o1 (ld u0),o1 (.mkFn 176 [] [k3]),o1 (cf 132 [u1,u0]),mt 0 5])
 (.seq (sq ([o1 (fa 2 k3),o1 (ld u0),o2 (cf 170 [u0]) 4])
 (.cond k4 (.ops [ml 5,ml 2,o1 (.bslice [(iz 0)] 1 [(.mk 0 1 u0)]),o1 (ap 1 8 u2 u0),mt 0 5]) .skip))
 (sq ([ml 0,ml 0,o1 (nc u0),o1 (fa 13 u0),o1 (ld u0),ml 0,o1 (nc u0),o1 (fa 13 u0),o1 (ld u0),o1 (ll u0),o1 (sb u0 (.c (iz 1))),o1 (.sliceV false 1 u6 none (some u0) none),o1 (nc u11),o1 (fa 13 u0),o1 (st 1 u0 u2)])
 (sq ([ml 0,ml 1,o1 (nc u0),o1 (fa 0 u0),o1 (ld u0),ml 1,o1 (nc u0),o1 (fa 1 u0),o1 (ld u0),ml 5,ml 0,o1 (nc u0),o1 (fa 13 u0),o1 (ld u0),o1 (cf 78 [u13,(.c (iz 2)),u9,u5,u4,u0])])
 (.ops [ml 0,o1 (nc u0),o1 (fa 5 u0),o1 (ld u0),ml 1,o1 (nc u0),o1 (fa 1 u0),o1 (ld u0),o1 (cf 177 [u4,u0])])))))) []
noncomputable def af141:AFunc:=.mk 3 (sq ([o2 (.box k2) 3,mc (iz 0) 7])
 (.seq (.block 0 (sq ([o1 (fa 0 k3),o1 (ld u0),o1 (cf 65 [u0]),o1 (.not u0),mt 0 4])
 (.cond k4 (sq ([mc (iz 1) 7])
 .ret) (sq ([ml 1,o1 (.mkFn 179 [] [k3]),o1 (cf 178 [u1,u0]),mt 0 5])
 (.cond k5 (sq ([mc (iz 6) 7])
 .ret) (sq ([ml 0,o1 (fa 1 k3),o1 (ld u0),o1 (cf 66 [u2,u0]),o1 (.not u0),mt 0 6])
 (.cond k6 (sq ([mc (iz 7) 7])
 .ret) .skip)))))))
 (sq ([mc (iz 0) 7])
 .ret))) [.val k7]
noncomputable def af142:AFunc:=.mk 1 (sq ([mc (.bool false) 1])
 (sq ([ml 0,o1 (ge u0 (.c (.int .u8 (.ofNat 97)))),m0,o3 (.move k0) 0 true,o3 (le u0 (.c (.int .u8 (.ofNat 122)))) 1 true,o1 (pk u2 u0 (.c (.bool false))),m0,o3 (.move k0) 0 false,o3 (ge u0 (.c (.int .u8 (.ofNat 65)))) 1 false,o3 (.move u0) 2 false,o3 (.move k0) 0 true,o3 (le u0 (.c (.int .u8 (.ofNat 90)))) 1 true,o3 (pk u2 u0 (.c (.bool false))) 5 false,o1 (pk u6 (.c (.bool true)) u0),m0,o3 (.move k0) 0 false,o3 (en u0 (.c (.int .u8 (.ofNat 95)))) 1 false,o1 (pk u2 (.c (.bool true)) u0),mt 0 1])
 .ret)) [.val k1]
noncomputable def af143:AFunc:=.mk 2 (sq ([mc (iz 0) 4])
 (sq ([mc (iz 0) 2])
 (.seq (.block 0 (.loop (.seq (sq ([ml 2,ml 0,o1 (lt u0),o1 (ls u2 u0),m0,o3 (.move k1) 0 true,o3 (.move k0) 1 true,o3 (.move k2) 2 true,o3 (.idxS u1 u0) 3 true,o3 (.callV u3 [u0]) 4 true,o2 (pk u5 u0 (.c (.bool false))) 3])
 (.cond k3 .skip (.exit 0)))
 (.block 1 (.ops [ml 2,o1 (ad u0 (.c (iz 1))),mt 0 2])))))
 (sq ([ml 2,mt 0 4])
 .ret)))) [.val k4]
noncomputable def af144:AFunc:=.mk 1 (sq ([mc (.bool false) 1])
 (sq ([ml 0,o1 (cf 142 [u0]),m0,o3 (.move k0) 0 false,o3 (cf 145 [u0]) 1 false,o1 (pk u2 (.c (.bool true)) u0),mt 0 1])
 .ret)) [.val k1]
noncomputable def af145:AFunc:=.mk 1 (sq ([mc (.bool false) 1])
 (sq ([ml 0,o1 (ge u0 (.c (.int .u8 (.ofNat 48)))),m0,o3 (.move k0) 0 true,o3 (le u0 (.c (.int .u8 (.ofNat 57)))) 1 true,o1 (pk u2 u0 (.c (.bool false))),mt 0 1])
 .ret)) [.val k1]
noncomputable def af146:AFunc:=.mk 0 (sq ([mc .nils 0])
 (sq ([o1 (.bslice [(.str 0 0),(.str 0 0),(.str 0 0),(.str 0 0),(.str 0 0),(.str 0 0),(.str 0 0),(.str 0 0),(.str 0 0),(.str 0 0),(.str 0 0),(.str 0 0),(.str 0 0),(.str 0 0),(.str 0 0),(.str 0 0)] 16 [(.mk 0 1 (.c (.str 4 1701869940))),(.mk 1 1 (.c (.str 6 127970521019507))),(.mk 2 1 (.c (.str 4 1668183398))),(.mk 3 1 (.c (.str 3 7496054))),(.mk 4 1 (.c (.str 2 26217))),(.mk 5 1 (.c (.str 4 1702063205))),(.mk 6 1 (.c (.str 3 7499622))),(.mk 7 1 (.c (.str 6 121437875889522))),(.mk 8 1 (.c (.str 5 500068610672))),(.mk 9 1 (.c (.str 3 7824750))),(.mk 10 1 (.c (.str 3 7104878))),(.mk 11 1 (.c (.str 4 1702195828))),(.mk 12 1 (.c (.str 5 435728179558))),(.mk 13 1 (.c (.str 3 7630441))),(.mk 14 1 (.c (.str 4 1819242338))),(.mk 15 1 (.c (.str 4 1684104562)))]),mt 0 0])
 .ret)) [.val k0]
noncomputable def af147:AFunc:=.mk 2 (sq ([mc (.str 0 0) 3,mc (.bool false) 4])
 (.seq (sq ([ml 0,ml 1,o1 (cf 180 [u1,u0]),o2 (.not u0) 2])
 (.cond k2 (sq ([ml 0,mt 0 3,mc (.bool false) 4])
 .ret) .skip))
 (sq ([ml 0,ml 1,o1 (lt u0),o1 (.sliceS u2 (some u0) none),mt 0 3,mc (.bool true) 4])
 .ret))) [.val k3,.val k4]
noncomputable def af148:AFunc:=.mk 2 (sq ([mc (iz 0) 7])
 (.seq (sq ([ml 0,o2 (ll u0) 3,mc (iz 0) 2])
 (.block 0 (.loop (sq ([o2 (ls k2 k3) 4])
 (.seq (.cond k4 .skip (.exit 0))
 (.seq (.block 1 (sq ([ml 2,mt 0 5])
 (sq ([ml 1,ml 0,ml 5,o1 (ia 2 u1 u0),o1 (lN 2 u0),o2 (.callV u4 [u0]) 6])
 (.cond k6 (sq ([ml 5,mt 0 7])
 .ret) .skip))))
 (.ops [o1 (ad k2 (.c (iz 1))),mt 0 2])))))))
 (sq ([mc (.int .i64 (.negSucc 0)) 7])
 .ret))) [.val k7]
noncomputable def af149:AFunc:=.mk 2 (sq ([o2 (.box k0) 2,mc (.bool false) 3])
 (sq ([o1 (fa 0 k2),o1 (ld u0),o1 (ld k1),o1 (en u1 u0),mt 0 3])
 .ret)) [.val k3]
noncomputable def af150:AFunc:=.mk 2 (sq ([mc (iz 0) 7])
 (.seq (sq ([ml 0,o2 (ll u0) 3,mc (iz 0) 2])
 (.block 0 (.loop (sq ([o2 (ls k2 k3) 4])
 (.seq (.cond k4 .skip (.exit 0))
 (.seq (.block 1 (sq ([ml 2,mt 0 5])
 (sq ([ml 1,ml 0,ml 5,o1 (ia 1 u1 u0),o1 (ld u0),o2 (.callV u4 [u0]) 6])
 (.cond k6 (sq ([ml 5,mt 0 7])
 .ret) .skip))))
 (.ops [o1 (ad k2 (.c (iz 1))),mt 0 2])))))))
 (sq ([mc (.int .i64 (.negSucc 0)) 7])
 .ret))) [.val k7]
noncomputable def af151:AFunc:=.mk 2 (sq ([mc (.int .u64 (.ofNat 0)) 6,mc (.int .u64 (.ofNat 0)) 7])
 (.seq (.cond (.c (.bool false)) (sq ([ml 0,o1 (.convI .u32 u0),ml 1,o1 (.convI .u32 u0),o1 (cf 181 [u2,u0]),m0,ox 0,ox 1,mt 1 2,mt 1 3])
 (sq ([ml 2,o1 (.convI .u64 u0),ml 3,o1 (.convI .u64 u0),mt 2 6,mt 1 7])
 .ret)) .skip)
 (sq ([ml 0,ml 1,o1 (cf 182 [u1,u0]),m0,ox 0,ox 1,mt 1 4,mt 1 5])
 (sq ([ml 4,ml 5,mt 1 6,mt 1 7])
 .ret)))) [.val k6,.val k7]
noncomputable def af152:AFunc:=.mk 2 (sq ([mc (iz 0) 7])
 (.seq (sq ([ml 0,o2 (ll u0) 3,mc (iz 0) 2])
 (.block 0 (.loop (sq ([o2 (ls k2 k3) 4])
 (.seq (.cond k4 .skip (.exit 0))
 (.seq (.block 1 (sq ([ml 2,mt 0 5])
 (sq ([ml 1,ml 0,ml 5,o1 (ia 5 u1 u0),o1 (lN 5 u0),o2 (.callV u4 [u0]) 6])
 (.cond k6 (sq ([ml 5,mt 0 7])
 .ret) .skip))))
 (.ops [o1 (ad k2 (.c (iz 1))),mt 0 2])))))))
 (sq ([mc (.int .i64 (.negSucc 0)) 7])
 .ret))) [.val k7]
noncomputable def af153:AFunc:=.mk 2 (sq ([mc (.bool false) 2])
 (sq ([ml 1,o1 (gt u0 (.c (iz 0))),m0,o3 (.move k1) 0 true,o3 (.move k0) 1 true,o3 (nc u0) 2 true,o3 (fa 3 u0) 3 true,o3 (fa 5 u0) 4 true,o3 (ld u0) 5 true,o3 (ll u0) 6 true,o3 (ls u6 u0) 7 true,o1 (pk u8 u0 (.c (.bool false))),mt 0 2])
 .ret)) [.val k2]
noncomputable def af154:AFunc:=.mk 2 (sq ([mc (iz 0) 7])
 (.seq (sq ([ml 0,o2 (ll u0) 3,mc (iz 0) 2])
 (.block 0 (.loop (sq ([o2 (ls k2 k3) 4])
 (.seq (.cond k4 .skip (.exit 0))
 (.seq (.block 1 (sq ([ml 2,mt 0 5])
 (sq ([ml 1,ml 0,ml 5,o1 (ia 1 u1 u0),o1 (ld u0),o2 (.eq false .bool u4 u0) 6])
 (.cond k6 (sq ([ml 5,mt 0 7])
 .ret) .skip))))
 (.ops [o1 (ad k2 (.c (iz 1))),mt 0 2])))))))
 (sq ([mc (.int .i64 (.negSucc 0)) 7])
 .ret))) [.val k7]
noncomputable def af155:AFunc:=.mk 1 (sq ([o2 (.box k0) 1,mc .nilp 4])
 (sq ([o1 (lN 6 k1),o1 (fa 5 k1),o1 (ld u0),o1 (ll u0),o1 (.mkSlice [(.bool false)] 1 u0 u0),o1 (.build [(.str 0 0),.nils,(.str 0 0),.nils,.nils,.nils,.nils,.nils] [(.mk 0 6 u4),(.mk 6 1 u0)]),o1 (.box u0),mt 0 3])
 (.seq (sq ([o1 (fa 5 k1),o1 (ld u0),o1 (ll u0),o2 (gt u0 (.c (iz 0))) 2])
 (.cond k2 (.ops [ml 3,o1 (cf 183 [u0,(.c (iz 0))])]) .skip))
 (sq ([ml 3,mt 0 4])
 .ret)))) [.val k4]
noncomputable def af156:AFunc:=.mk 1 (sq ([o2 (.box k0) 1,mc .nils 3])
 (sq ([o1 (lN 6 k1),o1 (cf 155 [u0]),o1 (nc u0),o1 (fa 7 u0),o1 (ld u0),mt 0 2])
 (sq ([ml 2,o1 (cf 184 [u0])])
 (sq ([ml 2,mt 0 3])
 .ret)))) [.val k3]
noncomputable def af157:AFunc:=.mk 1 (sq ([mc (.bool false) 15])
 (sq ([mc (.bool false) 14])
 (.seq (sq ([ml 0,o1 (nc u0),o1 (fa 0 u0),o1 (ld u0),o2 (.sliceV true 1 u0 (some (.c (iz 1))) none none) 4,o2 (ll u0) 2,mc (iz 0) 1])
 (.block 0 (.loop (sq ([o2 (ls k1 k2) 3])
 (.seq (.cond k3 .skip (.exit 0))
 (.seq (.block 1 (sq ([o1 (ia 1 k4 k1),o1 (ld u0),mt 0 5])
 (sq ([mc (.int .i64 (.negSucc 0)) 12])
 (.seq (sq ([ml 0,o1 (nc u0),o1 (fa 2 u0),o1 (ld u0),ml 5,o1 (ia 1 u1 u0),o2 (ld u0) 9,o2 (ll u0) 7,mc (iz 0) 6])
 (.block 2 (.loop (sq ([o2 (ls k6 k7) 8])
 (.seq (.cond k8 .skip (.exit 2))
 (.seq (.block 3 (sq ([o1 (ia 1 k9 k6),o1 (ld u0),mt 0 10])
 (.block 4 (sq ([ml 0,o1 (nc u0),o1 (fa 1 u0),o1 (ld u0),ml 10,o1 (ia 1 u1 u0),o1 (ld u0),o1 (en u0 (.c (.int .i64 (.negSucc 0)))),m0,o3 (.move k0) 0 false,o3 (nc u0) 1 false,o3 (fa 3 u0) 2 false,o3 (ld u0) 3 false,o3 (.move k10) 4 false,o3 (ia 1 u1 u0) 5 false,o3 (ld u0) 6 false,o3 (en u0 (.c (.int .i64 (.negSucc 0)))) 7 false,o1 (pk u8 (.c (.bool true)) u0),mt 0 11])
 (.cond k11 .skip (sq ([ml 12,o1 (en u0 (.c (.int .i64 (.negSucc 0)))),mt 0 13])
 (.cond k13 (.ops [ml 10,mt 0 12]) (.ops [ml 0,ml 12,ml 10,o1 (cf 185 [u2,u1,u0]),mt 0 12]))))))))
 (.ops [o1 (ad k6 (.c (iz 1))),mt 0 6])))))))
 (sq ([ml 14,m0,o3 (.move k0) 0 false,o3 (nc u0) 1 false,o3 (fa 3 u0) 2 false,o3 (ld u0) 3 false,o3 (.move k5) 4 false,o3 (ia 1 u1 u0) 5 false,o3 (ld u0) 6 false,o3 (.move k12) 7 false,o3 (nn u1 u0) 8 false,o1 (pk u9 (.c (.bool true)) u0),mt 0 14])
 (.ops [ml 0,o1 (nc u0),o1 (fa 3 u0),o1 (ld u0),ml 5,ml 12,o1 (ia 1 u2 u1),o1 (st 1 u0 u1)]))))))
 (.ops [o1 (ad k1 (.c (iz 1))),mt 0 1])))))))
 (sq ([ml 14,mt 0 15])
 .ret)))) [.val k15]
noncomputable def af158:AFunc:=.mk 3 (sq ([mc (.bool false) 4])
 (.seq (.block 0 (.loop (.seq (sq ([ml 2,o1 (nn u0 (.c (.int .i64 (.negSucc 0)))),m0,o3 (.move k2) 0 true,o3 (.move k1) 1 true,o3 (nn u1 u0) 2 true,o2 (pk u3 u0 (.c (.bool false))) 3])
 (.cond k3 .skip (.exit 0)))
 (.block 1 (.ops [ml 0,o1 (nc u0),o1 (fa 12 u0),o1 (ld u0),ml 2,o1 (ia 1 u1 u0),o1 (ld u0),mt 0 2])))))
 (sq ([ml 1,ml 2,o1 (en u1 u0),mt 0 4])
 .ret))) [.val k4]
noncomputable def af159:AFunc:=.mk 2 (sq ([mc (iz 0) 7])
 (.seq (sq ([ml 0,o2 (ll u0) 3,mc (iz 0) 2])
 (.block 0 (.loop (sq ([o2 (ls k2 k3) 4])
 (.seq (.cond k4 .skip (.exit 0))
 (.seq (.block 1 (sq ([ml 2,mt 0 5])
 (sq ([ml 1,ml 0,ml 5,o1 (ia 1 u1 u0),o1 (ld u0),o2 (en u4 u0) 6])
 (.cond k6 (sq ([ml 5,mt 0 7])
 .ret) .skip))))
 (.ops [o1 (ad k2 (.c (iz 1))),mt 0 2])))))))
 (sq ([mc (.int .i64 (.negSucc 0)) 7])
 .ret))) [.val k7]
noncomputable def af160:AFunc:=.mk 2 (sq ([o2 (.box k0) 2,mc (.bool false) 7])
 (.seq (.block 0 (sq ([o1 (fa 0 k2),o1 (ld u0),o1 (en u0 (.c (iz 11))),m0,o3 (fa 0 k2) 0 false,o3 (ld u0) 1 false,o3 (en u0 (.c (iz 12))) 2 false,o1 (pk u3 (.c (.bool true)) u0),mt 0 3])
 (.cond k3 (sq ([o1 (fa 1 k2),o1 (ld u0),o1 (en u0 (.c (.str 4 1819242338))),m0,o3 (.move k1) 0 true,o3 (ia 1 u0 (.c (iz 0))) 1 true,o3 (ld u0) 2 true,o3 (.move k1) 3 true,o3 (ia 1 u0 (.c (iz 1))) 4 true,o3 (ld u0) 5 true,o3 (en u3 u0) 6 true,o1 (pk u7 u0 (.c (.bool false))),mt 0 7])
 .ret) (sq ([o1 (fa 0 k2),o1 (ld u0),o1 (ge u0 (.c (iz 13))),m0,o3 (fa 0 k2) 0 true,o3 (ld u0) 1 true,o3 (le u0 (.c (iz 16))) 2 true,o1 (pk u3 u0 (.c (.bool false))),mt 0 4])
 (.cond k4 (sq ([o1 (lN 5 k2),ml 1,o1 (.bslice [(.str 0 0),(.str 0 0)] 2 [(.mk 0 1 (.c (.str 3 7630441))),(.mk 1 1 (.c (.str 3 7630441)))]),o1 (cf 162 [u2,(.c (.str 4 1819242338)),u1,u0]),mt 0 7])
 .ret) (sq ([o1 (fa 0 k2),o1 (ld u0),o1 (en u0 (.c (iz 18))),mt 0 5])
 (.cond k5 (sq ([o1 (lN 5 k2),ml 1,o1 (.bslice [(.str 0 0)] 1 [(.mk 0 1 (.c (.str 4 1819242338)))]),o1 (cf 162 [u2,(.c (.str 4 1819242338)),u1,u0]),mt 0 7])
 .ret) (sq ([o1 (fa 0 k2),o1 (ld u0),o1 (en u0 (.c (iz 17))),mt 0 6])
 (.cond k6 (sq ([o1 (lN 5 k2),ml 1,o1 (.bslice [(.str 0 0)] 1 [(.mk 0 1 (.c (.str 3 7630441)))]),o1 (cf 162 [u2,(.c (.str 3 7630441)),u1,u0]),mt 0 7])
 .ret) .skip)))))))))
 (sq ([o1 (lN 5 k2),ml 1,o1 (.bslice [(.str 0 0),(.str 0 0)] 2 [(.mk 0 1 (.c (.str 3 7630441))),(.mk 1 1 (.c (.str 3 7630441)))]),o1 (cf 162 [u2,(.c (.str 3 7630441)),u1,u0]),mt 0 7])
 .ret))) [.val k7]
noncomputable def af161:AFunc:=.mk 3 (sq ([mc (.str 0 0) 8])
 (sq ([ml 1,o1 (cf 186 [u0]),m0,ox 0,ox 1,mt 1 3,mt 1 4])
 (sq ([ml 0,o1 (nc u0),o1 (fa 0 u0),o1 (fa 0 u0),o1 (ld u0),ml 3,o1 (cf 108 [u1,u0]),m0,ox 0,ox 1,mt 1 6,mt 1 5])
 (.seq (sq ([ml 4,o1 (.not u0),m0,o3 (.move k5) 0 false,o3 (.not u0) 1 false,o1 (pk u2 (.c (.bool true)) u0),m0,o3 (.move k2) 0 false,o3 (ls u0 (.c (iz 0))) 1 false,o1 (pk u2 (.c (.bool true)) u0),m0,o3 (.move k2) 0 false,o3 (.move k0) 1 false,o3 (nc u0) 2 false,o3 (fa 0 u0) 3 false,o3 (fa 0 u0) 4 false,o3 (ld u0) 5 false,o3 (.move k6) 6 false,o3 (ia 2 u1 u0) 7 false,o3 (fa 1 u0) 8 false,o3 (ld u0) 9 false,o3 (ll u0) 10 false,o3 (ge u10 u0) 11 false,o2 (pk u12 (.c (.bool true)) u0) 7])
 (.cond k7 (sq ([mc (.str 0 0) 8])
 .ret) .skip))
 (sq ([ml 0,o1 (nc u0),o1 (fa 0 u0),o1 (fa 0 u0),o1 (ld u0),ml 6,o1 (ia 2 u1 u0),o1 (fa 1 u0),o1 (ld u0),ml 2,o1 (ia 2 u1 u0),o1 (fa 1 u0),o1 (ld u0),mt 0 8])
 .ret))))) [.val k8]
noncomputable def af162:AFunc:=.mk 4 (sq ([o2 (.box k0) 4,mc (.bool false) 5])
 (sq ([o1 (fa 1 k4),o1 (ld u0),ml 1,o1 (en u1 u0),m0,o3 (.move k2) 0 true,o3 (.move k3) 1 true,o3 (cf 187 [u1,u0]) 2 true,o1 (pk u3 u0 (.c (.bool false))),mt 0 5])
 .ret)) [.val k5]
noncomputable def af163:AFunc:=.mk 2 (sq ([mc (.str 0 0) 3])
 (.seq (sq ([ml 1,o1 (ls u0 (.c (iz 0))),m0,o3 (.move k1) 0 false,o3 (.move k0) 1 false,o3 (ll u0) 2 false,o3 (ge u2 u0) 3 false,o2 (pk u4 (.c (.bool true)) u0) 2])
 (.cond k2 (sq ([mc (.str 0 0) 3])
 .ret) .skip))
 (sq ([ml 0,ml 1,o1 (ia 1 u1 u0),o1 (ld u0),mt 0 3])
 .ret))) [.val k3]
noncomputable def af164:AFunc:=.mk 2 (sq ([mc (.str 0 0) 3])
 (.seq (sq ([ml 1,o1 (ls u0 (.c (iz 0))),m0,o3 (.move k1) 0 false,o3 (.move k0) 1 false,o3 (nc u0) 2 false,o3 (fa 0 u0) 3 false,o3 (fa 1 u0) 4 false,o3 (ld u0) 5 false,o3 (ll u0) 6 false,o3 (ge u6 u0) 7 false,o2 (pk u8 (.c (.bool true)) u0) 2])
 (.cond k2 (sq ([mc (.str 0 0) 3])
 .ret) .skip))
 (sq ([ml 0,o1 (nc u0),o1 (fa 0 u0),o1 (fa 1 u0),o1 (ld u0),ml 1,o1 (ia 2 u1 u0),o1 (fa 1 u0),o1 (ld u0),mt 0 3])
 .ret))) [.val k3]
noncomputable def af165:AFunc:=.mk 3 (sq ([o2 (.box k1) 3,mc (.bool false) 6])
 (.seq (sq ([o1 (fa 3 k3),o1 (ld u0),o1 (ls u0 (.c (iz 0))),m0,o3 (fa 3 k3) 0 false,o3 (ld u0) 1 false,o3 (.move k0) 2 false,o3 (nc u0) 3 false,o3 (fa 0 u0) 4 false,o3 (fa 2 u0) 5 false,o3 (ld u0) 6 false,o3 (ll u0) 7 false,o3 (ge u6 u0) 8 false,o2 (pk u9 (.c (.bool true)) u0) 4])
 (.cond k4 (sq ([mc (.bool false) 6])
 .ret) .skip))
 (sq ([ml 0,o1 (nc u0),o1 (fa 0 u0),o1 (fa 2 u0),o1 (ld u0),o1 (fa 3 k3),o1 (ld u0),o1 (ia 6 u2 u0),o1 (lN 6 u0),o2 (.alloc [(.str 0 0),.nils,(.str 0 0),.nils,.nils,.nils]) 5,o1 (st 6 u0 u1)])
 (sq ([o1 (lN 5 k3),o1 (fa 2 k5),o1 (ld u0),ml 2,o1 (fa 1 k5),o1 (ld u0),o1 (cf 162 [u5,u3,u2,u0]),mt 0 6])
 .ret)))) [.val k6]
noncomputable def af166:AFunc:=.mk 2 (sq ([o2 (.box k1) 2,mc (.bool false) 11])
 (.seq (sq ([o1 (fa 0 k2),o2 (ld u0) 3])
 (.block 0 (sq ([o1 (en k3 (.c (iz 20))),mt 0 4])
 (.cond k4 (sq ([o1 (fa 1 k2),o1 (ld u0),o1 (nn u0 (.c (.str 0 0))),m0,o3 (fa 1 k2) 0 true,o3 (ld u0) 1 true,o3 (.move k0) 2 true,o3 (nc u0) 3 true,o3 (fa 3 u0) 4 true,o3 (fa 1 u0) 5 true,o3 (ld u0) 6 true,o3 (fa 3 k2) 7 true,o3 (ld u0) 8 true,.mk (cf 163 [u2,u0]) (some (u9,true)) none [.mk (ld u8) 7 (some (u9,true))],o3 (en u8 u0) 10 true,o1 (pk u11 u0 (.c (.bool false))),mt 0 11])
 .ret) (.seq (sq ([o1 (en k3 (.c (iz 21))),mt 0 5])
 (.cond k5 .skip (.ops [o1 (en k3 (.c (iz 33))),mt 0 5])))
 (.cond k5 (sq ([o1 (fa 1 k2),o1 (ld u0),o1 (en u0 (.c (.str 3 7630441))),mt 0 11])
 .ret) (sq ([o1 (en k3 (.c (iz 22))),mt 0 6])
 (.cond k6 (sq ([o1 (fa 1 k2),o1 (ld u0),o1 (en u0 (.c (.str 4 1819242338))),m0,o3 (fa 3 k2) 0 true,o3 (ld u0) 1 true,o3 (.bin .and u0 (.c (iz 1))) 2 true,o3 (fa 3 k2) 3 true,o3 (ld u0) 4 true,o3 (en u2 u0) 5 true,o1 (pk u6 u0 (.c (.bool false))),mt 0 11])
 .ret) (sq ([o1 (en k3 (.c (iz 23))),mt 0 7])
 (.cond k7 (sq ([o1 (fa 1 k2),o1 (ld u0),o1 (cf 186 [u0]),m0,ox 0,ox 1,o1 (.move u1),mt 1 8])
 (sq ([ml 8,m0,o3 (.move k0) 0 true,o3 (nc u0) 1 true,o3 (fa 0 u0) 2 true,o3 (fa 0 u0) 3 true,o3 (ld u0) 4 true,o3 (fa 1 k2) 5 true,o3 (ld u0) 6 true,o3 (cf 66 [u2,u0]) 7 true,o1 (pk u8 u0 (.c (.bool false))),mt 0 11])
 .ret)) (sq ([o1 (en k3 (.c (iz 24))),mt 0 9])
 (.cond k9 (sq ([o1 (fa 1 k2),o1 (ld u0),o1 (fa 4 k2),o1 (ld u0),.mk (cf 188 [u0]) none none [.mk (ld u3) 2 none],o1 (en u3 u0),m0,o3 (.move k0) 0 true,o3 (nc u0) 1 true,o3 (fa 0 u0) 2 true,o3 (fa 0 u0) 3 true,o3 (ld u0) 4 true,o3 (fa 1 k2) 5 true,o3 (ld u0) 6 true,o3 (cf 66 [u2,u0]) 7 true,o1 (pk u8 u0 (.c (.bool false))),m0,o3 (fa 3 k2) 0 true,o3 (ld u0) 1 true,o3 (.bin .and u0 (.c (iz 1))) 2 true,o3 (fa 3 k2) 3 true,o3 (ld u0) 4 true,o3 (en u2 u0) 5 true,o1 (pk u6 u0 (.c (.bool false))),mt 0 11])
 .ret) (sq ([o1 (en k3 (.c (iz 27))),mt 0 10])
 (.cond k10 (sq ([o1 (fa 1 k2),o1 (ld u0),o1 (nn u0 (.c (.str 0 0))),m0,o3 (fa 1 k2) 0 true,o3 (ld u0) 1 true,o3 (.move k0) 2 true,o3 (nc u0) 3 true,o3 (fa 3 u0) 4 true,o3 (fa 3 u0) 5 true,o3 (ld u0) 6 true,o3 (fa 3 k2) 7 true,o3 (ld u0) 8 true,.mk (cf 163 [u2,u0]) (some (u9,true)) none [.mk (ld u8) 7 (some (u9,true))],o3 (en u8 u0) 10 true,o1 (pk u11 u0 (.c (.bool false))),mt 0 11])
 .ret) .skip))))))))))))))
 (sq ([o1 (fa 1 k2),o1 (ld u0),o1 (nn u0 (.c (.str 0 0))),m0,o3 (fa 1 k2) 0 true,o3 (ld u0) 1 true,o3 (.move k0) 2 true,o3 (fa 3 k2) 3 true,o3 (ld u0) 4 true,.mk (cf 164 [u2,u0]) (some (u5,true)) none [.mk (ld u4) 3 (some (u5,true))],o3 (en u4 u0) 6 true,o1 (pk u7 u0 (.c (.bool false))),mt 0 11])
 .ret))) [.val k11]
noncomputable def af167:AFunc:=.mk 2 (sq ([mc (iz 0) 7])
 (.seq (sq ([ml 0,o2 (ll u0) 3,mc (iz 0) 2])
 (.block 0 (.loop (sq ([o2 (ls k2 k3) 4])
 (.seq (.cond k4 .skip (.exit 0))
 (.seq (.block 1 (sq ([ml 2,mt 0 5])
 (sq ([ml 1,ml 0,ml 5,o1 (ia 1 u1 u0),o1 (ld u0),o2 (.callV u4 [u0]) 6])
 (.cond k6 (sq ([ml 5,mt 0 7])
 .ret) .skip))))
 (.ops [o1 (ad k2 (.c (iz 1))),mt 0 2])))))))
 (sq ([mc (.int .i64 (.negSucc 0)) 7])
 .ret))) [.val k7]
noncomputable def af170:AFunc:=.mk 1 (sq ([mc (.bool false) 2])
 (sq ([ml 0,o1 (cf 186 [u0]),m0,ox 0,ox 1,o1 (.move u1),mt 1 1])
 (sq ([ml 1,mt 0 2])
 .ret))) [.val k2]
noncomputable def af171:AFunc:=.mk 1 (sq ([ml 0,o1 (ll u0),mt 0 1])
 (.ops [ml 0,ml 1,ml 1,o1 (.convI .u64 u0),o1 (cf 190 [u0]),o1 (cf 189 [u4,(.c (iz 0)),u3,u0])])) []
noncomputable def af172:AFunc:=.mk 1 (sq ([mc (.bool false) 1])
 (sq ([ml 0,o1 (en u0 (.c (iz 0))),mt 0 1])
 .ret)) [.val k1]
noncomputable def af173:AFunc:=.mk 4 (sq ([ml 0,o1 (nc u0),o1 (fa 0 u0),o1 (fa 2 u0),o1 (ld u0),ml 1,o1 (nc u0),o1 (fa 0 u0),o1 (ld u0),o1 (ia 6 u4 u0),o1 (lN 6 u0),o2 (.alloc [(.str 0 0),.nils,(.str 0 0),.nils,.nils,.nils]) 4,o1 (st 6 u0 u1)])
 (sq ([ml 0,o1 (nc u0),o1 (fa 3 u0),o1 (ld u0),ml 1,o1 (nc u0),o1 (fa 0 u0),o1 (ld u0),o1 (ia 1 u4 u0),o1 (ld u0),ml 2,o1 (ia 1 u1 u0),o1 (ld u0),ml 3,o1 (cf 191 [u1,u0]),mt 0 11])
 (sq ([.mk .mkMap none none [],mt 0 13])
 (.seq (sq ([o1 (fa 5 k4),o1 (ld u0),ml 2,o1 (ia 5 u1 u0),o1 (fa 0 u0),o2 (ld u0) 8,o2 (ll u0) 6,mc (iz 0) 5])
 (.block 0 (.loop (sq ([o2 (ls k5 k6) 7])
 (.seq (.cond k7 .skip (.exit 0))
 (.seq (.block 1 (sq ([o1 (ia 1 k8 k5),o1 (ld u0),mt 0 9])
 (sq ([o1 (fa 4 k4),o1 (ld u0),ml 9,o1 (ia 5 u1 u0),o1 (lN 5 u0),o2 (.alloc [(iz 0),(.str 0 0),.nils,(iz 0),(.str 0 0)]) 10,o1 (st 5 u0 u1)])
 (sq ([o1 (fa 0 k10),o1 (ld u0),o1 (en u0 (.c (iz 34))),m0,o3 (.move k11) 0 true,o3 (ge u0 (.c (iz 0))) 1 true,o2 (pk u2 u0 (.c (.bool false))) 12])
 (.cond k12 (.ops [ml 13,ml 9,ml 1,o1 (nc u0),o1 (fa 3 u0),o1 (ld u0),o1 (fa 2 k10),o1 (ld u0),ml 11,o1 (ia 1 u1 u0),o1 (ld u0),o1 (ia 1 u5 u0),o1 (ld u0),o1 (.mapUpd (.one .int) u12 u11 u0)]) .skip)))))
 (.ops [o1 (ad k5 (.c (iz 1))),mt 0 5])))))))
 (sq ([ml 13,o2 (.range u0) 14])
 (.block 2 (.loop (sq ([o1 (.next k14),o2 (xt 0 u0) 15])
 (.seq (.cond k15 .skip (.exit 2))
 (.block 3 (sq ([o1 (.entry k14),ox 0,ox 1,mt 1 16,mt 1 17])
 (.ops [ml 1,o1 (nc u0),o1 (fa 3 u0),o1 (ld u0),ml 16,ml 1,o1 (nc u0),o1 (fa 4 u0),o1 (ld u0),ml 16,ml 17,o1 (ia 1 u7 u6),o1 (st 1 u0 u1),o1 (ia 1 u4 u3),o1 (st 1 u0 (.c (.bool true)))])))))))))))) []
noncomputable def af174:AFunc:=.mk 1 (.seq (sq ([ml 0,o1 (nc u0),o1 (fa 7 u0),o1 (ld u0),o2 (en u0 (.c (iz 0))) 1])
 (.cond k1 (.ops [o1 (.build [(iz 0),(iz 0)] [(.mk 0 1 (.c (iz 3))),(.mk 1 1 (.c (iz 0)))]),o1 (.mkIfc 146 u0),o1 (.panic u0)]) .skip))
 (sq ([ml 0,o1 (nc u0),o1 (fa 7 u0),o1 (ld u0),o1 (sb u0 (.c (iz 1))),o1 (nc u4),o1 (fa 7 u0),o1 (st 1 u0 u2)])
 (.ops [ml 0,o1 (nc u0),o1 (fa 8 u0),o1 (fa 3 u0),o1 (ld u0),o1 (ad u0 (.c (iz 1))),o1 (nc u5),o1 (fa 8 u0),o1 (fa 3 u0),o1 (st 1 u0 u3)]))) []
noncomputable def af175:AFunc:=.mk 3 (sq ([mc (iz 0) 12])
 (sq ([ml 0,o1 (nc u0),o1 (fa 0 u0),o1 (fa 2 u0),o1 (ld u0),ml 1,o1 (nc u0),o1 (fa 0 u0),o1 (ld u0),o1 (ia 6 u4 u0),o1 (fa 4 u0),o1 (ld u0),ml 2,o1 (ia 5 u1 u0),o1 (lN 5 u0),o2 (.alloc [(iz 0),(.str 0 0),.nils,(iz 0),(.str 0 0)]) 3,o1 (st 5 u0 u1)])
 (sq ([ml 1,o1 (lN 5 k3),o1 (cf 192 [u1,u0]),mt 0 5])
 (.seq (.block 0 (sq ([o1 (fa 0 k3),o1 (ld u0),o1 (le u0 (.c (iz 18))),mt 0 4])
 (.cond k4 (sq ([o1 (fa 0 k3),o1 (ld u0),ml 5,o1 (cf 193 [u1,u0]),mt 0 12])
 .ret) (sq ([o1 (fa 0 k3),o1 (ld u0),o1 (en u0 (.c (iz 31))),mt 0 6])
 (.cond k6 (sq ([ml 0,ml 1,o1 (lN 5 k3),ml 5,o1 (cf 194 [u3,u2,u1,u0]),mt 0 12])
 .ret) (sq ([o1 (fa 0 k3),o1 (ld u0),o1 (en u0 (.c (iz 32))),mt 0 7])
 (.cond k7 (sq ([ml 0,ml 0,o1 (nc u0),o1 (fa 8 u0),o1 (fa 0 u0),o1 (ld u0),ml 5,o1 (ia 1 u0 (.c (iz 0))),o1 (ld u0),o1 (.bslice [(iz 0)] 1 [(.mk 0 1 u0)]),o1 (ap 1 8 u4 u0),o1 (nc u10),o1 (fa 8 u0),o1 (fa 0 u0),o1 (st 1 u0 u3)])
 (sq ([mc (iz 0) 12])
 .ret)) (sq ([o1 (fa 0 k3),o1 (ld u0),o1 (en u0 (.c (iz 25))),mt 0 8])
 (.cond k8 (sq ([ml 0,o1 (nc u0),o1 (fa 5 u0),o1 (ld u0),ml 5,o1 (ia 1 u0 (.c (iz 0))),o1 (ld u0),o1 (fa 3 k3),o1 (ld u0),o1 (cf 195 [u5,u2,u0]),m0,ox 0,ox 1,mt 1 10,mt 1 9])
 (sq ([ml 9,o1 (cf 196 [u0])])
 (sq ([ml 10,mt 0 12])
 .ret))) (sq ([ml 5,o1 (ll u0),o1 (gt u0 (.c (iz 0))),mt 0 11])
 (.cond k11 (sq ([ml 0,ml 1,o1 (lN 5 k3),ml 5,o1 (cf 197 [u3,u2,u1,u0])])
 (sq ([mc (iz 0) 12])
 .ret)) .skip)))))))))))
 (sq ([ml 0,ml 1,ml 2,o1 (cf 198 [u2,u1,u0]),mt 0 12])
 .ret))))) [.val k12]
noncomputable def af176:AFunc:=.mk 2 (sq ([mc (.str 0 0) 2])
 (sq ([o1 (fa 1 k1),o1 (ld u0),ml 0,o1 (ia 1 u1 u0),o1 (ld u0),mt 0 2])
 .ret)) [.val k2]
noncomputable def af177:AFunc:=.mk 2 (sq ([mc (iz 0) 3])
 (.seq (sq ([ml 0,ml 1,o1 (cf 199 [u1,u0]),o2 (.not u0) 2])
 (.cond k2 (sq ([mc (iz 13) 3])
 .ret) .skip))
 (sq ([ml 0,o1 (nc u0),o1 (fa 2 u0),o1 (ld u0),ml 1,o1 (sb u0 (.c (iz 1))),o1 (ia 1 u2 u0),o1 (st 1 u0 (.c (.bool false)))])
 (sq ([mc (iz 0) 3])
 .ret)))) [.val k3]
noncomputable def af178:AFunc:=.mk 2 (sq ([mc (.bool false) 2])
 (sq ([ml 0,ml 1,o1 (cf 200 [u1,u0]),o1 (ge u0 (.c (iz 0))),mt 0 2])
 .ret)) [.val k2]
noncomputable def af179:AFunc:=.mk 2 (sq ([o2 (.box k0) 2,mc (.bool false) 3])
 (sq ([o1 (fa 0 k2),o1 (ld u0),o1 (fa 0 k1),o1 (ld u0),o1 (en u2 u0),mt 0 3])
 .ret)) [.val k3]
noncomputable def af180:AFunc:=.mk 2 (sq ([mc (.bool false) 2])
 (sq ([ml 0,o1 (lt u0),ml 1,o1 (lt u0),o1 (ge u2 u0),m0,o3 (.move k0) 0 true,o3 (.move k1) 1 true,o3 (lt u0) 2 true,o3 (.sliceS u2 none (some u0)) 3 true,o3 (.move k1) 4 true,o3 (en u1 u0) 5 true,o1 (pk u6 u0 (.c (.bool false))),mt 0 2])
 .ret)) [.val k2]
noncomputable def af181:AFunc:=.mk 2 (sq ([mc (.int .u32 (.ofNat 0)) 3,mc (.int .u32 (.ofNat 0)) 4])
 (sq ([ml 0,o1 (.convI .u64 u0),ml 1,o1 (.convI .u64 u0),o1 (.bin .mul u2 u0),mt 0 2])
 (sq ([ml 2,o1 (.bin .shr u0 (.c (.int .u64 (.ofNat 32)))),o1 (.convI .u32 u0),ml 2,o1 (.convI .u32 u0),mt 2 3,mt 1 4])
 .ret))) [.val k3,.val k4]
noncomputable def af182:AFunc:=.mk 2 (sq ([mc (.int .u64 (.ofNat 0)) 10,mc (.int .u64 (.ofNat 0)) 11])
 (sq ([ml 0,o1 (.bin .and u0 (.c (.int .u64 (.ofNat 4294967295)))),mt 0 2])
 (sq ([ml 0,o1 (.bin .shr u0 (.c (.int .u64 (.ofNat 32)))),mt 0 4])
 (sq ([ml 1,o1 (.bin .and u0 (.c (.int .u64 (.ofNat 4294967295)))),mt 0 3])
 (sq ([ml 1,o1 (.bin .shr u0 (.c (.int .u64 (.ofNat 32)))),mt 0 8])
 (sq ([ml 2,ml 3,o1 (.bin .mul u1 u0),mt 0 5])
 (sq ([ml 4,ml 3,o1 (.bin .mul u1 u0),ml 5,o1 (.bin .shr u0 (.c (.int .u64 (.ofNat 32)))),o1 (ad u2 u0),mt 0 6])
 (sq ([ml 6,o1 (.bin .and u0 (.c (.int .u64 (.ofNat 4294967295)))),mt 0 7])
 (sq ([ml 6,o1 (.bin .shr u0 (.c (.int .u64 (.ofNat 32)))),mt 0 9])
 (sq ([ml 7,ml 2,ml 8,o1 (.bin .mul u1 u0),o1 (ad u3 u0),mt 0 7])
 (sq ([ml 4,ml 8,o1 (.bin .mul u1 u0),ml 9,o1 (ad u1 u0),ml 7,o1 (.bin .shr u0 (.c (.int .u64 (.ofNat 32)))),o1 (ad u2 u0),mt 0 10])
 (sq ([ml 0,ml 1,o1 (.bin .mul u1 u0),mt 0 11])
 .ret)))))))))))) [.val k10,.val k11]
noncomputable def af183:AFunc:=.mk 2 (sq ([ml 0,o1 (nc u0),o1 (fa 6 u0),o1 (ld u0),ml 1,o1 (ia 1 u1 u0),o1 (st 1 u0 (.c (.bool true)))])
 (.seq (sq ([ml 0,o1 (nc u0),o1 (fa 0 u0),o1 (lN 6 u0),ml 1,o2 (cf 76 [u1,u0]) 5,o2 (ll u0) 3,mc (iz 0) 2])
 (.block 0 (.loop (sq ([o2 (ls k2 k3) 4])
 (.seq (.cond k4 .skip (.exit 0))
 (.seq (.block 1 (sq ([o1 (ia 1 k5 k2),o1 (ld u0),mt 0 6])
 (sq ([ml 0,o1 (nc u0),o1 (fa 6 u0),o1 (ld u0),ml 6,o1 (ia 1 u1 u0),o1 (ld u0),o2 (.not u0) 7])
 (.cond k7 (.ops [ml 0,ml 6,o1 (cf 183 [u1,u0])]) .skip))))
 (.ops [o1 (ad k2 (.c (iz 1))),mt 0 2])))))))
 (.ops [ml 0,ml 0,o1 (nc u0),o1 (fa 7 u0),o1 (ld u0),ml 1,o1 (.bslice [(iz 0)] 1 [(.mk 0 1 u0)]),o1 (ap 1 8 u2 u0),o1 (nc u7),o1 (fa 7 u0),o1 (st 1 u0 u2)]))) []
noncomputable def af184:AFunc:=.mk 1 (sq ([ml 0,o1 (ll u0),o1 (sb u0 (.c (iz 1))),mc (iz 0) 1,mt 1 2])
 (.block 0 (.loop (.seq (sq ([ml 1,ml 2,o2 (ls u1 u0) 3])
 (.cond k3 .skip (.exit 0)))
 (.seq (.block 1 (.ops [ml 0,ml 1,ml 0,ml 2,ml 0,ml 2,o1 (ia 1 u1 u0),o1 (ld u0),ml 0,ml 1,o1 (ia 1 u1 u0),o1 (ld u0),o1 (ia 1 u11 u10),o1 (st 1 u0 u5),o1 (ia 1 u11 u10),o1 (st 1 u0 u3)]))
 (.ops [ml 1,o1 (ad u0 (.c (iz 1))),ml 2,o1 (sb u0 (.c (iz 1))),mt 2 1,mt 1 2])))))) []
noncomputable def af185:AFunc:=.mk 3 (sq ([mc (iz 0) 6])
 (.seq (.block 0 (.loop (.seq (sq ([ml 1,ml 2,o2 (nn u1 u0) 3])
 (.cond k3 .skip (.exit 0)))
 (.block 1 (.seq (.block 2 (.loop (.seq (sq ([ml 0,o1 (nc u0),o1 (fa 1 u0),o1 (ld u0),ml 1,o1 (ia 1 u1 u0),o1 (ld u0),ml 0,o1 (nc u0),o1 (fa 1 u0),o1 (ld u0),ml 2,o1 (ia 1 u1 u0),o1 (ld u0),o2 (gt u7 u0) 4])
 (.cond k4 .skip (.exit 2)))
 (.block 3 (.ops [ml 0,o1 (nc u0),o1 (fa 3 u0),o1 (ld u0),ml 1,o1 (ia 1 u1 u0),o1 (ld u0),mt 0 1])))))
 (.block 4 (.loop (.seq (sq ([ml 0,o1 (nc u0),o1 (fa 1 u0),o1 (ld u0),ml 2,o1 (ia 1 u1 u0),o1 (ld u0),ml 0,o1 (nc u0),o1 (fa 1 u0),o1 (ld u0),ml 1,o1 (ia 1 u1 u0),o1 (ld u0),o2 (gt u7 u0) 5])
 (.cond k5 .skip (.exit 4)))
 (.block 5 (.ops [ml 0,o1 (nc u0),o1 (fa 3 u0),o1 (ld u0),ml 2,o1 (ia 1 u1 u0),o1 (ld u0),mt 0 2]))))))))))
 (sq ([ml 1,mt 0 6])
 .ret))) [.val k6]
noncomputable def af186:AFunc:=.mk 1 (sq ([mc (.str 0 0) 4,mc (.bool false) 5])
 (sq ([ml 0,o1 (cf 107 [u0,(.c (.str 1 42))]),m0,ox 0,ox 1,mt 1 2,mt 1 1])
 (.seq (sq ([ml 1,o1 (.not u0),m0,o3 (.move k2) 0 false,o3 (cf 65 [u0]) 1 false,o3 (.not u0) 2 false,o2 (pk u3 (.c (.bool true)) u0) 3])
 (.cond k3 (sq ([mc (.str 0 0) 4,mc (.bool false) 5])
 .ret) .skip))
 (sq ([ml 2,mt 0 4,mc (.bool true) 5])
 .ret)))) [.val k4,.val k5]
noncomputable def af187:AFunc:=.mk 2 (sq ([mc (.bool false) 8])
 (.seq (sq ([ml 0,o1 (ll u0),ml 1,o1 (ll u0),o2 (nn u2 u0) 2])
 (.cond k2 (sq ([mc (.bool false) 8])
 .ret) .skip))
 (.seq (sq ([ml 0,o2 (ll u0) 4,mc (iz 0) 3])
 (.block 0 (.loop (sq ([o2 (ls k3 k4) 5])
 (.seq (.cond k5 .skip (.exit 0))
 (.seq (.block 1 (sq ([ml 3,mt 0 6])
 (sq ([ml 0,ml 6,o1 (ia 1 u1 u0),o1 (ld u0),ml 1,ml 6,o1 (ia 1 u1 u0),o1 (ld u0),o2 (nn u4 u0) 7])
 (.cond k7 (sq ([mc (.bool false) 8])
 .ret) .skip))))
 (.ops [o1 (ad k3 (.c (iz 1))),mt 0 3])))))))
 (sq ([mc (.bool true) 8])
 .ret)))) [.val k8]
noncomputable def af188:AFunc:=.mk 1 (sq ([mc (.str 0 0) 1])
 (sq ([ml 0,o1 (ad (.c (.str 1 42)) u0),mt 0 1])
 .ret)) [.val k1]
noncomputable def af189:AFunc:=.mk 4 (sq ([mc (.bool true) 7])
 (sq ([mc (.bool true) 12])
 (.block 0 (.loop (.block 1 (sq ([ml 2,ml 1,o1 (sb u1 u0),mt 0 4])
 (.seq (sq ([ml 4,o2 (le u0 (.c (iz 12))) 5])
 (.cond k5 (sq ([ml 0,ml 1,ml 2,o1 (cf 201 [u2,u1,u0])])
 .ret) .skip))
 (.seq (sq ([ml 3,o2 (en u0 (.c (iz 0))) 6])
 (.cond k6 (sq ([ml 0,ml 1,ml 2,o1 (cf 202 [u2,u1,u0])])
 .ret) .skip))
 (.seq (sq ([ml 7,o2 (.not u0) 8])
 (.cond k8 (sq ([ml 0,ml 1,ml 2,o1 (cf 203 [u2,u1,u0])])
 (.ops [ml 3,o1 (sb u0 (.c (iz 1))),mt 0 3])) .skip))
 (sq ([ml 0,ml 1,ml 2,o1 (cf 204 [u2,u1,u0]),m0,ox 0,ox 1,mt 1 11,mt 1 9])
 (.seq (sq ([ml 9,o2 (en u0 (.c (iz 2))) 10])
 (.cond k10 (sq ([ml 0,ml 1,ml 2,o1 (cf 205 [u2,u1,u0])])
 (sq ([ml 2,o1 (sb u0 (.c (iz 1))),ml 11,ml 1,o1 (sb u1 u0),o1 (sb u3 u0),mt 0 11])
 (.ops [mc (iz 1) 9]))) .skip))
 (.seq (sq ([ml 7,m0,o3 (.move k12) 0 true,o1 (pk u1 u0 (.c (.bool false))),m0,o3 (.move k9) 0 true,o3 (en u0 (.c (iz 1))) 1 true,o2 (pk u2 u0 (.c (.bool false))) 13])
 (.cond k13 (sq ([ml 0,ml 1,ml 2,o2 (cf 206 [u2,u1,u0]) 14])
 (.cond k14 .ret .skip)) .skip))
 (.seq (sq ([ml 1,o1 (gt u0 (.c (iz 0))),m0,o3 (.move k0) 0 true,o3 (.move k1) 1 true,o3 (sb u0 (.c (iz 1))) 2 true,o3 (ia 1 u2 u0) 3 true,o3 (ld u0) 4 true,o3 (.move k0) 5 true,o3 (.move k11) 6 true,o3 (ia 1 u1 u0) 7 true,o3 (ld u0) 8 true,o3 (cf 207 [u4,u0]) 9 true,o3 (.not u0) 10 true,o2 (pk u11 u0 (.c (.bool false))) 15])
 (.cond k15 (sq ([ml 0,ml 1,ml 2,ml 11,o1 (cf 208 [u3,u2,u1,u0]),mt 0 16])
 (sq ([ml 16,mt 0 1])
 (.exit 1))) .skip))
 (sq ([ml 0,ml 1,ml 2,ml 11,o1 (cf 209 [u3,u2,u1,u0]),m0,ox 0,ox 1,mt 1 18,mt 1 17])
 (sq ([ml 17,mt 0 12])
 (sq ([ml 18,ml 1,o1 (sb u1 u0),ml 2,ml 18,o1 (sb u1 u0),mt 3 19,mt 1 20])
 (sq ([ml 4,o1 (.bin .quo u0 (.c (iz 8))),mt 0 22])
 (sq ([ml 19,ml 20,o2 (ls u1 u0) 21])
 (.cond k21 (sq ([ml 19,ml 22,o1 (ge u1 u0),mt 0 7])
 (sq ([ml 0,ml 1,ml 18,ml 3,o1 (cf 189 [u3,u2,u1,u0])])
 (.ops [ml 18,o1 (ad u0 (.c (iz 1))),mt 0 1]))) (sq ([ml 20,ml 22,o1 (ge u1 u0),mt 0 7])
 (sq ([ml 0,ml 18,o1 (ad u0 (.c (iz 1))),ml 2,ml 3,o1 (cf 189 [u4,u2,u1,u0])])
 (.ops [ml 18,mt 0 2])))))))))))))))))))))) []
noncomputable def af190:AFunc:=.mk 1 (sq ([mc (iz 0) 1])
 (.seq (.cond (.c (.bool false)) (sq ([ml 0,o1 (.convI .u32 u0),o1 (cf 210 [u0]),mt 0 1])
 .ret) .skip)
 (sq ([ml 0,o1 (cf 211 [u0]),mt 0 1])
 .ret))) [.val k1]
noncomputable def af191:AFunc:=.mk 2 (sq ([mc (iz 0) 7])
 (.seq (sq ([ml 0,o2 (ll u0) 3,mc (iz 0) 2])
 (.block 0 (.loop (sq ([o2 (ls k2 k3) 4])
 (.seq (.cond k4 .skip (.exit 0))
 (.seq (.block 1 (sq ([ml 2,mt 0 5])
 (sq ([ml 1,ml 0,ml 5,o1 (ia 1 u1 u0),o1 (ld u0),o2 (en u4 u0) 6])
 (.cond k6 (sq ([ml 5,mt 0 7])
 .ret) .skip))))
 (.ops [o1 (ad k2 (.c (iz 1))),mt 0 2])))))))
 (sq ([mc (.int .i64 (.negSucc 0)) 7])
 .ret))) [.val k7]
noncomputable def af192:AFunc:=.mk 2 (sq ([o2 (.box k1) 2,mc .nils 9])
 (sq ([mc .nils 7])
 (.seq (sq ([o1 (fa 2 k2),o2 (ld u0) 6,o2 (ll u0) 4,mc (iz 0) 3])
 (.block 0 (.loop (sq ([o2 (ls k3 k4) 5])
 (.seq (.cond k5 .skip (.exit 0))
 (.seq (.block 1 (sq ([o1 (ia 1 k6 k3),o1 (ld u0),mt 0 8])
 (.ops [ml 7,ml 0,o1 (nc u0),o1 (fa 3 u0),o1 (ld u0),ml 8,o1 (ia 1 u1 u0),o1 (ld u0),o1 (.bslice [(iz 0)] 1 [(.mk 0 1 u0)]),o1 (ap 1 8 u8 u0),mt 0 7])))
 (.ops [o1 (ad k3 (.c (iz 1))),mt 0 3])))))))
 (sq ([ml 7,mt 0 9])
 .ret)))) [.val k9]
noncomputable def af193:AFunc:=.mk 2 (sq ([mc (iz 0) 4])
 (sq ([ml 0,ml 1,o1 (ia 1 u0 (.c (iz 0))),o1 (ld u0),ml 1,ml 1,o1 (ll u0),o1 (sb u0 (.c (iz 1))),o1 (ia 1 u3 u0),o1 (ld u0),o1 (cf 212 [u9,u6,u0]),m0,ox 0,ox 1,mt 1 3,mt 1 2])
 (sq ([ml 2,o1 (cf 196 [u0])])
 (sq ([ml 3,mt 0 4])
 .ret)))) [.val k4]
noncomputable def af194:AFunc:=.mk 4 (sq ([o2 (.box k0) 4,o2 (.box k2) 5,mc (iz 0) 7])
 (sq ([ml 3,o1 (.mkFn 213 [] [k4,k5]),o1 (cf 132 [u1,u0]),mt 0 6])
 (sq ([o1 (ld k4),ml 1,o1 (nc u0),o1 (fa 0 u0),o1 (ld u0),ml 1,o1 (nc u0),o1 (fa 1 u0),o1 (ld u0),ml 6,o1 (ld k4),o1 (nc u0),o1 (fa 13 u0),o1 (ld u0),o1 (cf 78 [u13,(.c (iz 1)),u9,u5,u4,u0])])
 (sq ([o1 (ld k4),o1 (fa 3 k5),o1 (ld u0),ml 3,o1 (cf 79 [u3,u1,u0]),mt 0 7])
 .ret)))) [.val k7]
noncomputable def af195:AFunc:=.mk 3 (sq ([mc (iz 0) 5,mc (iz 0) 6])
 (.seq (sq ([ml 0,ml 1,ml 2,o1 (cf 214 [u2,u1,u0]),mt 0 3])
 (sq ([ml 3,o2 (nn u0 (.c (iz 0))) 4])
 (.cond k4 (sq ([ml 3,mc (iz 0) 5,mt 1 6])
 .ret) .skip)))
 (sq ([ml 0,o1 (nc u0),o1 (fa 1 u0),o1 (ld u0),ml 1,o1 (sb u0 (.c (iz 1))),o1 (ia 3 u2 u0),o1 (fa 2 u0),o1 (ld u0),ml 2,o1 (ia 1 u1 u0),o1 (ld u0),mt 0 5,mc (iz 0) 6])
 .ret))) [.val k5,.val k6]
noncomputable def af196:AFunc:=.mk 1 (sq ([o2 (.move k0) 1])
 (.block 0 (sq ([o1 (en k1 (.c (iz 0))),mt 0 2])
 (.cond k2 .skip (sq ([o1 (en k1 (.c (iz 14))),mt 0 3])
 (.cond k3 (.ops [ml 0,o1 (.build [(iz 0),(iz 0)] [(.mk 0 1 (.c (iz 4))),(.mk 1 1 u0)]),o1 (.mkIfc 146 u0),o1 (.panic u0)]) (.ops [ml 0,o1 (.build [(iz 0),(iz 0)] [(.mk 0 1 (.c (iz 2))),(.mk 1 1 u0)]),o1 (.mkIfc 146 u0),o1 (.panic u0)]))))))) []
noncomputable def af197:AFunc:=.mk 4 (sq ([o2 (.box k2) 4])
 (sq ([ml 3,ml 3,o1 (ll u0),o1 (sb u0 (.c (iz 1))),o1 (ia 1 u3 u0),o1 (ld u0),mt 0 7])
 (.seq (sq ([o1 (fa 0 k4),o2 (ld u0) 5])
 (.block 0 (sq ([o1 (en k5 (.c (iz 28))),mt 0 6])
 (.cond k6 (sq ([ml 1,o1 (nc u0),o1 (fa 5 u0),o1 (ld u0),o1 (fa 3 k4),o1 (ld u0),ml 7,o1 (ia 1 u3 u1),o1 (st 1 u0 u1)])
 .ret) (sq ([o1 (en k5 (.c (iz 26))),mt 0 8])
 (.cond k8 (.ops [ml 0,o1 (nc u0),o1 (fa 5 u0),o1 (ld u0),ml 3,o1 (ia 1 u0 (.c (iz 0))),o1 (ld u0),o1 (fa 3 k4),o1 (ld u0),ml 7,o1 (cf 215 [u6,u3,u1,u0]),o1 (cf 196 [u0])]) (sq ([o1 (en k5 (.c (iz 30))),mt 0 9])
 (.cond k9 (.ops [ml 0,o1 (nc u0),o1 (fa 4 u0),o1 (ld u0),o1 (fa 3 k4),o1 (ld u0),ml 7,o1 (ia 1 u3 u1),o1 (st 1 u0 u1)]) .skip))))))))
 (sq ([ml 0,o1 (nc u0),o1 (fa 0 u0),o1 (fa 2 u0),o1 (ld u0),ml 1,o1 (nc u0),o1 (fa 0 u0),o1 (ld u0),o1 (ia 6 u4 u0),o1 (fa 4 u0),o1 (ld u0),o1 (fa 2 k4),o1 (ld u0),ml 3,o1 (ll u0),o1 (sb u0 (.c (iz 1))),o1 (ia 1 u3 u0),o1 (ld u0),o1 (ia 5 u7 u0),o1 (fa 1 u0),o1 (ld u0),o2 (cf 170 [u0]) 10])
 (.cond k10 (.ops [ml 0,ml 1,o1 (nc u0),o1 (fa 0 u0),o1 (ld u0),ml 1,o1 (nc u0),o1 (fa 1 u0),o1 (ld u0),ml 0,o1 (nc u0),o1 (fa 13 u0),o1 (ld u0),o1 (cf 78 [u12,(.c (iz 3)),u8,u4,(.c .nils),u0])]) .skip))))) []
noncomputable def af198:AFunc:=.mk 3 (sq ([mc (iz 0) 11])
 (sq ([ml 0,o1 (nc u0),o1 (fa 0 u0),o1 (fa 2 u0),o1 (ld u0),ml 1,o1 (nc u0),o1 (fa 0 u0),o1 (ld u0),o1 (ia 6 u4 u0),o1 (fa 4 u0),o1 (ld u0),ml 2,o1 (ia 5 u1 u0),o1 (lN 5 u0),o2 (.alloc [(iz 0),(.str 0 0),.nils,(iz 0),(.str 0 0)]) 3,o1 (st 5 u0 u1)])
 (.seq (sq ([o1 (fa 0 k3),o2 (ld u0) 4])
 (.block 0 (sq ([o1 (en k4 (.c (iz 20))),mt 0 5])
 (.cond k5 (sq ([ml 1,o1 (nc u0),o1 (fa 2 u0),o1 (ld u0),o1 (fa 3 k3),o1 (ld u0),o1 (ia 1 u2 u0),o1 (ld u0),mt 0 11])
 .ret) (.seq (sq ([o1 (en k4 (.c (iz 21))),mt 0 6])
 (.cond k6 .skip (.ops [o1 (en k4 (.c (iz 22))),mt 0 6])))
 (.cond k6 (sq ([o1 (fa 3 k3),o1 (ld u0),mt 0 11])
 .ret) (sq ([o1 (en k4 (.c (iz 24))),mt 0 7])
 (.cond k7 (sq ([ml 0,ml 1,ml 2,o1 (cf 216 [u2,u1,u0]),mt 0 11])
 .ret) (sq ([o1 (en k4 (.c (iz 27))),mt 0 8])
 (.cond k8 (sq ([ml 1,o1 (nc u0),o1 (fa 5 u0),o1 (ld u0),o1 (fa 3 k3),o1 (ld u0),o1 (ia 1 u2 u0),o1 (ld u0),mt 0 11])
 .ret) (sq ([o1 (en k4 (.c (iz 29))),mt 0 9])
 (.cond k9 (sq ([ml 0,o1 (nc u0),o1 (fa 4 u0),o1 (ld u0),o1 (fa 3 k3),o1 (ld u0),o1 (ia 1 u2 u0),o1 (ld u0),mt 0 11])
 .ret) (sq ([o1 (en k4 (.c (iz 33))),mt 0 10])
 (.cond k10 (sq ([ml 0,o1 (cf 217 [u0]),mt 0 11])
 .ret) .skip))))))))))))))
 (sq ([mc (iz 0) 11])
 .ret)))) [.val k11]
noncomputable def af199:AFunc:=.mk 2 (sq ([mc (.bool false) 2])
 (sq ([ml 0,o1 (.eq true .ptr u0 (.c .nilp)),m0,o3 (.move k1) 0 true,o3 (ge u0 (.c (iz 1))) 1 true,o1 (pk u2 u0 (.c (.bool false))),m0,o3 (.move k1) 0 true,o3 (.move k0) 1 true,o3 (nc u0) 2 true,o3 (fa 2 u0) 3 true,o3 (ld u0) 4 true,o3 (ll u0) 5 true,o3 (le u5 u0) 6 true,o1 (pk u7 u0 (.c (.bool false))),m0,o3 (.move k0) 0 true,o3 (nc u0) 1 true,o3 (fa 2 u0) 2 true,o3 (ld u0) 3 true,o3 (.move k1) 4 true,o3 (sb u0 (.c (iz 1))) 5 true,o3 (ia 1 u2 u0) 6 true,o3 (ld u0) 7 true,o1 (pk u8 u0 (.c (.bool false))),mt 0 2])
 .ret)) [.val k2]
noncomputable def af200:AFunc:=.mk 2 (sq ([mc (iz 0) 7])
 (.seq (sq ([ml 0,o2 (ll u0) 3,mc (iz 0) 2])
 (.block 0 (.loop (sq ([o2 (ls k2 k3) 4])
 (.seq (.cond k4 .skip (.exit 0))
 (.seq (.block 1 (sq ([ml 2,mt 0 5])
 (sq ([ml 1,ml 0,ml 5,o1 (ia 2 u1 u0),o1 (lN 2 u0),o2 (.callV u4 [u0]) 6])
 (.cond k6 (sq ([ml 5,mt 0 7])
 .ret) .skip))))
 (.ops [o1 (ad k2 (.c (iz 1))),mt 0 2])))))))
 (sq ([mc (.int .i64 (.negSucc 0)) 7])
 .ret))) [.val k7]
noncomputable def af201:AFunc:=.mk 3 (sq ([ml 1,o1 (ad u0 (.c (iz 1))),mt 0 3])
 (.block 0 (.loop (.seq (sq ([ml 3,ml 2,o2 (ls u1 u0) 4])
 (.cond k4 .skip (.exit 0)))
 (.seq (.block 1 (sq ([ml 3,mt 0 5])
 (.block 2 (.loop (.seq (sq ([ml 5,ml 1,o1 (gt u1 u0),m0,o3 (.move k0) 0 true,o3 (.move k5) 1 true,o3 (ia 1 u1 u0) 2 true,o3 (ld u0) 3 true,o3 (.move k0) 4 true,o3 (.move k5) 5 true,o3 (sb u0 (.c (iz 1))) 6 true,o3 (ia 1 u2 u0) 7 true,o3 (ld u0) 8 true,o3 (cf 207 [u5,u0]) 9 true,o2 (pk u10 u0 (.c (.bool false))) 6])
 (.cond k6 .skip (.exit 2)))
 (.seq (.block 3 (.ops [ml 0,ml 5,ml 0,ml 5,o1 (sb u0 (.c (iz 1))),ml 0,ml 5,o1 (sb u0 (.c (iz 1))),o1 (ia 1 u2 u0),o1 (ld u0),ml 0,ml 5,o1 (ia 1 u1 u0),o1 (ld u0),o1 (ia 1 u13 u12),o1 (st 1 u0 u5),o1 (ia 1 u13 u11),o1 (st 1 u0 u3)]))
 (.ops [ml 5,o1 (sb u0 (.c (iz 1))),mt 0 5])))))))
 (.ops [ml 3,o1 (ad u0 (.c (iz 1))),mt 0 3])))))) []
noncomputable def af207:AFunc:=.mk 2 (sq ([mc (.bool false) 2])
 (sq ([ml 0,o1 (cf 223 [u0]),m0,o3 (.move k1) 0 true,o3 (cf 223 [u0]) 1 true,o3 (.not u0) 2 true,o1 (pk u3 u0 (.c (.bool false))),m0,o3 (.move k0) 0 false,o3 (.move k1) 1 false,o3 (ls u1 u0) 2 false,o1 (pk u3 (.c (.bool true)) u0),mt 0 2])
 .ret)) [.val k2]
noncomputable def af210:AFunc:=.mk 1 (sq ([mc (iz 0) 3])
 (.seq (sq ([ml 0,o2 (ge u0 (.c (.int .u32 (.ofNat 65536)))) 1])
 (.cond k1 (sq ([ml 0,o1 (.bin .shr u0 (.c (.int .u64 (.ofNat 16)))),mt 0 0])
 (.ops [mc (iz 16) 3])) .skip))
 (.seq (sq ([ml 0,o2 (ge u0 (.c (.int .u32 (.ofNat 256)))) 2])
 (.cond k2 (sq ([ml 0,o1 (.bin .shr u0 (.c (.int .u64 (.ofNat 8)))),mt 0 0])
 (.ops [ml 3,o1 (ad u0 (.c (iz 8))),mt 0 3])) .skip))
 (sq ([ml 3,ml 0,o1 (.convI .u8 u0),o1 (.idxS (.c (.str 256 1013866857139168856493015739252390649739422828853819106890363778118420553376247557433637691341895324351018602695588957474325319502760499485336098898398377509666851054660423406800006203933793007272033180812049178612605246075062580585469430410618860250057463399279570354286669047577758927328864388992123306212451509403152394148136105363817402562688186708175358218852349079190158732807302672745370040257219644697201681238697346923541678507645485296520536209706771857694240900605172937619415410180424934769249448772944216470541052485265558808433676546390051204254346932932316488017972311616136051587427851453983453479168)) u0),o1 (.convI .i64 u0),o1 (ad u4 u0),mt 0 3])
 .ret)))) [.val k3]
noncomputable def af211:AFunc:=.mk 1 (sq ([mc (iz 0) 3])
 (.seq (sq ([ml 0,o2 (ge u0 (.c (.int .u64 (.ofNat 4294967296)))) 1])
 (.cond k1 (sq ([ml 0,o1 (.bin .shr u0 (.c (.int .u64 (.ofNat 32)))),mt 0 0])
 (.ops [mc (iz 32) 3])) .skip))
 (.seq (sq ([ml 0,o2 (ge u0 (.c (.int .u64 (.ofNat 65536)))) 2])
 (.cond k2 (sq ([ml 0,o1 (.bin .shr u0 (.c (.int .u64 (.ofNat 16)))),mt 0 0])
 (.ops [ml 3,o1 (ad u0 (.c (iz 16))),mt 0 3])) .skip))
 (.seq (sq ([ml 0,o2 (ge u0 (.c (.int .u64 (.ofNat 256)))) 4])
 (.cond k4 (sq ([ml 0,o1 (.bin .shr u0 (.c (.int .u64 (.ofNat 8)))),mt 0 0])
 (.ops [ml 3,o1 (ad u0 (.c (iz 8))),mt 0 3])) .skip))
 (sq ([ml 3,ml 0,o1 (.convI .u8 u0),o1 (.idxS (.c (.str 256 1013866857139168856493015739252390649739422828853819106890363778118420553376247557433637691341895324351018602695588957474325319502760499485336098898398377509666851054660423406800006203933793007272033180812049178612605246075062580585469430410618860250057463399279570354286669047577758927328864388992123306212451509403152394148136105363817402562688186708175358218852349079190158732807302672745370040257219644697201681238697346923541678507645485296520536209706771857694240900605172937619415410180424934769249448772944216470541052485265558808433676546390051204254346932932316488017972311616136051587427851453983453479168)) u0),o1 (.convI .i64 u0),o1 (ad u4 u0),mt 0 3])
 .ret))))) [.val k3]
noncomputable def af212:AFunc:=.mk 3 (sq ([mc (iz 0) 6,mc (iz 0) 7])
 (.seq (.block 0 (sq ([ml 0,o1 (cf 224 [u0]),o1 (.not u0),m0,o3 (.move k0) 0 true,o3 (cf 225 [u0]) 1 true,o3 (.not u0) 2 true,o1 (pk u3 u0 (.c (.bool false))),mt 0 3])
 (.cond k3 (sq ([mc (iz 0) 6,mc (iz 9) 7])
 .ret) (sq ([ml 0,o1 (en u0 (.c (iz 9))),m0,o3 (.move k0) 0 false,o3 (en u0 (.c (iz 10))) 1 false,o1 (pk u2 (.c (.bool true)) u0),mt 0 4])
 (.cond k4 (sq ([ml 0,ml 1,ml 2,o1 (cf 226 [u2,u1,u0]),ox 0,ox 1,mt 1 6,mt 1 7])
 .ret) (sq ([ml 0,o1 (en u0 (.c (iz 4))),m0,o3 (.move k0) 0 false,o3 (en u0 (.c (iz 5))) 1 false,o1 (pk u2 (.c (.bool true)) u0),mt 0 5])
 (.cond k5 (sq ([ml 0,ml 1,ml 2,o1 (cf 227 [u2,u1,u0]),ox 0,ox 1,mt 1 6,mt 1 7])
 .ret) .skip)))))))
 (sq ([ml 0,ml 1,ml 2,o1 (cf 228 [u2,u1,u0]),mt 0 6,mc (iz 0) 7])
 .ret))) [.val k6,.val k7]
noncomputable def af213:AFunc:=.mk 3 (sq ([mc (.str 0 0) 3])
 (sq ([o1 (ld k1),o1 (nc u0),o1 (fa 0 u0),o1 (fa 2 u0),o1 (ld u0),o1 (fa 3 k2),o1 (ld u0),o1 (ia 6 u2 u0),o1 (fa 1 u0),o1 (ld u0),ml 0,o1 (ia 1 u1 u0),o1 (ld u0),mt 0 3])
 .ret)) [.val k3]
noncomputable def af214:AFunc:=.mk 3 (sq ([mc (iz 0) 8])
 (.seq (.block 0 (sq ([ml 0,o1 (.eq false .ptr u0 (.c .nilp)),mt 0 3])
 (.cond k3 (sq ([mc (iz 13) 8])
 .ret) (sq ([ml 1,o1 (en u0 (.c (iz 0))),mt 0 4])
 (.cond k4 (sq ([mc (iz 10) 8])
 .ret) (sq ([ml 0,ml 1,o1 (cf 229 [u1,u0]),o1 (.not u0),mt 0 5])
 (.cond k5 (sq ([mc (iz 13) 8])
 .ret) (sq ([ml 0,ml 1,o1 (cf 230 [u1,u0]),mt 0 6])
 (.cond k6 (sq ([mc (iz 14) 8])
 .ret) (sq ([ml 2,o1 (ls u0 (.c (iz 0))),m0,o3 (.move k2) 0 false,o3 (.move k0) 1 false,o3 (nc u0) 2 false,o3 (fa 1 u0) 3 false,o3 (ld u0) 4 false,o3 (.move k1) 5 false,o3 (sb u0 (.c (iz 1))) 6 false,o3 (ia 3 u2 u0) 7 false,o3 (fa 2 u0) 8 false,o3 (ld u0) 9 false,o3 (ll u0) 10 false,o3 (ge u10 u0) 11 false,o1 (pk u12 (.c (.bool true)) u0),mt 0 7])
 (.cond k7 (sq ([mc (iz 2) 8])
 .ret) .skip)))))))))))
 (sq ([mc (iz 0) 8])
 .ret))) [.val k8]
noncomputable def af215:AFunc:=.mk 4 (sq ([mc (iz 0) 6])
 (.seq (sq ([ml 0,ml 1,ml 2,o1 (cf 214 [u2,u1,u0]),mt 0 4])
 (sq ([ml 4,o2 (nn u0 (.c (iz 0))) 5])
 (.cond k5 (sq ([ml 4,mt 0 6])
 .ret) .skip)))
 (sq ([ml 0,o1 (nc u0),o1 (fa 1 u0),o1 (ld u0),ml 1,o1 (sb u0 (.c (iz 1))),o1 (ia 3 u2 u0),o1 (fa 2 u0),o1 (ld u0),ml 2,ml 3,o1 (ia 1 u2 u1),o1 (st 1 u0 u1)])
 (sq ([mc (iz 0) 6])
 .ret)))) [.val k6]
noncomputable def af216:AFunc:=.mk 3 (sq ([mc (iz 0) 6])
 (sq ([ml 0,o1 (nc u0),o1 (fa 0 u0),o1 (fa 2 u0),o1 (ld u0),ml 1,o1 (nc u0),o1 (fa 0 u0),o1 (ld u0),o1 (ia 6 u4 u0),o1 (fa 4 u0),o1 (ld u0),ml 2,o1 (ia 5 u1 u0),o1 (lN 5 u0),o2 (.alloc [(iz 0),(.str 0 0),.nils,(iz 0),(.str 0 0)]) 3,o1 (st 5 u0 u1)])
 (sq ([ml 0,o1 (nc u0),o1 (fa 5 u0),o1 (ld u0),o1 (fa 4 k3),o1 (ld u0),ml 1,o1 (nc u0),o1 (fa 1 u0),o1 (ld u0),o1 (fa 3 k3),o1 (ld u0),o1 (.bin .mul u2 u0),o1 (cf 231 [u9,u7,u0]),m0,ox 0,ox 1,mt 1 5,mt 1 4])
 (sq ([ml 4,o1 (cf 196 [u0])])
 (sq ([ml 0,ml 0,o1 (nc u0),o1 (fa 14 u0),o1 (ld u0),ml 1,o1 (nc u0),o1 (fa 0 u0),o1 (ld u0),ml 2,o1 (.build [(iz 0),(iz 0)] [(.mk 0 1 u1),(.mk 1 1 u0)]),o1 (.bslice [(iz 0),(iz 0)] 1 [(.mk 0 2 u0)]),o1 (ap 2 16 u7 u0),o1 (nc u12),o1 (fa 14 u0),o1 (st 1 u0 u2)])
 (sq ([ml 5,mt 0 6])
 .ret)))))) [.val k6]
noncomputable def af217:AFunc:=.mk 1 (sq ([mc (iz 0) 3])
 (.seq (sq ([ml 0,o1 (nc u0),o1 (fa 6 u0),o1 (ld u0),o1 (ll u0),o2 (en u0 (.c (iz 0))) 1])
 (.cond k1 (sq ([mc (iz 0) 3])
 .ret) .skip))
 (sq ([ml 0,o1 (nc u0),o1 (fa 6 u0),o1 (ld u0),o1 (ia 1 u0 (.c (iz 0))),o1 (ld u0),mt 0 2])
 (sq ([ml 0,ml 0,o1 (nc u0),o1 (fa 6 u0),o1 (ld u0),o1 (.sliceV true 1 u0 (some (.c (iz 1))) none none),o1 (nc u5),o1 (fa 6 u0),o1 (st 1 u0 u2)])
 (sq ([ml 2,mt 0 3])
 .ret))))) [.val k3]
noncomputable def af223:AFunc:=.mk 1 (sq ([mc (.bool false) 1])
 (sq ([ml 0,ml 0,o1 (nn u1 u0),mt 0 1])
 .ret)) [.val k1]
noncomputable def af224:AFunc:=.mk 1 (sq ([mc (.bool false) 1])
 (sq ([ml 0,o1 (ge u0 (.c (iz 1))),m0,o3 (.move k0) 0 true,o3 (le u0 (.c (iz 16))) 1 true,o1 (pk u2 u0 (.c (.bool false))),mt 0 1])
 .ret)) [.val k1]
noncomputable def af225:AFunc:=.mk 1 (sq ([mc (.bool false) 1])
 (sq ([ml 0,o1 (en u0 (.c (iz 17))),m0,o3 (.move k0) 0 false,o3 (en u0 (.c (iz 18))) 1 false,o1 (pk u2 (.c (.bool true)) u0),mt 0 1])
 .ret)) [.val k1]
noncomputable def af226:AFunc:=.mk 3 (sq ([mc (iz 0) 6,mc (iz 0) 7])
 (.seq (.block 0 (sq ([ml 2,o1 (ls u0 (.c (iz 0))),mt 0 3])
 (.cond k3 (sq ([mc (iz 0) 6,mc (iz 12) 7])
 .ret) (sq ([ml 0,o1 (en u0 (.c (iz 10))),mt 0 4])
 (.cond k4 (sq ([ml 1,ml 2,o1 (.min u0 (.c (iz 63))),o1 (.convI .u64 u0),o1 (.bin .shr u3 u0),mt 0 6,mc (iz 0) 7])
 .ret) (sq ([ml 2,o1 (ge u0 (.c (iz 64))),mt 0 5])
 (.cond k5 (sq ([mc (iz 0) 6,mc (iz 0) 7])
 .ret) .skip)))))))
 (sq ([ml 1,ml 2,o1 (.convI .u64 u0),o1 (.bin .shl u2 u0),mt 0 6,mc (iz 0) 7])
 .ret))) [.val k6,.val k7]
noncomputable def af227:AFunc:=.mk 3 (sq ([mc (iz 0) 5,mc (iz 0) 6])
 (.seq (.block 0 (sq ([ml 2,o1 (en u0 (.c (iz 0))),mt 0 3])
 (.cond k3 (sq ([mc (iz 0) 5,mc (iz 11) 6])
 .ret) (sq ([ml 0,o1 (en u0 (.c (iz 4))),mt 0 4])
 (.cond k4 (sq ([ml 1,ml 2,o1 (.bin .quo u1 u0),mt 0 5,mc (iz 0) 6])
 .ret) .skip)))))
 (sq ([ml 1,ml 2,o1 (.bin .rem u1 u0),mt 0 5,mc (iz 0) 6])
 .ret))) [.val k5,.val k6]
noncomputable def af228:AFunc:=.mk 3 (sq ([mc (iz 0) 12])
 (.seq (sq ([o2 (.move k0) 3])
 (.block 0 (sq ([o1 (en k3 (.c (iz 1))),mt 0 4])
 (.cond k4 (sq ([ml 1,ml 2,o1 (ad u1 u0),mt 0 12])
 .ret) (sq ([o1 (en k3 (.c (iz 2))),mt 0 5])
 (.cond k5 (sq ([ml 1,ml 2,o1 (sb u1 u0),mt 0 12])
 .ret) (sq ([o1 (en k3 (.c (iz 3))),mt 0 6])
 (.cond k6 (sq ([ml 1,ml 2,o1 (.bin .mul u1 u0),mt 0 12])
 .ret) (sq ([o1 (en k3 (.c (iz 6))),mt 0 7])
 (.cond k7 (sq ([ml 1,ml 2,o1 (.bin .and u1 u0),mt 0 12])
 .ret) (sq ([o1 (en k3 (.c (iz 7))),mt 0 8])
 (.cond k8 (sq ([ml 1,ml 2,o1 (.bin .or u1 u0),mt 0 12])
 .ret) (sq ([o1 (en k3 (.c (iz 8))),mt 0 9])
 (.cond k9 (sq ([ml 1,ml 2,o1 (.bin .xor u1 u0),mt 0 12])
 .ret) (sq ([o1 (en k3 (.c (iz 17))),mt 0 10])
 (.cond k10 (sq ([ml 1,o1 (.neg u0),mt 0 12])
 .ret) (sq ([o1 (en k3 (.c (iz 18))),mt 0 11])
 (.cond k11 (sq ([ml 1,o1 (en u0 (.c (iz 0))),o1 (cf 233 [u0]),mt 0 12])
 .ret) .skip))))))))))))))))))
 (sq ([ml 0,ml 1,ml 2,o1 (cf 234 [u2,u1,u0]),o1 (cf 233 [u0]),mt 0 12])
 .ret))) [.val k12]
noncomputable def af229:AFunc:=.mk 2 (sq ([mc (.bool false) 2])
 (sq ([ml 0,o1 (.eq true .ptr u0 (.c .nilp)),m0,o3 (.move k1) 0 true,o3 (ge u0 (.c (iz 1))) 1 true,o1 (pk u2 u0 (.c (.bool false))),m0,o3 (.move k1) 0 true,o3 (.move k0) 1 true,o3 (nc u0) 2 true,o3 (fa 1 u0) 3 true,o3 (ld u0) 4 true,o3 (ll u0) 5 true,o3 (le u5 u0) 6 true,o1 (pk u7 u0 (.c (.bool false))),mt 0 2])
 .ret)) [.val k2]
noncomputable def af230:AFunc:=.mk 2 (sq ([mc (.bool false) 3])
 (sq ([ml 0,o1 (nc u0),o1 (fa 1 u0),o1 (ld u0),ml 1,o1 (sb u0 (.c (iz 1))),o1 (ia 3 u2 u0),o1 (fa 1 u0),o1 (ld u0),mt 0 2])
 (sq ([ml 2,o1 (nn u0 (.c (iz 0))),m0,o3 (.move k0) 0 true,o3 (.move k2) 1 true,o3 (cf 199 [u1,u0]) 2 true,o3 (.not u0) 3 true,o1 (pk u4 u0 (.c (.bool false))),mt 0 3])
 .ret))) [.val k3]
noncomputable def af231:AFunc:=.mk 3 (sq ([mc (iz 0) 9,mc (iz 0) 10])
 (.seq (sq ([ml 0,o2 (.eq false .ptr u0 (.c .nilp)) 3])
 (.cond k3 (sq ([mc (iz 0) 9,mc (iz 13) 10])
 .ret) .skip))
 (sq ([ml 0,o1 (nc u0),o1 (fa 0 u0),o1 (ld u0),ml 1,o1 (cf 108 [u1,u0]),m0,ox 0,ox 1,mt 1 7,mt 1 4])
 (.seq (.block 0 (sq ([ml 4,o1 (.not u0),m0,o3 (.move k2) 0 false,o3 (nn u0 (.c (iz 0))) 1 false,o3 (.move u0) 2 false,o3 (.move k0) 0 true,o3 (.move k2) 1 true,o3 (cf 199 [u1,u0]) 2 true,o3 (.not u0) 3 true,o3 (pk u4 u0 (.c (.bool false))) 7 false,o1 (pk u8 (.c (.bool true)) u0),mt 0 5])
 (.cond k5 (sq ([mc (iz 0) 9,mc (iz 13) 10])
 .ret) (sq ([ml 0,o1 (nc u0),o1 (fa 1 u0),o1 (ld u0),o1 (ll u0),o1 (en u0 (.c (iz 131072))),mt 0 6])
 (.cond k6 (sq ([mc (iz 0) 9,mc (iz 4) 10])
 .ret) .skip)))))
 (sq ([ml 0,ml 0,o1 (nc u0),o1 (fa 1 u0),o1 (ld u0),ml 7,ml 2,ml 0,o1 (nc u0),o1 (fa 0 u0),o1 (ld u0),ml 7,o1 (ia 2 u1 u0),o1 (fa 1 u0),o1 (ld u0),o1 (ll u0),o1 (.mkSlice [(iz 0)] 8 u0 u0),o1 (.build [(iz 0),(iz 0),.nils] [(.mk 0 1 u11),(.mk 1 1 u10),(.mk 2 1 u0)]),o1 (.bslice [(iz 0),(iz 0),.nils] 1 [(.mk 0 3 u0)]),o1 (ap 3 40 u14 u0),o1 (nc u19),o1 (fa 1 u0),o1 (st 1 u0 u2)])
 (.seq (sq ([ml 2,o2 (nn u0 (.c (iz 0))) 8])
 (.cond k8 (.ops [ml 0,o1 (nc u0),o1 (fa 3 u0),o1 (ld u0),o1 (ad u0 (.c (iz 1))),o1 (nc u4),o1 (fa 3 u0),o1 (st 1 u0 u2)]) .skip))
 (sq ([ml 0,o1 (nc u0),o1 (fa 1 u0),o1 (ld u0),o1 (ll u0),mt 0 9,mc (iz 0) 10])
 .ret))))))) [.val k9,.val k10]
noncomputable def af233:AFunc:=.mk 1 (sq ([mc (iz 0) 2])
 (.seq (sq ([o2 (.move k0) 1])
 (.cond k1 (sq ([mc (iz 1) 2])
 .ret) .skip))
 (sq ([mc (iz 0) 2])
 .ret))) [.val k2]
noncomputable def af234:AFunc:=.mk 3 (sq ([mc (.bool false) 9])
 (.seq (sq ([o2 (.move k0) 3])
 (.block 0 (sq ([o1 (en k3 (.c (iz 11))),mt 0 4])
 (.cond k4 (sq ([ml 1,ml 2,o1 (en u1 u0),mt 0 9])
 .ret) (sq ([o1 (en k3 (.c (iz 12))),mt 0 5])
 (.cond k5 (sq ([ml 1,ml 2,o1 (nn u1 u0),mt 0 9])
 .ret) (sq ([o1 (en k3 (.c (iz 13))),mt 0 6])
 (.cond k6 (sq ([ml 1,ml 2,o1 (ls u1 u0),mt 0 9])
 .ret) (sq ([o1 (en k3 (.c (iz 14))),mt 0 7])
 (.cond k7 (sq ([ml 1,ml 2,o1 (le u1 u0),mt 0 9])
 .ret) (sq ([o1 (en k3 (.c (iz 15))),mt 0 8])
 (.cond k8 (sq ([ml 1,ml 2,o1 (gt u1 u0),mt 0 9])
 .ret) .skip))))))))))))
 (sq ([ml 1,ml 2,o1 (ge u1 u0),mt 0 9])
 .ret))) [.val k9]
noncomputable def tabT:T AFunc:=(.node none (.node none (.node none (.node none (.node none (.node none (.node none (.node (some af127) .leaf .leaf) (.node (some af191) .leaf .leaf)) (.node none (.node (some af159) .leaf .leaf) (.node (some af223) .leaf .leaf))) (.node none (.node (some af79) (.node (some af143) .leaf .leaf) (.node (some af207) .leaf .leaf)) (.node (some af111) (.node (some af175) .leaf .leaf) .leaf))) (.node none (.node none (.node (some af71) (.node (some af135) .leaf .leaf) (.node (some af199) .leaf .leaf)) (.node none (.node (some af167) .leaf .leaf) (.node (some af231) .leaf .leaf))) (.node none (.node none (.node (some af151) .leaf .leaf) (.node (some af215) .leaf .leaf)) (.node (some af119) (.node (some af183) .leaf .leaf) .leaf)))) (.node (some af11) (.node none (.node (some af35) (.node (some af67) (.node (some af131) .leaf .leaf) (.node (some af195) .leaf .leaf)) (.node none (.node (some af163) .leaf .leaf) (.node (some af227) .leaf .leaf))) (.node none (.node none (.node (some af147) .leaf .leaf) (.node (some af211) .leaf .leaf)) (.node (some af115) (.node (some af179) .leaf .leaf) .leaf))) (.node none (.node (some af43) .leaf (.node (some af107) (.node (some af171) .leaf .leaf) .leaf)) (.node none (.node none (.node (some af155) .leaf .leaf) .leaf) (.node (some af123) (.node (some af187) .leaf .leaf) .leaf))))) (.node none (.node (some af9) (.node none (.node none (.node (some af65) (.node (some af129) .leaf .leaf) (.node (some af193) .leaf .leaf)) (.node none (.node (some af161) .leaf .leaf) (.node (some af225) .leaf .leaf))) (.node none (.node none (.node (some af145) .leaf .leaf) .leaf) (.node (some af113) (.node (some af177) .leaf .leaf) .leaf))) (.node (some af25) (.node none (.node (some af73) (.node (some af137) .leaf .leaf) (.node (some af201) .leaf .leaf)) (.node (some af105) .leaf (.node (some af233) .leaf .leaf))) (.node none (.node none (.node (some af153) .leaf .leaf) (.node (some af217) .leaf .leaf)) (.node (some af121) (.node (some af185) .leaf .leaf) .leaf)))) (.node (some af13) (.node none (.node (some af37) (.node (some af69) (.node (some af133) .leaf .leaf) (.node (some af197) .leaf .leaf)) (.node none (.node (some af165) .leaf .leaf) (.node (some af229) .leaf .leaf))) (.node none (.node none (.node (some af149) .leaf .leaf) (.node (some af213) .leaf .leaf)) (.node (some af117) (.node (some af181) .leaf .leaf) .leaf))) (.node (some af29) (.node (some af45) (.node (some af77) (.node (some af141) .leaf .leaf) .leaf) (.node (some af109) (.node (some af173) .leaf .leaf) .leaf)) (.node none (.node none (.node (some af157) .leaf .leaf) .leaf) (.node (some af125) (.node (some af189) .leaf .leaf) .leaf)))))) (.node none (.node (some af4) (.node none (.node (some af16) (.node none (.node (some af64) (.node (some af128) .leaf .leaf) (.node (some af192) .leaf .leaf)) (.node none (.node (some af160) .leaf .leaf) (.node (some af224) .leaf .leaf))) (.node none (.node none (.node (some af144) .leaf .leaf) .leaf) (.node (some af112) (.node (some af176) .leaf .leaf) .leaf))) (.node (some af24) (.node none (.node (some af72) (.node (some af136) .leaf .leaf) (.node (some af200) .leaf .leaf)) (.node (some af104) .leaf .leaf)) (.node none (.node none (.node (some af152) .leaf .leaf) (.node (some af216) .leaf .leaf)) (.node (some af120) (.node (some af184) .leaf .leaf) .leaf)))) (.node none (.node none (.node (some af36) (.node (some af68) (.node (some af132) .leaf .leaf) (.node (some af196) .leaf .leaf)) (.node none (.node (some af164) .leaf .leaf) (.node (some af228) .leaf .leaf))) (.node none (.node none (.node (some af148) .leaf .leaf) (.node (some af212) .leaf .leaf)) (.node (some af116) (.node (some af180) .leaf .leaf) .leaf))) (.node none (.node (some af44) (.node (some af76) .leaf .leaf) (.node (some af108) (.node (some af172) .leaf .leaf) .leaf)) (.node none (.node none (.node (some af156) .leaf .leaf) .leaf) (.node (some af124) (.node (some af188) .leaf .leaf) .leaf))))) (.node none (.node (some af10) (.node none (.node none (.node (some af66) (.node (some af130) .leaf .leaf) (.node (some af194) .leaf .leaf)) (.node none (.node (some af162) .leaf .leaf) (.node (some af226) .leaf .leaf))) (.node none (.node none (.node (some af146) .leaf .leaf) (.node (some af210) .leaf .leaf)) (.node (some af114) (.node (some af178) .leaf .leaf) .leaf))) (.node (some af26) (.node none (.node none (.node (some af138) .leaf .leaf) .leaf) (.node (some af106) (.node (some af170) .leaf .leaf) (.node (some af234) .leaf .leaf))) (.node none (.node none (.node (some af154) .leaf .leaf) .leaf) (.node (some af122) (.node (some af186) .leaf .leaf) .leaf)))) (.node none (.node none (.node none (.node (some af70) (.node (some af134) .leaf .leaf) (.node (some af198) .leaf .leaf)) (.node none (.node (some af166) .leaf .leaf) (.node (some af230) .leaf .leaf))) (.node none (.node none (.node (some af150) .leaf .leaf) (.node (some af214) .leaf .leaf)) (.node (some af118) (.node (some af182) .leaf .leaf) .leaf))) (.node none (.node (some af46) (.node (some af78) (.node (some af142) .leaf .leaf) .leaf) (.node (some af110) (.node (some af174) .leaf .leaf) .leaf)) (.node none (.node none (.node (some af158) .leaf .leaf) .leaf) (.node (some af126) (.node (some af190) .leaf .leaf) .leaf)))))))
end Go.Ev
namespace Go.Ev
open Go
structure PV(tab:Nat->Option AFunc):Prop where
 t4:tab 4=some af4
 t10:tab 10=some af10
 t11:tab 11=some af11
 t13:tab 13=some af13
 t16:tab 16=some af16
 t24:tab 24=some af24
 t25:tab 25=some af25
 t26:tab 26=some af26
 t29:tab 29=some af29
 t35:tab 35=some af35
 t36:tab 36=some af36
 t37:tab 37=some af37
 t43:tab 43=some af43
 t44:tab 44=some af44
 t45:tab 45=some af45
 t46:tab 46=some af46
 t64:tab 64=some af64
 t65:tab 65=some af65
 t66:tab 66=some af66
 t67:tab 67=some af67
 t68:tab 68=some af68
 t69:tab 69=some af69
 t70:tab 70=some af70
 t71:tab 71=some af71
 t72:tab 72=some af72
 t73:tab 73=some af73
 t76:tab 76=some af76
 t77:tab 77=some af77
 t78:tab 78=some af78
 t79:tab 79=some af79
 t104:tab 104=some af104
 t105:tab 105=some af105
 t106:tab 106=some af106
 t107:tab 107=some af107
 t108:tab 108=some af108
 t109:tab 109=some af109
 t110:tab 110=some af110
 t111:tab 111=some af111
 t112:tab 112=some af112
 t113:tab 113=some af113
 t114:tab 114=some af114
 t115:tab 115=some af115
 t116:tab 116=some af116
 t117:tab 117=some af117
 t118:tab 118=some af118
 t119:tab 119=some af119
 t120:tab 120=some af120
 t121:tab 121=some af121
 t122:tab 122=some af122
 t123:tab 123=some af123
 t124:tab 124=some af124
 t125:tab 125=some af125
 t126:tab 126=some af126
 t127:tab 127=some af127
 t128:tab 128=some af128
 t129:tab 129=some af129
 t130:tab 130=some af130
 t131:tab 131=some af131
 t132:tab 132=some af132
 t133:tab 133=some af133
 t134:tab 134=some af134
 t135:tab 135=some af135
 t136:tab 136=some af136
 t137:tab 137=some af137
 t138:tab 138=some af138
 t141:tab 141=some af141
 t142:tab 142=some af142
 t143:tab 143=some af143
 t144:tab 144=some af144
 t145:tab 145=some af145
 t146:tab 146=some af146
 t147:tab 147=some af147
 t148:tab 148=some af148
 t149:tab 149=some af149
 t150:tab 150=some af150
 t151:tab 151=some af151
 t152:tab 152=some af152
 t153:tab 153=some af153
 t154:tab 154=some af154
 t155:tab 155=some af155
 t156:tab 156=some af156
 t157:tab 157=some af157
 t158:tab 158=some af158
 t159:tab 159=some af159
 t160:tab 160=some af160
 t161:tab 161=some af161
 t162:tab 162=some af162
 t163:tab 163=some af163
 t164:tab 164=some af164
 t165:tab 165=some af165
 t166:tab 166=some af166
 t167:tab 167=some af167
 t170:tab 170=some af170
 t171:tab 171=some af171
 t172:tab 172=some af172
 t174:tab 174=some af174
 t175:tab 175=some af175
 t176:tab 176=some af176
 t177:tab 177=some af177
 t178:tab 178=some af178
 t179:tab 179=some af179
 t180:tab 180=some af180
 t181:tab 181=some af181
 t182:tab 182=some af182
 t183:tab 183=some af183
 t184:tab 184=some af184
 t185:tab 185=some af185
 t186:tab 186=some af186
 t187:tab 187=some af187
 t188:tab 188=some af188
 t189:tab 189=some af189
 t190:tab 190=some af190
 t191:tab 191=some af191
 t192:tab 192=some af192
 t193:tab 193=some af193
 t194:tab 194=some af194
 t195:tab 195=some af195
 t196:tab 196=some af196
 t197:tab 197=some af197
 t198:tab 198=some af198
 t199:tab 199=some af199
 t200:tab 200=some af200
 t201:tab 201=some af201
 t207:tab 207=some af207
 t210:tab 210=some af210
 t211:tab 211=some af211
 t212:tab 212=some af212
 t213:tab 213=some af213
 t214:tab 214=some af214
 t215:tab 215=some af215
 t216:tab 216=some af216
 t217:tab 217=some af217
 t223:tab 223=some af223
 t224:tab 224=some af224
 t225:tab 225=some af225
 t226:tab 226=some af226
 t227:tab 227=some af227
 t228:tab 228=some af228
 t229:tab 229=some af229
 t230:tab 230=some af230
 t231:tab 231=some af231
 t233:tab 233=some af233
 t234:tab 234=some af234
theorem LITS:(∀n:Nat,iz n=.int .i64 (n:Int))/\AV.str 1 42=sv [42]/\AV.str 1 84=sv [84]/\AV.str 1 102=sv [102]/\AV.str 1 110=sv [110]/\AV.str 2 21546=sv [42,84]/\AV.str 2 26217=sv [105,102]/\AV.str 3 7104878=sv [110,105,108]/\AV.str 3 7496054=sv [118,97,114]/\AV.str 3 7499622=sv [102,111,114]/\AV.str 3 7630441=sv [105,110,116]/\AV.str 3 7824750=sv [110,101,119]/\AV.str 4 1668183398=sv [102,117,110,99]/\AV.str 4 1684104562=sv [114,101,97,100]/\AV.str 4 1701869940=sv [116,121,112,101]/\AV.str 4 1702063205=sv [101,108,115,101]/\AV.str 4 1702195828=sv [116,114,117,101]/\AV.str 4 1819242338=sv [98,111,111,108]/\AV.str 4 1852399981=sv [109,97,105,110]/\AV.str 5 435728179558=sv [102,97,108,115,101]/\AV.str 5 500068610672=sv [112,114,105,110,116]/\AV.str 6 121437875889522=sv [114,101,116,117,114,110]/\AV.str 6 127970521019507=sv [115,116,114,117,99,116]/\AV.str 18 8838634371626034279618351153450530198413667=sv [99,97,110,110,111,116,32,98,101,32,110,101,103,97,116,105,118,101]/\AV.str 40 963418128638552869720407654453272125421877327008697887680703274632671259614598848762731909441652=sv [116,104,101,32,114,101,115,117,108,116,32,111,102,32,40,108,101,110,40,120,41,32,42,32,99,111,117,110,116,41,32,111,118,101,114,102,108,111,119,115]/\AV.str 256 1013866857139168856493015739252390649739422828853819106890363778118420553376247557433637691341895324351018602695588957474325319502760499485336098898398377509666851054660423406800006203933793007272033180812049178612605246075062580585469430410618860250057463399279570354286669047577758927328864388992123306212451509403152394148136105363817402562688186708175358218852349079190158732807302672745370040257219644697201681238697346923541678507645485296520536209706771857694240900605172937619415410180424934769249448772944216470541052485265558808433676546390051204254346932932316488017972311616136051587427851453983453479168=sv [0,1,2,2,3,3,3,3,4,4,4,4,4,4,4,4,5,5,5,5,5,5,5,5,5,5,5,5,5,5,5,5,6,6,6,6,6,6,6,6,6,6,6,6,6,6,6,6,6,6,6,6,6,6,6,6,6,6,6,6,6,6,6,6,7,7,7,7,7,7,7,7,7,7,7,7,7,7,7,7,7,7,7,7,7,7,7,7,7,7,7,7,7,7,7,7,7,7,7,7,7,7,7,7,7,7,7,7,7,7,7,7,7,7,7,7,7,7,7,7,7,7,7,7,7,7,7,7,8,8,8,8,8,8,8,8,8,8,8,8,8,8,8,8,8,8,8,8,8,8,8,8,8,8,8,8,8,8,8,8,8,8,8,8,8,8,8,8,8,8,8,8,8,8,8,8,8,8,8,8,8,8,8,8,8,8,8,8,8,8,8,8,8,8,8,8,8,8,8,8,8,8,8,8,8,8,8,8,8,8,8,8,8,8,8,8,8,8,8,8,8,8,8,8,8,8,8,8,8,8,8,8,8,8,8,8,8,8,8,8,8,8,8,8,8,8,8,8,8,8,8,8,8,8,8,8]:=⟨λ_=>rfl,rfl,rfl,rfl,rfl,rfl,rfl,rfl,rfl,rfl,rfl,rfl,rfl,rfl,rfl,rfl,rfl,rfl,rfl,rfl,rfl,rfl,rfl,rfl,rfl,rfl⟩
def RL:=q0b RN (q0b LITS (q0b @Nat.succ_eq_add_one (q0b @ite_ne @ite_same)))
def BL:=q0b RB (q0b LITS (q0b @Nat.succ_eq_add_one (q0b @ite_ne @ite_same)))
end Go.Ev
