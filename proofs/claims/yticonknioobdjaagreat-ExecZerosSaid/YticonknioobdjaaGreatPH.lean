/- VaN2 VaX6 VaX7 VaN3 VaX8 VaX9 VaY1 VaY2 VaY3 VaY4 VaY5 VaY6 VaY7 VaY9 VaZ1 VaZ2 VaZ3 VaZ4 VaL -/
import Derived.Test.YticonknioobdjaaGreatPG
import Derived.Test.YticonknioobdjaaGreatPE
set_option linter.unusedSimpArgs false
set_option linter.unusedVariables false
set_option linter.unusedSectionVars false
set_option linter.defProp false
set_option maxRecDepth 100000
set_option maxHeartbeats 4000000
namespace Go.Ev
open Go
section
variable{n:Nat}{num:Nat->Nat}{ah:Nat->List Nat}(G:Gr n num ah){nr:Nr}
def M2(nr:Nr)(a b m:Nat):Prop:=Ch nr a m/\Ch nr b m/\∀y,Ch nr a y->Ch nr b y->Ch nr m y
theorem Ch.eq(V:Ok n num nr){x y:Nat}(a:Ch nr x y)(b:Ch nr y x):x=y:=by
 cases a with
 | refl=>rfl
 | step e a=>
  by_cases h0:x=0
  ·subst h0;exact(Ch.root V (.step e a)).symm
  ·have:=V.sink _ _ e h0;have:=a.le V;have:=b.le V;omega
theorem M2.one(V:Ok n num nr){a b m m':Nat}(x:M2 nr a b m)(y:M2 nr a b m'):m=m':=(y.2.2 _ x.1 x.2.1 |> λh=>(x.2.2 _ y.1 y.2.1).eq V h)
noncomputable def meetU(nr:Nr)(a b:Nat):Nat:=@Classical.epsilon Nat ⟨0⟩ (M2 nr a b)
theorem meetU_eq(V:Ok n num nr){a b m:Nat}(x:M2 nr a b m):meetU nr a b=m:=(Classical.epsilon_spec (p:=M2 nr a b) ⟨m,x⟩ |> λh=>M2.one V h x)
theorem M2.stepL(V:Ok n num nr){a b u m:Nat}(h:num b<num a)(e:nr a=some u)(x:M2 nr u b m):M2 nr a b m:=by
 have na:∀y,Ch nr b y->y≠a:=λy c k=>by subst k;have:=c.le V;omega
 refine⟨.step e x.1,x.2.1,λy c d=>?_⟩;cases c with
 | refl=>exact(na _ d rfl).elim
 | step e' c=>rw[e] at e';injection e' with e';subst e';exact x.2.2 y c d
theorem M2.symm{a b m:Nat}(x:M2 nr a b m):M2 nr b a m:=⟨x.2.1,x.1,λy c d=>x.2.2 y d c⟩
theorem M2.refl(a:Nat):M2 nr a a a:=⟨.refl _,.refl _,λ_ c _=>c⟩
include G in
theorem M2.some(V:Ok n num nr):∀(k a b:Nat),num a+num b<=k->nr a≠none->nr b≠none->∃m,M2 nr a b m:=by
 have ltn:∀a,nr a≠none->a<n:=λa ha=>by
  cases e:nr a with
  | none=>exact(ha e).elim
  | some u=>exact(V.lt _ _ e).1
 intro k;induction k with
 | zero=>
  intro a b h ha hb;have:=G.inj a b (ltn a ha) (ltn b hb) (by omega);subst this;exact⟨a,M2.refl a⟩
 | succ k ih=>
  intro a b h ha hb;have one:∀a b,num a+num b<=k+1->nr a≠none->nr b≠none->num b<num a->∃m,M2 nr a b m:=by
   intro a b h ha hb hlt;cases e:nr a with
   | none=>exact(ha e).elim
   | some u=>
    have h0:a≠0:=λk=>by rw[k,G.zero] at hlt;omega
    have:=V.sink _ _ e h0;obtain⟨m,x⟩:=ih u b (by omega) (V.lt _ _ e).2.2 hb;exact⟨m,x.stepL V hlt e⟩
  by_cases h1:num b<num a
  ·exact one a b h ha hb h1
  ·by_cases h2:num a<num b
   ·obtain⟨m,x⟩:=one b a (by omega) hb ha h2;exact⟨m,x.symm⟩
   ·have:=G.inj a b (ltn a ha) (ltn b hb) (by omega);subst this;exact⟨a,M2.refl a⟩
open Classical in
noncomputable def nrOne(nr:Nr)(o:Option Nat)(p:Nat):Option Nat:=if nr p=none then o else match o with
 | none=>some p
 | some m=>some (meetU nr m p)
def NPart(nr:Nr)(l:List Nat)(o:Option Nat):Prop:=match o with
 | none=>∀p∈l,nr p=none
 | some m=>nr m≠none/\(∀p∈l,nr p≠none->Ch nr p m)/\∀y,(∀p∈l,nr p≠none->Ch nr p y)->Ch nr m y
include G in
theorem NPart.app(V:Ok n num nr){l:List Nat}{o:Option Nat}(x:NPart nr l o)(p:Nat):NPart nr (l++[p]) (nrOne nr o p):=by
 unfold nrOne;by_cases h:nr p=none
 ·rw[if_pos h];cases o with
  | none=>exact λq hq=>(List.mem_append.mp hq).elim (x q) λe=>by rw[List.mem_singleton.mp e];exact h
  | some m=>
   refine⟨x.1,λq hq hs=>(List.mem_append.mp hq).elim (λe=>x.2.1 q e hs) λe=>?_,λy hy=>x.2.2 y λq hq hs=>hy q (List.mem_append_left _ hq) hs⟩;rw[List.mem_singleton.mp e] at hs;exact(hs h).elim
 ·rw[if_neg h];cases o with
  | none=>exact⟨h,λq hq hs=>(List.mem_append.mp hq).elim (λe=>(hs (x q e)).elim) λe=>by rw[List.mem_singleton.mp e];exact .refl _,λy hy=>hy p (by simp) h⟩
  | some m=>
   obtain⟨w,z⟩:=M2.some G V _ m p (q0c _) x.1 h;show NPart nr (l++[p]) (Option.some (meetU nr m p));rw[meetU_eq V z];refine⟨z.1.set V x.1,λq hq hs=>(List.mem_append.mp hq).elim (λe=>(x.2.1 q e hs).trans z.1) λe=>by rw[List.mem_singleton.mp e];exact z.2.1,λy hy=>z.2.2 y (x.2.2 y λq hq hs=>hy q (List.mem_append_left _ hq) hs) (hy p (by simp) h)⟩
noncomputable def nrNext(ah:Nat->List Nat)(nr:Nr)(c:Nat):Option Nat:=(ah c).foldl (nrOne nr) none
include G in
theorem NPart.fold(V:Ok n num nr):∀(r l:List Nat) (o:Option Nat),NPart nr l o->NPart nr (l++r) (r.foldl (nrOne nr) o)
 | [],l,o,x=>by simpa using x
 | p::r,l,o,x=>by
  have:=NPart.fold V r (l++[p]) _ (x.app G V p)
  rwa [List.append_assoc] at this
include G in
theorem zKq{c pc:Nat}(x:NInv n num ah nr pc)(hc:c<n)(hn:num c=pc)(h0:c≠0):∃m,nrNext ah nr c=some m/\Meets ah nr c m:=by
 obtain⟨q0,hq0,hlt⟩:=G.par c hc h0;have hs0:nr q0≠none:=x.P q0 (G.pre c hc q0 hq0) (by omega);have:=NPart.fold G x.V (ah c) [] none (λp hp=>by cases hp);rw[List.nil_append] at this;cases e:nrNext ah nr c with
 | none=>
  unfold nrNext at e;rw[e] at this;exact(hs0 (this q0 hq0)).elim
 | some m=>
  unfold nrNext at e;rw[e] at this;exact⟨m,rfl,this.2.1,this.2.2⟩
def upO(nr:Nr)(c:Nat)(o:Option Nat):Nr:=λx=>if x=c then o else nr x
noncomputable def zB4(ah:Nat->List Nat)(nr:Nr)(c:Nat):Nr:=upO nr c (nrNext ah nr c)
noncomputable def zCs(ah:Nat->List Nat)(ord:List Nat)(nr:Nr):Nr:=ord.foldl (zB4 ah) nr
def val(n:Nat)(num:Nat->Nat)(nr:Nr)(b:Nat):Nat:=match nr b with
 | none=>n
 | some u=>num u
structure NOrd(n:Nat)(num:Nat->Nat)(ord:List Nat):Prop where
 len:ord.length+1=n
 at_:∀k (h:k<ord.length),num ord[k]=k+1/\ord[k]<n
include G in
theorem zHe{ord:List Nat}(O:NOrd n num ord)(x:NInv n num ah nr 1):∀k,k<=ord.length->NInv n num ah ((ord.take k).foldl (zB4 ah) nr) (k+1)/\(∀b,val n num ((ord.take k).foldl (zB4 ah) nr) b<=val n num nr b)/\((ord.take k).foldl (zB4 ah) nr≠nr->∃b,b<n/\val n num ((ord.take k).foldl (zB4 ah) nr) b<val n num nr b)/\(∀b,n<=b->(ord.take k).foldl (zB4 ah) nr b=nr b)
 | 0,_=>⟨x,λ_=>q0c _,λh=>(h rfl).elim,λ_ _=>rfl⟩
 | k+1,hk=>by
  obtain⟨i,le,lt,out⟩:=zHe O x k (by omega);obtain⟨h1,h2⟩:=O.at_ k hk;have h0:ord[k]≠0:=λe=>by rw[e,G.zero] at h1;omega
  obtain⟨m,e,M⟩:=zKq G i h2 h1 h0;obtain⟨i',a,b,c⟩:=i.next G h2 h1 h0 M;rw[List.take_add_one,q0a hk,Option.toList_some,List.foldl_append,List.foldl_cons,List.foldl_nil];generalize (ord.take k).foldl (zB4 ah) nr=t at *;have es:zB4 ah t ord[k]=up t ord[k] m:=by unfold zB4 upO up;rw[e]
  rw[es];have v1:∀q,val n num (up t ord[k] m) q<=val n num t q:=λq=>by
   unfold val;by_cases hq:q=ord[k]
   ·rw[hq,zDu];cases et:t ord[k] with
    | none=>exact Nat.le_of_lt (G.lt m c)
    | some u=>exact a u et
   ·rw[up_ne hq];exact q0c _
  refine⟨i',λq=>q0m (v1 q) (le q),λhne=>?_,λq hq=>by rw[up_ne (by omega),out q hq]⟩;by_cases ht:up t ord[k] m=t
  ·rw[ht] at hne ⊢;exact lt hne
  ·have v2:val n num (up t ord[k] m) ord[k]<val n num t ord[k]:=by
    refine Nat.lt_of_le_of_ne (v1 _) λev=>ht ?_;unfold val at ev;rw[zDu] at ev;cases et:t ord[k] with
    | none=>rw[et] at ev;have:=G.lt m c;have ev:num m=n:=ev;omega
    | some u=>
     rw[et] at ev;have ev:num m=num u:=ev;have:=G.inj m u c (i.V.lt _ _ et).2.1 ev;funext q;by_cases hq:q=ord[k]
     ·rw[hq,zDu,et,this]
     ·rw[up_ne hq]
   exact⟨ord[k],h2,q0d v2 (le _)⟩
def nvals(n:Nat)(num:Nat->Nat)(nr:Nr):Nat:=((List.range n).map (val n num nr)).sum
theorem sum_le:∀(l:List Nat) (f g:Nat->Nat),(∀b,f b<=g b)->(l.map f).sum<=(l.map g).sum
 | [],_,_,_=>q0c _
 | b::l,f,g,h=>by simp only[List.map_cons,List.sum_cons];exact Nat.add_le_add (h b) (sum_le l f g h)
theorem sum_lt:∀(l:List Nat) (f g:Nat->Nat),(∀b,f b<=g b)->(∃b∈l,f b<g b)->(l.map f).sum<(l.map g).sum
 | [],_,_,_,⟨_,h,_⟩=>by cases h
 | b::l,f,g,h,⟨c,hc,hl⟩=>by
  simp only[List.map_cons,List.sum_cons];have h1:=h b;have h2:=sum_le l f g h;rcases List.mem_cons.mp hc with e | e
  ·subst e;omega
  ·have:=sum_lt l f g h ⟨c,e,hl⟩;omega
include G in
theorem zI2{ord:List Nat}(O:NOrd n num ord)(x:NInv n num ah nr 1):NInv n num ah (zCs ah ord nr) 1/\(zCs ah ord nr≠nr->nvals n num (zCs ah ord nr)<nvals n num nr):=by
 obtain⟨i,le,lt,_⟩:=zHe G O x ord.length (q0c _);rw[List.take_length] at i le lt;rw[O.len] at i;exact⟨i.again G,λh=>sum_lt _ _ _ le (let⟨b,hb,hl⟩:=lt h;⟨b,List.mem_range.mpr hb,hl⟩)⟩
noncomputable def zBs(ah:Nat->List Nat)(ord:List Nat):Nat->Nr
 | 0=>nr0
 | k+1=>zCs ah ord (zBs ah ord k)
theorem zJi{ord:List Nat}{k:Nat}(h:zCs ah ord (zBs ah ord k)=zBs ah ord k):∀j,zBs ah ord (k+j)=zBs ah ord k
 | 0=>rfl
 | j+1=>by rw[<-Nat.add_assoc,zBs,zJi h j,h]
def IsEnd(ah:Nat->List Nat)(ord:List Nat)(r:Nr):Prop:=∃k,r=zBs ah ord k/\zCs ah ord r=r
theorem IsEnd.one{ord:List Nat}{r r':Nr}(x:IsEnd ah ord r)(y:IsEnd ah ord r'):r=r':=by
 obtain⟨k,rfl,hk⟩:=x;obtain⟨j,rfl,hj⟩:=y;rcases Nat.le_total k j with h | h
 ·obtain⟨d,rfl⟩:=Nat.exists_eq_add_of_le h;rw[zJi hk]
 ·obtain⟨d,rfl⟩:=Nat.exists_eq_add_of_le h;rw[zJi hj]
noncomputable def nrEnd(ah:Nat->List Nat)(ord:List Nat):Nr:=@Classical.epsilon Nr ⟨nr0⟩ (IsEnd ah ord)
theorem zLm{ord:List Nat}{r:Nr}(x:IsEnd ah ord r):nrEnd ah ord=r:=(Classical.epsilon_spec (p:=IsEnd ah ord) ⟨r,x⟩).one x
include G in
theorem zIq{ord:List Nat}(O:NOrd n num ord):∀k,NInv n num ah (zBs ah ord k) 1
 | 0=>NInv.init G
 | k+1=>(zI2 G O (zIq O k)).1
end
theorem M2.stepR{n:Nat}{num:Nat->Nat}{nr:Nr}(V:Ok n num nr){a b u m:Nat}(h:num b<num a)(e:nr a=Option.some u)(x:M2 nr a b m):M2 nr u b m:=by
 refine⟨?_,x.2.1,λy c d=>x.2.2 y (.step e c) d⟩;cases x.1 with
 | refl=>have:=x.2.1.le V;omega
 | step e' c=>rw[e] at e';injection e' with e';subst e';exact c
def encN(o:Option Nat):Int:=match o with | none=>-1 | some u=>(u:Int)
structure TrS(hx h:AH)(T aid nid n:Nat)(vo vh:AV)(num:Nat->Nat)(nr:Nr):Prop where
 more:More hx h
 lo:hx.next<=T/\hx.next<=aid/\hx.next<=nid/\T<h.next/\aid<h.next/\nid<h.next
 ne:T≠aid/\T≠nid/\aid≠nid
 tree:∃c ac nc,h.mem.get T=some (.cells c 4 none false)/\c.get 0=some vo/\c.get 1=some (.sl aid 0 n ac)/\c.get 2=some vh/\c.get 3=some (.sl nid 0 n nc)
 at_:∃c s,h.mem.get aid=some (.cells c s none false)/\∀b,b<n->c.get b=some (iv (num b:Nat))
 near:∃c s,h.mem.get nid=some (.cells c s none false)/\∀b,b<n->c.get b=some (iv (encN (nr b)))
section
variable{tab:Nat->Option AFunc}(H:PV tab)
include H in
theorem meet_gp{hx h:AH}{T aid nid n:Nat}{vo vh:AV}{num:Nat->Nat}{ah:Nat->List Nat}{nr:Nr}(x:TrS hx h T aid nid n vo vh num nr)(G:Gr n num ah)(V:Ok n num nr){a b:Nat}(ha:nr a≠none)(hb:nr b≠none):GP tab 185 [.ptr T 0,.int .i64 (a:Int),.int .i64 (b:Int)] h λv h1=>v=.int .i64 (meetU nr a b:Nat)/\h1=h:=by
 obtain⟨m,hm⟩:=M2.some G V _ a b (q0c _) ha hb;rw[meetU_eq V hm];obtain⟨c,ac,nc,gT,-,c1,-,c3⟩:=x.tree;obtain⟨ca,sa,ga,gac⟩:=x.at_;obtain⟨cn,sn,gn,gnc⟩:=x.near;have ltn:∀a,nr a≠none->a<n/\∃u,nr a=some u/\cn.get a=some (iv (u:Nat)):=λa ha=>by
  cases e:nr a with
  | none=>exact(ha e).elim
  | some u=>
   have:=(V.lt _ _ e).1;exact⟨this,u,rfl,by rw[gnc a this,e];rfl⟩
 have i0:zAb [.ptr T 0,.int .i64 (a:Int),.int .i64 (b:Int)]=zAa [.ptr T 0,.int .i64 (a:Int),.int .i64 (b:Int)]:=rfl;refine GE.gp (zAi H.t185 rfl ?_) (E:=λ_ _=>False) λ_ _ x=>x;simp(disch:=omega)only[RL,i0];refine zAd (λk l d h1=>∃a b:Nat,k=num a+num b/\d=[]/\h1=h/\nr a≠none/\nr b≠none/\M2 nr a b m/\l.get 0=some (.ptr T 0)/\l.get 1=some (.int .i64 (a:Int))/\l.get 2=some (.int .i64 (b:Int))) ?_ (num a+num b) ⟨a,b,rfl,rfl,rfl,ha,hb,hm,rfl,rfl,rfl⟩;clear hm ha hb i0 a b;rintro k l d h1 ⟨a,b,rfl,rfl,rfl,ha,hb,hm,l0,l1,l2⟩;by_cases hab:a=b
 ·subst hab;have:m=a:=hm.one V (M2.refl a);subst this;simp(disch:=omega)only[RL,↓reduceIte,l1,l2]
 ·have hab':¬(a:Int)=(b:Int):=by omega
  have hne:num a≠num b:=λe=>hab (G.inj a b (ltn a ha).1 (ltn b hb).1 e);simp(disch:=omega)only[RL,↓reduceIte,l1,l2,hab'];refine zAd (λk l d h2=>∃a':Nat,k=num a'/\d=[]/\h2=h1/\nr a'≠none/\M2 nr a' b m/\(a'=a\/num a'<num a)/\l.get 0=some (.ptr T 0)/\l.get 1=some (.int .i64 (a':Int))/\l.get 2=some (.int .i64 (b:Int))) ?_ (num a) ⟨a,rfl,rfl,rfl,ha,hm,.inl rfl,by simp+decide(disch:=omega)only[RL,↓reduceIte,l0],by simp(disch:=omega)only[RL,↓reduceIte,l1],by simp(disch:=omega)only[RL,↓reduceIte,l2]⟩;clear hm l0 l1 l2;rintro k l d h2 ⟨a',rfl,rfl,rfl,ha',hm,hd,l0,l1,l2⟩;obtain⟨la,u,eu,gu⟩:=ltn a' ha';obtain⟨lb,-⟩:=ltn b hb;have pa:=gac a' la;have pb:=gac b lb;by_cases hgt:num b<num a'
  ·have hgt':((num b:Nat):Int)<((num a':Nat):Int):=by omega
   simp+decide(disch:=omega)only[RL,↓reduceIte,l0,l1,l2,gT,c1,c3,ga,gn,pa,pb,gu,hgt'];have h0:a'≠0:=λe=>by rw[e,G.zero] at hgt;omega
   have hs:=V.sink _ _ eu h0;refine⟨num u,hs,u,rfl,(V.lt _ _ eu).2.2,hm.stepR V hgt eu,.inr ?_,rfl⟩;rcases hd with rfl | hd<;>omega
  ·have hgt':¬((num b:Nat):Int)<((num a':Nat):Int):=by omega
   simp+decide(disch:=omega)only[RL,↓reduceIte,l0,l1,l2,gT,c1,c3,ga,gn,pa,pb,gu,hgt'];have hmore:num a'<num a\/(a'=a/\num a<num b):=by
    rcases hd with rfl | hd
    ·exact .inr ⟨rfl,by omega⟩
    ·exact .inl hd
   have hle:num a'<=num a:=by rcases hmore with h | ⟨rfl,_⟩<;>omega
   refine zAd (λk l d h3=>∃b':Nat,k=num b'/\d=[]/\h3=h2/\nr b'≠none/\M2 nr a' b' m/\num b'<=num b/\(num a'<num a\/num b'<num b\/(a'=a/\num a<num b/\b'=b))/\l.get 0=some (.ptr T 0)/\l.get 1=some (.int .i64 (a':Int))/\l.get 2=some (.int .i64 (b':Int))) ?_ (num b) ⟨b,rfl,rfl,rfl,hb,hm,q0c _,by rcases hmore with h | ⟨h,h'⟩;exact .inl h;exact .inr (.inr ⟨h,h',rfl⟩),by simp+decide(disch:=omega)only[RL,↓reduceIte,l0],by simp+decide(disch:=omega)only[RL,↓reduceIte,l1],by simp(disch:=omega)only[RL,↓reduceIte,l2]⟩;clear hm l0 l1 l2 hgt hgt' gu eu pb lb;rintro k l d h3 ⟨b',rfl,rfl,rfl,hb',hm,hbl,hd2,l0,l1,l2⟩;obtain⟨lb,u,eu,gu⟩:=ltn b' hb';have pb:=gac b' lb;by_cases hgt:num a'<num b'
   ·have hgt':((num a':Nat):Int)<((num b':Nat):Int):=by omega
    have h0:b'≠0:=λe=>by rw[e,G.zero] at hgt;omega
    have hs:=V.sink _ _ eu h0;simp+decide(disch:=omega)only[RL,↓reduceIte,l0,l1,l2,gT,c1,c3,ga,gn,pa,pb,gu,hgt'];exact⟨num u,hs,u,rfl,(V.lt _ _ eu).2.2,(hm.symm.stepR V hgt eu).symm,by omega,.inr (.inl (by omega)),rfl⟩
   ·have hgt':¬((num a':Nat):Int)<((num b':Nat):Int):=by omega
    simp+decide(disch:=omega)only[RL,↓reduceIte,l0,l1,l2,gT,c1,c3,ga,gn,pa,pb,gu,hgt'];refine⟨num a'+num b',?_,a',b',rfl,ha',hb',hm,rfl,rfl⟩;rcases hd2 with h | h | ⟨rfl,h,rfl⟩<;>omega
end
theorem SlV.drop{α:Type}{h:AH}{es:Nat}{R:List AV->α->Prop}{v:AV}{xs:List α}(a:SlV h es R v xs){i:Nat}(hi:i<xs.length)(h0:0<i):∃v',(∀kill h' [MoreC h h'],zAs kill es (.c v) (some (.c (.int .i64 (i:Int)))) none none .leaf [] h'=.val v' h')/\SlV h es R v' (xs.drop i):=by
 rcases a with⟨rfl,_⟩ | ⟨id,off,cap,sz,c,p,ro,rfl,ck,g,hid,hb,ha⟩
 ·cases hi
 ·have hl:(xs.drop i).length=xs.length-i:=q0Q;cases cap with
  | known cp=>
   have ck:xs.length<=cp:=ck;refine⟨_,λkill h' _=>slk_lo (Nat.le_of_lt hi) ck (by omega),.inr ⟨id,off+i*es,.known (cp-i),sz,c,p,ro,by rw[hl],by rw[hl];show _<=_;omega,g,hid,by rw[hl];omega,λj hj=>?_⟩⟩;obtain⟨E,e1,e2,e3⟩:=ha (i+j) (by omega);exact⟨E,e1,by rw[List.getElem_drop];exact e2,by rw[show off+i*es+j*es=off+(i+j)*es by rw[Nat.add_mul];omega];exact e3⟩
  | rest e=>
   obtain⟨rfl,h1,h2⟩:=ck;refine⟨.sl id (off+i*e) (xs.length-i) (.rest e),λkill h' _=>?_,.inr ⟨id,off+i*e,.rest e,sz,c,p,ro,by rw[hl],⟨rfl,h1,by rw[hl];have:=Nat.add_mul i (xs.length-i) e;rw[show i+(xs.length-i)=xs.length by omega] at this;omega⟩,g,hid,by rw[hl];omega,λj hj=>?_⟩⟩
   ·have g':h'.mem.get id=some (.cells c sz p ro):=kp g hid;show bi (Nat.beq e e) (bi (Nat.ble 1 e) (zAq (AH.get h' id) _) _) _=_;rw[bi_eq,if_pos (q0K _),bi_eq,if_pos (Nat.ble_eq.mpr h1),q2f,g'];have e1:Nat.beq i 0=false:=by rw[zDc];exact decide_eq_false (by omega)
    have e2:Nat.beq (Nat.sub xs.length i) 0=false:=by rw[zDc];exact decide_eq_false (λe=>by have e:xs.length-i=0:=e;omega)
    have key:∀A B C,bi (Nat.ble (Nat.add off (Nat.mul xs.length e)) sz) (bi (Nat.ble i xs.length) (bi (Nat.beq i 0) A (fN (Nat.sub xs.length i) λn=>bi (Nat.beq n 0) B (fN (Nat.add off (Nat.mul i e)) λoff=>OR.val (AV.sl id off n (ACap.rest e)) h'))) C) C=OR.val (AV.sl id (off+i*e) (xs.length-i) (.rest e)) h':=by
     intro A B C;rw[bi_eq,if_pos (Nat.ble_eq.mpr (show Nat.add off (Nat.mul xs.length e)<=sz from h2)),bi_eq,if_pos (Nat.ble_eq.mpr (Nat.le_of_lt hi)),e1,zBi,fN_eq,e2,zBi,fN_eq];rfl
    exact key _ _ _
   ·obtain⟨E,e1,e2,e3⟩:=ha (i+j) (by omega);exact⟨E,e1,by rw[List.getElem_drop];exact e2,by rw[show off+i*e+j*e=off+(i+j)*e by rw[Nat.add_mul];omega];exact e3⟩
theorem encN_inj{a b:Option Nat}(h:encN a=encN b):a=b:=by
 unfold encN at h;cases a with
 | none=>cases b with
  | none=>rfl
  | some b=>have h:(-1:Int)=(b:Int):=h;omega
 | some a=>cases b with
  | none=>have h:(a:Int)=(-1:Int):=h;omega
  | some b=>have h:(a:Int)=(b:Int):=h;rw[Int.ofNat.inj h]
theorem fold_out{ah:Nat->List Nat}:∀(l:List Nat) (nr:Nr) (x:Nat),x∉l->l.foldl (zB4 ah) nr x=nr x
 | [],_,_,_=>rfl
 | c::l,nr,x,h=>by
  rw[List.foldl_cons,fold_out l _ x (λk=>h (q0s _ k))];exact if_neg λe=>h (by rw[e];exact q0H ..)
theorem TrS.put{hx h:AH}{tr aid nid n:Nat}{vo vh:AV}{num:Nat->Nat}{nr:Nr}(x:TrS hx h tr aid nid n vo vh num nr){b:Nat}(hb:b<n)(o:Option Nat):∃c s,h.mem.get nid=some (.cells c s none false)/\c.get b=some (iv (encN (nr b)))/\TrS hx (h.set nid (.cells (T.put (some (iv (encN o))) c b) s none false)) tr aid nid n vo vh num (upO nr b o):=by
 obtain⟨m,lo,ne,⟨c,ac,nc,gT,c0,c1,c2,c3⟩,⟨ca,sa,ga,gac⟩,⟨cn,sn,gn,gnc⟩⟩:=x;refine⟨cn,sn,gn,gnc b hb,m.set lo.2.2.1 _,by rw[q2b];exact lo,ne,⟨c,ac,nc,by rw[q2c,q1a _ _ _ _ (Ne.symm ne.2.1)];exact gT,c0,c1,c2,c3⟩,⟨ca,sa,by rw[q2c,q1a _ _ _ _ (Ne.symm ne.2.2)];exact ga,gac⟩,⟨_,sn,q2d,λq hq=>?_⟩⟩;unfold upO;by_cases e:q=b
 ·subst e;rw[q1b,if_pos rfl]
 ·rw[q1a _ _ _ _ (Ne.symm e),if_neg e,gnc q hq]
section
variable{tab:Nat->Option AFunc}(H:PV tab)
include H in
theorem round_gp{hx h:AH}{tr aid nid n:Nat}{vo vh:AV}{num:Nat->Nat}{ah:Nat->List Nat}{ord:List Nat}{ahl:List (List Int)}{nr:Nr}(x:TrS hx h tr aid nid n vo vh num nr)(so:SlV hx 1 IntR vo ((0:Int)::ord.map λi:Nat=>(i:Int)))(sh:SlV hx 1 (λE xs=>∃w,E=[w]/\SlV hx 1 IntR w xs) vh ahl)(hn:n<=1000)(h2:2<=n)(hl:ahl.length=n)(hal:∀b (h:b<ahl.length),ahl[b]=(ah b).map λi:Nat=>(i:Int))(hsm:∀b,b<n->(ah b).length<=1000000)(G:Gr n num ah)(O:NOrd n num ord)(I:NInv n num ah nr 1):GP tab 157 [.ptr tr 0] h λv h1=>TrS hx h1 tr aid nid n vo vh num (zCs ah ord nr)/\∃q,v=.bool q/\(q=true<->zCs ah ord nr≠nr):=by
 have i0:zAb [.ptr tr 0]=zAa [.ptr tr 0]:=rfl;have hol:ord.length+1=n:=O.len;obtain⟨v4,sl4,s4⟩:=so.drop (i:=1) (by rw[q0P,q0j];omega) (by decide);rw[show((0:Int)::ord.map λi:Nat=>(i:Int)).drop 1=ord.map λi:Nat=>(i:Int) from rfl] at s4;haveI:MoreC hx h:=⟨x.more⟩;have sl4:=sl4 true h;have ln4:=s4.len;rw[q0j] at ln4;have mv4:=s4.mv;obtain⟨c,ac,nc,gT,c0,c1,c2,c3⟩:=x.tree;refine GE.gp (zAi H.t157 rfl ?_) (E:=λ_ _=>False) λ_ _ x=>x;simp+decide(disch:=omega)only[RL,↓reduceIte,i0,gT,c0,zBy,sl4,ln4];clear gT c0 c1 c2 c3 sl4;refine zAd (λm l d h1=>∃(j:Nat) (q:Bool),m=ord.length-j/\j<=ord.length/\d=[]/\TrS hx h1 tr aid nid n vo vh num ((ord.take j).foldl (zB4 ah) nr)/\(q=true<->(ord.take j).foldl (zB4 ah) nr≠nr)/\l.get 0=some (.ptr tr 0)/\l.get 1=some (.int .i64 (j:Int))/\l.get 2=some (.int .i64 (ord.length:Int))/\l.get 4=some v4/\l.get 14=some (.bool q)) ?_ (ord.length-0) ⟨0,false,rfl,q0k _,rfl,x,by simp,rfl,rfl,rfl,rfl,rfl⟩;clear x;rintro m l d h1 ⟨j,q,rfl,hj,rfl,x,hq,l0,l1,l2,l4,l14⟩;haveI:MoreC hx h1:=⟨x.more⟩;obtain⟨inv,-,-,-⟩:=zHe G O I j hj;by_cases hjt:j<ord.length
 ·have hjm:j<(ord.map λi:Nat=>(i:Int)).length:=by rw[q0j];exact hjt
  obtain⟨id,o,E',ix,e1,⟨rfl,i64⟩,ld,lw⟩:=s4.at hjm;have lw:oLoad (.c (.ptr id o)) .leaf [] h1=.val (.int .i64 (ord[j]:Int)) h1:=by have:=lw 0 _ rfl h1;rwa [List.getElem_map] at this
  obtain⟨hnum,hbn⟩:=O.at_ j hjt;obtain⟨id2,o2,E2,ix2,e2,⟨w,rfl,sw⟩,ld2,lw2⟩:=sh.at (show ord[j]<ahl.length by omega);have lw2:oLoad (.c (.ptr id2 o2)) .leaf [] h1=.val w h1:=lw2 0 _ rfl h1;rw[hal] at sw;have lnw:=sw.len;rw[q0j] at lnw;have mvw:=sw.mv;obtain⟨c,ac,nc,gT,c0,c1,c2,c3⟩:=x.tree;have htk:ord.take (j+1)=ord.take j++[ord[j]]:=by rw[List.take_add_one,q0a hjt,Option.toList_some]
  have hout:(ord.take j).foldl (zB4 ah) nr ord[j]=nr ord[j]:=fold_out _ _ _ λhm=>by
   obtain⟨k,hk,e⟩:=q0y hm;rw[List.getElem_take] at e;have hk:k<j:=by rw[q0v] at hk;omega
   have:=(O.at_ k (by omega)).1;rw[e,hnum] at this;omega
  simp+decide(disch:=omega)only[RL,↓reduceIte,l0,l1,l2,l4,hjt,ix,lw,gT,c2,ix2,lw2,lnw];have hbn':ord[j]<n:=hbn;obtain⟨m,enx,-⟩:=zKq G inv hbn hnum (λe=>by rw[e,G.zero] at hnum;omega);have hsmb:=hsm ord[j] hbn;generalize htt:(ord.take j).foldl (zB4 ah) nr=t at *;refine zAd (λm l d h2=>∃i:Nat,m=(ah ord[j]).length-i/\i<=(ah ord[j]).length/\d=[]/\h2=h1/\l.get 0=some (.ptr tr 0)/\l.get 1=some (.int .i64 (j:Int))/\l.get 2=some (.int .i64 (ord.length:Int))/\l.get 4=some v4/\l.get 14=some (.bool q)/\l.get 5=some (.int .i64 (ord[j]:Int))/\l.get 6=some (.int .i64 (i:Int))/\l.get 7=some (.int .i64 ((ah ord[j]).length:Int))/\l.get 9=some w/\l.get 12=some (iv (encN (((ah ord[j]).take i).foldl (nrOne t) none)))) ?_ ((ah ord[j]).length-0) ⟨0,rfl,q0k _,rfl,rfl,by simp+decide(disch:=omega)only[RL,↓reduceIte,l0],by simp+decide(disch:=omega)only[RL,↓reduceIte,l1],by simp+decide(disch:=omega)only[RL,↓reduceIte,l2],by simp+decide(disch:=omega)only[RL,↓reduceIte,l4],by simp+decide(disch:=omega)only[RL,↓reduceIte,l14],by simp+decide(disch:=omega)only[RL,↓reduceIte],by simp(disch:=omega)only[RL,↓reduceIte],by simp(disch:=omega)only[RL,↓reduceIte],by simp+decide(disch:=omega)only[RL,↓reduceIte],by simp+decide(disch:=omega)only[RL,↓reduceIte];rfl⟩
  clear l0 l1 l2 l4 l14;rintro m' l d h2 ⟨i,rfl,hi,rfl,rfl,l0,l1,l2,l4,l14,l5,l6,l7,l9,l12⟩;obtain⟨ca,sa,ga,gac⟩:=x.at_;obtain⟨cn,sn,gn,gnc⟩:=x.near;by_cases hit:i<(ah ord[j]).length
  ·have him:i<((ah ord[j]).map λi:Nat=>(i:Int)).length:=by rw[q0j];exact hit
   obtain⟨id3,o3,E3,ix3,e3,⟨rfl,i643⟩,ld3,lw3⟩:=sw.at him;have lw3:oLoad (.c (.ptr id3 o3)) .leaf [] h2=.val (.int .i64 ((ah ord[j])[i]:Int)) h2:=by have:=lw3 0 _ rfl h2;rwa [List.getElem_map] at this
   have hp:=G.pre _ hbn _ (q0l hit);have hne1:¬((num (ah ord[j])[i]:Nat):Int)=-1:=by omega
   have pa:=gac _ hp;have pn:=gnc _ hp;have tk:(ah ord[j]).take (i+1)=(ah ord[j]).take i++[(ah ord[j])[i]]:=by rw[List.take_add_one,q0a hit,Option.toList_some]
   have hpart:NPart t ((ah ord[j]).take i) (((ah ord[j]).take i).foldl (nrOne t) none):=by
    have:=NPart.fold G inv.V ((ah ord[j]).take i) [] none (λp hp=>by cases hp)
    rwa [List.nil_append] at this
   generalize hp':(ah ord[j])[i]=p at *;generalize hfold:((ah ord[j]).take i).foldl (nrOne t) none=o at *;have step:((ah ord[j]).take (i+1)).foldl (nrOne t) none=nrOne t o p:=by rw[tk,List.foldl_append,hfold];rfl
   by_cases htp:t p=none
   ·rw[htp] at pn;have pn:cn.get p=some (.int .i64 (-1)):=pn;have so':nrOne t o p=o:=if_pos htp;simp+decide(disch:=omega)only[RL,↓reduceIte,l0,l1,l2,l4,l14,l5,l6,l7,l9,l12,hit,ix3,lw3,gT,c1,c3,ga,gn,pa,pn,neg1,hne1];exact⟨(ah ord[j]).length-(i+1),by omega,i+1,rfl,hit,rfl,by rw[step,so']⟩
   ·have pn:∃u:Nat,cn.get p=some (.int .i64 (u:Int)):=by
     cases e:t p with
     | none=>exact(htp e).elim
     | some u=>rw[e] at pn;exact⟨u,pn⟩
    obtain⟨u,pn⟩:=pn;have hne2:¬(u:Int)=-1:=by omega
    cases o with
    | none=>
     have l12:l.get 12=some (.int .i64 (-1)):=l12;have so':nrOne t none p=some p:=if_neg htp;simp+decide(disch:=omega)only[RL,↓reduceIte,l0,l1,l2,l4,l14,l5,l6,l7,l9,l12,hit,ix3,lw3,gT,c1,c3,ga,gn,pa,pn,neg1,hne1,hne2];exact⟨(ah ord[j]).length-(i+1),by omega,i+1,rfl,hit,rfl,by rw[step,so'];rfl⟩
    | some m0=>
     have l12:l.get 12=some (.int .i64 (m0:Int)):=l12;have hne3:¬(m0:Int)=-1:=by omega
     have so':nrOne t (some m0) p=some (meetU t m0 p):=if_neg htp;have em:∀{R E:AV->AH->Prop},GE tab 185 [.ptr tr 0,.int .i64 (m0:Int),.int .i64 (p:Int)] h2 R E=R (.int .i64 (meetU t m0 p:Nat)) h2:=ge_rw (meet_gp H x G inv.V hpart.1 htp);simp+decide(disch:=omega)only[RL,↓reduceIte,l0,l1,l2,l4,l14,l5,l6,l7,l9,l12,hit,ix3,lw3,gT,c1,c3,ga,gn,pa,pn,neg1,hne1,hne2,hne3,em];exact⟨(ah ord[j]).length-(i+1),by omega,i+1,rfl,hit,rfl,by rw[step,so'];rfl⟩
  ·have hie:i=(ah ord[j]).length:=by omega
   subst hie;rw[List.take_length] at l12;have enx':(ah ord[j]).foldl (nrOne t) none=some m:=enx;rw[enx'] at l12;have l12:l.get 12=some (.int .i64 (m:Int)):=l12;obtain⟨cn',sn',gn',gnc',x'⟩:=x.put hbn (some m);rw[gn] at gn';injection gn' with gn';injection gn' with g1 g2;subst g1;subst g2;have es:(ord.take (j+1)).foldl (zB4 ah) nr=upO t ord[j] (some m):=by
    rw[htk,List.foldl_append,htt];show zB4 ah t ord[j]=_;unfold zB4;rw[enx]
   have x':TrS hx (h2.set nid (.cells (T.put (some (.int .i64 (m:Int))) cn ord[j]) sn none false)) tr aid nid n vo vh num ((ord.take (j+1)).foldl (zB4 ah) nr):=by rw[es];exact x'
   cases q with
   | true=>
    have hq':(ord.take (j+1)).foldl (zB4 ah) nr≠nr:=by
     rw[es];intro e;refine hq.mp rfl ?_;funext y;by_cases hy:y=ord[j]
     ·rw[hy,hout]
     ·have:=congrFun e y;unfold upO at this
      rwa [if_neg hy] at this
    simp+decide(disch:=omega)only[RL,↓reduceIte,l0,l1,l2,l4,l14,l5,l6,l7,l9,l12,hit,gT,c3,gn,gnc'];exact⟨ord.length-(j+1),by omega,j+1,true,rfl,hjt,x',by simpa using hq',rfl,rfl⟩
   | false=>
    have ht:t=nr:=Classical.not_not.mp λh=>by have:=hq.mpr h;cases this
    by_cases hc:t ord[j]=some m
    ·have gnc':cn.get ord[j]=some (.int .i64 (m:Int)):=by rw[gnc',hc];rfl
     have hq':(ord.take (j+1)).foldl (zB4 ah) nr=nr:=by
      rw[es,<-hc,ht];funext y;unfold upO;by_cases hy:y=ord[j]
      ·rw[hy,if_pos rfl]
      ·rw[if_neg hy]
     simp+decide(disch:=omega)only[RL,↓reduceIte,l0,l1,l2,l4,l14,l5,l6,l7,l9,l12,hit,gT,c3,gn,gnc'];exact⟨ord.length-(j+1),by omega,j+1,false,rfl,hjt,x',by simpa using hq',rfl,rfl⟩
    ·have gnc':cn.get ord[j]=some (.int .i64 (encN (t ord[j]))):=gnc';have hne4:¬encN (t ord[j])=(m:Int):=λe=>hc (encN_inj (b:=some m) e);have hq':(ord.take (j+1)).foldl (zB4 ah) nr≠nr:=by
      rw[es];intro e;have:=congrFun e ord[j];unfold upO at this;rw[if_pos rfl] at this;exact hc (by rw[ht,<-this])
     simp+decide(disch:=omega)only[RL,↓reduceIte,l0,l1,l2,l4,l14,l5,l6,l7,l9,l12,hit,gT,c3,gn,gnc',hne4];exact⟨ord.length-(j+1),by omega,j+1,true,rfl,hjt,x',by simpa using hq',rfl,rfl⟩
 ·have hje:j=ord.length:=by omega
  subst hje;rw[List.take_length] at x hq;simp+decide(disch:=omega)only[RL,↓reduceIte,l1,l2,hjt,l14];exact⟨x,q,rfl,hq⟩
end
def rowOf(o:List (List Int))(b:Nat):List Int:=o.getD b []
theorem rowOf_add{i:Nat}{o:List (List Int)}{k:Int}{b:Nat}{x:Int}(h:x∈rowOf o b):x∈rowOf (addTo i o k) b:=by
 unfold rowOf addTo at *;rw[q0e] at *;rw[List.getElem?_set];by_cases e:k.toNat=b
 ·subst e;rw[if_pos rfl];split
  ·rw[q0e];exact List.mem_append_left _ h
  ·rename_i hlt;rw[q0i (by omega)] at h;cases h
 ·rw[if_neg e];exact h
theorem zHd{i:Nat}:∀{l:List Int} {o:List (List Int)} {b:Nat} {x:Int},x∈rowOf o b->x∈rowOf (l.foldl (addTo i) o) b
 | [],_,_,_,h=>h
 | _::l,_,_,_,h=>zHd (l:=l) (rowOf_add h)
theorem rowOf_new{i:Nat}:∀{l:List Int} {o:List (List Int)} {b:Nat},b<o.length->(b:Int)∈l->(i:Int)∈rowOf (l.foldl (addTo i) o) b
 | k::l,o,b,hb,h=>by
  rw[List.foldl_cons];rcases List.mem_cons.mp h with e | e
  ·subst e;refine zHd ?_;unfold rowOf;rw[addTo_eq hb,q0e,List.getElem?_set,if_pos rfl,if_pos hb];exact List.mem_append_right _ (by simp)
  ·exact rowOf_new (by rw[addTo_len];exact hb) e
theorem led_mem{f:FunD}{q b:Nat}(h:(b:Int)∈nxS f q):∀k,q<k->(q:Int)∈rowOf (ledN f k) b
 | k+1,hk=>by
  obtain⟨b',e,hb⟩:=nx_in h;have e:b=b':=by omega
  subst e;by_cases hq:q=k
  ·subst hq;exact rowOf_new (by rw[zD8];exact hb) h
  ·exact zHd (led_mem h k (by omega))
def ahS(f:FunD)(b:Nat):List Nat:=(rowOf (ledS f) b).map Int.toNat
theorem ah_eq{f:FunD}{b:Nat}(h:b<(ledS f).length):(ledS f)[b]=(ahS f b).map λi:Nat=>(i:Int):=by
 unfold ahS rowOf;rw[q0e,q0a h,q0F,List.map_map];have:∀x∈(ledS f)[b],((λi:Nat=>(i:Int))∘Int.toNat) x=x:=λx hx=>by
  obtain⟨n,rfl,_⟩:=zJh _ _ (q0l h) x hx;simp
 rw[List.map_congr_left this,List.map_id']
def AllR(f:FunD):Prop:=∀b,b<f.blocks.length->(walkS f).1[b]?=some true
def ordS(f:FunD):List Nat:=((walkS f).2.dropLast.reverse).map Int.toNat
def numS(f:FunD)(b:Nat):Nat:=(0::ordS f).idxOf b
theorem zKa:∀{l:List Bool},(∀b,b<l.length->l[b]?=some true)->zBp l=0
 | [],_=>rfl
 | x::l,h=>by
  have h0:some x=some true:=h 0 (by simp);injection h0 with h0;subst h0;have:=zKa (l:=l) λb hb=>by have:=h (b+1) (by simpa using hb);simpa using this
  unfold zBp at *;simpa using this
theorem zK8{f:FunD}(hb0:0<f.blocks.length)(hr:AllR f):zE7 f=(0:Int)::(ordS f).map (λi:Nat=>(i:Int))/\NOrd f.blocks.length (numS f) (ordS f)/\Gr f.blocks.length (numS f) (ahS f):=by
 obtain⟨L,d,p⟩:=zIx (f:=f) f.blocks.length (List.replicate f.blocks.length false,[]) 0 q0q (by rw[q0z,if_pos hb0]) (Nat.le_of_eq (zEf _));have hw:zDd f f.blocks.length (List.replicate f.blocks.length false,[]) 0=walkS f:=rfl;rw[hw] at d;have hlen:(walkS f).1.length=f.blocks.length:=d.len.trans q0q;have hun:=d.un;have e1:zBp (List.replicate f.blocks.length false,([]:List Int)).1=f.blocks.length:=zEf _;rw[e1,zKa (λb hb=>hr b (by omega)),q0o,List.length_singleton] at hun;have hout:(walkS f).2=(L++[0]).map λi:Nat=>(i:Int):=by have:=d.out;simpa using this
 have hord:ordS f=L.reverse:=by
  unfold ordS;rw[hout,q0O,List.map_cons,List.map_nil,List.dropLast_concat,<-List.map_reverse,List.map_map];have:(Int.toNat∘λi:Nat=>(i:Int))=id:=by funext x;simp
  rw[this,List.map_id]
 have horder:zE7 f=(0:Int)::(ordS f).map (λi:Nat=>(i:Int)):=by
  unfold zE7;rw[hout,hord,<-List.map_reverse,List.reverse_append];rfl
 have hnd:(0::ordS f).Nodup:=by
  rw[hord];have:=d.nodup;have h2:(L++[0]).reverse.Nodup:=List.pairwise_reverse.mpr (this.imp λh=>Ne.symm h)
  rwa [List.reverse_append] at h2
 have hmem:∀b,b<f.blocks.length->b∈(0::ordS f):=λb hb=>by
  have:=(d.seen b).mp (hr b hb);rcases this with h | h
  ·rw[q0z] at h;split at h<;>cases h
  ·rw[hord];rcases List.mem_append.mp h with h | h
   ·exact q0s _ (List.mem_reverse.mpr h)
   ·rw[List.mem_singleton.mp h];exact q0H ..
 have hin:∀b∈(0::ordS f),b<f.blocks.length:=λb hb=>by
  rcases List.mem_cons.mp hb with h | h
  ·omega
  ·rw[hord] at h;have:=d.new b (List.mem_append_left _ (List.mem_reverse.mp h));rw[q0z] at this;split at this
   ·assumption
   ·cases this
 have hlo:(ordS f).length+1=f.blocks.length:=by rw[hord,List.length_reverse];omega
 have hnum:∀k (h:k<(0::ordS f).length),numS f (0::ordS f)[k]=k:=λk h=>by
  unfold numS;exact hnd.idxOf_getElem k h
 refine⟨horder,⟨hlo,λk hk=>⟨hnum (k+1) (by simpa using hk),hin _ (q0s _ (q0l hk))⟩⟩,⟨λa b ha hb e=>?_,λa ha=>?_,List.idxOf_cons_self,hb0,λb hb q hq=>?_,λb hb h0=>?_⟩⟩
 ·have h1:=q0y (hmem a ha);have h2:=q0y (hmem b hb);obtain⟨i,hi,rfl⟩:=h1;obtain⟨j,hj,rfl⟩:=h2;rw[hnum,hnum] at e;subst e;rfl
 ·have:=List.idxOf_lt_length_of_mem (hmem a ha);rw[q0P,hlo] at this;exact this
 ·unfold ahS at hq;obtain⟨z,hz,rfl⟩:=List.mem_map.mp hq;unfold rowOf at hz;rw[q0e] at hz;cases e:(ledS f)[b]? with
  | none=>rw[e] at hz;cases hz
  | some r=>
   rw[e] at hz;obtain⟨m,rfl,hm⟩:=zJh _ _ (q0L e) z hz;simpa using hm
 ·have hbL:b∈L:=by
   rcases List.mem_cons.mp (hmem b hb) with h | h
   ·exact(h0 h).elim
   ·rw[hord] at h;exact List.mem_reverse.mp h
  obtain⟨A,B,e⟩:=List.append_of_mem hbL;have toAh:∀q,q<f.blocks.length->(b:Int)∈nxS f q->q∈ahS f b:=λq hq hbq=>by
   have:=led_mem hbq f.blocks.length hq;exact List.mem_map.mpr ⟨(q:Int),this,by simp⟩
  rcases p A b B e with h | ⟨q,hq,h⟩
  ·refine⟨0,toAh 0 hb0 h,?_⟩;show(0::ordS f).idxOf 0<(0::ordS f).idxOf b;rw[List.idxOf_cons_self,List.idxOf_cons,show((0:Nat) == b)=false from beq_false_of_ne (Ne.symm h0)];exact Nat.succ_pos _
  ·have hqL:q∈L:=by rw[e];simp[hq]
   have hqn:q<f.blocks.length:=hin q (by rw[hord];exact q0s _ (List.mem_reverse.mpr hqL));refine⟨q,toAh q hqn h,?_⟩;have e2:0::ordS f=(0::B.reverse)++b::A.reverse:=by rw[hord,e,List.reverse_append,List.reverse_cons];simp
   rw[e2] at hnd;have hb':b∉0::B.reverse:=λhm=>by
    have:=(List.nodup_append.mp hnd).2.2 b hm b (q0H ..);exact this rfl
   unfold numS;rw[e2,List.idxOf_append,if_pos (q0s _ (List.mem_reverse.mpr hq)),List.idxOf_append,if_neg hb'];have:=List.idxOf_lt_length_of_mem (q0s 0 (List.mem_reverse.mpr hq));omega
theorem SlV.same{α:Type}{h:AH}{es:Nat}{R:List AV->α->Prop}{v:AV}{xs:List α}(a:SlV h es R v xs):Ev.same v v=true:=by
 rcases a with⟨rfl,rfl | ⟨id,off,cap,rfl⟩⟩ | ⟨id,off,cap,sz,c,p,ro,rfl,_⟩
 ·rfl
 ·exact zHc
 ·exact zHc
section
variable{tab:Nat->Option AFunc}{h:AH}(H:PV tab)
noncomputable def nrS(f:FunD):Nr:=upO (nrEnd (ahS f) (ordS f)) 0 none
include H in
theorem round1_gp{tr oid:Nat}{c:T AV}{cap:ACap}{s:Nat}{co:T AV}(g:h.mem.get tr=some (.cells c 4 none false))(c0:c.get 0=some (.sl oid 0 1 cap))(go:h.mem.get oid=some (.cells co s none false))(hcap:cap=.rest 1/\s=1\/cap=.known 1):GP tab 157 [.ptr tr 0] h λv h1=>v=.bool false/\h.next<=h1.next/\∀k,k<h.next->k≠oid->h1.mem.get k=h.mem.get k:=by
 have i0:zAb [.ptr tr 0]=zAa [.ptr tr 0]:=rfl;refine GE.gp (zAi H.t157 rfl ?_) (E:=λ_ _=>False) λ_ _ x=>x;rcases hcap with⟨rfl,rfl⟩ | rfl
 ·have sl:zAs true 1 (.c (.sl oid 0 1 (.rest 1))) (some (.c (.int .i64 ((1:Nat):Int)))) none none .leaf [] h=.val (.sl h.next 0 0 (.rest 1)) ((h.kill oid).add (.cells .leaf 0 none false)):=by
   show zAq (AH.get h oid) _=_;rw[q2f,go];show AH.new (AH.kill h oid) (AObj.cells T.leaf 0 none false) (λid h=>OR.val (AV.sl id 0 0 (ACap.rest 1)) h)=_;rw[q2k,q2l]
  simp+decide only[RL,↓reduceIte,i0,g,c0,zBy,sl,zB8,Nat.lt_irrefl];exact⟨q0w _,λk hk hne=>by rw[if_neg (by omega),if_neg (Ne.symm hne)]⟩
 ·have sl:∀h',zAs true 1 (.c (.sl oid 0 1 (.known 1))) (some (.c (.int .i64 ((1:Nat):Int)))) none none .leaf [] h'=.val (.sl oid 0 0 (.known 0)) h':=λ_=>rfl;simp+decide only[RL,↓reduceIte,i0,g,c0,zBy,sl,zB8,Nat.lt_irrefl];exact λ_ _ _=>trivial
theorem TrS.base{h0 hx h:AH}{tr aid nid n:Nat}{vo vh:AV}{num:Nat->Nat}{nr:Nr}(x:TrS hx h tr aid nid n vo vh num nr)(m:More h0 hx):TrS h0 h tr aid nid n vo vh num nr:=by
 obtain⟨m1,lo,a,b,c,d⟩:=x;have:=m.next;exact⟨m.trans m1,⟨by omega,by omega,by omega,lo.2.2.2⟩,a,b,c,d⟩
theorem Arr.one{h:AH}{F:Nat->Prop}{v:AV}{cs:List AV}(a:Arr h F v cs)(hl:cs.length=1):∃oid s c cap,v=.sl oid 0 1 cap/\F oid/\oid<h.next/\h.mem.get oid=some (.cells c s none false)/\(cap=.rest 1/\s=1\/cap=.known 1):=by
 cases a with
 | nils=>cases hl
 | emp=>cases hl
 | sl a b c d e f g=>rw[hl] at f ⊢;exact⟨_,_,_,_,rfl,b,c,d,f⟩
theorem TrS.off{h0 hx h h':AH}{tr aid nid n oid:Nat}{vo vh:AV}{num:Nat->Nat}{nr:Nr}(x:TrS hx h tr aid nid n vo vh num nr)(m:More h0 hx)(hn:h.next<=h'.next)(hk:∀k,k<h.next->k≠oid->h'.mem.get k=h.mem.get k)(h1:h0.next<=oid)(h2:oid<hx.next):TrS h0 h' tr aid nid n vo vh num nr:=by
 obtain⟨m1,⟨l1,l2,l3,l4,l5,l6⟩,ne,⟨c,ac,nc,gT,r⟩,⟨ca,sa,ga,gac⟩,⟨cn,sn,gn,gnc⟩⟩:=x;have:=m.next;have:=m1.next;exact⟨⟨by omega,λk hk2=>by rw[hk k (by omega) (by omega),m1.keep k (by omega),m.keep k hk2]⟩,⟨by omega,by omega,by omega,by omega,by omega,by omega⟩,ne,⟨c,ac,nc,(hk _ l4 (by omega)).trans gT,r⟩,⟨ca,sa,(hk _ l5 (by omega)).trans ga,gac⟩,⟨cn,sn,(hk _ l6 (by omega)).trans gn,gnc⟩⟩
include H in
theorem grow_gp{E:List AV}{f:FunD}(r:FunV h E f)(hb:f.blocks.length<=1000)(hb0:0<f.blocks.length)(hr:AllR f):GP tab 119 [.agg E] h λv h1=>∃tr aid nid vo vh,v=.ptr tr 0/\TrS h h1 tr aid nid f.blocks.length vo vh (numS f) (nrS f):=by
 have r0:=r;obtain⟨vp,vs,vi,vb,rfl,r1,r2,r3,r4,hn,hr2⟩:=r;have i0:zAb [.agg [sv f.name,vp,sv f.result,vs,vi,vb]]=zAa [.agg [sv f.name,vp,sv f.result,vs,vi,vb]]:=rfl;have mv:=r4.mv;have ln:=r4.len;have q1:=r1.same;have q2:=r2.same;have q3:=r3.same;have q4:=r4.same;have ne0:¬(f.blocks.length:Int)=((0:Nat):Int):=by omega
 have ldb:zAy 6 (.c (.ptr h.next 0)) .leaf [] (h.add (.cells (zAa [sv f.name,vp,sv f.result,vs,vi,vb]) 6 none false))=.val (.agg [sv f.name,vp,sv f.result,vs,vi,vb]) (h.add (.cells (zAa [sv f.name,vp,sv f.result,vs,vi,vb]) 6 none false)):=zAp (by rw[q2a,q1b]) rfl;refine GE.gp (zAi H.t119 rfl ?_) (E:=λ_ _=>False) λ_ _ x=>x;simp+decide(disch:=omega)only[RL,↓reduceIte,i0,ln,ldb,ne0];have hA:∃hA,hA=((h.add (AObj.cells (zAa [sv f.name,vp,sv f.result,vs,vi,vb]) 6 none false)).add (AObj.cells (zAa [AV.int IntKind.i64 (Int.negSucc 0)]) 1 none false)).add (AObj.cells (zAa [AV.int IntKind.i64 (Int.negSucc 0)]) 1 none false):=⟨_,rfl⟩;obtain⟨hA,eA⟩:=hA;rw[<-eA];have nA:hA.next=h.next+3:=by rw[eA];rfl
 have mA:More h hA:=by rw[eA];exact((q2g _ _).trans (q2g _ _)).trans (q2g _ _)
 have ga2:hA.mem.get (h.next+2)=some (.cells (zAa [iv (-1)]) 1 none false):=by rw[eA,q2a];exact q1b _ _ _
 have ga1:hA.mem.get (h.next+1)=some (.cells (zAa [iv (-1)]) 1 none false):=by
  rw[eA,q2a];refine(q1a _ _ _ _ (show h.next+2≠h.next+1 by omega)).trans ?_;rw[q2a];exact q1b _ _ _
 have ga0:hA.mem.get h.next=some (.cells (zAa [sv f.name,vp,sv f.result,vs,vi,vb]) 6 none false):=by
  rw[eA,q2a];refine(q1a _ _ _ _ (show h.next+2≠h.next by omega)).trans ?_;rw[q2a];refine(q1a _ _ _ _ (show h.next+1≠h.next by omega)).trans ?_;rw[q2a];exact q1b _ _ _
 clear eA ldb;refine(order_gp H (r0.more mA) hb hb0).to λvo h2 q=>?_;obtain⟨ao,m2⟩:=q;have gb2:h2.mem.get h.next=some (.cells (zAa [sv f.name,vp,sv f.result,vs,vi,vb]) 6 none false):=(m2.keep _ (by omega)).trans ga0;have ldb2:zAy 6 (.c (.ptr h.next 0)) .leaf [] h2=.val (.agg [sv f.name,vp,sv f.result,vs,vi,vb]) h2:=zAp gb2 rfl;simp+decide(disch:=omega)only[RL,↓reduceIte,gb2,ldb2,ln,q1,q2,q3,q4];refine(ahead_gp H (r0.more (mA.trans m2)) hb).to λvh h3 q=>?_;obtain⟨sh,m3⟩:=q;have gb3:h3.mem.get h.next=some (.cells (zAa [sv f.name,vp,sv f.result,vs,vi,vb]) 6 none false):=(m3.keep _ (by have:=m2.next;omega)).trans gb2;simp(disch:=omega)only[RL,gb3,ln,q4];have hn6:f.blocks.length<=1000000:=by omega
 have m23:=m2.trans m3;refine(rep_gp H (x:=-1) hn6 ((m23.keep _ (by omega)).trans ga1) (by have:=m23.next;omega)).to λva h4 q=>?_;obtain⟨aa,m4⟩:=q;have gb4:h4.mem.get h.next=some (.cells (zAa [sv f.name,vp,sv f.result,vs,vi,vb]) 6 none false):=(m4.keep _ (by have:=m23.next;omega)).trans gb3;have m24:=m23.trans m4;simp(disch:=omega)only[RL,gb4,ln,q4];refine(rep_gp H (x:=-1) hn6 ((m24.keep _ (by omega)).trans ga2) (by have:=m24.next;omega)).to λvn h5 q=>?_;obtain⟨an,m5⟩:=q;have mo:∀h',oMove (.c vo) .leaf [] h'=.val vo h':=λ_=>zAg ao.mv;have lo:∀h',oLen .sl (.c vo) .leaf [] h'=.val (.int .i64 ((zE7 f).length:Int)) h':=λ_=>by rw[ao.len,q0j]
 simp+decide(disch:=omega)only[RL,↓reduceIte,lo,ao.cells,aa.cells,an.cells,sh.cell];clear gb4 gb3 gb2 ldb2 mv ln q1 q2 q3 q4;obtain⟨horder,O,G⟩:=zK8 hb0 hr;have hol:=O.len;have hrep:(List.replicate f.blocks.length (iv (-1))).length=f.blocks.length:=q0q;have so2:SlV h2 1 IntR vo (zE7 f):=ao.slv λz hz=>by
  rw[horder] at hz;rcases List.mem_cons.mp hz with e | e
  ·subst e;exact⟨by decide,by decide⟩
  ·obtain⟨k,hk,rfl⟩:=List.mem_map.mp e;obtain⟨i,hi,rfl⟩:=q0y hk;have:=(O.at_ i hi).2;exact⟨by omega,by omega⟩
 obtain⟨aid,sa,ca,acap,rfl,fa,la,ga,-⟩:=aa.open (i:=0) (by omega);obtain⟨nid,sn,cn,ncap,rfl,fn,lnn,gn,-⟩:=an.open (i:=0) (by omega);have gca:=(aa.at ga).2;have gcn:=(an.at gn).2;rw[hrep] at gca gcn;rw[hrep];have n6:(h5.add (AObj.cells (zAa [vo,.sl aid 0 f.blocks.length acap,vh,.sl nid 0 f.blocks.length ncap]) 4 none false)).next=h5.next+1:=rfl;have g6:(h5.add (AObj.cells (zAa [vo,.sl aid 0 f.blocks.length acap,vh,.sl nid 0 f.blocks.length ncap]) 4 none false)).mem.get h5.next=some (.cells (zAa [vo,.sl aid 0 f.blocks.length acap,vh,.sl nid 0 f.blocks.length ncap]) 4 none false):=by rw[q2a,q1b]
 have m6:=q2g h5 (AObj.cells (zAa [vo,.sl aid 0 f.blocks.length acap,vh,.sl nid 0 f.blocks.length ncap]) 4 none false);generalize h5.add (AObj.cells (zAa [vo,.sl aid 0 f.blocks.length acap,vh,.sl nid 0 f.blocks.length ncap]) 4 none false)=h6 at *;have la5:aid<h5.next:=q0d la m5.next;have ga6:h6.mem.get aid=some (.cells ca sa none false):=(m6.keep _ la5).trans ((m5.keep _ la).trans ga);have gn6:h6.mem.get nid=some (.cells cn sn none false):=(m6.keep _ lnn).trans gn;have m36:More h3 h6:=(m4.trans m5).trans m6;have m26:More h2 h6:=m3.trans m36;have f3:h3.next<=aid:=fa;have f4:h4.next<=nid:=fn;have n34:=m4.next;have n45:=m5.next;have han:aid≠nid:=by omega
 have hordl:(zE7 f).length=f.blocks.length:=by rw[horder,q0P,q0j];exact hol
 have hnth:∀i (hi:i<(zE7 f).length),∃b:Nat,(zE7 f)[i]=(b:Int)/\b<f.blocks.length/\numS f b=i:=by
  intro i hi;have e:(zE7 f)[i]?=((0:Int)::(ordS f).map (λi:Nat=>(i:Int)))[i]?:=by rw[horder]
  rw[q0a hi] at e;cases i with
  | zero=>injection e with e;exact⟨0,e,hb0,G.zero⟩
  | succ k=>
   have hk:k<(ordS f).length:=by omega
   rw[List.getElem?_cons_succ,q0t,q0a hk] at e;injection e with e;exact⟨_,e,(O.at_ k hk).2,(O.at_ k hk).1⟩
 refine zAd (λm l d hc=>∃i c,m=f.blocks.length-i/\i<=f.blocks.length/\d=[]/\h6.next=hc.next/\(∀k,k≠aid->hc.mem.get k=h6.mem.get k)/\hc.mem.get aid=some (.cells c sa none false)/\(∀b,b<f.blocks.length->∃z,c.get b=some z/\(numS f b<i->z=iv (numS f b:Nat)))/\l.get 3=some (.ptr h5.next 0)/\l.get 4=some (.int .i64 (i:Int))/\l.get 5=some (.int .i64 ((zE7 f).length:Int))/\l.get 7=some vo) ?_ (f.blocks.length-0) ⟨0,ca,rfl,q0k _,rfl,rfl,λ_ _=>rfl,ga6,λb hb=>⟨_,by rw[gca b hb,q0z,if_pos hb],λh=>by omega⟩,rfl,rfl,rfl,rfl⟩;rintro m l d hc ⟨i,c,rfl,hi,rfl,nc,kc,gac,gcc,l3,l4,l5,l7⟩;by_cases hit:i<(zE7 f).length
 ·have mc:More h2 hc:=⟨by have:=m26.next;omega,λk hk=>(kc k (by have:=m3.next;omega)).trans (m26.keep k hk)⟩;haveI:MoreC h2 hc:=⟨mc⟩;obtain⟨id3,o3,E3,ix3,e3,⟨rfl,i643⟩,ld3,lw3⟩:=so2.at hit;obtain⟨b,eb,hbn,hnb⟩:=hnth i hit;have lw3:oLoad (.c (.ptr id3 o3)) .leaf [] hc=.val (.int .i64 (b:Int)) hc:=by have:=lw3 0 _ rfl hc;rwa [eb] at this
  have gT:=(kc h5.next (by omega)).trans g6;obtain⟨z,gz,-⟩:=gcc b hbn;simp+decide(disch:=omega)only[RL,↓reduceIte,l3,l4,l5,l7,hit,ix3,lw3,gT,gac,gz];refine⟨f.blocks.length-(i+1),by omega,i+1,_,rfl,by omega,nc,λk hk=>?_,rfl,λb' hb'=>?_,rfl⟩
  ·rw[if_neg (Ne.symm hk),kc k hk]
  ·by_cases e:b=b'
   ·subst e;exact⟨_,q1b _ _ _,λ_=>by rw[hnb]⟩
   ·obtain⟨z,gz,hz⟩:=gcc b' hb';exact⟨z,by rw[q1a _ _ _ _ e];exact gz,λh=>hz (by
     have:numS f b'≠i:=λe2=>e (G.inj _ _ hbn hb' (by rw[hnb,e2]));omega)⟩
 ·have gcc:∀b,b<f.blocks.length->c.get b=some (iv (numS f b:Nat)):=λb hb=>by
   obtain⟨z,gz,hz⟩:=gcc b hb;rw[gz,hz (by have:=G.lt b hb;omega)]
  have gT:=(kc h5.next (by omega)).trans g6;have gN:=(kc nid (Ne.symm han)).trans gn6;have hne0:cn.get 0=some (iv (-1)):=by rw[gcn 0 hb0,q0z,if_pos hb0]
  have x0:TrS h3 (hc.set nid (.cells (T.put (some (.int .i64 ((0:Nat):Int))) cn 0) sn none false)) h5.next aid nid f.blocks.length vo vh (numS f) nr0:=by
   refine⟨⟨by rw[q2b,<-nc];exact m36.next,λk hk=>by rw[q2c,q1a _ _ _ _ (by omega),kc k (by omega),m36.keep k hk]⟩,⟨by omega,f3,by omega,by rw[q2b];omega,by rw[q2b];omega,by rw[q2b];omega⟩,⟨by omega,by omega,han⟩,⟨_,acap,ncap,by rw[q2c,q1a _ _ _ _ (by omega)];exact gT,zAe _ _,zAe _ _,zAe _ _,zAe _ _⟩,⟨c,sa,by rw[q2c,q1a _ _ _ _ (Ne.symm han)];exact gac,gcc⟩,⟨_,sn,q2d,λb hb=>?_⟩⟩;by_cases e:b=0
   ·subst e;rw[q1b];rfl
   ·rw[q1a _ _ _ _ (Ne.symm e),gcn b hb,q0z,if_pos hb];unfold nr0;rw[if_neg e];rfl
  have mh3:More h h3:=mA.trans m23;have nohx:hA.next<=h2.next:=m2.next;simp+decide(disch:=omega)only[RL,↓reduceIte,l3,l4,l5,hit,gT,gN,hne0];generalize hc.set nid (AObj.cells (T.put (some (AV.int IntKind.i64 ((0:Nat):Int))) cn 0) sn none false)=h7 at *;refine zAd (λm l d hc=>∃k,m=nvals f.blocks.length (numS f) (zBs (ahS f) (ordS f) k)/\d=[]/\TrS h3 hc h5.next aid nid f.blocks.length vo vh (numS f) (zBs (ahS f) (ordS f) k)/\(f.blocks.length=1->hc=h7)/\l.get 3=some (.ptr h5.next 0)) ?_ _ ⟨0,rfl,rfl,x0,λ_=>rfl,by simp+decide(disch:=omega)only[RL,↓reduceIte,l3]⟩;clear x0 gT gN l3 gcc gac nc kc;rintro m l d hc ⟨k,rfl,rfl,x,h1n,l3⟩;simp(disch:=omega)only[RL,l3];have inv:=zIq G O k;by_cases hn1:f.blocks.length=1
  ·have ho0:ordS f=[]:=q0r (by omega);have hfix:zCs (ahS f) (ordS f) (zBs (ahS f) (ordS f) k)=zBs (ahS f) (ordS f) k:=by rw[ho0];rfl
   have hend:nrEnd (ahS f) (ordS f)=zBs (ahS f) (ordS f) k:=zLm ⟨k,rfl,hfix⟩;rw[<-hend] at x;obtain⟨oid,so,co,cap,rfl,foid,loid,goid,hcap⟩:=ao.one (by rw[q0j,hordl,hn1]);obtain⟨c,ac,nc,gT,c0,c1,c2,c3⟩:=x.tree;have hoid3:=q0d loid m3.next;refine(round1_gp H gT c0 ((x.more.keep _ hoid3).trans ((m3.keep _ loid).trans goid)) hcap).to λv h8 q=>?_;obtain⟨rfl,hn8,hk8⟩:=q;have x':=x.off mh3 hn8 hk8 (show h.next<=oid from by have:hA.next<=oid:=foid;omega) hoid3;obtain⟨c,ac,nc,gT,c0,c1,c2,c3⟩:=x'.tree;obtain⟨cn,sn,gn,gcn,x2⟩:=x'.put hb0 none;simp+decide(disch:=omega)only[RL,↓reduceIte,l3,gT,c3,gn,gcn];exact⟨_,_,_,_,_,rfl,x2⟩
  ·refine(round_gp H x (horder▸so2.more m3 λ_ _ h=>h) sh hb (by omega) (zD8 _) (λb hb=>ah_eq hb) (λb hb=>?_) G O inv).to λv h8 q=>?_
   ·unfold ahS rowOf;rw[q0j,q0e];cases e:(ledS f)[b]? with
    | none=>exact q0k _
    | some r=>have:=zHr _ r (q0L e);show r.length<=_;omega
   ·obtain⟨x',q,rfl,hq⟩:=q;cases q with
    | true=>
     simp+decide(disch:=omega)only[RL,↓reduceIte,l3];exact⟨_,(zI2 G O inv).2 (hq.mp rfl),k+1,rfl,x',λh=>(hn1 h).elim⟩
    | false=>
     have hfix:zCs (ahS f) (ordS f) (zBs (ahS f) (ordS f) k)=zBs (ahS f) (ordS f) k:=Classical.not_not.mp λh=>by have:=hq.mpr h;cases this
     have hend:nrEnd (ahS f) (ordS f)=zBs (ahS f) (ordS f) k:=zLm ⟨k,rfl,hfix⟩;rw[hfix,<-hend] at x';obtain⟨c,ac,nc,gT,c0,c1,c2,c3⟩:=x'.tree;obtain⟨cn,sn,gn,gcn,x2⟩:=x'.put hb0 none;simp+decide(disch:=omega)only[RL,↓reduceIte,l3,gT,c3,gn,gcn];exact⟨_,_,_,_,_,rfl,x2.base mh3⟩
end
def RowI(h:AH)(v:AV)(n:Nat)(g:Nat->Int):Prop:=∃id cap c s,v=.sl id 0 n cap/\id<h.next/\h.mem.get id=some (.cells c s none false)/\∀b,b<n->c.get b=some (iv (g b))
theorem RowI.more{h h':AH}{v:AV}{n:Nat}{g:Nat->Int}(x:RowI h v n g)(m:More h h'):RowI h' v n g:=by
 obtain⟨id,cap,c,s,e,hi,gg,hc⟩:=x;exact⟨id,cap,c,s,e,q0d hi m.next,(m.keep _ hi).trans gg,hc⟩
noncomputable def nearS(f:FunD)(b:Nat):Int:=encN (nrS f b)
theorem end_some{n:Nat}{num:Nat->Nat}{ah:Nat->List Nat}{ord:List Nat}(G:Gr n num ah)(O:NOrd n num ord):∀m k,nvals n num (zBs ah ord k)<=m->∃k',zCs ah ord (zBs ah ord k')=zBs ah ord k'
 | m,k,h=>by
  by_cases e:zCs ah ord (zBs ah ord k)=zBs ah ord k
  ·exact⟨k,e⟩
  ·have:=(zI2 G O (zIq G O k)).2 e;cases m with
   | zero=>omega
   | succ m=>exact end_some G O m (k+1) (by have:nvals n num (zBs ah ord (k+1))=nvals n num (zCs ah ord (zBs ah ord k)):=rfl;omega)
theorem near_ok{f:FunD}(hb0:0<f.blocks.length)(hr:AllR f){b:Nat}:nearS f b=-1\/∃u:Nat,nearS f b=u/\u<f.blocks.length/\numS f u<numS f b:=by
 obtain⟨-,O,G⟩:=zK8 hb0 hr;obtain⟨k,hk⟩:=end_some G O _ 0 (q0c _);have he:nrEnd (ahS f) (ordS f)=zBs (ahS f) (ordS f) k:=zLm ⟨k,rfl,hk⟩;have V:=(zIq G O k).V;unfold nearS nrS upO;by_cases h0:b=0
 ·rw[if_pos h0];exact .inl rfl
 ·rw[if_neg h0,he];cases e:zBs (ahS f) (ordS f) k b with
  | none=>exact .inl rfl
  | some u=>exact .inr ⟨u,rfl,(V.lt _ _ e).2.1,V.sink _ _ e h0⟩
def domN(g:Nat->Int)(a:Int):Nat->Int->Bool
 | 0,b=>decide (a=b)
 | k+1,b=>if b=-1\/b=a then decide (a=b) else domN g a k (g b.toNat)
section
variable{tab:Nat->Option AFunc}{h:AH}(H:PV tab)
include H in
theorem nearest_gp{E:List AV}{f:FunD}(r:FunV h E f)(hb:f.blocks.length<=1000)(hb0:0<f.blocks.length)(hr:AllR f):GP tab 71 [.agg E] h λv h1=>RowI h1 v f.blocks.length (nearS f)/\More h h1/\∀id o l c,v=.sl id o l c->h.next<=id:=by
 have r0:=r;obtain⟨vp,vs,vi,vb,rfl,r1,r2,r3,r4,hn,hr2⟩:=r;have i0:zAb [.agg [sv f.name,vp,sv f.result,vs,vi,vb]]=zAa [.agg [sv f.name,vp,sv f.result,vs,vi,vb]]:=rfl;have M:=q2g h (.cells (zAa [sv f.name,vp,sv f.result,vs,vi,vb]) 6 none false);have ldb:zAy 6 (.c (.ptr h.next 0)) .leaf [] (h.add (.cells (zAa [sv f.name,vp,sv f.result,vs,vi,vb]) 6 none false))=.val (.agg [sv f.name,vp,sv f.result,vs,vi,vb]) (h.add (.cells (zAa [sv f.name,vp,sv f.result,vs,vi,vb]) 6 none false)):=zAp (by rw[q2a,q1b]) rfl;refine GE.gp (zAi H.t71 rfl ?_) (E:=λ_ _=>False) λ_ _ x=>x;simp+decide only[RL,↓reduceIte,i0,ldb];refine(grow_gp H (r0.more M) hb hb0 hr).to λw h2 q=>?_;obtain⟨tr,aid,nid,vo,vh,rfl,x⟩:=q;obtain⟨c,ac,nc,gT,c0,c1,c2,c3⟩:=x.tree;obtain⟨cn,sn,gn,gnc⟩:=x.near;simp only[RL,↓reduceIte,gT,c3];exact⟨⟨nid,nc,cn,sn,rfl,x.lo.2.2.2.2.2,gn,gnc⟩,M.trans x.more,λid o l c e=>by injection e with e;subst e;exact q0m (q0w _) x.lo.2.2.1⟩
end
def CkB(h:AH)(C:Nat)(p:ProgD)(f:FunD)(c:T AV):Prop:=∃vs vg vf n vp r vl vi vb,h.mem.get C=some (.cells c 13 none false)/\C<h.next/\c.get 0=some vs/\c.get 1=some vg/\c.get 2=some vf/\c.get 3=some n/\c.get 4=some vp/\c.get 5=some r/\c.get 6=some vl/\c.get 7=some vi/\c.get 8=some vb/\n=sv f.name/\r=sv f.result/\
 SlV h 2 (StructV h) vs p.structs/\SlV h 2 zDg vg p.globals/\SlV h 6 (FunV h) vf p.funs/\SlV h 1 StrR vp f.params/\SlV h 1 StrR vl f.slots/\SlV h 5 (InsV h) vi f.ins/\SlV h 5 (BlkV h) vb f.blocks/\f.name.length<=maxLen/\f.result.length<=maxLen
def CkV(h:AH)(C:Nat)(p:ProgD)(f:FunD)(wh ix:Nat->Int):Prop:=∃c vw vx va vn,CkB h C p f c/\c.get 9=some vw/\c.get 10=some vx/\c.get 11=some va/\c.get 12=some vn/\(0<f.ins.length->RowI h vw f.ins.length wh/\RowI h vx f.ins.length ix)/\SlV h 1 (λE xs=>∃w,E=[w]/\SlV h 1 IntR w xs) va (ledS f)/\RowI h vn f.blocks.length (nearS f)
theorem CkB.more{h h':AH}{C:Nat}{p:ProgD}{f:FunD}{c:T AV}(x:CkB h C p f c)(m:More h h'):CkB h' C p f c:=by
 obtain⟨vs,vg,vf,n,vp,r,vl,vi,vb,g,hC,g0,g1,g2,g3,g4,g5,g6,g7,g8,en,er,s1,s2,s3,s4,s5,s6,s7,k1,k2⟩:=x;exact⟨vs,vg,vf,n,vp,r,vl,vi,vb,(m.keep _ hC).trans g,q0d hC m.next,g0,g1,g2,g3,g4,g5,g6,g7,g8,en,er,s1.more m λ_ _ r=>r.more m,s2.more m λ_ _ r=>r,s3.more m λ_ _ r=>r.more m,s4.more m λ_ _ r=>r,s5.more m λ_ _ r=>r,s6.more m λ_ _ r=>r.more m,s7.more m λ_ _ r=>r.more m,k1,k2⟩
theorem CkV.more{h h':AH}{C:Nat}{p:ProgD}{f:FunD}{wh ix:Nat->Int}(x:CkV h C p f wh ix)(m:More h h'):CkV h' C p f wh ix:=by
 obtain⟨c,vw,vx,va,vn,b,g9,g10,g11,g12,w,a,n⟩:=x;exact⟨c,vw,vx,va,vn,b.more m,g9,g10,g11,g12,λh0=>⟨(w h0).1.more m,(w h0).2.more m⟩,a.more m λ_ _ ⟨w,e,s⟩=>⟨w,e,s.more m λ_ _ r=>r⟩,n.more m⟩
section
variable{tab:Nat->Option AFunc}{h:AH}(H:PV tab)
include H in
theorem isBlock_gp{C:Nat}{p:ProgD}{f:FunD}{c:T AV}(x:CkB h C p f c){i:Int}:GP tab 153 [.ptr C 0,.int .i64 i] h λv h1=>v=.bool (decide (0<i)&&decide (i<(f.blocks.length:Int)))/\h1=h:=by
 obtain⟨vs,vg,vf,n,vp,r,vl,vi,vb,g,hC,g0,g1,g2,g3,g4,g5,g6,g7,g8,en,er,s1,s2,s3,s4,s5,s6,s7,k1,k2⟩:=x;have i0:zAb [.ptr C 0,.int .i64 i]=zAa [.ptr C 0,.int .i64 i]:=rfl;have ln:=s7.len;have mv:=s7.mv;refine GE.gp (zAi H.t153 rfl ?_) (E:=λ_ _=>False) λ_ _ x=>x;by_cases h0:((0:Nat):Int)<i
 ·have e0:0<i:=h0;simp+decide only[RL,↓reduceIte,i0,g,g8,ln,h0,e0,q0E]
 ·have e0:¬0<i:=h0;simp only[RL,↓reduceIte,i0,h0,e0,q0D]
include H in
theorem dominates_gp{C:Nat}{p:ProgD}{f:FunD}{wh ix:Nat->Int}(x:CkV h C p f wh ix)(hb0:0<f.blocks.length)(hr:AllR f){a:Int}{b:Nat}(hb:b<f.blocks.length):GP tab 158 [.ptr C 0,.int .i64 a,.int .i64 (b:Int)] h λv h1=>v=.bool (domN (nearS f) a f.blocks.length b)/\h1=h:=by
 obtain⟨c,vw,vx,va,vn,B,g9,g10,g11,g12,-,-,id,cap,cn,sn,rfl,hid,gn,gcn⟩:=x;obtain⟨vs,vg,vf,n,vp,r,vl,vi,vb,g,hC,-⟩:=B;have i0:zAb [.ptr C 0,.int .i64 a,.int .i64 (b:Int)]=zAa [.ptr C 0,.int .i64 a,.int .i64 (b:Int)]:=rfl;obtain⟨-,-,G⟩:=zK8 hb0 hr;refine GE.gp (zAi H.t158 rfl ?_) (E:=λ_ _=>False) λ_ _ x=>x;simp(disch:=omega)only[RL,i0];refine zAd (λm l d h1=>∃(k:Nat) (z:Int),m=k/\d=[]/\h1=h/\(z=-1\/∃y:Nat,z=y/\y<f.blocks.length/\numS f y<k)/\domN (nearS f) a k z=domN (nearS f) a f.blocks.length b/\l.get 0=some (.ptr C 0)/\l.get 1=some (.int .i64 a)/\l.get 2=some (.int .i64 z)) ?_ f.blocks.length ⟨f.blocks.length,(b:Int),rfl,rfl,rfl,.inr ⟨b,rfl,hb,G.lt b hb⟩,rfl,rfl,rfl,rfl⟩;rintro m l d h1 ⟨k,z,rfl,rfl,rfl,hz,hd,l0,l1,l2⟩;have fin:(z=-1\/z=a)->domN (nearS f) a m z=decide (a=z):=λh=>by
  cases m with
  | zero=>rfl
  | succ k=>exact if_pos h
 by_cases z1:z=-1
 ·rw[fin (.inl z1)] at hd;rw[<-hd];simp+decide(disch:=omega)only[RL,↓reduceIte,l0,l1,l2,z1,neg1]
 ·by_cases z2:z=a
  ·rw[fin (.inr z2)] at hd;rw[<-hd];subst z2;simp+decide(disch:=omega)only[RL,↓reduceIte,l0,l1,l2,z1,neg1]
  ·obtain⟨y,rfl,hy,hk⟩:=hz.resolve_left z1;have ld:=gcn y hy;simp+decide(disch:=omega)only[RL,↓reduceIte,l0,l1,l2,z1,z2,neg1,g,g12,gn,ld];cases m with
   | zero=>omega
   | succ k=>
    refine⟨k,q0h k,k,nearS f y,rfl,?_,?_,rfl⟩
    ·rcases near_ok hb0 hr (b:=y) with e | ⟨u,e,hu,hl⟩
     ·exact .inl e
     ·exact .inr ⟨u,e,hu,by omega⟩
    ·rw[<-hd];show _=if _ then _ else _;rw[if_neg (λh=>h.elim z1 z2),q0n]
end
noncomputable def aheadB(f:FunD)(wh ix:Nat->Int)(v:Nat)(b:Nat)(at_:Int):Bool:=if wh v=b then decide (ix v<at_) else domN (nearS f) (wh v) f.blocks.length b
noncomputable def typS(f:FunD)(wh ix:Nat->Int)(z:Int)(b:Nat)(at_:Int):Str:=if 0<=z then match f.ins[z.toNat]? with
 | some x=>if wh z.toNat≠-1/\aheadB f wh ix z.toNat b at_=true then x.typ else[]
 | none=>[] else[]
noncomputable def endS(f:FunD)(wh ix:Nat->Int)(z:Int)(b:Nat):Str:=typS f wh ix z b (match f.blocks[b]? with | some x=>(x.list.length:Int) | none=>0)
section
variable{tab:Nat->Option AFunc}{h:AH}(H:PV tab)
include H in
theorem typ_gp{C:Nat}{p:ProgD}{f:FunD}{wh ix:Nat->Int}(x:CkV h C p f wh ix)(hb0:0<f.blocks.length)(hr:AllR f){z at_:Int}{b:Nat}(hb:b<f.blocks.length):GP tab 124 [.ptr C 0,.int .i64 z,.int .i64 (b:Int),.int .i64 at_] h λv h1=>v=sv (typS f wh ix z b at_)/\h1=h:=by
 have dm:∀{a:Int} {R E:AV->AH->Prop},GE tab 158 [.ptr C 0,.int .i64 a,.int .i64 (b:Int)] h R E=R (.bool (domN (nearS f) a f.blocks.length b)) h:=ge_rw (dominates_gp H x hb0 hr hb);obtain⟨c,vw,vx,va,vn,B,g9,g10,g11,g12,rows,-,-⟩:=x;obtain⟨vs,vg,vf,n,vp,r,vl,vi,vb,g,hC,g0,g1,g2,g3,g4,g5,g6,g7,g8,en,er,s1,s2,s3,s4,s5,s6,s7,k1,k2⟩:=B;have i0:zAb [.ptr C 0,.int .i64 z,.int .i64 (b:Int),.int .i64 at_]=zAa [.ptr C 0,.int .i64 z,.int .i64 (b:Int),.int .i64 at_]:=rfl;have ln:=s6.len;have mv:=s6.mv;refine GE.gp (zAi H.t124 rfl ?_) (E:=λ_ _=>False) λ_ _ x=>x;unfold typS;by_cases z0:z<((0:Nat):Int)
 ·have e0:¬0<=z:=by omega
  rw[if_neg e0];simp+decide(disch:=omega)only[RL,↓reduceIte,i0,z0]
 have e0:0<=z:=by omega
 rw[if_pos e0];obtain⟨y,rfl⟩:∃y:Nat,z=y:=⟨z.toNat,by omega⟩;rw[q0n];by_cases z1:(f.ins.length:Int)<=(y:Int)
 ·rw[q0i (by omega)];simp+decide(disch:=omega)only[RL,↓reduceIte,i0,z0,g,g7,ln,z1]
 have hy:y<f.ins.length:=by omega
 rw[q0a hy];obtain⟨⟨wid,wcap,cw,sw,rfl,hwid,gw,gcw⟩,⟨xid,xcap,cx,sx,rfl,hxid,gx,gcx⟩⟩:=rows (by omega);have pw:=gcw y hy;have px:=gcx y hy;by_cases w1:wh y=-1
 ·rw[w1] at pw;have pw:cw.get y=some (.int .i64 (-1)):=pw;simp+decide(disch:=omega)only[RL,↓reduceIte,i0,z0,g,g7,g9,ln,z1,gw,pw,neg1];simp[w1]
 obtain⟨id,o,E,jx,e1,⟨vaa,rfl,sa,j0,j1,j2,j3⟩,ld,lw⟩:=s6.at hy;have lw1:oLoad (.c (.ptr id (o+1))) .leaf [] h=.val (sv f.ins[y].typ) h:=lw 1 _ rfl h;by_cases w2:wh y=(b:Int)
 ·have w3:¬(b:Int)=-1:=by omega
  have pw:cw.get y=some (.int .i64 (b:Int)):=by rw[<-w2];exact pw
  by_cases w4:ix y<at_
  ·simp+decide(disch:=omega)only[RL,↓reduceIte,i0,z0,g,g7,g9,g10,ln,z1,gw,pw,gx,px,neg1,w3,w4,jx,lw1];unfold aheadB;simp[w2,w3,w4]
  ·simp+decide(disch:=omega)only[RL,↓reduceIte,i0,z0,g,g7,g9,g10,ln,z1,gw,pw,gx,px,neg1,w3,w4];unfold aheadB;simp[w2,w3,w4]
 ·have w3:wh y≠-1:=w1;cases hd:domN (nearS f) (wh y) f.blocks.length b with
  | true=>
   simp+decide(disch:=omega)only[RL,↓reduceIte,i0,z0,g,g7,g9,ln,z1,gw,pw,neg1,w1,w2,dm,hd,jx,lw1];unfold aheadB;simp[w1,w2,hd]
  | false=>
   simp+decide(disch:=omega)only[RL,↓reduceIte,i0,z0,g,g7,g9,ln,z1,gw,pw,neg1,w1,w2,dm,hd];unfold aheadB;simp[w1,w2,hd]
include H in
theorem end_gp{C:Nat}{p:ProgD}{f:FunD}{wh ix:Nat->Int}(x:CkV h C p f wh ix)(hb0:0<f.blocks.length)(hr:AllR f){z:Int}{b:Nat}(hb:b<f.blocks.length):GP tab 127 [.ptr C 0,.int .i64 z,.int .i64 (b:Int)] h λv h1=>v=sv (endS f wh ix z b)/\h1=h:=by
 have ty:∀{a:Int} {R E:AV->AH->Prop},GE tab 124 [.ptr C 0,.int .i64 z,.int .i64 (b:Int),.int .i64 a] h R E=R (sv (typS f wh ix z b a)) h:=ge_rw (typ_gp H x hb0 hr hb);obtain⟨c,vw,vx,va,vn,B,-⟩:=x;obtain⟨vs,vg,vf,n,vp,r,vl,vi,vb,g,hC,g0,g1,g2,g3,g4,g5,g6,g7,g8,en,er,s1,s2,s3,s4,s5,s6,s7,k1,k2⟩:=B;have i0:zAb [.ptr C 0,.int .i64 z,.int .i64 (b:Int)]=zAa [.ptr C 0,.int .i64 z,.int .i64 (b:Int)]:=rfl;obtain⟨id,o,E,jx,e1,⟨vli,rfl,sl,j0,j1,j2,j3⟩,ld,lw⟩:=s7.at hb;have lw1:oLoad (.c (.ptr id o)) .leaf [] h=.val vli h:=lw 0 _ rfl h;have ln:=sl.len;have ml:=sl.mv;have mv:=s7.mv;refine GE.gp (zAi H.t127 rfl ?_) (E:=λ_ _=>False) λ_ _ x=>x;unfold endS;rw[q0a hb];simp+decide only[RL,↓reduceIte,i0,g,g8,jx,lw1,ln,ty]
end
def atS(l:List Str)(i:Int):Str:=if 0<=i then l.getD i.toNat [] else[]
def zDa(p:ProgD)(i:Int):Str:=if 0<=i then(match p.globals[i.toNat]? with | some g=>g.typ | none=>[]) else[]
def zKx(p:ProgD)(t:Str)(i:Int):Str:=match elemS t with
 | some n=>(match findS p.structs n with
  | some k=>(match p.structs[k]? with
   | some s=>if 0<=i then(match s.fields[i.toNat]? with | some g=>g.typ | none=>[]) else[]
   | none=>[])
  | none=>[])
 | none=>[]
section
variable{tab:Nat->Option AFunc}{h:AH}(H:PV tab)
include H in
theorem at_gp{v:AV}{l:List Str}(a:SlV h 1 StrR v l){i:Int}:GP tab 163 [v,.int .i64 i] h λw h1=>w=sv (atS l i)/\h1=h:=by
 have i0:zAb [v,.int .i64 i]=zAa [v,.int .i64 i]:=rfl;have ln:=a.len;have mv:=a.mv;refine GE.gp (zAi H.t163 rfl ?_) (E:=λ_ _=>False) λ_ _ x=>x;unfold atS;by_cases z0:i<((0:Nat):Int)
 ·have e0:¬0<=i:=by omega
  rw[if_neg e0];simp+decide only[RL,↓reduceIte,i0,z0]
 have e0:0<=i:=by omega
 rw[if_pos e0];obtain⟨y,rfl⟩:∃y:Nat,i=y:=⟨i.toNat,by omega⟩;rw[q0n,q0e];by_cases z1:(l.length:Int)<=(y:Int)
 ·rw[q0i (by omega)];simp+decide only[RL,↓reduceIte,i0,z0,ln,mv,z1]
 have hy:y<l.length:=by omega
 rw[q0a hy];obtain⟨id,o,E,jx,e1,⟨rfl,hl⟩,ld,lw⟩:=a.at hy;have lw1:oLoad (.c (.ptr id o)) .leaf [] h=.val (sv l[y]) h:=lw 0 _ rfl h;simp+decide only[RL,↓reduceIte,i0,z0,ln,mv,z1,jx,lw1]
include H in
theorem global_gp{C:Nat}{p:ProgD}{f:FunD}{c:T AV}(x:CkB h C p f c){i:Int}:GP tab 164 [.ptr C 0,.int .i64 i] h λw h1=>w=sv (zDa p i)/\h1=h:=by
 obtain⟨vs,vg,vf,n,vp,r,vl,vi,vb,g,hC,g0,g1,g2,g3,g4,g5,g6,g7,g8,en,er,s1,s2,s3,s4,s5,s6,s7,k1,k2⟩:=x;have i0:zAb [.ptr C 0,.int .i64 i]=zAa [.ptr C 0,.int .i64 i]:=rfl;have ln:=s2.len;have mv:=s2.mv;refine GE.gp (zAi H.t164 rfl ?_) (E:=λ_ _=>False) λ_ _ x=>x;unfold zDa;by_cases z0:i<((0:Nat):Int)
 ·have e0:¬0<=i:=by omega
  rw[if_neg e0];simp+decide only[RL,↓reduceIte,i0,z0]
 have e0:0<=i:=by omega
 rw[if_pos e0];obtain⟨y,rfl⟩:∃y:Nat,i=y:=⟨i.toNat,by omega⟩;rw[q0n];by_cases z1:(p.globals.length:Int)<=(y:Int)
 ·rw[q0i (by omega)];simp+decide only[RL,↓reduceIte,i0,z0,g,g1,ln,z1]
 have hy:y<p.globals.length:=by omega
 rw[q0a hy];obtain⟨id,o,E,jx,e1,⟨rfl,hl⟩,ld,lw⟩:=s2.at hy;have lw1:oLoad (.c (.ptr id (o+1))) .leaf [] h=.val (sv p.globals[y].typ) h:=lw 1 _ rfl h;simp+decide only[RL,↓reduceIte,i0,z0,g,g1,ln,z1,jx,lw1]
include H in
theorem fieldT_gp{C:Nat}{p:ProgD}{f:FunD}{c:T AV}(x:CkB h C p f c){t:Str}(ht:t.length<=maxLen){i:Int}:GP tab 161 [.ptr C 0,sv t,.int .i64 i] h λw h1=>w=sv (zKx p t i)/\More h h1:=by
 obtain⟨vs,vg,vf,n,vp,r,vl,vi,vb,g,hC,g0,g1,g2,g3,g4,g5,g6,g7,g8,en,er,s1,s2,s3,s4,s5,s6,s7,k1,k2⟩:=x;have i0:zAb [.ptr C 0,sv t,.int .i64 i]=zAa [.ptr C 0,sv t,.int .i64 i]:=rfl;have mv:=s1.mv;refine GE.gp (zAi H.t161 rfl ?_) (E:=λ_ _=>False) λ_ _ x=>x;simp+decide only[RL,↓reduceIte,i0];refine(elem_gp H ht).to λw h2 q=>?_;obtain⟨rfl,m2⟩:=q;have gC2:=(m2.keep _ hC).trans g;simp+decide only[RL,↓reduceIte,gC2,g0];refine(zLy H (s1.more m2 λ_ _ x=>x)).to λw h3 q=>?_;obtain⟨rfl,m3⟩:=q;have gC3:=(m3.keep _ (q0d hC m2.next)).trans gC2;have m23:=m2.trans m3;unfold zKx;have m23':=eq_true m23;cases he:elemS t with
 | none=>simp+decide only[RL,↓reduceIte,q0M,m23']
 | some n=>
  cases hf:findS p.structs n with
  | none=>simp+decide only[RL,↓reduceIte,q0J,q0M,hf,m23']
  | some k=>
   have hk:k<p.structs.length:=(List.findIdx?_eq_some_iff_getElem.mp hf).1;haveI:MoreC h h3:=⟨m23⟩;obtain⟨id,o,E,jx,e1,⟨vfl,rfl,sf,hnl⟩,ld,lw⟩:=s1.at hk;have lw1:oLoad (.c (.ptr id (o+1))) .leaf [] h3=.val vfl h3:=lw 1 _ rfl h3;have lf:=sf.len;have mf:=sf.mv;have es:p.structs[k]?=some p.structs[k]:=q0a hk;by_cases z0:i<((0:Nat):Int)
   ·have e0:¬0<=i:=by omega
    simp+decide only[RL,↓reduceIte,q0J,hf,es,z0,e0,m23']
   have e0:0<=i:=by omega
   obtain⟨y,rfl⟩:∃y:Nat,i=y:=⟨i.toNat,by omega⟩;by_cases z1:(p.structs[k].fields.length:Int)<=(y:Int)
   ·have en:p.structs[k].fields[((y:Int)).toNat]?=none:=q0i (by rw[q0n];omega);simp+decide only[RL,↓reduceIte,q0J,hf,es,z0,e0,gC3,g0,jx,lw1,lf,z1,en,m23']
   have hy:y<p.structs[k].fields.length:=by omega
   have en:p.structs[k].fields[((y:Int)).toNat]?=some p.structs[k].fields[y]:=by rw[q0n];exact q0a hy
   obtain⟨id2,o2,E2,jx2,e2,⟨rfl,hl2⟩,ld2,lw2⟩:=sf.at hy;have lw3:oLoad (.c (.ptr id2 (o2+1))) .leaf [] h3=.val (sv p.structs[k].fields[y].typ) h3:=lw2 1 _ rfl h3;simp+decide only[RL,↓reduceIte,q0J,hf,es,z0,e0,gC3,g0,jx,lw1,lf,z1,en,jx2,lw3,m23']
end
section
variable{tab:Nat->Option AFunc}{h:AH}(H:PV tab)
include H in
theorem eqStrs_gp{v w:AV}{xs ys:List Str}(a:SlV h 1 StrR v xs)(b:SlV h 1 StrR w ys):GP tab 187 [v,w] h λu h1=>u=.bool (decide (xs=ys))/\h1=h:=by
 have i0:zAb [v,w]=zAa [v,w]:=rfl;have la:=a.len;have lb:=b.len;have ma:=a.mv;have mb:=b.mv;have hba:=a.bound;unfold maxLen at hba;refine GE.gp (zAi H.t187 rfl ?_) (E:=λ_ _=>False) λ_ _ x=>x;by_cases hl:xs.length=ys.length
 ·have hl':(xs.length:Int)=(ys.length:Int):=by omega
  simp+decide(disch:=omega)only[RL,↓reduceIte,i0,la,lb,ma,mb,hl'];refine zAd (λm l d h1=>∃k,m=xs.length-k/\k<=xs.length/\d=[]/\h1=h/\(∀i,i<k->xs[i]?=ys[i]?)/\l.get 0=some v/\l.get 1=some w/\l.get 3=some (.int .i64 (k:Int))/\l.get 4=some (.int .i64 (ys.length:Int))) ?_ (xs.length-0) ⟨0,rfl,q0k _,rfl,rfl,λi hi=>by omega,rfl,rfl,rfl,rfl⟩;rintro m l d h1 ⟨k,rfl,hk,rfl,rfl,hall,l0,l1,l3,l4⟩;by_cases hlt:k<ys.length
  ·obtain⟨id,o,E,ix,e1,⟨rfl,_⟩,ld,lw⟩:=a.at (show k<xs.length by omega);obtain⟨id2,o2,E2,ix2,e2,⟨rfl,_⟩,ld2,lw2⟩:=b.at hlt;have lw:oLoad (.c (.ptr id o)) .leaf [] h1=.val (sv xs[k]) h1:=lw 0 _ rfl h1;have lw2:oLoad (.c (.ptr id2 o2)) .leaf [] h1=.val (sv ys[k]) h1:=lw2 0 _ rfl h1;by_cases e:xs[k]=ys[k]
   ·simp+decide(disch:=omega)only[RL,↓reduceIte,l0,l1,l3,l4,hlt,ma,mb,ix,ix2,lw,lw2,e];refine⟨xs.length-(k+1),by omega,k+1,rfl,by omega,λi hi=>?_,rfl⟩;by_cases h:i=k
    ·subst h;rw[q0a (by omega),q0a hlt,e]
    ·exact hall i (by omega)
   ·have ne:¬xs=ys:=λh=>e (by subst h;rfl);simp+decide(disch:=omega)only[RL,↓reduceIte,l0,l1,l3,l4,hlt,ma,mb,ix,ix2,lw,lw2,e,ne]
  ·have eq:xs=ys:=by
    refine List.ext_getElem? λi=>?_;by_cases h:i<xs.length
    ·exact hall i (by omega)
    ·rw[q0i (by omega),q0i (by omega)]
   simp+decide(disch:=omega)only[RL,↓reduceIte,l0,l3,l4,hlt,eq]
 ·have hl':¬(xs.length:Int)=(ys.length:Int):=by omega
  have ne:¬xs=ys:=λh=>hl (by rw[h]);simp+decide(disch:=omega)only[RL,↓reduceIte,i0,la,lb,ma,mb,hl',ne]
def isS(x:InsD)(t:Str)(args want:List Str):Bool:=decide (x.typ=t)&&decide (args=want)
include H in
theorem is_gp{E:List AV}{x:InsD}{t:Str}{va vw:AV}{args want:List Str}{h0:AH}(r:InsV h0 E x)(a:SlV h 1 StrR va args)(b:SlV h 1 StrR vw want):GP tab 162 [.agg E,sv t,va,vw] h λu h1=>u=.bool (isS x t args want)/\More h h1:=by
 obtain⟨vx,rfl,sx,j0,j1,j2,j3⟩:=r;have i0:zAb [.agg [.int .i64 x.op,sv x.typ,vx,.int .i64 x.n,sv x.name],sv t,va,vw]=zAa [.agg [.int .i64 x.op,sv x.typ,vx,.int .i64 x.n,sv x.name],sv t,va,vw]:=rfl;have ma:=a.mv;have mb:=b.mv;have M:=q2g h (.cells (zAa [.int .i64 x.op,sv x.typ,vx,.int .i64 x.n,sv x.name]) 5 none false);have e1:∀{R E:AV->AH->Prop},GE tab 187 [va,vw] (h.add (.cells (zAa [.int .i64 x.op,sv x.typ,vx,.int .i64 x.n,sv x.name]) 5 none false)) R E=R (.bool (decide (args=want))) (h.add (.cells (zAa [.int .i64 x.op,sv x.typ,vx,.int .i64 x.n,sv x.name]) 5 none false)):=ge_rw (eqStrs_gp H (a.more M λ_ _ r=>r) (b.more M λ_ _ r=>r));refine GE.gp (zAi H.t162 rfl ?_) (E:=λ_ _=>False) λ_ _ x=>x;unfold isS;by_cases h1:x.typ=t
 ·subst h1;simp+decide only[RL,↓reduceIte,i0,ma,mb,e1,q0E,moreT]
 ·have h1':¬t=x.typ:=λe=>h1 e.symm;simp+decide only[RL,↓reduceIte,i0,h1,q0D,moreT]
def reckS(x:InsD)(args:List Str):Bool:=if x.op=11\/x.op=12 then decide (x.typ=tBool)&&decide (args[0]?=args[1]?) else if 13<=x.op/\x.op<=16 then isS x tBool args [tInt,tInt] else if x.op=18 then isS x tBool args [tBool] else if x.op=17 then isS x tInt args [tInt] else isS x tInt args [tInt,tInt]
include H in
theorem reck_gp{E:List AV}{x:InsD}{va:AV}{args:List Str}{h0:AH}(r:InsV h0 E x)(a:SlV h 1 StrR va args)(hl:x.op=11\/x.op=12->args.length=2):GP tab 160 [.agg E,va] h λu h1=>u=.bool (reckS x args)/\More h h1:=by
 obtain⟨op,typ,xa,nn,name⟩:=x;have r0:=r;obtain⟨vx,rfl,sx,j0,j1,j2,j3⟩:=r;dsimp only at *;have i0:zAb [.agg [.int .i64 op,sv typ,vx,.int .i64 nn,sv name],va]=zAa [.agg [.int .i64 op,sv typ,vx,.int .i64 nn,sv name],va]:=rfl;have ma:=a.mv;have lit2:∀(h':AH) (s t:Str),s.length<=maxLen->t.length<=maxLen->SlV (h'.add (.cells (zAa [sv s,sv t]) 2 none false)) 1 StrR (.sl h'.next 0 2 (.known 2)) [s,t]:=λh' s t hs ht=>.inr ⟨h'.next,0,.known 2,2,_,none,false,rfl,q0c _,by rw[q2a,q1b],q0h _,by simp[zBq],λi hi=>by
  rcases i with _ | _ | i
  ·exact⟨[sv s],rfl,⟨rfl,hs⟩,rfl⟩
  ·exact⟨[sv t],rfl,⟨rfl,ht⟩,rfl⟩
  ·simp at hi;omega⟩
 have lit1:∀(h':AH) (s:Str),s.length<=maxLen->SlV (h'.add (.cells (zAa [sv s]) 1 none false)) 1 StrR (.sl h'.next 0 1 (.known 1)) [s]:=λh' s hs=>.inr ⟨h'.next,0,.known 1,1,_,none,false,rfl,q0c _,by rw[q2a,q1b],q0h _,by simp[zBq],λi hi=>by
  rcases i with _ | i
  ·exact⟨[sv s],rfl,⟨rfl,hs⟩,rfl⟩
  ·simp at hi⟩
 have M:=q2g h (.cells (zAa [.int .i64 op,sv typ,vx,.int .i64 nn,sv name]) 5 none false);have ld:zAy 5 (.c (.ptr h.next 0)) .leaf [] (h.add (.cells (zAa [.int .i64 op,sv typ,vx,.int .i64 nn,sv name]) 5 none false))=.val (.agg [.int .i64 op,sv typ,vx,.int .i64 nn,sv name]) _:=zAp (by rw[q2a,q1b]) rfl;have q2:∀{t:Str} {R E:AV->AH->Prop},GE tab 162 [.agg [.int .i64 op,sv typ,vx,.int .i64 nn,sv name],sv t,va,.sl (h.next+1) 0 2 (.known 2)] ((h.add (.cells (zAa [.int .i64 op,sv typ,vx,.int .i64 nn,sv name]) 5 none false)).add (.cells (zAa [sv tInt,sv tInt]) 2 none false)) R E=R (.bool (isS ⟨op,typ,xa,nn,name⟩ t args [tInt,tInt])) _:=ge_nh (is_gp H r0 (a.more (M.trans (q2g _ _)) λ_ _ r=>r) (lit2 _ tInt tInt (by decide) (by decide)));have q1:∀{t:Str} {R E:AV->AH->Prop},GE tab 162 [.agg [.int .i64 op,sv typ,vx,.int .i64 nn,sv name],sv t,va,.sl (h.next+1) 0 1 (.known 1)] ((h.add (.cells (zAa [.int .i64 op,sv typ,vx,.int .i64 nn,sv name]) 5 none false)).add (.cells (zAa [sv tInt]) 1 none false)) R E=R (.bool (isS ⟨op,typ,xa,nn,name⟩ t args [tInt])) _:=ge_nh (is_gp H r0 (a.more (M.trans (q2g _ _)) λ_ _ r=>r) (lit1 _ tInt (by decide)));have q3:∀{t:Str} {R E:AV->AH->Prop},GE tab 162 [.agg [.int .i64 op,sv typ,vx,.int .i64 nn,sv name],sv t,va,.sl (h.next+1) 0 1 (.known 1)] ((h.add (.cells (zAa [.int .i64 op,sv typ,vx,.int .i64 nn,sv name]) 5 none false)).add (.cells (zAa [sv tBool]) 1 none false)) R E=R (.bool (isS ⟨op,typ,xa,nn,name⟩ t args [tBool])) _:=ge_nh (is_gp H r0 (a.more (M.trans (q2g _ _)) λ_ _ r=>r) (lit1 _ tBool (by decide)))
 refine GE.gp (zAi H.t160 rfl ?_) (E:=λ_ _=>False) λ_ _ x=>x;unfold reckS;dsimp only;by_cases c1:op=11\/op=12
 ·rw[if_pos c1];have hl:=hl c1;obtain⟨id,o,E,ix,e1,⟨rfl,_⟩,ld1,lw⟩:=a.at (show 0<args.length by omega);obtain⟨id2,o2,E2,ix2,e2,⟨rfl,_⟩,ld2,lw2⟩:=a.at (show 1<args.length by omega);haveI:MoreC h (h.add (.cells (zAa [.int .i64 op,sv typ,vx,.int .i64 nn,sv name]) 5 none false)):=⟨M⟩;have lw:oLoad (.c (.ptr id o)) .leaf [] (h.add (.cells (zAa [.int .i64 op,sv typ,vx,.int .i64 nn,sv name]) 5 none false))=.val (sv args[0]) _:=lw 0 _ rfl _;have lw2:oLoad (.c (.ptr id2 o2)) .leaf [] (h.add (.cells (zAa [.int .i64 op,sv typ,vx,.int .i64 nn,sv name]) 5 none false))=.val (sv args[1]) _:=lw2 0 _ rfl _;have ex:decide (args[0]?=args[1]?)=decide (args[0]=args[1]):=by rw[q0a (by omega),q0a (by omega)];congr 1;simp
  rw[ex];by_cases ht:typ=tBool
  ·subst ht;rcases c1 with c | c
   ·have c:op=((11:Nat):Int):=c;subst c;simp+decide only[RL,↓reduceIte,i0,ma,ix,ix2,lw,lw2,moreT,ld];simp
   ·have c:op=((12:Nat):Int):=c;subst c;have d:¬((12:Nat):Int)=((11:Nat):Int):=by decide
    simp+decide only[RL,↓reduceIte,i0,ma,ix,ix2,lw,lw2,moreT,ld,d];simp
  ·have ht':¬tBool=typ:=λe=>ht e.symm;rcases c1 with c | c
   ·have c:op=((11:Nat):Int):=c;subst c;simp+decide only[RL,↓reduceIte,i0,ma,moreT,ld,ht];rfl
   ·have c:op=((12:Nat):Int):=c;subst c;have d:¬((12:Nat):Int)=((11:Nat):Int):=by decide
    simp+decide only[RL,↓reduceIte,i0,ma,moreT,ld,d,ht];rfl
 ·rw[if_neg c1];have n11:¬op=((11:Nat):Int):=λe=>c1 (.inl e);have n12:¬op=((12:Nat):Int):=λe=>c1 (.inr e);by_cases c2:13<=op/\op<=16
  ·have g1:((13:Nat):Int)<=op:=c2.1;have g2:op<=((16:Nat):Int):=c2.2;rw[if_pos c2];simp+decide only[RL,↓reduceIte,i0,ma,ld,q2,moreT,n11,n12,g1,g2]
  rw[if_neg c2];by_cases c18:op=18
  ·rw[if_pos c18];have c:op=((18:Nat):Int):=c18;subst c;have g1:((13:Nat):Int)<=((18:Nat):Int):=by decide
   have g2:¬((18:Nat):Int)<=((16:Nat):Int):=by decide
   simp+decide only[RL,↓reduceIte,i0,ma,ld,q3,moreT,n11,n12,g1,g2]
  rw[if_neg c18];have n18:¬op=((18:Nat):Int):=c18;by_cases c17:op=17
  ·rw[if_pos c17];have c:op=((17:Nat):Int):=c17;subst c;have g1:((13:Nat):Int)<=((17:Nat):Int):=by decide
   have g2:¬((17:Nat):Int)<=((16:Nat):Int):=by decide
   simp+decide only[RL,↓reduceIte,i0,ma,ld,q1,moreT,n11,n12,n18,g1,g2]
  rw[if_neg c17];have n17:¬op=((17:Nat):Int):=c17;by_cases g1:((13:Nat):Int)<=op
  ·have g2:¬op<=((16:Nat):Int):=λe=>c2 ⟨g1,e⟩;simp+decide only[RL,↓reduceIte,i0,ma,ld,q2,moreT,n11,n12,n17,n18,g1,g2]
  ·simp+decide only[RL,↓reduceIte,i0,ma,ld,q2,moreT,n11,n12,n17,n18,g1]
end
def zH8(f:FunD)(i:Int):Bool:=decide (0<i)&&decide (i<(f.blocks.length:Int))
def jumpS(f:FunD)(x:BlkD):Bool:=if x.jump=1 then zH8 f x.to0&&(decide (x.to1=0)&&decide (x.arg=-1)) else if x.jump=2 then zH8 f x.to0&&(zH8 f x.to1&&decide (x.to0≠x.to1)) else decide (x.jump=3)&&(decide (x.to0=0)&&decide (x.to1=0))
noncomputable def endB(f:FunD)(wh ix:Nat->Int)(b:Nat)(x:BlkD):Bool:=if x.jump=2 then decide (endS f wh ix x.arg b=tBool) else if x.jump=3 then(if f.result=[] then decide (x.arg=-1) else decide (endS f wh ix x.arg b=f.result)) else true
section
variable{tab:Nat->Option AFunc}{h:AH}(H:PV tab)
include H in
theorem isEnd_gp{C:Nat}{p:ProgD}{f:FunD}{wh ix:Nat->Int}(x:CkV h C p f wh ix)(hb0:0<f.blocks.length)(hr:AllR f){b:Nat}(hb:b<f.blocks.length):GP tab 73 [.ptr C 0,.int .i64 (b:Int)] h λv h1=>v=.bool (endB f wh ix b f.blocks[b])/\More h h1:=by
 have xx:=x;obtain⟨c,vw,vx,va,vn,B,-⟩:=x;obtain⟨vs,vg,vf,n,vp,r,vl,vi,vb,g,hC,g0,g1,g2,g3,g4,g5,g6,g7,g8,en,rfl,s1,s2,s3,s4,s5,s6,s7,k1,k2⟩:=B;have i0:zAb [.ptr C 0,.int .i64 (b:Int)]=zAa [.ptr C 0,.int .i64 (b:Int)]:=rfl;obtain⟨id,o,E,jx,e1,⟨vli,rfl,sl,j0,j1,j2,j3⟩,ld,lw⟩:=s7.at hb;have mv:=s7.mv;generalize f.blocks[b]=y at *;obtain⟨list,jump,arg,to0,to1⟩:=y;dsimp only at *;have ld':zAy 5 (.c (.ptr id o)) .leaf [] h=.val (.agg [vli,.int .i64 jump,.int .i64 arg,.int .i64 to0,.int .i64 to1]) h:=ld h;refine GE.gp (zAi H.t73 rfl ?_) (E:=λ_ _=>False) λ_ _ x=>x;unfold endB;dsimp only;have mo:∀o1 o2,More h ((h.add o1).set h.next o2):=λo1 o2=>(q2g _ _).set (q0c _) _;have mo':∀o1 o2,More h ((h.add o1).set h.next o2)=True:=λo1 o2=>eq_true (mo o1 o2);have e1:∀{o1 o2:AObj} {z:Int} {R E:AV->AH->Prop},GE tab 127 [.ptr C 0,.int .i64 z,.int .i64 (b:Int)] ((h.add o1).set h.next o2) R E=R (sv (endS f wh ix z b)) ((h.add o1).set h.next o2):=ge_rw (end_gp H (xx.more (mo _ _)) hb0 hr hb);have neC:¬h.next=C:=by omega
 by_cases c2:jump=2
 ·have c:jump=((2:Nat):Int):=c2;rw[if_pos c2];subst c;simp only[RL,↓reduceIte,Nat.reduceEqDiff,Nat.reduceAdd,i0,g,g8,jx,ld'];refine(end_gp H (xx.more (mo _ _)) hb0 hr hb).to λw h2 q=>?_;obtain⟨rfl,rfl⟩:=q;simp only[RL,↓reduceIte,mo _ _]
 rw[if_neg c2];have n2:¬jump=((2:Nat):Int):=c2;by_cases c3:jump=3
 ·have c:jump=((3:Nat):Int):=c3;rw[if_pos c3];subst c;by_cases hf:f.result=[]
  ·rw[if_pos hf];rw[hf] at g5;have g5:c.get 5=some (sv []):=g5;simp only[RL,↓reduceIte,Nat.reduceEqDiff,Nat.reduceAdd,i0,g,g8,g5,jx,ld',mo',n2,neC,neg1]
  ·rw[if_neg hf];have hf':¬[]=f.result:=λe=>hf e.symm;simp only[RL,↓reduceIte,Nat.reduceEqDiff,Nat.reduceAdd,i0,g,g8,g5,jx,ld',n2,neC,neg1,hf];refine(end_gp H (xx.more (mo _ _)) hb0 hr hb).to λw h2 q=>?_;obtain⟨rfl,rfl⟩:=q;simp only[RL,↓reduceIte,mo _ _,g,g5,neC]
 ·rw[if_neg c3];have n3:¬jump=((3:Nat):Int):=c3;simp only[RL,↓reduceIte,Nat.reduceEqDiff,Nat.reduceAdd,i0,g,g8,g5,jx,ld',e1,mo',n2,n3]
include H in
theorem isJump_gp{C:Nat}{p:ProgD}{f:FunD}{c:T AV}(x:CkB h C p f c){E:List AV}{y:BlkD}{h0:AH}(r:BlkV h0 E y):GP tab 116 [.ptr C 0,.agg E] h λv h1=>v=.bool (jumpS f y)/\More h h1:=by
 obtain⟨list,jump,arg,to0,to1⟩:=y;obtain⟨vli,rfl,sl,j0,j1,j2,j3⟩:=r;dsimp only at *;have i0:zAb [.ptr C 0,.agg [vli,.int .i64 jump,.int .i64 arg,.int .i64 to0,.int .i64 to1]]=zAa [.ptr C 0,.agg [vli,.int .i64 jump,.int .i64 arg,.int .i64 to0,.int .i64 to1]]:=rfl;have M:=λo=>q2g h o;have m':∀o,More h (h.add o)=True:=λo=>eq_true (M o);have e1:∀{o:AObj} {z:Int} {R E:AV->AH->Prop},GE tab 153 [.ptr C 0,.int .i64 z] (h.add o) R E=R (.bool (zH8 f z)) (h.add o):=ge_rw (isBlock_gp H (x.more (M _)));have ax:∀{id o:Nat} {h'},zCi 2 1 (.c (.ptr id o)) (.c (.int .i64 ((0:Nat):Int))) .leaf [] h'=.val (.ptr id (o+0)) h':=rfl;have ay:∀{id o:Nat} {h'},zCi 2 1 (.c (.ptr id o)) (.c (.int .i64 ((1:Nat):Int))) .leaf [] h'=.val (.ptr id (o+1)) h':=rfl;refine GE.gp (zAi H.t116 rfl ?_) (E:=λ_ _=>False) λ_ _ x=>x;unfold jumpS;dsimp only;by_cases c1:jump=1
 ·have c:jump=((1:Nat):Int):=c1;rw[if_pos c1];subst c;cases hb:zH8 f to0 with
  | false=>simp only[RL,↓reduceIte,Nat.reduceEqDiff,Nat.reduceAdd,i0,e1,hb,ax,zAr,m',q0D]
  | true=>
   by_cases h0:to1=((0:Nat):Int)
   ·subst h0;simp only[RL,↓reduceIte,Nat.reduceEqDiff,Nat.reduceAdd,i0,e1,hb,ax,ay,zAr,m',neg1,q0E];simp
   ·have h0':¬to1=0:=h0;simp only[RL,↓reduceIte,Nat.reduceEqDiff,Nat.reduceAdd,i0,e1,hb,ax,ay,zAr,m',neg1,h0,h0',q0E];rfl
 rw[if_neg c1];have n1:¬jump=((1:Nat):Int):=c1;by_cases c2:jump=2
 ·have c:jump=((2:Nat):Int):=c2;rw[if_pos c2];subst c;cases hb:zH8 f to0 with
  | false=>simp only[RL,↓reduceIte,Nat.reduceEqDiff,Nat.reduceAdd,i0,e1,hb,ax,zAr,m',n1,q0D]
  | true=>
   cases hb1:zH8 f to1 with
   | false=>simp only[RL,↓reduceIte,Nat.reduceEqDiff,Nat.reduceAdd,i0,e1,hb,hb1,ax,ay,zAr,m',n1,q0E,q0D]
   | true=>
    simp only[RL,↓reduceIte,Nat.reduceEqDiff,Nat.reduceAdd,i0,e1,hb,hb1,ax,ay,zAr,m',n1,q0E];simp
 ·rw[if_neg c2];have n2:¬jump=((2:Nat):Int):=c2;by_cases c3:jump=((3:Nat):Int)
  ·subst c3;have l2:loadL (zAa [vli,.int .i64 ((3:Nat):Int),.int .i64 arg,.int .i64 to0,.int .i64 to1]) 2 3=some [.int .i64 to0,.int .i64 to1]:=rfl;by_cases z0:to0=((0:Nat):Int)
   ·subst z0;by_cases z1:to1=((0:Nat):Int)
    ·subst z1;simp only[RL,↓reduceIte,Nat.reduceEqDiff,Nat.reduceAdd,i0,ax,zAr,m',n1,n2,l2];rfl
    ·simp only[RL,↓reduceIte,Nat.reduceEqDiff,Nat.reduceAdd,i0,ax,zAr,m',n1,n2,l2,z1];rw[decide_eq_false (show ¬to1=0 from z1)];rfl
   ·by_cases z1:to1=((0:Nat):Int)
    ·subst z1;simp only[RL,↓reduceIte,Nat.reduceEqDiff,Nat.reduceAdd,i0,ax,zAr,m',n1,n2,l2,z0];rw[decide_eq_false (show ¬to0=0 from z0)];rfl
    ·simp only[RL,↓reduceIte,Nat.reduceEqDiff,Nat.reduceAdd,i0,ax,zAr,m',n1,n2,l2,z0,z1];rw[decide_eq_false (show ¬to0=0 from z0)];rfl
  ·have c3':¬jump=3:=c3;simp only[RL,↓reduceIte,Nat.reduceEqDiff,Nat.reduceAdd,i0,ax,zAr,m',n1,n2,c3,c3',q0D]
end
def zKk(x:InsD):Bool:=if x.op=24 then true else if x.op=20\/x.op=21\/x.op=22\/(25<=x.op/\x.op<=31) then decide (x.name=[]) else decide (x.name=[])&&decide (x.n=0)
section
variable{tab:Nat->Option AFunc}{h:AH}(H:PV tab)
include H in
theorem plain_gp{E:List AV}{x:InsD}{h0:AH}(r:InsV h0 E x):GP tab 122 [.agg E] h λu h1=>u=.bool (zKk x)/\More h h1:=by
 obtain⟨op,typ,xa,nn,name⟩:=x;obtain⟨vx,rfl,sx,j0,j1,j2,j3⟩:=r;dsimp only at *;have i0:zAb [.agg [.int .i64 op,sv typ,vx,.int .i64 nn,sv name]]=zAa [.agg [.int .i64 op,sv typ,vx,.int .i64 nn,sv name]]:=rfl;have m':∀o,More h (h.add o)=True:=λo=>eq_true (q2g h o);refine GE.gp (zAi H.t122 rfl ?_) (E:=λ_ _=>False) λ_ _ x=>x;unfold zKk;dsimp only;by_cases c24:op=((24:Nat):Int)
 ·subst c24;simp only[RL,↓reduceIte,Nat.reduceEqDiff,Nat.reduceAdd,i0,m'];rfl
 rw[if_neg (show ¬op=24 from c24)];by_cases hn:name=[]
 ·subst hn;by_cases c:op=20\/op=21\/op=22\/(25<=op/\op<=31)
  ·rw[if_pos c];have c:op=((20:Nat):Int)\/op=((21:Nat):Int)\/op=((22:Nat):Int)\/op=((25:Nat):Int)\/op=((26:Nat):Int)\/op=((27:Nat):Int)\/op=((28:Nat):Int)\/op=((29:Nat):Int)\/op=((30:Nat):Int)\/op=((31:Nat):Int):=by omega
   rcases c with rfl | rfl | rfl | rfl | rfl | rfl | rfl | rfl | rfl | rfl<;>simp only[RL,↓reduceIte,Nat.reduceEqDiff,Nat.reduceAdd,i0,m',q0p,Nat.reduceEqDiff]
  ·rw[if_neg c];have n20:¬op=((20:Nat):Int):=by omega
   have n21:¬op=((21:Nat):Int):=by omega
   have n22:¬op=((22:Nat):Int):=by omega
   have n25:¬op=((25:Nat):Int):=by omega
   have n26:¬op=((26:Nat):Int):=by omega
   have n27:¬op=((27:Nat):Int):=by omega
   have n28:¬op=((28:Nat):Int):=by omega
   have n29:¬op=((29:Nat):Int):=by omega
   have n30:¬op=((30:Nat):Int):=by omega
   have n31:¬op=((31:Nat):Int):=by omega
   by_cases z:nn=((0:Nat):Int)
   ·subst z;simp only[RL,↓reduceIte,Nat.reduceEqDiff,Nat.reduceAdd,i0,m',c24,n20,n21,n22,n25,n26,n27,n28,n29,n30,n31];rfl
   ·simp only[RL,↓reduceIte,Nat.reduceEqDiff,Nat.reduceAdd,i0,m',c24,n20,n21,n22,n25,n26,n27,n28,n29,n30,n31,z];rw[decide_eq_false (show ¬nn=0 from z)];rfl
 ·have hn':¬[]=name:=λe=>hn e.symm;by_cases c:op=20\/op=21\/op=22\/(25<=op/\op<=31)
  ·rw[if_pos c];have c:op=((20:Nat):Int)\/op=((21:Nat):Int)\/op=((22:Nat):Int)\/op=((25:Nat):Int)\/op=((26:Nat):Int)\/op=((27:Nat):Int)\/op=((28:Nat):Int)\/op=((29:Nat):Int)\/op=((30:Nat):Int)\/op=((31:Nat):Int):=by omega
   rcases c with rfl | rfl | rfl | rfl | rfl | rfl | rfl | rfl | rfl | rfl<;>simp only[RL,↓reduceIte,Nat.reduceEqDiff,Nat.reduceAdd,i0,m',q0p,Nat.reduceEqDiff,hn]
  ·rw[if_neg c];have n20:¬op=((20:Nat):Int):=by omega
   have n21:¬op=((21:Nat):Int):=by omega
   have n22:¬op=((22:Nat):Int):=by omega
   have n25:¬op=((25:Nat):Int):=by omega
   have n26:¬op=((26:Nat):Int):=by omega
   have n27:¬op=((27:Nat):Int):=by omega
   have n28:¬op=((28:Nat):Int):=by omega
   have n29:¬op=((29:Nat):Int):=by omega
   have n30:¬op=((30:Nat):Int):=by omega
   have n31:¬op=((31:Nat):Int):=by omega
   simp only[RL,↓reduceIte,Nat.reduceEqDiff,Nat.reduceAdd,i0,m',c24,n20,n21,n22,n25,n26,n27,n28,n29,n30,n31,hn,q0D]
end
def callS(p:ProgD)(x:InsD)(args:List Str):Bool:=if 0<=x.n then match p.funs[x.n.toNat]? with
 | some g=>isS x g.result args g.params
 | none=>false else false
section
variable{tab:Nat->Option AFunc}{h:AH}(H:PV tab)
include H in
theorem isCall_gp{C:Nat}{p:ProgD}{f:FunD}{c:T AV}(B:CkB h C p f c){E:List AV}{x:InsD}{va:AV}{args:List Str}{h0:AH}(r:InsV h0 E x)(a:SlV h 1 StrR va args):GP tab 165 [.ptr C 0,.agg E,va] h λu h1=>u=.bool (callS p x args)/\More h h1:=by
 obtain⟨vs,vg,vf,n,vp,r',vl,vi,vb,g,hC,g0,g1,g2,g3,g4,g5,g6,g7,g8,en,er,s1,s2,s3,s4,s5,s6,s7,k1,k2⟩:=B;obtain⟨op,typ,xa,nn,name⟩:=x;have r0:=r;obtain⟨vx,rfl,sx,j0,j1,j2,j3⟩:=r;dsimp only at *;have i0:zAb [.ptr C 0,.agg [.int .i64 op,sv typ,vx,.int .i64 nn,sv name],va]=zAa [.ptr C 0,.agg [.int .i64 op,sv typ,vx,.int .i64 nn,sv name],va]:=rfl;have m':∀o,More h (h.add o)=True:=λo=>eq_true (q2g h o);have ma:=a.mv;have ln:=s3.len;have mf:=s3.mv;have neC:¬h.next=C:=by omega
 refine GE.gp (zAi H.t165 rfl ?_) (E:=λ_ _=>False) λ_ _ x=>x;unfold callS;dsimp only;by_cases z0:nn<((0:Nat):Int)
 ·have e0:¬0<=nn:=by omega
  simp+decide only[RL,↓reduceIte,i0,m',z0,e0]
 have e0:0<=nn:=by omega
 rw[if_pos e0];obtain⟨y,rfl⟩:∃y:Nat,nn=y:=⟨nn.toNat,by omega⟩;rw[q0n];by_cases z1:(p.funs.length:Int)<=(y:Int)
 ·rw[q0i (by omega)];simp+decide only[RL,↓reduceIte,i0,m',z0,g,g2,ln,neC,z1]
 have hy:y<p.funs.length:=by omega
 rw[q0a hy];obtain⟨id,o,E,jx,e1,⟨vpp,vss,vii,vbb,rfl,t1,t2,t3,t4,l1,l2⟩,ld,lw⟩:=s3.at hy;have M:=q2g h (.cells (zAa [.int .i64 op,sv typ,vx,.int .i64 (y:Int),sv name]) 5 none false);haveI:MoreC h (h.add (.cells (zAa [.int .i64 op,sv typ,vx,.int .i64 (y:Int),sv name]) 5 none false)):=⟨M⟩;have ld1:=ld (h.add (.cells (zAa [.int .i64 op,sv typ,vx,.int .i64 (y:Int),sv name]) 5 none false));have mp:=t1.mv;have l5:loadL (zAa [.int .i64 op,sv typ,vx,.int .i64 (y:Int),sv name]) 5 0=some [.int .i64 op,sv typ,vx,.int .i64 (y:Int),sv name]:=rfl;simp+decide only[RL,↓reduceIte,i0,m',ma,z0,g,g2,ln,neC,z1,jx,ld1,l5];have M3:=λo q=>M.trans ((q2g (h.add (.cells (zAa [.int .i64 op,sv typ,vx,.int .i64 (y:Int),sv name]) 5 none false)) o).set (q0c _) q);refine(is_gp H r0 (a.more (M3 _ _) λ_ _ r=>r) (t1.more (M3 _ _) λ_ _ r=>r)).to λw h2 q=>?_;obtain⟨rfl,m2⟩:=q;simp only[RL,↓reduceIte];exact(M3 _ _).trans m2
end
theorem zGz{z:Int}(h:I64 z):zAo .i64 z=true:=by
 obtain⟨h1,h2⟩:=h;cases z with
 | ofNat n=>exact Nat.ble_eq.mpr (show n<=9223372036854775807 by have h2:(n:Int)<_:=h2;omega)
 | negSucc n=>exact Nat.ble_eq.mpr (show n<=9223372036854775807 by omega)
theorem and_one{z:Int}(hz:I64 z):∃r:Nat,(∀h',oBin .and (.c (.int .i64 z)) (.c (.int .i64 ((1:Nat):Int))) .leaf [] h'=.val (.int .i64 (r:Int)) h')/\((r:Int)=z<->(z=0\/z=1)):=by
 have r1:=zGz hz;cases z with
 | ofNat m=>
  refine⟨m % 2,λh'=>?_,by have e:Int.ofNat m=(m:Int):=rfl;rw[e];omega⟩;show bi (zAo .i64 (Int.ofNat m)) (bi (zAo .i64 (Int.ofNat 1)) (fN (Nat.land m 1) λn=>bi (zAo .i64 (Int.ofNat n)) (OR.val (AV.int .i64 (Int.ofNat n)) h') (F 23)) (F 23)) (F 23)=_;have e:Nat.land m 1=m % 2:=Nat.and_one_is_mod m;have r2:zAo .i64 (Int.ofNat (m % 2))=true:=zGz ⟨by have:=Nat.mod_lt m (show 0<2 by decide);show(-9223372036854775808:Int)<=((m % 2:Nat):Int);omega,by have:=Nat.mod_lt m (show 0<2 by decide);show((m % 2:Nat):Int)<_;omega⟩;rw[r1,e,fN_eq,r2];rfl
 | negSucc m=>
  have e:Nat.land (BitVec.ofInt 64 (Int.negSucc m)).toNat (BitVec.ofInt 64 1).toNat=(BitVec.ofInt 64 (Int.negSucc m)).toNat % 2:=Nat.and_one_is_mod _;refine⟨(BitVec.ofInt 64 (Int.negSucc m)).toNat % 2,λh'=>?_,by constructor<;>intro h<;>omega⟩;show bi (zAo .i64 (Int.negSucc m)) (bi (zAo .i64 (Int.ofNat 1)) (OR.val (AV.int .i64 (IntKind.i64.wrap (Int.ofNat (Nat.land (BitVec.ofInt 64 (Int.negSucc m)).toNat (BitVec.ofInt 64 1).toNat)))) h') (F 23)) (F 23)=_;rw[r1,e];have hl:=Nat.mod_lt (BitVec.ofInt 64 (Int.negSucc m)).toNat (show 0<2 by decide);have w:IntKind.i64.wrap (Int.ofNat ((BitVec.ofInt 64 (Int.negSucc m)).toNat % 2))=(((BitVec.ofInt 64 (Int.negSucc m)).toNat % 2:Nat):Int):=zGm (by show _<=(((BitVec.ofInt 64 (Int.negSucc m)).toNat % 2:Nat):Int);omega) (by show(((BitVec.ofInt 64 (Int.negSucc m)).toNat % 2:Nat):Int)<_;omega);rw[w];rfl
def newS(p:ProgD)(f:FunD)(x:InsD):Bool:=if x.op=20 then decide (x.typ≠[])&&decide (x.typ=atS f.params x.n) else if x.op=21\/x.op=33 then decide (x.typ=tInt) else if x.op=22 then decide (x.typ=tBool)&&decide (x.n=0\/x.n=1) else if x.op=23 then(elemS x.typ).isSome&&zBl p.structs x.typ else if x.op=24 then decide (x.typ=42::x.name)&&(zBl p.structs x.typ&&decide (x.n=0\/x.n=1)) else if x.op=27 then decide (x.typ≠[])&&decide (x.typ=atS f.slots x.n) else decide (x.typ≠[])&&decide (x.typ=zDa p x.n)
section
variable{tab:Nat->Option AFunc}{h:AH}(H:PV tab)
include H in
theorem pointer_gp{s:Str}(hs:s.length<=zBq):GP tab 188 [sv s] h λu h1=>u=sv (42::s)/\h1=h:=by
 have i0:zAb [sv s]=zAa [sv s]:=rfl;have ad:∀h':AH,oBin .add (.c (sv [42])) (.c (sv s)) .leaf [] h'=.val (sv (42::s)) h':=λ_=>by
  have h1:([42]:Str).length+s.length<=9223372036854775807:=by
   unfold zBq at hs;show 1+s.length<=_;omega
  rw[add_sv h1];rfl
 refine GE.gp (zAi H.t188 rfl ?_) (E:=λ_ _=>False) λ_ _ x=>x;simp only[RL,↓reduceIte,i0,ad]
include H in
theorem isNew_gp{C:Nat}{p:ProgD}{f:FunD}{c:T AV}(B:CkB h C p f c){E:List AV}{x:InsD}{h0:AH}(r:InsV h0 E x):GP tab 166 [.ptr C 0,.agg E] h λu h1=>u=.bool (newS p f x)/\More h h1:=by
 have BB:=B;obtain⟨vs,vg,vf,n,vp,r',vl,vi,vb,g,hC,g0,g1,g2,g3,g4,g5,g6,g7,g8,en,er,s1,s2,s3,s4,s5,s6,s7,k1,k2⟩:=B;obtain⟨op,typ,xa,nn,name⟩:=x;obtain⟨vx,rfl,sx,j0,j1,j2,j3⟩:=r;dsimp only at *;have i0:zAb [.ptr C 0,.agg [.int .i64 op,sv typ,vx,.int .i64 nn,sv name]]=zAa [.ptr C 0,.agg [.int .i64 op,sv typ,vx,.int .i64 nn,sv name]]:=rfl;have m':∀o,More h (h.add o)=True:=λo=>eq_true (q2g h o);have neC:¬h.next=C:=by omega
 have mp:=s4.mv;have msl:=s5.mv;have mst:=s1.mv;obtain⟨r1,ea,hr1⟩:=and_one j1;have ob:∀{x y:Opd} {loc:T AV} {tmp:List AV} {h':AH},evOp (.bin .and x y) loc tmp h'=oBin .and (.c (ev loc tmp x)) (.c (ev loc tmp y)) .leaf [] h':=rfl;have eat:∀{o:AObj} {v:AV} {l:List Str} (a:SlV h 1 StrR v l) {R E:AV->AH->Prop},GE tab 163 [v,.int .i64 nn] (h.add o) R E=R (sv (atS l nn)) (h.add o):=λa=>ge_rw (at_gp H (a.more (q2g _ _) λ_ _ r=>r));have eat1:∀{o:AObj} {R E:AV->AH->Prop},GE tab 163 [vp,.int .i64 nn] (h.add o) R E=R (sv (atS f.params nn)) (h.add o):=eat s4;have eat2:∀{o:AObj} {R E:AV->AH->Prop},GE tab 163 [vl,.int .i64 nn] (h.add o) R E=R (sv (atS f.slots nn)) (h.add o):=eat s5;have egl:∀{o:AObj} {R E:AV->AH->Prop},GE tab 164 [.ptr C 0,.int .i64 nn] (h.add o) R E=R (sv (zDa p nn)) (h.add o):=ge_rw (global_gp H (BB.more (q2g _ _)));refine GE.gp (zAi H.t166 rfl ?_) (E:=λ_ _=>False) λ_ _ x=>x;unfold newS;dsimp only;by_cases c20:op=20
 ·rw[if_pos c20];have c:op=((20:Nat):Int):=c20;subst c;by_cases ht:typ=[]
  ·subst ht;simp+decide only[RL,↓reduceIte,i0,m'];simp
  ·have ht':¬[]=typ:=λe=>ht e.symm;by_cases ha:typ=atS f.params nn
   ·simp+decide only[RL,↓reduceIte,i0,m',g,g4,neC,ht,eat1,<-ha];refine⟨(zBx (v:=sv typ) rfl (by exact zBa (by rw[q2a,q1b]) rfl) zEb).trans rfl,?_⟩;simp[ht]
   ·have ha':¬atS f.params nn=typ:=λe=>ha e.symm;simp+decide only[RL,↓reduceIte,i0,m',g,g4,neC,ht,eat1,ha];refine⟨(zBx (v:=sv typ) rfl (by exact zBa (by rw[q2a,q1b]) rfl) zEb).trans rfl,?_⟩;simp
 rw[if_neg c20];have n20:¬op=((20:Nat):Int):=c20;by_cases c21:op=21\/op=33
 ·rw[if_pos c21];by_cases ht:typ=tInt
  ·subst ht;rcases c21 with c | c
   ·have c:op=((21:Nat):Int):=c;subst c;simp+decide only[RL,↓reduceIte,i0,m',q0p,Nat.reduceEqDiff]
   ·have c:op=((33:Nat):Int):=c;subst c;simp+decide only[RL,↓reduceIte,i0,m',q0p,Nat.reduceEqDiff]
  ·have ht':¬tInt=typ:=λe=>ht e.symm;rw[decide_eq_false ht];rcases c21 with c | c
   ·have c:op=((21:Nat):Int):=c;subst c;simp+decide only[RL,↓reduceIte,i0,m',q0p,Nat.reduceEqDiff,ht]
   ·have c:op=((33:Nat):Int):=c;subst c;simp+decide only[RL,↓reduceIte,i0,m',q0p,Nat.reduceEqDiff,ht]
 rw[if_neg c21];have n21:¬op=((21:Nat):Int):=λe=>c21 (.inl e);have n33:¬op=((33:Nat):Int):=λe=>c21 (.inr e);by_cases c22:op=22
 ·rw[if_pos c22];have c:op=((22:Nat):Int):=c22;subst c;have e3:decide ((r1:Int)=nn)=decide (nn=0\/nn=1):=decide_eq_decide.mpr hr1;by_cases ht:typ=tBool
  ·subst ht;simp+decide only[RL,↓reduceIte,i0,m',q0p,Nat.reduceEqDiff,ob,ea,e3];rfl
  ·have ht':¬tBool=typ:=λe=>ht e.symm;rw[decide_eq_false ht];simp+decide only[RL,↓reduceIte,i0,m',q0p,Nat.reduceEqDiff,ht,q0D]
 rw[if_neg c22];have n22:¬op=((22:Nat):Int):=c22;by_cases c23:op=23
 ·rw[if_pos c23];have c:op=((23:Nat):Int):=c23;subst c;simp+decide only[RL,↓reduceIte,i0,m',q0p,Nat.reduceEqDiff];refine(elem_gp H j2).to λw h2 q=>?_;obtain⟨rfl,m2⟩:=q;have M:=q2g h (.cells (zAa [.int .i64 ((23:Nat):Int),sv typ,vx,.int .i64 nn,sv name]) 5 none false);have gC2:=((M.trans m2).keep _ hC).trans g;have gb2:h2.mem.get h.next=some (.cells (zAa [.int .i64 ((23:Nat):Int),sv typ,vx,.int .i64 nn,sv name]) 5 none false):=(m2.keep _ (q0h _)).trans (by rw[q2a,q1b]);have M2:=eq_true (M.trans m2);cases he:elemS typ with
  | none=>simp only[RL,↓reduceIte,q0M,q0D,M2]
  | some n=>
   simp+decide only[RL,↓reduceIte,q0J,gC2,gb2,g0];refine(zF1 H (s1.more (M.trans m2) λ_ _ r=>r)).to λw h3 q=>?_;obtain⟨rfl,m3⟩:=q;simp only[RL,↓reduceIte,q0E];exact(M.trans m2).trans m3
 rw[if_neg c23];have n23:¬op=((23:Nat):Int):=c23;by_cases c24:op=24
 ·rw[if_pos c24];have c:op=((24:Nat):Int):=c24;subst c;have e3:decide ((r1:Int)=nn)=decide (nn=0\/nn=1):=decide_eq_decide.mpr hr1;have M:=q2g h (.cells (zAa [.int .i64 ((24:Nat):Int),sv typ,vx,.int .i64 nn,sv name]) 5 none false);have ep:∀{h':AH} {R E:AV->AH->Prop},GE tab 188 [sv name] h' R E=R (sv (42::name)) h':=ge_rw (pointer_gp H j3);by_cases ht:typ=42::name
  ·subst ht;simp+decide only[RL,↓reduceIte,i0,m',q0p,Nat.reduceEqDiff,ep,g,g0,neC];refine(zF1 H (s1.more M λ_ _ r=>r)).to λw h3 q=>?_;obtain⟨rfl,m3⟩:=q;have gb3:h3.mem.get h.next=some (.cells (zAa [.int .i64 ((24:Nat):Int),sv (42::name),vx,.int .i64 nn,sv name]) 5 none false):=(m3.keep _ (q0h _)).trans (by rw[q2a,q1b]);have M3:=eq_true (M.trans m3);cases hi:zBl p.structs (42::name) with
   | false=>simp only[RL,↓reduceIte,M3,q0D,q0E]
   | true=>
    simp+decide only[RL,↓reduceIte,gb3,M3,ob,ea,e3,q0E]
  ·have ht':¬42::name=typ:=λe=>ht e.symm;rw[decide_eq_false ht];simp+decide only[RL,↓reduceIte,i0,m',q0p,Nat.reduceEqDiff,ep,ht,q0D]
 rw[if_neg c24];have n24:¬op=((24:Nat):Int):=c24;by_cases c27:op=27
 ·rw[if_pos c27];have c:op=((27:Nat):Int):=c27;subst c;by_cases ht:typ=[]
  ·subst ht;simp+decide only[RL,↓reduceIte,i0,m',q0p,Nat.reduceEqDiff];simp
  ·have ht':¬[]=typ:=λe=>ht e.symm;by_cases ha:typ=atS f.slots nn
   ·simp+decide only[RL,↓reduceIte,i0,m',q0p,Nat.reduceEqDiff,g,g6,neC,ht,eat2,<-ha];refine⟨(zBx (v:=sv typ) rfl (by exact zBa (by rw[q2a,q1b]) rfl) zEb).trans rfl,?_⟩;simp[ht]
   ·have ha':¬atS f.slots nn=typ:=λe=>ha e.symm;simp+decide only[RL,↓reduceIte,i0,m',q0p,Nat.reduceEqDiff,g,g6,neC,ht,eat2,ha];refine⟨(zBx (v:=sv typ) rfl (by exact zBa (by rw[q2a,q1b]) rfl) zEb).trans rfl,?_⟩;simp
 rw[if_neg c27];have n27:¬op=((27:Nat):Int):=c27;by_cases ht:typ=[]
 ·subst ht;simp+decide only[RL,↓reduceIte,i0,m',n20,n21,n33,n22,n23,n24,n27];simp
 ·have ht':¬[]=typ:=λe=>ht e.symm;by_cases ha:typ=zDa p nn
  ·simp+decide only[RL,↓reduceIte,i0,m',n20,n21,n33,n22,n23,n24,n27,ht,egl,<-ha];refine⟨(zBx (v:=sv typ) rfl (by exact zBa (by rw[q2a,q1b]) rfl) zEb).trans rfl,?_⟩;simp[ht]
  ·have ha':¬zDa p nn=typ:=λe=>ha e.symm;simp+decide only[RL,↓reduceIte,i0,m',n20,n21,n33,n22,n23,n24,n27,ht,egl,ha];refine⟨(zBx (v:=sv typ) rfl (by exact zBa (by rw[q2a,q1b]) rfl) zEb).trans rfl,?_⟩;simp
end
def rowS(p:ProgD)(f:FunD)(x:InsD)(args:List Str):Bool:=if x.op<=18 then reckS x args else if x.op=25 then decide (x.typ≠[])&&decide (x.typ=zKx p (args.getD 0 []) x.n) else if x.op=26 then decide (x.typ=[])&&decide (args.getD 1 []=zKx p (args.getD 0 []) x.n) else if x.op=28 then isS x [] args [atS f.slots x.n] else if x.op=30 then isS x [] args [zDa p x.n] else if x.op=32 then isS x [] args [tInt] else if x.op=31 then callS p x args else newS p f x
theorem lit_one{h':AH}{s:Str}(hs:s.length<=maxLen):SlV (h'.add (.cells (zAa [sv s]) 1 none false)) 1 StrR (.sl h'.next 0 1 (.known 1)) [s]:=.inr ⟨h'.next,0,.known 1,1,_,none,false,rfl,q0c _,by rw[q2a,q1b],q0h _,by simp[zBq],λi hi=>by
  rcases i with _ | i
  ·exact⟨[sv s],rfl,⟨rfl,hs⟩,rfl⟩
  ·simp at hi⟩
theorem SlV.str{h:AH}{v:AV}{l:List Str}(a:SlV h 1 StrR v l){s:Str}(hs:s∈l):s.length<=maxLen:=by
 obtain⟨i,hi,rfl⟩:=q0y hs;obtain⟨id,o,E,ix,e1,⟨-,hl⟩,-⟩:=a.at hi;exact hl
theorem at_len{h:AH}{v:AV}{l:List Str}(a:SlV h 1 StrR v l)(i:Int):(atS l i).length<=maxLen:=by
 unfold atS;split
 ·rw[q0e];cases e:l[i.toNat]? with
  | none=>exact q0k _
  | some s=>exact a.str (q0L e)
 ·exact q0k _
theorem glob_len{h:AH}{v:AV}{p:ProgD}(a:SlV h 2 zDg v p.globals)(i:Int):(zDa p i).length<=maxLen:=by
 unfold zDa;split
 ·cases e:p.globals[i.toNat]? with
  | none=>exact q0k _
  | some s=>
   obtain⟨j,hj⟩:=List.getElem?_eq_some_iff.mp e;obtain⟨id,o,E,ix,e1,⟨-,-,hl⟩,-⟩:=a.at j;rw[hj] at hl;exact hl
 ·exact q0k _
section
variable{tab:Nat->Option AFunc}{h:AH}(H:PV tab)
include H in
theorem isRow_gp{C:Nat}{p:ProgD}{f:FunD}{c:T AV}(B:CkB h C p f c){E:List AV}{x:InsD}{va:AV}{args:List Str}{h0:AH}(r:InsV h0 E x)(a:SlV h 1 StrR va args)(hn:argsS x.op=-1\/argsS x.op=(args.length:Int)):GP tab 126 [.ptr C 0,.agg E,va] h λu h1=>u=.bool (rowS p f x args)/\More h h1:=by
 have BB:=B;obtain⟨vs,vg,vf,n,vp,r',vl,vi,vb,g,hC,g0,g1,g2,g3,g4,g5,g6,g7,g8,en,er,s1,s2,s3,s4,s5,s6,s7,k1,k2⟩:=B;obtain⟨op,typ,xa,nn,name⟩:=x;have r0:=r;obtain⟨vx,rfl,sx,j0,j1,j2,j3⟩:=r;dsimp only at *;have i0:zAb [.ptr C 0,.agg [.int .i64 op,sv typ,vx,.int .i64 nn,sv name],va]=zAa [.ptr C 0,.agg [.int .i64 op,sv typ,vx,.int .i64 nn,sv name],va]:=rfl;have m':∀o,More h (h.add o)=True:=λo=>eq_true (q2g h o);have ma:=a.mv;have msl:=s5.mv;have sm:bi (bi (same vx vx) true false) true false=true:=by rw[sx.same];rfl
 have neC:¬h.next=C:=by omega
 have M:=q2g h (.cells (zAa [.int .i64 op,sv typ,vx,.int .i64 nn,sv name]) 5 none false);haveI:MoreC h (h.add (.cells (zAa [.int .i64 op,sv typ,vx,.int .i64 nn,sv name]) 5 none false)):=⟨M⟩;have ld:zAy 5 (.c (.ptr h.next 0)) .leaf [] (h.add (.cells (zAa [.int .i64 op,sv typ,vx,.int .i64 nn,sv name]) 5 none false))=.val (.agg [.int .i64 op,sv typ,vx,.int .i64 nn,sv name]) _:=zAp (by rw[q2a,q1b]) rfl;refine GE.gp (zAi H.t126 rfl ?_) (E:=λ_ _=>False) λ_ _ x=>x;unfold rowS;dsimp only;by_cases c18:op<=((18:Nat):Int)
 ·rw[if_pos (show op<=18 from c18)];simp+decide only[RL,↓reduceIte,i0,ma,c18,ld];refine(reck_gp H r0 (a.more M λ_ _ r=>r) (λe=>by dsimp only at e hn;rcases e with rfl | rfl<;>(simp[argsS] at hn;omega))).to λw h2 q=>?_;obtain⟨rfl,m2⟩:=q;simp only[RL,↓reduceIte];exact M.trans m2
 rw[if_neg (show ¬op<=18 from c18)];by_cases c25:op=25
 ·rw[if_pos c25];have c:op=((25:Nat):Int):=c25;subst c;have hl:args.length=1:=by simp[argsS] at hn;omega
  obtain⟨id,o,E,ix,e1,⟨rfl,l0⟩,ld1,lw⟩:=a.at (show 0<args.length by omega);have e0:args.getD 0 []=args[0]:=by rw[q0e,q0a];rfl
  rw[e0];have lw:∀(h':AH) [MoreC h h'],oLoad (.c (.ptr id o)) .leaf [] h'=.val (sv args[0]) h':=lw 0 _ rfl;by_cases ht:typ=[]
  ·subst ht;simp+decide only[RL,↓reduceIte,i0,ma,c18,m'];simp
  ·have ht':¬[]=typ:=λe=>ht e.symm;rw[decide_eq_true ht,q0E];simp+decide only[RL,↓reduceIte,i0,ma,c18,ix,lw,ht];refine(fieldT_gp H (BB.more M) l0).to λw h2 q=>?_;obtain⟨rfl,m2⟩:=q;have gb2:h2.mem.get h.next=some (.cells (zAa [.int .i64 ((25:Nat):Int),sv typ,vx,.int .i64 nn,sv name]) 5 none false):=(m2.keep _ (q0h _)).trans (by rw[q2a,q1b]);have M2:=eq_true (M.trans m2);by_cases ha:typ=zKx p args[0] nn
   ·have ha':=ha.symm;rw[<-ha];simp only[RL,↓reduceIte,M2];exact(zBx (v:=sv typ) rfl (by exact zBa gb2 rfl) zEb).trans rfl
   ·have ha':¬zKx p args[0] nn=typ:=λe=>ha e.symm;rw[decide_eq_false ha];simp only[RL,↓reduceIte,M2,ha];exact(zBx (v:=sv typ) rfl (by exact zBa gb2 rfl) zEb).trans rfl
 rw[if_neg c25];have n25:¬op=((25:Nat):Int):=c25;by_cases c26:op=26
 ·rw[if_pos c26];have c:op=((26:Nat):Int):=c26;subst c;have hl:args.length=2:=by simp[argsS] at hn;omega
  obtain⟨id,o,E,ix,e1,⟨rfl,l0⟩,ld1,lw⟩:=a.at (show 0<args.length by omega);obtain⟨id2,o2,E2,ix2,e2,⟨rfl,_⟩,ld2,lw2⟩:=a.at (show 1<args.length by omega);have e0:args.getD 0 []=args[0]:=by rw[q0e,q0a];rfl
  have e1:args.getD 1 []=args[1]:=by rw[q0e,q0a];rfl
  rw[e0,e1];have lw:∀(h':AH) [MoreC h h'],oLoad (.c (.ptr id o)) .leaf [] h'=.val (sv args[0]) h':=lw 0 _ rfl;have lw2:∀(h':AH) [MoreC h h'],oLoad (.c (.ptr id2 o2)) .leaf [] h'=.val (sv args[1]) h':=lw2 0 _ rfl;by_cases ht:typ=[]
  ·subst ht;rw[decide_eq_true rfl,q0E];simp+decide only[RL,↓reduceIte,i0,ma,c18,n25,q0p,Nat.reduceEqDiff,ix,lw,ix2,lw2];refine(fieldT_gp H (BB.more M) l0).to λw h2 q=>?_;obtain⟨rfl,m2⟩:=q;have gb2:h2.mem.get h.next=some (.cells (zAa [.int .i64 ((26:Nat):Int),sv [],vx,.int .i64 nn,sv name]) 5 none false):=(m2.keep _ (q0h _)).trans (by rw[q2a,q1b]);have M2:=eq_true (M.trans m2);haveI:MoreC h h2:=⟨M.trans m2⟩;simp only[RL,↓reduceIte,M2];exact(zBx (v:=sv args[1]) rfl (by exact lw2 h2) zEb).trans rfl
  ·have ht':¬[]=typ:=λe=>ht e.symm;rw[decide_eq_false ht,q0D];simp+decide only[RL,↓reduceIte,i0,ma,c18,n25,q0p,Nat.reduceEqDiff,m',ht]
 rw[if_neg c26];have n26:¬op=((26:Nat):Int):=c26;have eat2:∀{o:AObj} {R E:AV->AH->Prop},GE tab 163 [vl,.int .i64 nn] (h.add o) R E=R (sv (atS f.slots nn)) (h.add o):=ge_rw (at_gp H (s5.more (q2g _ _) λ_ _ r=>r));have egl:∀{o:AObj} {R E:AV->AH->Prop},GE tab 164 [.ptr C 0,.int .i64 nn] (h.add o) R E=R (sv (zDa p nn)) (h.add o):=ge_rw (global_gp H (BB.more (q2g _ _)));by_cases c28:op=28
 ·rw[if_pos c28];have c:op=((28:Nat):Int):=c28;subst c;simp+decide only[RL,↓reduceIte,i0,ma,c18,n25,n26,q0p,Nat.reduceEqDiff,sm,ld,g,g6,neC,eat2];refine(is_gp H r0 (a.more (M.trans (q2g _ _)) λ_ _ r=>r) (lit_one (at_len s5 nn))).to λw h2 q=>?_;obtain⟨rfl,m2⟩:=q;simp only[RL,↓reduceIte];exact(M.trans (q2g _ _)).trans m2
 rw[if_neg c28];have n28:¬op=((28:Nat):Int):=c28;by_cases c30:op=30
 ·rw[if_pos c30];have c:op=((30:Nat):Int):=c30;subst c;simp+decide only[RL,↓reduceIte,i0,ma,c18,n25,n26,q0p,Nat.reduceEqDiff,sm,ld,egl];refine(is_gp H r0 (a.more (M.trans (q2g _ _)) λ_ _ r=>r) (lit_one (glob_len s2 nn))).to λw h2 q=>?_;obtain⟨rfl,m2⟩:=q;simp only[RL,↓reduceIte];exact(M.trans (q2g _ _)).trans m2
 rw[if_neg c30];have n30:¬op=((30:Nat):Int):=c30;by_cases c32:op=32
 ·rw[if_pos c32];have c:op=((32:Nat):Int):=c32;subst c;simp+decide only[RL,↓reduceIte,i0,ma,c18,n25,n26,q0p,Nat.reduceEqDiff,ld];refine(is_gp H r0 (a.more (M.trans (q2g _ _)) λ_ _ r=>r) (lit_one (by decide))).to λw h2 q=>?_;obtain⟨rfl,m2⟩:=q;simp only[RL,↓reduceIte];exact(M.trans (q2g _ _)).trans m2
 rw[if_neg c32];have n32:¬op=((32:Nat):Int):=c32;by_cases c31:op=31
 ·rw[if_pos c31];have c:op=((31:Nat):Int):=c31;subst c;simp+decide only[RL,↓reduceIte,i0,ma,c18,n25,n26,q0p,Nat.reduceEqDiff,ld];refine(isCall_gp H (BB.more M) r0 (a.more M λ_ _ r=>r)).to λw h2 q=>?_;obtain⟨rfl,m2⟩:=q;simp only[RL,↓reduceIte];exact M.trans m2
 rw[if_neg c31];have n31:¬op=((31:Nat):Int):=c31;simp+decide only[RL,↓reduceIte,i0,ma,c18,n25,n26,n28,n30,n31,n32,ld];refine(isNew_gp H (BB.more M) r0).to λw h2 q=>?_;obtain⟨rfl,m2⟩:=q;simp only[RL,↓reduceIte];exact M.trans m2
end
def InL(f:FunD)(l:List Int):Prop:=∀z∈l,∃n:Nat,z=n/\n<f.ins.length
def opS(f:FunD)(z:Int):Int:=match f.ins[z.toNat]? with | some x=>x.op | none=>0
def ledB(f:FunD)(b:Nat):List Int:=(ledS f).getD b []
noncomputable def phiAt(f:FunD)(wh ix:Nat->Int)(x:InsD)(b:Nat)(i:Nat):Bool:=decide (endS f wh ix (x.args.getD i 0) ((ledB f b).getD i 0).toNat=x.typ)
noncomputable def phiS(p:ProgD)(f:FunD)(wh ix:Nat->Int)(x:InsD)(b k:Nat):Bool:=if b=0 then false else if 0<k/\opS f ((match f.blocks[b]? with | some y=>y.list | none=>[]).getD (k-1) 0)≠34 then false else if x.args.length≠(ledB f b).length then false else if zBl p.structs x.typ=true then(List.range (ledB f b).length).all (phiAt f wh ix x b) else false
theorem ledB_in{f:FunD}{b:Nat}{z:Int}(h:z∈ledB f b):∃n:Nat,z=n/\n<f.blocks.length:=by
 unfold ledB at h;rw[q0e] at h;cases e:(ledS f)[b]? with
 | none=>rw[e] at h;cases h
 | some l=>rw[e] at h;exact zJh _ l (q0L e) z h
section
variable{tab:Nat->Option AFunc}{h:AH}(H:PV tab)
include H in
theorem isPhi_gp{C:Nat}{p:ProgD}{f:FunD}{wh ix:Nat->Int}(X:CkV h C p f wh ix)(hb0:0<f.blocks.length)(hr:AllR f){b k:Nat}(hb:b<f.blocks.length)(hk:k<f.blocks[b].list.length)(hL:InL f f.blocks[b].list){E:List AV}{x:InsD}(r:InsV h E x):GP tab 123 [.ptr C 0,.agg E,.int .i64 (b:Int),.int .i64 (k:Int)] h λv h1=>v=.bool (phiS p f wh ix x b k)/\More h h1:=by
 have XX:=X;obtain⟨c,vw,vx,va,vn,B,g9,g10,g11,g12,-,sA,-⟩:=X;have BB:=B;obtain⟨vs,vg,vf,n,vp,r',vl,vi,vb,g,hC,g0,g1,g2,g3,g4,g5,g6,g7,g8,en,er,s1,s2,s3,s4,s5,s6,s7,k1,k2⟩:=B;obtain⟨op,typ,xa,nn,name⟩:=x;obtain⟨vx,rfl,sx,j0,j1,j2,j3⟩:=r;dsimp only at *;have i0:zAb [.ptr C 0,.agg [.int .i64 op,sv typ,vx,.int .i64 nn,sv name],.int .i64 (b:Int),.int .i64 (k:Int)]=zAa [.ptr C 0,.agg [.int .i64 op,sv typ,vx,.int .i64 nn,sv name],.int .i64 (b:Int),.int .i64 (k:Int)]:=rfl;have m':∀o,More h (h.add o)=True:=λo=>eq_true (q2g h o);have M:=q2g h (.cells (zAa [.int .i64 op,sv typ,vx,.int .i64 nn,sv name]) 5 none false);have neC:¬h.next=C:=by omega
 obtain⟨ib,ob,Eb,jb,eb,⟨vli,rfl,sl,q0,q1,q2,q3⟩,-,lb⟩:=s7.at hb;have lb0:∀(h':AH) [MoreC h h'],oLoad (.c (.ptr ib ob)) .leaf [] h'=.val vli h':=lb 0 _ rfl;have mv:=s7.mv;have ml:=sl.mv;have mi:=s6.mv;have ms:=s1.mv;have hlen:(ledS f).length=f.blocks.length:=zD8 _;obtain⟨ia,oa,Ea,ja,ea,⟨vle,rfl,sle⟩,-,la⟩:=sA.at (show b<(ledS f).length by omega);have la0:∀(h':AH) [MoreC h h'],oLoad (.c (.ptr ia oa)) .leaf [] h'=.val vle h':=la 0 _ rfl;have mA:=sA.mv;have hled:(ledS f)[b]=ledB f b:=by unfold ledB;rw[q0e,q0a (by omega)];rfl
 rw[hled] at sle;have lle:=sle.len;have mle:=sle.mv;have llx:=sx.len;have mx:=sx.mv;have hkb:=sl.bound;unfold maxLen at hkb;refine GE.gp (zAi H.t123 rfl ?_) (E:=λ_ _=>False) λ_ _ x=>x;unfold phiS;rw[q0a hb];dsimp only;by_cases b0:b=0
 ·subst b0;rw[if_pos rfl];simp+decide(disch:=omega)only[RL,↓reduceIte,i0,g,g8,neC,ml,jb,lb0,m']
 rw[if_neg b0];have b0':¬(b:Int)=((0:Nat):Int):=by omega
 have kk:(0<k/\opS f (f.blocks[b].list.getD (k-1) 0)≠34)\/¬(0<k/\opS f (f.blocks[b].list.getD (k-1) 0)≠34):=Classical.em _;rcases kk with kk | kk
 ·rw[if_pos kk];obtain⟨k0,ko⟩:=kk;obtain⟨il,ol,El,jl,el,⟨rfl,hz⟩,-,ll⟩:=sl.at (show k-1<f.blocks[b].list.length by omega);obtain⟨z,hz1,hz2⟩:=hL _ (q0l (show k-1<f.blocks[b].list.length by omega));have ll0:∀(h':AH) [MoreC h h'],oLoad (.c (.ptr il ol)) .leaf [] h'=.val (.int .i64 (z:Int)) h':=by rw[<-hz1];exact ll 0 _ rfl
  obtain⟨ii,oi,Ei,ji,ei,⟨vax,rfl,sax,-⟩,-,li⟩:=s6.at hz2;have li0:∀(h':AH) [MoreC h h'],oLoad (.c (.ptr ii oi)) .leaf [] h'=.val (.int .i64 f.ins[z].op) h':=li 0 _ rfl;have hop:¬f.ins[z].op=((34:Nat):Int):=λe=>ko (by
   rw[q0e,q0a (by omega)];show opS f f.blocks[b].list[k-1]=34;rw[hz1];unfold opS;rw[q0n,q0a hz2];exact e)
  have k0':((0:Nat):Int)<(k:Int):=by omega
  simp+decide(disch:=omega)only[RL,↓reduceIte,i0,g,g8,g7,neC,ml,jb,lb0,b0',k0',jl,ll0,ji,li0,hop,m']
 rw[if_neg kk];have k2:(¬((0:Nat):Int)<(k:Int))\/(((0:Nat):Int)<(k:Int)/\opS f (f.blocks[b].list.getD (k-1) 0)=34):=by
  by_cases k0:0<k
  ·exact .inr ⟨by omega,Classical.byContradiction λe=>kk ⟨k0,e⟩⟩
  ·exact .inl (by omega)
 have hop:opS f (f.blocks[b].list.getD (k-1) 0)=34->∀z:Nat,f.blocks[b].list[k-1]?=some (z:Int)->(hz2:z<f.ins.length)->f.ins[z].op=((34:Nat):Int):=by
  intro ko z hz hz2;rw[q0e,hz] at ko;have ko:opS f (z:Int)=34:=ko;unfold opS at ko;rw[q0n,q0a hz2] at ko;exact ko
 by_cases hla:xa.length≠(ledB f b).length
 ·rw[if_pos hla];have hla':¬(xa.length:Int)=((ledB f b).length:Int):=by omega
  rcases k2 with k0' | ⟨k0',ko⟩
  ·simp+decide(disch:=omega)only[RL,↓reduceIte,i0,g,g8,g11,neC,ml,jb,lb0,b0',k0',ja,la0,lle,llx,hla',m']
  ·obtain⟨il,ol,El,jl,el,⟨rfl,hz⟩,-,ll⟩:=sl.at (show k-1<f.blocks[b].list.length by omega);obtain⟨z,hz1,hz2⟩:=hL _ (q0l (show k-1<f.blocks[b].list.length by omega));have ll0:∀(h':AH) [MoreC h h'],oLoad (.c (.ptr il ol)) .leaf [] h'=.val (.int .i64 (z:Int)) h':=by rw[<-hz1];exact ll 0 _ rfl
   obtain⟨ii,oi,Ei,ji,ei,⟨vax,rfl,sax,-⟩,-,li⟩:=s6.at hz2;have li0:∀(h':AH) [MoreC h h'],oLoad (.c (.ptr ii oi)) .leaf [] h'=.val (.int .i64 f.ins[z].op) h':=li 0 _ rfl;have hop:=hop ko z (by rw[q0a (by omega),hz1]) hz2;simp+decide(disch:=omega)only[RL,↓reduceIte,i0,g,g8,g7,g11,neC,ml,jb,lb0,b0',k0',jl,ll0,ji,li0,hop,ja,la0,lle,llx,hla',m']
 rw[if_neg hla];have hla:xa.length=(ledB f b).length:=by omega
 have hla':(xa.length:Int)=((ledB f b).length:Int):=by omega
 rcases k2 with k0' | ⟨k0',ko⟩
 case' inl=>simp+decide(disch:=omega)only[RL,↓reduceIte,i0,g,g8,g11,g0,neC,ml,jb,lb0,b0',k0',ja,la0,lle,llx,hla']
 case' inr=>
  obtain⟨il,ol,El,jl,el,⟨rfl,hz⟩,-,ll⟩:=sl.at (show k-1<f.blocks[b].list.length by omega);obtain⟨z,hz1,hz2⟩:=hL _ (q0l (show k-1<f.blocks[b].list.length by omega));have ll0:∀(h':AH) [MoreC h h'],oLoad (.c (.ptr il ol)) .leaf [] h'=.val (.int .i64 (z:Int)) h':=by rw[<-hz1];exact ll 0 _ rfl
  obtain⟨ii,oi,Ei,ji,ei,⟨vax,rfl,sax,-⟩,-,li⟩:=s6.at hz2;have li0:∀(h':AH) [MoreC h h'],oLoad (.c (.ptr ii oi)) .leaf [] h'=.val (.int .i64 f.ins[z].op) h':=li 0 _ rfl;have hop:=hop ko z (by rw[q0a (by omega),hz1]) hz2;simp+decide(disch:=omega)only[RL,↓reduceIte,i0,g,g8,g7,g11,g0,neC,ml,jb,lb0,b0',k0',jl,ll0,ji,li0,hop,ja,la0,lle,llx,hla']
 all_goals
  refine(zF1 H (s1.more M λ_ _ r=>r)).to λw h2 q=>?_;obtain⟨rfl,m2⟩:=q;have gC2:=((M.trans m2).keep _ hC).trans g;have gb2:h2.mem.get h.next=some (.cells (zAa [.int .i64 op,sv typ,vx,.int .i64 nn,sv name]) 5 none false):=(m2.keep _ (q0h _)).trans (by rw[q2a,q1b]);have M2:=eq_true (M.trans m2);haveI:MoreC h h2:=⟨M.trans m2⟩;cases ht:zBl p.structs typ with
  | false=>simp+decide(disch:=omega)only[RL,↓reduceIte,M2]
  | true=>
   simp+decide(disch:=omega)only[RL,↓reduceIte,gC2,g11,ja,la0,lle];have ee:∀{z:Int} {n:Nat} (hn:n<f.blocks.length) {R E:AV->AH->Prop},GE tab 127 [.ptr C 0,.int .i64 z,.int .i64 (n:Int)] h2 R E=R (sv (endS f wh ix z n)) h2:=λhn=>ge_rw (end_gp H (XX.more (M.trans m2)) hb0 hr hn);have hbl:=sle.bound;unfold maxLen at hbl;refine zAd (λm l d h1=>∃i,m=(ledB f b).length-i/\i<=(ledB f b).length/\d=[]/\h1=h2/\(∀j,j<i->phiAt f wh ix ⟨op,typ,xa,nn,name⟩ b j=true)/\l.get 0=some (.ptr C 0)/\l.get 5=some (.ptr h.next 0)/\l.get 7=some (.int .i64 (i:Int))/\l.get 8=some (.int .i64 ((ledB f b).length:Int))/\l.get 10=some vle) ?_ ((ledB f b).length-0) ⟨0,rfl,q0k _,rfl,rfl,λj hj=>by omega,rfl,rfl,rfl,rfl,rfl⟩;rintro m l d h1 ⟨i,rfl,hi,rfl,rfl,hall,l0,l5,l7,l8,l10⟩;by_cases hlt:i<(ledB f b).length
   ·obtain⟨ik,ok,Ek,jk,ek,⟨rfl,-⟩,-,lk⟩:=sle.at hlt;obtain⟨y,hy1,hy2⟩:=ledB_in (q0l hlt);have lk0:∀(h':AH) [MoreC h h'],oLoad (.c (.ptr ik ok)) .leaf [] h'=.val (.int .i64 (y:Int)) h':=by rw[<-hy1];exact lk 0 _ rfl
    obtain⟨ig,og,Eg,jg,eg,⟨rfl,-⟩,-,lg⟩:=sx.at (show i<xa.length by omega);have lg0:∀(h':AH) [MoreC h h'],oLoad (.c (.ptr ig og)) .leaf [] h'=.val (.int .i64 xa[i]) h':=lg 0 _ rfl;have hat:phiAt f wh ix ⟨op,typ,xa,nn,name⟩ b i=decide (endS f wh ix xa[i] y=typ):=by
     unfold phiAt;rw[q0e,q0e,q0a (by omega:i<xa.length),q0a hlt];show decide (endS f wh ix xa[i] ((ledB f b)[i]).toNat=typ)=_;rw[hy1,q0n]
    by_cases he:endS f wh ix xa[i] y=typ
    ·have he':=he.symm;rw[decide_eq_true he] at hat;simp+decide(disch:=omega)only[RL,↓reduceIte,l0,l5,l7,l8,l10,hlt,jk,lk0,jg,lg0,gb2,ee hy2,he];exact⟨_,by omega,i+1,rfl,by omega,λj hj=>by
      by_cases e:j=i
      ·subst e;exact hat
      ·exact hall j (by omega),rfl⟩
    ·have he':¬typ=endS f wh ix xa[i] y:=λe=>he e.symm;rw[decide_eq_false he] at hat;have hf:(List.range (ledB f b).length).all (phiAt f wh ix ⟨op,typ,xa,nn,name⟩ b)=false:=by
      rw[List.all_eq_false];exact⟨i,List.mem_range.mpr hlt,by rw[hat];decide⟩
     rw[hf];simp+decide(disch:=omega)only[RL,↓reduceIte,l0,l5,l7,l8,l10,hlt,jk,lk0,jg,lg0,gb2,ee hy2,he,M2]
   ·have hf:(List.range (ledB f b).length).all (phiAt f wh ix ⟨op,typ,xa,nn,name⟩ b)=true:=by
     rw[List.all_eq_true];intro j hj;exact hall j (by have:=List.mem_range.mp hj;omega)
    rw[hf];simp(disch:=omega)only[RL,↓reduceIte,l7,l8,l10,hlt,M2]
end
theorem Arr.slG{α:Type}{el:α->AV}{R:List AV->α->Prop}{h:AH}{F:Nat->Prop}{v:AV}{xs:List α}(a:Arr h F v (xs.map el))(hR:∀x∈xs,R [el x] x):SlV h 1 R v xs:=by
 generalize e:xs.map el=cs at a;cases a with
 | nils=>have:xs=[]:=by simpa using e
         exact .inl ⟨this,.inl rfl⟩
 | emp=>have:xs=[]:=by simpa using e
        exact .inl ⟨this,.inr ⟨_,_,_,rfl⟩⟩
 | sl a b c d f g k=>
  have hl:cs.length=xs.length:=by rw[<-e,q0j]
  refine .inr ⟨_,0,_,_,_,none,false,by rw[hl],?_,d,c,by rw[<-hl];exact q0m k (by decide),λi hi=>⟨[el xs[i]],rfl,hR _ (q0l hi),?_⟩⟩
  ·rw[<-hl];rcases g with⟨rfl,g⟩ | rfl
   ·exact⟨rfl,q0c _,by rw[g];omega⟩
   ·exact q0c _
  ·refine zBk ?_ rfl;rw[show 0+i*1=i by omega,f i (by omega),<-e,q0t,q0a hi];rfl
def BoolR(E:List AV)(b:Bool):Prop:=E=[.bool b]
theorem idxP_in{α:Type}[DecidableEq α]{xs:List α}{y:α}[Decidable (y∈xs)]:decide ((0:Int)<=idxP xs λx=>decide (x=y))=decide (y∈xs):=by
 rw[zJm];by_cases h:y∈xs
 ·rw[decide_eq_true h,List.any_eq_true];exact⟨y,h,decide_eq_true rfl⟩
 ·rw[decide_eq_false h,List.any_eq_false];intro x hx;rw[decide_eq_true_eq];exact λe=>h (e▸hx)
section
variable{tab:Nat->Option AFunc}{h:AH}(H:PV tab)
include H in
theorem idxStr_gp{v:AV}{xs:List Str}{f:Nat}{caps:List AV}{p:Str->Bool}(a:SlV h 1 StrR v xs)(hq:∀h1,More h h1->∀x∈xs,StrR [sv x] x->GP tab f (sv x::caps) h1 λw h2=>w=.bool (p x)/\More h1 h2):GP tab 150 [v,.fn f [] caps] h λw h1=>w=.int .i64 (idxP xs p)/\More h h1:=by
 have i0:zAb [v,.fn f [] caps]=zAa [v,.fn f [] caps]:=rfl;have mv:=a.mv;have ln:=a.len;have hb:=a.bound;unfold maxLen at hb;refine gpr H.t150 ?_;simp+decide(disch:=omega)only[RL,↓reduceIte,i0,mv,ln];refine zAd (λm l d1 h1=>∃k,m=xs.length-k/\k<=xs.length/\d1=[]/\More h h1/\l.get 0=some v/\l.get 1=some (.fn f [] caps)/\l.get 2=some (.int .i64 (k:Int))/\l.get 3=some (.int .i64 (xs.length:Int))/\∀i,i<k->(hi:i<xs.length)->p xs[i]=false) ?_ (xs.length-0) ⟨0,rfl,q0k _,rfl,q2o h,rfl,rfl,rfl,rfl,λi hi=>by omega⟩;rintro m l d1 h1 ⟨k,rfl,hk,rfl,m1,l0,l1,l2,l3,hall⟩;haveI:MoreC h h1:=⟨m1⟩;by_cases hlt:k<xs.length
 ·obtain⟨id,o,E,ix,e1,r,ld,lw⟩:=a.at hlt;have eE:E=[sv xs[k]]:=r.1;subst eE;have lw0:oLoad (.c (.ptr id o)) .leaf [] h1=.val (sv xs[k]) h1:=lw 0 _ rfl h1;simp+decide(disch:=omega)only[RL,↓reduceIte,l0,l1,l2,l3,hlt,mv,ix,lw0];rw[ge_nh (hq h1 m1 _ (q0l hlt) r)];cases he:p xs[k] with
  | true=>simp+decide(disch:=omega)only[RL,↓reduceIte,l2,moreT,zEe hlt hall he]
  | false=>
   simp+decide(disch:=omega)only[RL,↓reduceIte,l2];refine⟨xs.length-(k+1),by omega,k+1,rfl,hlt,m1.trans zHm,l0,l1,rfl,l3,λi hi hi'=>?_⟩;by_cases e:i=k
   ·subst e;exact he
   ·exact hall i (by omega) hi'
 ·have hn:=zB5 λi hi=>hall i (by omega) hi;simp+decide(disch:=omega)only[RL,↓reduceIte,l2,l3,hlt,moreT,neg1,hn]
include H in
theorem fndStr_gp{v:AV}{xs:List Str}{y:Str}(a:SlV h 1 StrR v xs):GP tab 159 [v,sv y] h λw h1=>w=.int .i64 (idxP xs λx=>decide (x=y))/\h1=h:=by
 have i0:zAb [v,sv y]=zAa [v,sv y]:=rfl;have mv:=a.mv;have ln:=a.len;have hb:=a.bound;unfold maxLen at hb;refine gpr H.t159 ?_;simp+decide(disch:=omega)only[RL,↓reduceIte,i0,mv,ln];refine zAd (λm l d1 h1=>∃k,m=xs.length-k/\k<=xs.length/\d1=[]/\h1=h/\l.get 0=some v/\l.get 1=some (sv y)/\l.get 2=some (.int .i64 (k:Int))/\l.get 3=some (.int .i64 (xs.length:Int))/\∀i,i<k->(hi:i<xs.length)->¬xs[i]=y) ?_ (xs.length-0) ⟨0,rfl,q0k _,rfl,rfl,rfl,rfl,rfl,rfl,λi hi=>by omega⟩;rintro m l d1 h1 ⟨k,rfl,hk,rfl,rfl,l0,l1,l2,l3,hall⟩;by_cases hlt:k<xs.length
 ·obtain⟨id,o,E,ix,e1,r,ld,lw⟩:=a.at hlt;have eE:E=[sv xs[k]]:=r.1;subst eE;have lw0:oLoad (.c (.ptr id o)) .leaf [] h1=.val (sv xs[k]) h1:=lw 0 _ rfl h1;by_cases he:xs[k]=y
  ·have he':=he.symm;have hi:=zEe (q:=λx=>decide (x=y)) hlt (λi hi h'=>decide_eq_false (hall i hi h')) (decide_eq_true he);simp+decide(disch:=omega)only[RL,↓reduceIte,l0,l1,l2,l3,hlt,mv,ix,lw0,hi,he]
  ·have he':¬y=xs[k]:=λe=>he e.symm;simp+decide(disch:=omega)only[RL,↓reduceIte,l0,l1,l2,l3,hlt,mv,ix,lw0,he'];refine⟨_,by omega,k+1,rfl,by omega,rfl,λi hi hi'=>?_⟩;by_cases e:i=k
   ·subst e;exact he
   ·exact hall i (by omega) hi'
 ·have hn:=zB5 (q:=λx=>decide (x=y)) λi hi=>decide_eq_false (hall i (by omega) hi);simp+decide(disch:=omega)only[RL,↓reduceIte,l2,l3,hlt,neg1,hn]
include H in
theorem fndBool_gp{v:AV}{xs:List Bool}{y:Bool}(a:SlV h 1 BoolR v xs):GP tab 154 [v,.bool y] h λw h1=>w=.int .i64 (idxP xs λx=>decide (x=y))/\h1=h:=by
 have i0:zAb [v,.bool y]=zAa [v,.bool y]:=rfl;have mv:=a.mv;have ln:=a.len;have hb:=a.bound;unfold maxLen at hb;refine gpr H.t154 ?_;simp+decide(disch:=omega)only[RL,↓reduceIte,i0,mv,ln];refine zAd (λm l d1 h1=>∃k,m=xs.length-k/\k<=xs.length/\d1=[]/\h1=h/\l.get 0=some v/\l.get 1=some (.bool y)/\l.get 2=some (.int .i64 (k:Int))/\l.get 3=some (.int .i64 (xs.length:Int))/\∀i,i<k->(hi:i<xs.length)->¬xs[i]=y) ?_ (xs.length-0) ⟨0,rfl,q0k _,rfl,rfl,rfl,rfl,rfl,rfl,λi hi=>by omega⟩;rintro m l d1 h1 ⟨k,rfl,hk,rfl,rfl,l0,l1,l2,l3,hall⟩;by_cases hlt:k<xs.length
 ·obtain⟨id,o,E,ix,e1,r,ld,lw⟩:=a.at hlt;have eE:E=[.bool xs[k]]:=r;subst eE;have lw0:oLoad (.c (.ptr id o)) .leaf [] h1=.val (.bool xs[k]) h1:=lw 0 _ rfl h1;by_cases he:xs[k]=y
  ·have he':=he.symm;have hi:=zEe (q:=λx=>decide (x=y)) hlt (λi hi h'=>decide_eq_false (hall i hi h')) (decide_eq_true he);simp+decide(disch:=omega)only[RL,↓reduceIte,l0,l1,l2,l3,hlt,mv,ix,lw0,hi,he]
  ·have he':¬y=xs[k]:=λe=>he e.symm;simp+decide(disch:=omega)only[RL,↓reduceIte,l0,l1,l2,l3,hlt,mv,ix,lw0,he'];refine⟨_,by omega,k+1,rfl,by omega,rfl,λi hi hi'=>?_⟩;by_cases e:i=k
   ·subst e;exact he
   ·exact hall i (by omega) hi'
 ·have hn:=zB5 (q:=λx=>decide (x=y)) λi hi=>decide_eq_false (hall i (by omega) hi);simp+decide(disch:=omega)only[RL,↓reduceIte,l2,l3,hlt,neg1,hn]
include H in
theorem hasStr_gp{v:AV}{xs:List Str}{y:Str}(a:SlV h 1 StrR v xs):GP tab 125 [v,sv y] h λw h1=>w=.bool (decide (y∈xs))/\h1=h:=by
 have i0:zAb [v,sv y]=zAa [v,sv y]:=rfl;have mv:=a.mv;have e1:∀{R E:AV->AH->Prop},GE tab 159 [v,sv y] h R E=R (.int .i64 (idxP xs λx=>decide (x=y))) h:=ge_rw (fndStr_gp H a);have e2:decide (((0:Nat):Int)<=idxP xs λx=>decide (x=y))=decide (y∈xs):=idxP_in;refine gpr H.t125 ?_;simp only[RL,↓reduceIte,i0,mv,e1,e2]
include H in
theorem hasBool_gp{v:AV}{xs:List Bool}{y:Bool}(a:SlV h 1 BoolR v xs):GP tab 117 [v,.bool y] h λw h1=>w=.bool (decide (y∈xs))/\h1=h:=by
 have i0:zAb [v,.bool y]=zAa [v,.bool y]:=rfl;have mv:=a.mv;have e1:∀{R E:AV->AH->Prop},GE tab 154 [v,.bool y] h R E=R (.int .i64 (idxP xs λx=>decide (x=y))) h:=ge_rw (fndBool_gp H a);have e2:decide (((0:Nat):Int)<=idxP xs λx=>decide (x=y))=decide (y∈xs):=idxP_in;refine gpr H.t117 ?_;simp only[RL,↓reduceIte,i0,mv,e1,e2]
include H in
theorem anyStr_gp{v:AV}{xs:List Str}{f:Nat}{caps:List AV}{p:Str->Bool}(a:SlV h 1 StrR v xs)(hq:∀h1,More h h1->∀x∈xs,StrR [sv x] x->GP tab f (sv x::caps) h1 λw h2=>w=.bool (p x)/\More h1 h2):GP tab 112 [v,.fn f [] caps] h λw h1=>w=.bool (xs.any p)/\More h h1:=by
 have i0:zAb [v,.fn f [] caps]=zAa [v,.fn f [] caps]:=rfl;have mv:=a.mv;have e1:∀{R E:AV->AH->Prop},GE tab 150 [v,.fn f [] caps] h R E=R (.int .i64 (idxP xs p)) (nh tab 150 [v,.fn f [] caps] h):=ge_nh (idxStr_gp H a hq);have e2:decide (((0:Nat):Int)<=idxP xs p)=xs.any p:=zJm;refine gpr H.t112 ?_;simp only[RL,↓reduceIte,i0,mv,e1,e2,moreT]
include H in
theorem anyBlock_gp{v:AV}{R:List AV->BlkD->Prop}{xs:List BlkD}{f:Nat}{caps:List AV}{p:BlkD->Bool}(a:SlV h 5 R v xs)(hq:∀h1,More h h1->∀E,∀x∈xs,R E x->GP tab f (.agg E::caps) h1 λw h2=>w=.bool (p x)/\More h1 h2):GP tab 114 [v,.fn f [] caps] h λw h1=>w=.bool (xs.any p)/\More h h1:=by
 have i0:zAb [v,.fn f [] caps]=zAa [v,.fn f [] caps]:=rfl;have mv:=a.mv;have e1:∀{R E:AV->AH->Prop},GE tab 152 [v,.fn f [] caps] h R E=R (.int .i64 (idxP xs p)) (nh tab 152 [v,.fn f [] caps] h):=ge_nh (idxBlock_gp H a hq);have e2:decide (((0:Nat):Int)<=idxP xs p)=xs.any p:=zJm;refine gpr H.t114 ?_;simp only[RL,↓reduceIte,i0,mv,e1,e2,moreT]
end
noncomputable def typsS(f:FunD)(wh ix:Nat->Int)(x:InsD)(b k:Nat):List Str:=x.args.map λa=>typS f wh ix a b (k:Int)
def zF5(x:InsD)(b:Nat):Bool:=isOpS x.op&&(!(decide (0<=argsS x.op)&&decide (argsS x.op≠(x.args.length:Int)))&&(zKk x&&!(decide (x.op=20)&&decide (b≠0))))
noncomputable def insS(p:ProgD)(f:FunD)(wh ix:Nat->Int)(x:InsD)(b k:Nat):Bool:=if zF5 x b=false then false else if x.op=34 then phiS p f wh ix x b k else if[]∈typsS f wh ix x b k then false else rowS p f x (typsS f wh ix x b k)
theorem args_ge{op:Int}:argsS op=-1\/0<=argsS op:=by
 unfold argsS
 (repeat' split)<;>omega
theorem typ_len{h:AH}{v:AV}{f:FunD}(a:SlV h 5 (InsV h) v f.ins){wh ix:Nat->Int}{z:Int}{b:Nat}{k:Int}:(typS f wh ix z b k).length<=maxLen:=by
 unfold typS;split
 ·cases e:f.ins[z.toNat]? with
  | none=>exact q0k _
  | some x=>
   dsimp only;split
   ·obtain⟨j,hj⟩:=List.getElem?_eq_some_iff.mp e;obtain⟨id,o,E,ix,e1,⟨_,-,-,-,-,hl,-⟩,-⟩:=a.at j;rw[hj] at hl;exact hl
   ·exact q0k _
 ·exact q0k _
section
variable{tab:Nat->Option AFunc}{h:AH}(H:PV tab)
include H in
theorem isIns_gp{C:Nat}{p:ProgD}{f:FunD}{wh ix:Nat->Int}(X:CkV h C p f wh ix)(hb0:0<f.blocks.length)(hr:AllR f){b k i:Nat}(hb:b<f.blocks.length)(hk:k<f.blocks[b].list.length)(hL:InL f f.blocks[b].list)(hi:i<f.ins.length)(hki:f.blocks[b].list[k]=(i:Int))(hs:f.ins[i].args.length<=100000):GP tab 72 [.ptr C 0,.int .i64 (b:Int),.int .i64 (k:Int)] h λv h1=>v=.bool (insS p f wh ix f.ins[i] b k)/\More h h1:=by
 have XX:=X;obtain⟨c,vw,vx,va,vn,B,g9,g10,g11,g12,-,sA,-⟩:=X;have BB:=B;obtain⟨vs,vg,vf,n,vp,r',vl,vi,vb,g,hC,g0,g1,g2,g3,g4,g5,g6,g7,g8,en,er,s1,s2,s3,s4,s5,s6,s7,k1,k2⟩:=B;have i0:zAb [.ptr C 0,.int .i64 (b:Int),.int .i64 (k:Int)]=zAa [.ptr C 0,.int .i64 (b:Int),.int .i64 (k:Int)]:=rfl;obtain⟨ib,ob,Eb,jb,eb,⟨vli,rfl,sl,q0,q1,q2,q3⟩,-,lb⟩:=s7.at hb;have lb0:∀(h':AH) [MoreC h h'],oLoad (.c (.ptr ib ob)) .leaf [] h'=.val vli h':=lb 0 _ rfl;have mv:=s7.mv;have ml:=sl.mv;have mi:=s6.mv;obtain⟨il,ol,El,jl,el,⟨rfl,hz⟩,-,ll⟩:=sl.at hk;have ll0:∀(h':AH) [MoreC h h'],oLoad (.c (.ptr il ol)) .leaf [] h'=.val (.int .i64 (i:Int)) h':=by rw[<-hki];exact ll 0 _ rfl
 obtain⟨ii,oi,Ei,ji,ei,r,ld,-⟩:=s6.at hi;generalize f.ins[i]=x at *;have r0:=r;obtain⟨op,typ,xa,nn,name⟩:=x;obtain⟨vx,rfl,sx,j0,j1,j2,j3⟩:=r;dsimp only at *;have ea:∀{h':AH} {R E:AV->AH->Prop},GE tab 120 [.int .i64 op] h' R E=R (.int .i64 (argsS op)) h':=ge_rw (args_gp H);have eo:∀{h':AH} {R E:AV->AH->Prop},GE tab 121 [.int .i64 op] h' R E=R (.bool (isOpS op)) h':=ge_rw (isOp_gp H);have epl:∀{h':AH} {R E:AV->AH->Prop},GE tab 122 [.agg [.int .i64 op,sv typ,vx,.int .i64 nn,sv name]] h' R E=R (.bool (zKk ⟨op,typ,xa,nn,name⟩)) (nh tab 122 [.agg [.int .i64 op,sv typ,vx,.int .i64 nn,sv name]] h'):=ge_nh (plain_gp H r0);refine GE.gp (zAi H.t72 rfl ?_) (E:=λ_ _=>False) λ_ _ x=>x;have ldi:zAy 5 (.c (.ptr ii oi)) .leaf [] h=.val (.agg [.int .i64 op,sv typ,vx,.int .i64 nn,sv name]) h:=ld h;have llx:=sx.len;have mx:=sx.mv;obtain⟨cB,eB⟩:∃cB,cB=T.put (some (sv name)) (T.put (some (.int .i64 nn)) (T.put (some vx) (T.put (some (sv typ)) (T.put (some (.int .i64 op)) (zAa [.int .i64 ((0:Nat):Int),sv [],.nils,.int .i64 ((0:Nat):Int),sv []]) 0) 1) 2) 3) 4:=⟨_,rfl⟩;rw[zC6,zKh,run_s3];refine run_cut3 (λl d h1=>d=[]/\zF5 ⟨op,typ,xa,nn,name⟩ b=true/\More h h1/\h.next<h1.next/\h1.mem.get h.next=some (.cells cB 5 none false)/\l.get 0=some (.ptr C 0)/\l.get 1=some (.int .i64 (b:Int))/\l.get 2=some (.int .i64 (k:Int))/\l.get 3=some (.ptr h.next 0)) ?_ ?_
 ·simp+decide(disch:=omega)only[RL,↓reduceIte,i0,g,g8,g7,jb,lb0,jl,ll0,ji,ldi];refine zCu λhB eh=>?_;rw[<-eB] at eh;have gB:hB.mem.get h.next=some (.cells cB 5 none false):=by rw[eh,q2d]
  have mB:More h hB:=by rw[eh];exact(q2g _ _).set (q0c _) _
  have nB:h.next<hB.next:=by rw[eh];exact q0h _
  have ld0:∀(h':AH) [MoreC hB h'],oLoad (.c (.ptr h.next 0)) .leaf [] h'=.val (.int .i64 op) h':=λh' _=>zBa (kp gB nB) (by rw[eB];rfl);have ld2:∀(h':AH) [MoreC hB h'],oLoad (.c (.ptr h.next 2)) .leaf [] h'=.val vx h':=λh' _=>zBa (kp gB nB) (by rw[eB];rfl);have ldA:∀(h':AH) [MoreC hB h'],zAy 5 (.c (.ptr h.next 0)) .leaf [] h'=.val (.agg [.int .i64 op,sv typ,vx,.int .i64 nn,sv name]) h':=λh' _=>zAp (kp gB nB) (by rw[eB];rfl);have mT:∀(h':AH) [MoreC hB h'],More h h'=True:=λh' i=>eq_true (mB.trans i.m);have gT:∀(h':AH) [MoreC hB h'],h'.mem.get h.next=some (.cells cB 5 none false):=λh' _=>kp gB nB;have nT:∀(h':AH) [MoreC hB h'],(h.next<h'.next)=True:=λh' i=>eq_true (q0d nB i.m.next);simp(disch:=omega)only[RL,↓reduceIte,ea,ld0];have hI:zF5 ⟨op,typ,xa,nn,name⟩ b=false->insS p f wh ix ⟨op,typ,xa,nn,name⟩ b k=false:=λe=>if_pos e;have hE:zF5 ⟨op,typ,xa,nn,name⟩ b=(isOpS op&&(!(decide (0<=argsS op)&&decide (argsS op≠(xa.length:Int)))&&(zKk ⟨op,typ,xa,nn,name⟩&&!(decide (op=20)&&decide (b≠0))))):=rfl;cases hO:isOpS op with
  | false=>
   have hI:=hI (by rw[hE,hO];rfl);simp+decide(disch:=omega)only[RL,↓reduceIte,eo,hO,hI,mT]
  | true=>
   rw[hO,q0E] at hE;rcases(show ¬((0:Nat):Int)<=argsS op\/(((0:Nat):Int)<=argsS op/\argsS op=(xa.length:Int))\/(((0:Nat):Int)<=argsS op/\¬argsS op=(xa.length:Int)) from by omega) with z0 | ⟨z0,z1⟩ | ⟨z0,z1⟩
   rotate_right
   ·have hI:=hI (by rw[hE,decide_eq_true z1,decide_eq_true (show(0:Int)<=argsS op from z0)];rfl);simp+decide(disch:=omega)only[RL,↓reduceIte,eo,hO,z0,ld2,llx,z1,hI,mT]
   case' inl=>
    rw[decide_eq_false (show ¬(0:Int)<=argsS op from z0),q0D,q0A,q0E] at hE;simp(disch:=omega)only[RL,↓reduceIte,eo,hO,z0,ldA,epl]
   case' inr.inl=>
    rw[decide_eq_false (show ¬argsS op≠(xa.length:Int) from λe=>e z1),q0N,q0A,q0E] at hE;have z2:=q0k xa.length;simp(disch:=omega)only[RL,↓reduceIte,eo,hO,z2,ld2,llx,z1,ldA,epl]
   all_goals
    cases hp:zKk ⟨op,typ,xa,nn,name⟩ with
    | false=>
     have hI:=hI (by rw[hE,hp];rfl);simp+decide(disch:=omega)only[RL,↓reduceIte,hI,mT]
    | true=>
     rw[hp,q0E] at hE;by_cases z20:op=((20:Nat):Int)
     ·subst z20;by_cases zb:(b:Int)=((0:Nat):Int)
      ·rw[decide_eq_false (show ¬b≠0 by omega),q0N] at hE;have hE':zF5 ⟨((20:Nat):Int),typ,xa,nn,name⟩ b=true:=hE;simp+decide(disch:=omega)only[RL,↓reduceIte,ld0,zb,hE',mT,gT,nT]
      ·have hI:=hI (by rw[hE,decide_eq_true (show((20:Nat):Int)=20 from rfl),decide_eq_true (show b≠0 by omega)];rfl);simp+decide(disch:=omega)only[RL,↓reduceIte,ld0,zb,hI,mT]
     ·rw[decide_eq_false (show ¬op=20 from z20),q0D] at hE;simp+decide(disch:=omega)only[RL,↓reduceIte,ld0,z20,hE,mT,gT,nT]
 ·rintro l d h1 ⟨rfl,hF,m1,n1,gB,l0,l1,l2,l3⟩;have ld0:∀(h':AH) [MoreC h1 h'],oLoad (.c (.ptr h.next 0)) .leaf [] h'=.val (.int .i64 op) h':=λh' _=>zBa (kp gB n1) (by rw[eB];rfl);have ld2:∀(h':AH) [MoreC h1 h'],oLoad (.c (.ptr h.next 2)) .leaf [] h'=.val vx h':=λh' _=>zBa (kp gB n1) (by rw[eB];rfl);have ldA:∀(h':AH) [MoreC h1 h'],zAy 5 (.c (.ptr h.next 0)) .leaf [] h'=.val (.agg [.int .i64 op,sv typ,vx,.int .i64 nn,sv name]) h':=λh' _=>zAp (kp gB n1) (by rw[eB];rfl);unfold insS;rw[if_neg (by rw[hF];decide)];dsimp only;by_cases c34:op=((34:Nat):Int)
  ·rw[if_pos (show op=34 from c34)];subst c34;simp+decide(disch:=omega)only[RL,↓reduceIte,l0,l1,l2,l3,ld0,ldA];refine(isPhi_gp H (XX.more m1) hb0 hr hb hk hL (r0.more m1)).to λw h2 q=>?_;obtain⟨rfl,m2⟩:=q;simp(disch:=omega)only[RL,↓reduceIte];exact m1.trans m2
  rw[if_neg (show ¬op=34 from c34)];simp+decide(disch:=omega)only[RL,↓reduceIte,l0,l3,ld0,c34,ld2,llx];have hlx:xa.length<=100000:=hs;refine zAd (λm l d h2=>∃j v,m=xa.length-j/\j<=xa.length/\d=[]/\More h1 h2/\Arr h2 (λq=>h1.next<=q) v ((xa.take j).map λa=>sv (typS f wh ix a b (k:Int)))/\l.get 0=some (.ptr C 0)/\l.get 1=some (.int .i64 (b:Int))/\l.get 2=some (.int .i64 (k:Int))/\l.get 3=some (.ptr h.next 0)/\l.get 7=some (.int .i64 (j:Int))/\l.get 8=some (.int .i64 (xa.length:Int))/\l.get 10=some vx/\l.get 11=some v) ?_ (xa.length-0) ⟨0,.nils,rfl,q0k _,rfl,q2o _,.nils,by simp+decide(disch:=omega)only[RL,↓reduceIte,l0],by simp+decide(disch:=omega)only[RL,↓reduceIte,l1],by simp+decide(disch:=omega)only[RL,↓reduceIte,l2],by simp+decide(disch:=omega)only[RL,↓reduceIte,l3],by simp(disch:=omega)only[RL,↓reduceIte],by simp(disch:=omega)only[RL,↓reduceIte],by simp+decide(disch:=omega)only[RL,↓reduceIte],by simp+decide(disch:=omega)only[RL,↓reduceIte]⟩;clear l0 l1 l2 l3 ld0 ld2 ldA;rintro m l d h2 ⟨j,v,rfl,hj,rfl,m2,ra,l0,l1,l2,l3,l7,l8,l10,l11⟩;have gB:=(m2.keep _ n1).trans gB;have n1:=q0d n1 m2.next;have M:=m1.trans m2;haveI:MoreC h h2:=⟨M⟩;have mvv:∀h',oMove (.c v) .leaf [] h'=.val v h':=λ_=>zAg ra.mv
  by_cases hlt:j<xa.length
  ·obtain⟨ig,og,Eg,jg,eg,⟨rfl,-⟩,-,lg⟩:=sx.at hlt;have lg0:∀(h':AH) [MoreC h h'],oLoad (.c (.ptr ig og)) .leaf [] h'=.val (.int .i64 xa[j]) h':=lg 0 _ rfl;have et:∀{z:Int} {R E:AV->AH->Prop},GE tab 124 [.ptr C 0,.int .i64 z,.int .i64 (b:Int),.int .i64 (k:Int)] h2 R E=R (sv (typS f wh ix z b (k:Int))) h2:=ge_rw (typ_gp H (XX.more M) hb0 hr hb);obtain⟨v',h',ap,ra',nx,kp'⟩:=ra.pushG 16 (by decide) (x:=sv (typS f wh ix xa[j] b (k:Int))) (by rw[q0j,q0v];omega);simp+decide(disch:=omega)only[RL,↓reduceIte,l0,l1,l2,l3,l7,l8,l10,l11,hlt,jg,lg0,et,mvv,ap,show ∀h',oMove (.c v') .leaf [] h'=.val v' h' from λ_=>zAg ra'.mv];refine⟨_,by omega,j+1,v',rfl,by omega,⟨by have:=m2.next;omega,λq hq=>?_⟩,?_,rfl,rfl⟩
   ·rw[kp' q (q0d hq m2.next) λl n e=>by subst e;have:=ra.isF;omega,m2.keep q hq]
   ·have e:((xa.take (j+1)).map λa=>sv (typS f wh ix a b (k:Int)))=((xa.take j).map λa=>sv (typS f wh ix a b (k:Int)))++[sv (typS f wh ix xa[j] b (k:Int))]:=by rw[List.take_succ_eq_append_getElem hlt,q0O];rfl
    rw[e];exact ra'.wk λq l n _ e=>by have:=m2.next;omega
  ·have ej:j=xa.length:=by omega
   subst ej;rw[List.take_length] at ra;have ss:SlV h2 1 StrR v (typsS f wh ix ⟨op,typ,xa,nn,name⟩ b k):=Arr.slG (el:=sv) (by rw[show(typsS f wh ix ⟨op,typ,xa,nn,name⟩ b k).map sv=xa.map λa=>sv (typS f wh ix a b (k:Int)) from by unfold typsS;rw[List.map_map];rfl];exact ra) λs hs=>⟨rfl,by
    unfold typsS at hs;obtain⟨a,-,rfl⟩:=List.mem_map.mp hs;exact typ_len s6⟩
   have eh:∀{R E:AV->AH->Prop},GE tab 125 [v,sv []] h2 R E=R (.bool (decide ([]∈typsS f wh ix ⟨op,typ,xa,nn,name⟩ b k))) h2:=ge_rw (hasStr_gp H ss);have ldA:zAy 5 (.c (.ptr h.next 0)) .leaf [] h2=.val (.agg [.int .i64 op,sv typ,vx,.int .i64 nn,sv name]) h2:=zAp gB (by rw[eB];rfl);by_cases hm:[]∈typsS f wh ix ⟨op,typ,xa,nn,name⟩ b k
   ·rw[if_pos hm];rw[decide_eq_true hm] at eh;simp(disch:=omega)only[RL,↓reduceIte,l7,l8,l10,l11,hlt,eh,mvv];exact M
   ·rw[if_neg hm];rw[decide_eq_false hm] at eh;simp+decide(disch:=omega)only[RL,↓reduceIte,l0,l3,l7,l8,l10,l11,hlt,eh,mvv,ldA];refine(isRow_gp H (BB.more M) (r0.more M) ss ?_).to λw h3 q=>?_
    ·have hF':argsS op=-1\/argsS op=(xa.length:Int):=by
      have h1:=args_ge (op:=op);simp[zF5] at hF;rcases h1 with h1 | h1
      ·exact .inl h1
      ·exact .inr (hF.2.1.resolve_left (by omega))
     simpa[typsS] using hF'
    obtain⟨rfl,m3⟩:=q;simp(disch:=omega)only[RL,↓reduceIte];exact M.trans m3
end
abbrev Laid:=List Int×List Int
def zGw(n b i:Nat)(z:Int)(s:Option Laid):Option Laid:=s.bind λs=>if 0<=z/\z.toNat<n/\s.1.getD z.toNat 0=-1 then some (s.1.set z.toNat (b:Int),s.2.set z.toNat (i:Int)) else none
def laidN(n b:Nat)(l:List Int)(s:Option Laid):Nat->Option Laid
 | 0=>s
 | i+1=>zGw n b i (l.getD i 0) (laidN n b l s i)
def listB(f:FunD)(b:Nat):List Int:=match f.blocks[b]? with | some x=>x.list | none=>[]
def laidB(f:FunD):Nat->Option Laid
 | 0=>some (List.replicate f.ins.length (-1),List.replicate f.ins.length 0)
 | b+1=>laidN f.ins.length b (listB f b) (laidB f b) (listB f b).length
def laidS(f:FunD):Option Laid:=laidB f f.blocks.length
theorem zIn{f:FunD}{b:Nat}(hb:b<f.blocks.length):listB f b=f.blocks[b].list:=by unfold listB;rw[q0a hb]
theorem laidN_bad{n b:Nat}{l:List Int}{s:Option Laid}{i:Nat}(h:laidN n b l s i=none):∀k,laidN n b l s (i+k)=none
 | 0=>h
 | k+1=>by show zGw _ _ _ _ (laidN n b l s (i+k))=none;rw[laidN_bad h k];rfl
theorem laidN_end{n b:Nat}{l:List Int}{s:Option Laid}{i m:Nat}(h:laidN n b l s i=none)(hm:i<=m):laidN n b l s m=none:=by
 have:=laidN_bad h (m-i);rwa [Nat.add_sub_cancel' hm] at this
theorem zKr{n b:Nat}{l:List Int}:∀i,laidN n b l none i=none
 | 0=>rfl
 | i+1=>by show zGw _ _ _ _ (laidN n b l none i)=none;rw[zKr i];rfl
theorem laidB_bad{f:FunD}{b:Nat}(h:laidB f b=none):∀k,laidB f (b+k)=none
 | 0=>h
 | k+1=>by show laidN _ _ _ (laidB f (b+k)) _=none;rw[laidB_bad h k,zKr]
theorem laidB_end{f:FunD}{b m:Nat}(h:laidB f b=none)(hm:b<=m):laidB f m=none:=by
 have:=laidB_bad h (m-b);rwa [Nat.add_sub_cancel' hm] at this
theorem zLp{n b i:Nat}{z:Int}{s:Option Laid}{t:Laid}(h:zGw n b i z s=some t):∃r,s=some r/\0<=z/\z.toNat<n/\r.1.getD z.toNat 0=-1/\t=(r.1.set z.toNat (b:Int),r.2.set z.toNat (i:Int)):=by
 cases s with
 | none=>cases h
 | some r=>
  have h:(if 0<=z/\z.toNat<n/\r.1.getD z.toNat 0=-1 then some (r.1.set z.toNat (b:Int),r.2.set z.toNat (i:Int)) else none)=some t:=h;split at h
  ·rename_i c;injection h with h;exact⟨r,rfl,c.1,c.2.1,c.2.2,h.symm⟩
  ·cases h
theorem laidN_in{n b:Nat}{l:List Int}{s:Option Laid}:∀{i:Nat} {t:Laid},laidN n b l s i=some t->(∃r,s=some r)/\∀j,j<i->0<=l.getD j 0/\(l.getD j 0).toNat<n
 | 0,t,h=>⟨⟨t,h⟩,λj hj=>by omega⟩
 | i+1,t,h=>by
  obtain⟨r,hr,h1,h2,h3,h4⟩:=zLp h;obtain⟨e,hj⟩:=laidN_in hr;refine⟨e,λj hj'=>?_⟩;by_cases e:j=i
  ·subst e;exact⟨h1,h2⟩
  ·exact hj j (by omega)
theorem zLq{f:FunD}:∀{b:Nat} {t:Laid},laidB f b=some t->∀c,c<b->InL f (listB f c)
 | 0,_,_=>λc hc=>by omega
 | b+1,t,h=>by
  obtain⟨⟨r,hr⟩,hl⟩:=laidN_in (show laidN _ _ _ _ _=some t from h);intro c hc;by_cases e:c=b
  ·subst e;intro z hz;obtain⟨j,hj,rfl⟩:=q0y hz;have:=hl j hj;rw[q0e,q0a hj] at this;have h1:0<=(listB f c)[j]/\((listB f c)[j]).toNat<f.ins.length:=this;exact⟨((listB f c)[j]).toNat,by omega,h1.2⟩
  ·exact zLq hr c (by omega)
structure LdS(h0 h:AH)(C n:Nat)(c:T AV)(vw vx:AV)(s:Laid):Prop where
 m:More h0 h
 hC:C<h.next
 h0C:h0.next<=C
 g:h.mem.get C=some (.cells c 13 none false)
 c9:c.get 9=some vw
 c10:c.get 10=some vx
 aw:Arr h (λk=>h0.next<=k/\k≠C) vw (s.1.map iv)
 ax:Arr h (λk=>h0.next<=k/\k≠C/\∀o l n,vw≠.sl k o l n) vx (s.2.map iv)
 lw:s.1.length=n
 lx:s.2.length=n
theorem LdS.more{h0 h h':AH}{C n:Nat}{c:T AV}{vw vx:AV}{s:Laid}(L:LdS h0 h C n c vw vx s)(m:More h h'):LdS h0 h' C n c vw vx s:=
 ⟨L.m.trans m,q0d L.hC m.next,L.h0C,(m.keep _ L.hC).trans L.g,L.c9,L.c10,L.aw.keep ⟨m.next,λid _ hi=>m.keep id hi⟩ λ_ f _=>f,L.ax.keep ⟨m.next,λid _ hi=>m.keep id hi⟩ λ_ f _=>f,L.lw,L.lx⟩
theorem LdS.put{h0 h:AH}{C n:Nat}{c:T AV}{vw vx:AV}{s:Laid}(L:LdS h0 h C n c vw vx s){z:Nat}(hz:z<n)(b i:Int):∃id1 s1 c1 cap1 id2 s2 c2 cap2,vw=.sl id1 0 n cap1/\vx=.sl id2 0 n cap2/\h.mem.get id1=some (.cells c1 s1 none false)/\c1.get z=some (iv (s.1.getD z 0))/\h.mem.get id2=some (.cells c2 s2 none false)/\c2.get z=some (iv (s.2.getD z 0))/\id1≠id2/\id1≠C/\id2≠C/\
  LdS h0 ((h.set id1 (.cells (T.put (some (iv b)) c1 z) s1 none false)).set id2 (.cells (T.put (some (iv i)) c2 z) s2 none false)) C n c vw vx (s.1.set z b,s.2.set z i):=by
 have lw:=L.lw;have lx:=L.lx;obtain⟨id1,s1,c1,cap1,e1,f1,l1,g1,v1,a1⟩:=L.aw.set (x:=iv b) (show z<(s.1.map iv).length by rw[q0j];omega);obtain⟨id2,s2,c2,cap2,e2,f2,l2,g2,v2,a2⟩:=(L.ax.keep (Stay.set (F:=λk=>h0.next<=k/\k≠C/\∀o l n,vw≠.sl k o l n) (Stay.refl _ _) (i:=id1) (λ_ f=>f.2.2 _ _ _ e1) (.cells (T.put (some (iv b)) c1 z) s1 none false)) λ_ f _=>f).set (x:=iv i) (show z<(s.2.map iv).length by rw[q0j];omega);have ne:id1≠id2:=λe=>f2.2.2 _ _ _ (e▸e1);rw[q2c,q1a _ _ _ _ ne] at g2;rw[q0j] at e1 e2;refine⟨id1,s1,c1,cap1,id2,s2,c2,cap2,by rw[e1,lw],by rw[e2,lx],g1,?_,g2,?_,ne,f1.2,f2.2.1,(L.m.set f1.1 _).set f2.1 _,by rw[q2b,q2b];exact L.hC,L.h0C,?_,L.c9,L.c10,?_,?_,by simpa using lw,by simpa using lx⟩
 ·have hz1:z<s.1.length:=by omega
  rw[v1,q0t,q0e,q0a hz1];rfl
 ·have hz2:z<s.2.length:=by omega
  rw[v2,q0t,q0e,q0a hz2];rfl
 ·rw[q2c,q1a _ _ _ _ f2.2.1,q2c,q1a _ _ _ _ f1.2];exact L.g
 ·rw[List.map_set];have a1':Arr (h.set id1 (.cells (T.put (some (iv b)) c1 z) s1 none false)) (λk=>k=id1) vw ((s.1.map iv).set z (iv b)):=a1.wk λk l n e _=>by rw[e1] at e;injection e with e;exact e.symm
  exact a1'.keep (Stay.set (F:=λk=>k=id1) (Stay.refl _ _) (λ_ (e:id2=id1)=>ne e.symm) _) λk (e:k=id1) _=>by subst e;exact f1
 ·rw[List.map_set];exact a2
end Go.Ev
