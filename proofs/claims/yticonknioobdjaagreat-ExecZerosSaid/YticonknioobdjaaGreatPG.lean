/- VaD VaW1 VaS VaW2 VaW3 VaW4 VaW5 VaW6 VaW7 VaW8 VaH VaW9 VaX1 VaX2 VaX3 VaX4 VaX5 VaN -/
import Derived.Test.YticonknioobdjaaGreatPF
import Derived.Test.YticonknioobdjaaGreatPE
set_option linter.unusedSimpArgs false
set_option linter.unusedVariables false
set_option linter.unusedSectionVars false
set_option linter.defProp false
set_option maxRecDepth 100000
set_option maxHeartbeats 4000000
namespace Go.Ev
open Go
abbrev Str:=List UInt8
def CapOK(n off es sz:Nat):ACap->Prop
 | .known c=>n<=c
 | .rest e=>e=es/\1<=es/\off+n*es<=sz
def SlV{α:Type}(h:AH)(es:Nat)(R:List AV->α->Prop)(v:AV)(xs:List α):Prop:=
 (xs=[]/\(v=.nils\/∃id off cap,v=.sl id off 0 (.known cap)))\/∃id off cap sz c p ro,v=.sl id off xs.length cap/\CapOK xs.length off es sz cap/\h.mem.get id=some (.cells c sz p ro)/\id<h.next/\xs.length<=zBq/\∀i (hi:i<xs.length),∃E,E.length=es/\R E xs[i]/\loadL c es (off+i*es)=some E
section
variable{α:Type}{h h':AH}{es:Nat}{R:List AV->α->Prop}{v:AV}{xs:List α}
theorem SlV.len(a:SlV h es R v xs):∀h',oLen .sl (.c v) .leaf [] h'=.val (.int .i64 (xs.length:Int)) h':=by
 rcases a with⟨rfl,rfl | ⟨id,off,cap,rfl⟩⟩ | ⟨id,off,cap,sz,c,p,ro,rfl,_⟩
 ·exact λ_=>rfl
 ·exact λ_=>zGv
 ·exact λ_=>zGv
theorem SlV.mv0(a:SlV h es R v xs):v.mv=true:=by
 rcases a with⟨rfl,rfl | ⟨id,off,cap,rfl⟩⟩ | ⟨id,off,cap,sz,c,p,ro,rfl,_⟩<;>rfl
theorem SlV.mv(a:SlV h es R v xs):∀h',oMove (.c v) .leaf [] h'=.val v h':=λ_=>zAg a.mv0
theorem SlV.cell(a:SlV h es R v xs):cellsOf v=some [v]:=by
 rcases a with⟨rfl,rfl | ⟨id,off,cap,rfl⟩⟩ | ⟨id,off,cap,sz,c,p,ro,rfl,_⟩<;>rfl
theorem SlV.bound(a:SlV h es R v xs):xs.length<=maxLen:=by
 rcases a with⟨rfl,_⟩ | ⟨id,off,cap,sz,c,p,ro,rfl,_,_,_,h,_⟩
 ·exact q0k _
 ·exact q0m h (by decide)
theorem SlV.boundS(a:SlV h es R v xs):xs.length<=zBq:=by
 rcases a with⟨rfl,_⟩ | ⟨id,off,cap,sz,c,p,ro,rfl,_,_,_,h,_⟩
 ·exact q0k _
 ·exact h
theorem SlV.more(a:SlV h es R v xs)(m:More h h'){R':List AV->α->Prop}(hR:∀E x,R E x->R' E x):SlV h' es R' v xs:=by
 rcases a with a | ⟨id,off,cap,sz,c,p,ro,e,ck,g,hi,hb,ha⟩
 ·exact .inl a
 ·exact .inr ⟨id,off,cap,sz,c,p,ro,e,ck,(m.keep id hi).trans g,q0d hi m.next,hb,λi hi=>let⟨E,a,b,c⟩:=ha i hi;⟨E,a,hR _ _ b,c⟩⟩
theorem SlV.at(a:SlV h es R v xs){i:Nat}(hi:i<xs.length):∃id o E,(∀h' k,zCx es (.c v) (.c (.int k (i:Int))) .leaf [] h'=.val (.ptr id o) h')/\E.length=es/\R E xs[i]/\(∀h' [MoreC h h'],zAy es (.c (.ptr id o)) .leaf [] h'=.val (.agg E) h')/\
  ∀j x,E[j]?=some x->∀h' [MoreC h h'],oLoad (.c (.ptr id (o+j))) .leaf [] h'=.val x h':=by
 rcases a with⟨rfl,_⟩ | ⟨id,off,cap,sz,c,p,ro,rfl,ck,g,hid,hb,ha⟩
 ·cases hi
 ·obtain⟨E,e1,e2,e3⟩:=ha i hi;refine⟨id,off+i*es,E,λh' k=>idx_sl hi,e1,e2,λh' m=>zAp (kp g hid) e3,λj x hj h' m=>zBa (kp g hid) ?_⟩;have:=(zCg e3).2 j (by rw[<-e1];exact(List.getElem?_eq_some_iff.mp hj).1);rw[this,hj]
theorem SlV.take(a:SlV h es R v xs){i:Nat}(hi:i<=xs.length):∃v',(∀kill h' [MoreC h h'],zAs kill es (.c v) none (some (.c (.int .i64 (i:Int)))) none .leaf [] h'=.val v' h')/\SlV h es R v' (xs.take i):=by
 rcases a with⟨rfl,rfl | ⟨id,off,cap,rfl⟩⟩ | ⟨id,off,cap,sz,c,p,ro,rfl,ck,g,hid,hb,ha⟩
 ·obtain rfl:i=0:=by simpa using hi
  exact⟨.nils,λ_ _ _=>rfl,.inl ⟨rfl,.inl rfl⟩⟩
 ·obtain rfl:i=0:=by simpa using hi
  refine⟨.sl id off 0 (.known cap),λkill h' _=>?_,.inl ⟨rfl,.inr ⟨_,_,_,rfl⟩⟩⟩;show bi (Nat.ble cap cap) (bi (Nat.ble 0 cap) (bi (Nat.ble 0 0) (fN (Nat.sub 0 0) λn=>fN (Nat.sub cap 0) λm=>bi (Nat.beq m 0) (OR.val (AV.sl id off n (ACap.known m)) h') (fN (Nat.add off (Nat.mul 0 es)) λoff=>OR.val (AV.sl id off n (ACap.known m)) h')) (F 35)) (F 35)) (F 35)=_;rw[bi_eq,if_pos (Nat.ble_eq.mpr (q0c _)),bi_eq,if_pos (Nat.ble_eq.mpr (q0k _)),bi_eq,if_pos (Nat.ble_eq.mpr (q0c _)),fN_eq,fN_eq,fN_eq];have e:Nat.add off (Nat.mul 0 es)=off:=by simp
  rw[e];show bi (Nat.beq cap 0) _ _=_;rw[bi_eq];split<;>rfl
 ·have hl:(xs.take i).length=i:=by simp;omega
  refine⟨.sl id off i cap,λkill h' _=>?_,.inr ⟨id,off,cap,sz,c,p,ro,by rw[hl],?_,g,hid,by rw[hl];omega,λj hj=>?_⟩⟩
  ·cases cap with
   | known cp=>
    have ck:xs.length<=cp:=ck;show bi (Nat.ble cp cp) (bi (Nat.ble i cp) (bi (Nat.ble 0 i) (fN (Nat.sub i 0) λn=>fN (Nat.sub cp 0) λm=>bi (Nat.beq m 0) (OR.val (AV.sl id off n (ACap.known m)) h') (fN (Nat.add off (Nat.mul 0 es)) λoff=>OR.val (AV.sl id off n (ACap.known m)) h')) (F 35)) (F 35)) (F 35)=_;rw[bi_eq,if_pos (Nat.ble_eq.mpr (q0c _)),bi_eq,if_pos (Nat.ble_eq.mpr (by omega)),bi_eq,if_pos (Nat.ble_eq.mpr (q0k _)),fN_eq,fN_eq,fN_eq];have e:Nat.add off (Nat.mul 0 es)=off:=by simp
    rw[e];show bi (Nat.beq cp 0) _ _=_;rw[bi_eq];split<;>rfl
   | rest e=>
    obtain⟨rfl,h1,h2⟩:=ck;have hm:=q0u e hi;have g':h'.mem.get id=some (.cells c sz p ro):=kp g hid;show bi (Nat.beq e e) (bi (Nat.ble 1 e) (zAq (AH.get h' id) _) _) _=_;rw[bi_eq,if_pos (q0K _),bi_eq,if_pos (Nat.ble_eq.mpr h1),q2f,g'];have key:∀B,bi (Nat.ble (Nat.add off (Nat.mul i e)) sz) (bi (Nat.ble 0 i) (bi (Nat.beq 0 0) (OR.val (AV.sl id off i (ACap.rest e)) h') B) (F 36)) (F 36)=OR.val (AV.sl id off i (ACap.rest e)) h':=by
     intro B;rw[bi_eq,if_pos (Nat.ble_eq.mpr (by show off+i*e<=sz;omega)),bi_eq,if_pos (Nat.ble_eq.mpr (q0k _))];rfl
    exact key _
  ·rw[hl];cases cap with
   | known cp=>exact q0m hi ck
   | rest e=>
    obtain⟨rfl,h1,h2⟩:=ck;have hm:=q0u e hi;exact⟨rfl,h1,by omega⟩
  ·have hj':j<xs.length:=by omega
   obtain⟨E,a,b,c⟩:=ha j hj';exact⟨E,a,by rw[List.getElem_take];exact b,c⟩
theorem zCq{kill:Bool}{n:Nat}{x hi:Opd}{loc:T AV}{tmp:List AV}:evOp (.sliceV kill n x none (some hi) none) loc tmp h=zAs kill n (.c (ev loc tmp x)) none (some (.c (ev loc tmp hi))) none .leaf [] h:=rfl
theorem zBy{kill:Bool}{n:Nat}{x lo:Opd}{loc:T AV}{tmp:List AV}:evOp (.sliceV kill n x (some lo) none none) loc tmp h=zAs kill n (.c (ev loc tmp x)) (some (.c (ev loc tmp lo))) none none .leaf [] h:=rfl
theorem SlV.of(a:SlD h es R v xs):SlV h es R v xs:=by
 cases a with
 | nils=>exact .inl ⟨rfl,.inl rfl⟩
 | emp=>exact .inl ⟨rfl,.inr ⟨_,_,_,rfl⟩⟩
 | sl E a b c d e=>
  refine .inr ⟨_,_,_,_,_,_,_,rfl,a,c,d,by omega,λi hi=>⟨E i,(e i hi).1,(e i hi).2.2,?_⟩⟩;have h1:=(e i hi).1;have h2:=(e i hi).2.1;have key:∀(l:List AV) (c:T AV) (off:Nat),(∀j,j<l.length->c.get (off+j)=l[j]?)->loadL c l.length off=some l:=by
   intro l;induction l with
   | nil=>intro c off _;rfl
   | cons v l ih=>intro c off h;exact zBk (by have:=h 0 (by simp);simpa using this) (ih c (off+1) λj hj=>by have:=h (j+1) (by simpa using hj);rw[show off+1+j=off+(j+1) by omega];simpa using this)
  have:=key (E i) _ _ (λj hj=>h2 j (by omega));rw[h1] at this;exact this
end
def StructV(h:AH)(cs:List AV)(x:zA9):Prop:=∃vf,cs=[sv x.name,vf]/\SlV h 2 zDg vf x.fields/\x.name.length<=maxLen
def InsV(h:AH)(cs:List AV)(x:InsD):Prop:=∃va,cs=[.int .i64 x.op,sv x.typ,va,.int .i64 x.n,sv x.name]/\SlV h 1 IntR va x.args/\I64 x.op/\I64 x.n/\x.typ.length<=maxLen/\x.name.length<=zBq
def BlkV(h:AH)(cs:List AV)(x:BlkD):Prop:=∃vl,cs=[vl,.int .i64 x.jump,.int .i64 x.arg,.int .i64 x.to0,.int .i64 x.to1]/\SlV h 1 IntR vl x.list/\I64 x.jump/\I64 x.arg/\I64 x.to0/\I64 x.to1
def FunV(h:AH)(cs:List AV)(x:FunD):Prop:=∃vp vs vi vb,cs=[sv x.name,vp,sv x.result,vs,vi,vb]/\SlV h 1 StrR vp x.params/\SlV h 1 StrR vs x.slots/\SlV h 5 (InsV h) vi x.ins/\SlV h 5 (BlkV h) vb x.blocks/\x.name.length<=maxLen/\x.result.length<=maxLen
def ProgV(h:AH)(cs:List AV)(x:ProgD):Prop:=∃vs vg vf,cs=[vs,vg,vf]/\SlV h 2 (StructV h) vs x.structs/\SlV h 2 zDg vg x.globals/\SlV h 6 (FunV h) vf x.funs
section
variable{h h':AH}{E:List AV}
theorem StructV.more{x:zA9}(r:StructV h E x)(m:More h h'):StructV h' E x:=let⟨v,a,b,c⟩:=r;⟨v,a,b.more m λ_ _=>id,c⟩
theorem InsV.more{x:InsD}(r:InsV h E x)(m:More h h'):InsV h' E x:=let⟨v,a,b,c⟩:=r;⟨v,a,b.more m λ_ _=>id,c⟩
theorem BlkV.more{x:BlkD}(r:BlkV h E x)(m:More h h'):BlkV h' E x:=let⟨v,a,b,c⟩:=r;⟨v,a,b.more m λ_ _=>id,c⟩
theorem FunV.more{x:FunD}(r:FunV h E x)(m:More h h'):FunV h' E x:=let⟨p,s,i,b,e,r1,r2,r3,r4,r5⟩:=r;⟨p,s,i,b,e,r1.more m λ_ _=>id,r2.more m λ_ _=>id,r3.more m λ_ _ r=>r.more m,r4.more m λ_ _ r=>r.more m,r5⟩
theorem ProgV.more{x:ProgD}(r:ProgV h E x)(m:More h h'):ProgV h' E x:=let⟨s,g,f,e,r1,r2,r3⟩:=r;⟨s,g,f,e,r1.more m λ_ _ r=>r.more m,r2.more m λ_ _=>id,r3.more m λ_ _ r=>r.more m⟩
theorem SlV.wk{α:Type}{es:Nat}{R R':List AV->α->Prop}{v:AV}{xs:List α}(a:SlV h es R v xs)(hR:∀E x,R E x->R' E x):SlV h es R' v xs:=a.more (q2o h) hR
theorem ProgV.of{x:ProgD}(r:ProgR h E x):ProgV h E x:=by
 obtain⟨s,g,f,e,r1,r2,r3⟩:=r;refine⟨s,g,f,e,(SlV.of r1).wk λE x ⟨v,a,b,c⟩=>⟨v,a,.of b,c⟩,.of r2,(SlV.of r3).wk λE x ⟨p,s,i,b,e,r1,r2,r3,r4,r5⟩=>⟨p,s,i,b,e,.of r1,.of r2,(SlV.of r3).wk λE x ⟨v,a,b,c⟩=>⟨v,a,.of b,c⟩,(SlV.of r4).wk λE x ⟨v,a,b,c⟩=>⟨v,a,.of b,c⟩,r5⟩⟩
end
def idxP{α:Type}(xs:List α)(q:α->Bool):Int:=match xs.findIdx? q with | some i=>(i:Int) | none=>-1
theorem zEe{α:Type}{xs:List α}{q:α->Bool}{k:Nat}(hk:k<xs.length)(h:∀i,i<k->(hi:i<xs.length)->q xs[i]=false)(e:q xs[k]=true):idxP xs q=(k:Int):=by
 unfold idxP;rw[List.findIdx?_eq_some_iff_getElem.mpr ⟨hk,e,λj hj=>by rw[h j hj (by omega)];simp⟩]
theorem zB5{α:Type}{xs:List α}{q:α->Bool}(h:∀i,(hi:i<xs.length)->q xs[i]=false):idxP xs q=-1:=by
 unfold idxP;rw[List.findIdx?_eq_none_iff.mpr λx hx=>by obtain⟨j,hj,rfl⟩:=q0y hx;exact h j hj]
theorem zJm{α:Type}{xs:List α}{q:α->Bool}:decide ((0:Int)<=idxP xs q)=xs.any q:=by
 cases h:xs.findIdx? q with
 | none=>
  have:idxP xs q=-1:=by unfold idxP;rw[h]
  rw[this];rw[List.findIdx?_eq_none_iff] at h;have:xs.any q=false:=by rw[List.any_eq_false];intro x hx;simp[h x hx]
  rw[this];rfl
 | some i=>
  have e:idxP xs q=i:=by unfold idxP;rw[h]
  obtain⟨h1,h2,_⟩:=List.findIdx?_eq_some_iff_getElem.mp h;have:xs.any q=true:=List.any_eq_true.mpr ⟨_,q0l h1,h2⟩;rw[this,e];simp
theorem neg1:Int.negSucc 0=-1:=rfl
section
variable{tab:Nat->Option AFunc}{h:AH}(H:PV tab)
include H in
theorem idxStruct_gp{α:Type}{R:List AV->α->Prop}{v:AV}{xs:List α}{f:Nat}{caps:List AV}{p:α->Bool}(a:SlV h 2 R v xs)(hq:∀h1,More h h1->∀E,∀x∈xs,R E x->GP tab f (.agg E::caps) h1 λw h2=>w=.bool (p x)/\More h1 h2):GP tab 148 [v,.fn f [] caps] h λw h1=>w=.int .i64 (idxP xs p)/\More h h1:=by
 have i0:zAb [v,.fn f [] caps]=zAa [v,.fn f [] caps]:=rfl;have mv:=a.mv;have ln:=a.len;have hb:=a.bound;unfold maxLen at hb;refine gpr H.t148 ?_;simp+decide(disch:=omega)only[RL,↓reduceIte,i0,mv,ln];refine zAd (λm l d1 h1=>∃k,m=xs.length-k/\k<=xs.length/\d1=[]/\More h h1/\l.get 0=some v/\l.get 1=some (.fn f [] caps)/\l.get 2=some (.int .i64 (k:Int))/\l.get 3=some (.int .i64 (xs.length:Int))/\∀i,i<k->(hi:i<xs.length)->p xs[i]=false) ?_ (xs.length-0) ⟨0,rfl,q0k _,rfl,q2o h,rfl,rfl,rfl,rfl,λi hi=>by omega⟩;rintro m l d1 h1 ⟨k,rfl,hk,rfl,m1,l0,l1,l2,l3,hall⟩;haveI:MoreC h h1:=⟨m1⟩;by_cases hlt:k<xs.length
 ·obtain⟨id,o,E,ix,e1,r,ld,lw⟩:=a.at hlt
  skip
  simp+decide(disch:=omega)only[RL,↓reduceIte,l0,l1,l2,l3,hlt,mv,ix,ld];rw[ge_nh (hq h1 m1 E _ (q0l hlt) r)];cases he:p xs[k] with
  | true=>simp+decide(disch:=omega)only[RL,↓reduceIte,l2,moreT,zEe hlt hall he]
  | false=>
   simp+decide(disch:=omega)only[RL,↓reduceIte,l2];refine⟨xs.length-(k+1),by omega,k+1,rfl,hlt,m1.trans zHm,l0,l1,rfl,l3,λi hi hi'=>?_⟩;by_cases e:i=k
   ·subst e;exact he
   ·exact hall i (by omega) hi'
 ·have hn:=zB5 λi hi=>hall i (by omega) hi;simp+decide(disch:=omega)only[RL,↓reduceIte,l2,l3,hlt,moreT,neg1,hn]
include H in
theorem idxField_gp{α:Type}{R:List AV->α->Prop}{v:AV}{xs:List α}{f:Nat}{caps:List AV}{p:α->Bool}(a:SlV h 2 R v xs)(hq:∀h1,More h h1->∀E,∀x∈xs,R E x->GP tab f (.agg E::caps) h1 λw h2=>w=.bool (p x)/\More h1 h2):GP tab 200 [v,.fn f [] caps] h λw h1=>w=.int .i64 (idxP xs p)/\More h h1:=by
 have i0:zAb [v,.fn f [] caps]=zAa [v,.fn f [] caps]:=rfl;have mv:=a.mv;have ln:=a.len;have hb:=a.bound;unfold maxLen at hb;refine gpr H.t200 ?_;simp+decide(disch:=omega)only[RL,↓reduceIte,i0,mv,ln];refine zAd (λm l d1 h1=>∃k,m=xs.length-k/\k<=xs.length/\d1=[]/\More h h1/\l.get 0=some v/\l.get 1=some (.fn f [] caps)/\l.get 2=some (.int .i64 (k:Int))/\l.get 3=some (.int .i64 (xs.length:Int))/\∀i,i<k->(hi:i<xs.length)->p xs[i]=false) ?_ (xs.length-0) ⟨0,rfl,q0k _,rfl,q2o h,rfl,rfl,rfl,rfl,λi hi=>by omega⟩;rintro m l d1 h1 ⟨k,rfl,hk,rfl,m1,l0,l1,l2,l3,hall⟩;haveI:MoreC h h1:=⟨m1⟩;by_cases hlt:k<xs.length
 ·obtain⟨id,o,E,ix,e1,r,ld,lw⟩:=a.at hlt
  skip
  simp+decide(disch:=omega)only[RL,↓reduceIte,l0,l1,l2,l3,hlt,mv,ix,ld];rw[ge_nh (hq h1 m1 E _ (q0l hlt) r)];cases he:p xs[k] with
  | true=>simp+decide(disch:=omega)only[RL,↓reduceIte,l2,moreT,zEe hlt hall he]
  | false=>
   simp+decide(disch:=omega)only[RL,↓reduceIte,l2];refine⟨xs.length-(k+1),by omega,k+1,rfl,hlt,m1.trans zHm,l0,l1,rfl,l3,λi hi hi'=>?_⟩;by_cases e:i=k
   ·subst e;exact he
   ·exact hall i (by omega) hi'
 ·have hn:=zB5 λi hi=>hall i (by omega) hi;simp+decide(disch:=omega)only[RL,↓reduceIte,l2,l3,hlt,moreT,neg1,hn]
include H in
theorem idxFun_gp{α:Type}{R:List AV->α->Prop}{v:AV}{xs:List α}{f:Nat}{caps:List AV}{p:α->Bool}(a:SlV h 6 R v xs)(hq:∀h1,More h h1->∀E,∀x∈xs,R E x->GP tab f (.agg E::caps) h1 λw h2=>w=.bool (p x)/\More h1 h2):GP tab 109 [v,.fn f [] caps] h λw h1=>w=.int .i64 (idxP xs p)/\More h h1:=by
 have i0:zAb [v,.fn f [] caps]=zAa [v,.fn f [] caps]:=rfl;have mv:=a.mv;have ln:=a.len;have hb:=a.bound;unfold maxLen at hb;refine gpr H.t109 ?_;simp+decide(disch:=omega)only[RL,↓reduceIte,i0,mv,ln];refine zAd (λm l d1 h1=>∃k,m=xs.length-k/\k<=xs.length/\d1=[]/\More h h1/\l.get 0=some v/\l.get 1=some (.fn f [] caps)/\l.get 2=some (.int .i64 (k:Int))/\l.get 3=some (.int .i64 (xs.length:Int))/\∀i,i<k->(hi:i<xs.length)->p xs[i]=false) ?_ (xs.length-0) ⟨0,rfl,q0k _,rfl,q2o h,rfl,rfl,rfl,rfl,λi hi=>by omega⟩;rintro m l d1 h1 ⟨k,rfl,hk,rfl,m1,l0,l1,l2,l3,hall⟩;haveI:MoreC h h1:=⟨m1⟩;by_cases hlt:k<xs.length
 ·obtain⟨id,o,E,ix,e1,r,ld,lw⟩:=a.at hlt
  skip
  simp+decide(disch:=omega)only[RL,↓reduceIte,l0,l1,l2,l3,hlt,mv,ix,ld];rw[ge_nh (hq h1 m1 E _ (q0l hlt) r)];cases he:p xs[k] with
  | true=>simp+decide(disch:=omega)only[RL,↓reduceIte,l2,moreT,zEe hlt hall he]
  | false=>
   simp+decide(disch:=omega)only[RL,↓reduceIte,l2];refine⟨xs.length-(k+1),by omega,k+1,rfl,hlt,m1.trans zHm,l0,l1,rfl,l3,λi hi hi'=>?_⟩;by_cases e:i=k
   ·subst e;exact he
   ·exact hall i (by omega) hi'
 ·have hn:=zB5 λi hi=>hall i (by omega) hi;simp+decide(disch:=omega)only[RL,↓reduceIte,l2,l3,hlt,moreT,neg1,hn]
include H in
theorem idxBlock_gp{α:Type}{R:List AV->α->Prop}{v:AV}{xs:List α}{f:Nat}{caps:List AV}{p:α->Bool}(a:SlV h 5 R v xs)(hq:∀h1,More h h1->∀E,∀x∈xs,R E x->GP tab f (.agg E::caps) h1 λw h2=>w=.bool (p x)/\More h1 h2):GP tab 152 [v,.fn f [] caps] h λw h1=>w=.int .i64 (idxP xs p)/\More h h1:=by
 have i0:zAb [v,.fn f [] caps]=zAa [v,.fn f [] caps]:=rfl;have mv:=a.mv;have ln:=a.len;have hb:=a.bound;unfold maxLen at hb;refine gpr H.t152 ?_;simp+decide(disch:=omega)only[RL,↓reduceIte,i0,mv,ln];refine zAd (λm l d1 h1=>∃k,m=xs.length-k/\k<=xs.length/\d1=[]/\More h h1/\l.get 0=some v/\l.get 1=some (.fn f [] caps)/\l.get 2=some (.int .i64 (k:Int))/\l.get 3=some (.int .i64 (xs.length:Int))/\∀i,i<k->(hi:i<xs.length)->p xs[i]=false) ?_ (xs.length-0) ⟨0,rfl,q0k _,rfl,q2o h,rfl,rfl,rfl,rfl,λi hi=>by omega⟩;rintro m l d1 h1 ⟨k,rfl,hk,rfl,m1,l0,l1,l2,l3,hall⟩;haveI:MoreC h h1:=⟨m1⟩;by_cases hlt:k<xs.length
 ·obtain⟨id,o,E,ix,e1,r,ld,lw⟩:=a.at hlt
  skip
  simp+decide(disch:=omega)only[RL,↓reduceIte,l0,l1,l2,l3,hlt,mv,ix,ld];rw[ge_nh (hq h1 m1 E _ (q0l hlt) r)];cases he:p xs[k] with
  | true=>simp+decide(disch:=omega)only[RL,↓reduceIte,l2,moreT,zEe hlt hall he]
  | false=>
   simp+decide(disch:=omega)only[RL,↓reduceIte,l2];refine⟨xs.length-(k+1),by omega,k+1,rfl,hlt,m1.trans zHm,l0,l1,rfl,l3,λi hi hi'=>?_⟩;by_cases e:i=k
   ·subst e;exact he
   ·exact hall i (by omega) hi'
 ·have hn:=zB5 λi hi=>hall i (by omega) hi;simp+decide(disch:=omega)only[RL,↓reduceIte,l2,l3,hlt,moreT,neg1,hn]
end
def zH7(c:UInt8):Bool:=(decide (97<=c.toNat)&&decide (c.toNat<=122))||(decide (65<=c.toNat)&&decide (c.toNat<=90))||decide (c.toNat=95)
def isDigB(c:UInt8):Bool:=decide (48<=c.toNat)&&decide (c.toNat<=57)
def zJl(c:UInt8):Bool:=zH7 c||isDigB c
def aheadN(p:UInt8->Bool)(s:Str):Nat:=(s.takeWhile p).length
theorem zJ5{p:UInt8->Bool}:∀{s:Str} {k:Nat},(∀i,i<k->∃c,s[i]?=some c/\p c=true)->(∀c,s[k]?=some c->p c=false)->aheadN p s=k
 | [],0,_,_=>rfl
 | [],k+1,h,_=>by obtain⟨c,hc,_⟩:=h 0 (by omega);cases hc
 | c::s,0,_,h=>by unfold aheadN;rw[List.takeWhile_cons,h c rfl];rfl
 | c::s,k+1,h,h'=>by
  obtain⟨c',hc,hp⟩:=h 0 (by omega);cases hc;unfold aheadN;rw[List.takeWhile_cons,if_pos hp,q0P];congr 1;exact zJ5 (λi hi=>h (i+1) (by omega)) h'
def zHq:List Str:=[[116,121,112,101],[115,116,114,117,99,116],[102,117,110,99],[118,97,114],[105,102],[101,108,115,101],[102,111,114],[114,101,116,117,114,110],[112,114,105,110,116],[110,101,119],[110,105,108],[116,114,117,101],[102,97,108,115,101],[105,110,116],[98,111,111,108],[114,101,97,100]]
def zJk(s:Str):Bool:=match s with
 | []=>false
 | c::_=>zH7 c&&decide (aheadN zJl s=s.length)
def zB3(s:Str):Bool:=zJk s&&decide (s.length<=12)&&!decide (s∈zHq)
abbrev tInt:Str:=[105,110,116]
abbrev tBool:Str:=[98,111,111,108]
def starS(t:Str):Option Str:=match t with
 | 42::n=>some n
 | _=>none
def elemS(t:Str):Option Str:=(starS t).bind λn=>if zB3 n then some n else none
def findS(l:List zA9)(n:Str):Option Nat:=l.findIdx? λs=>decide (s.name=n)
def zBl(l:List zA9)(t:Str):Bool:=decide (t=tInt)||decide (t=tBool)||(match starS t with | some n=>l.any λs=>decide (s.name=n) | none=>false)
def fieldE(l:List zA9)(ahead:List FieldD)(f:FieldD):Nat:=if zB3 f.name then(if ahead.any λg=>decide (g.name=f.name) then 6 else if zBl l f.typ then 0 else 7) else 1
def rowE(e:Nat->Nat)(len:Nat):Nat->Nat
 | 0=>0
 | n+1=>if e (len-(n+1))=0 then rowE e len n else e (len-(n+1))
theorem rowE_step{e:Nat->Nat}{len k:Nat}(hk:k<len):rowE e len (len-k)=if e k=0 then rowE e len (len-(k+1)) else e k:=by
 obtain⟨n,hn⟩:∃n,len-k=n+1:=⟨len-k-1,by omega⟩;rw[hn,rowE,show len-(n+1)=k by omega,show len-(k+1)=n by omega]
def zLz(l:List zA9)(fs:List FieldD):Nat:=rowE (λk=>match fs[k]? with | some f=>fieldE l (fs.take k) f | none=>0) fs.length fs.length
def oneE(l:List zA9)(i:Nat):Nat:=match l[i]? with
 | some s=>if zB3 s.name then(if(findS l s.name).getD 0<i then 6 else if 8<s.fields.length then 4 else zLz l s.fields) else 1
 | none=>0
def checkS(l:List zA9):Nat:=if 12<l.length then 4 else rowE (oneE l) l.length l.length
section
variable{tab:Nat->Option AFunc}{h:AH}(H:PV tab)
abbrev byteV(c:UInt8):AV:=.int .u8 (c.toNat:Int)
include H in
theorem letter_gp{c:UInt8}:GP tab 142 [byteV c] h λv h1=>v=.bool (zH7 c)/\h1=h:=by
 refine gpr H.t142 ?_;have i0:zAb [byteV c]=zAa [byteV c]:=rfl;unfold zH7
 by_cases h1:97<=c.toNat<;>by_cases h2:c.toNat<=122<;>by_cases h3:65<=c.toNat<;>by_cases h4:c.toNat<=90<;>by_cases h5:c.toNat=95 <;>
  simp+decide only[RL,↓reduceIte,i0,h1,h2,h3,h4,h5,Bool.and_true,q0N,Bool.or_true,Bool.or_false]
include H in
theorem digit_gp{c:UInt8}:GP tab 145 [byteV c] h λv h1=>v=.bool (isDigB c)/\h1=h:=by
 refine gpr H.t145 ?_;have i0:zAb [byteV c]=zAa [byteV c]:=rfl;unfold isDigB;by_cases h1:48<=c.toNat<;>by_cases h2:c.toNat<=57<;>simp only[RL,↓reduceIte,i0,h1,h2,Bool.and_true,q0N]
include H in
theorem name1_gp{c:UInt8}:GP tab 144 [byteV c] h λv h1=>v=.bool (zJl c)/\h1=h:=by
 refine gpr H.t144 ?_;have i0:zAb [byteV c]=zAa [byteV c]:=rfl;have e1:∀{R E:AV->AH->Prop},GE tab 142 [byteV c] h R E=R (.bool (zH7 c)) h:=ge_rw (letter_gp H);have e2:∀{R E:AV->AH->Prop},GE tab 145 [byteV c] h R E=R (.bool (isDigB c)) h:=ge_rw (digit_gp H);unfold zJl;cases h1:zH7 c<;>simp only[RL,↓reduceIte,i0,e1,e2,h1,Bool.true_or,Bool.false_or]
include H in
theorem run_gp{f:Nat}{p:UInt8->Bool}{s:Str}(hs:s.length<=maxLen)(hp:∀c,GP tab f [byteV c] h λv h1=>v=.bool (p c)/\h1=h):GP tab 143 [sv s,.fn f [] []] h λv h1=>v=.int .i64 (aheadN p s:Int)/\h1=h:=by
 have i0:zAb [sv s,.fn f [] []]=zAa [sv s,.fn f [] []]:=rfl;unfold maxLen at hs;refine gpr H.t143 ?_;simp(disch:=omega)only[RL,i0];refine zAd (λm l d1 h1=>∃k,m=s.length-k/\k<=s.length/\d1=[]/\h1=h/\l.get 0=some (sv s)/\l.get 1=some (.fn f [] [])/\l.get 2=some (.int .i64 (k:Int))/\∀i,i<k->∃c,s[i]?=some c/\p c=true) ?_ (s.length-0) ⟨0,rfl,q0k _,rfl,rfl,rfl,rfl,rfl,λi hi=>by omega⟩;rintro m l d1 h1 ⟨k,rfl,hk,rfl,rfl,l0,l1,l2,hall⟩;by_cases hlt:k<s.length
 ·have ix:∀h':AH,oIdxS (.c (sv s)) (.c (.int .i64 (k:Int))) .leaf [] h'=.val (byteV s[k]) h':=λh'=>idx_sv (q0a hlt);simp(disch:=omega)only[RL,↓reduceIte,l0,l1,l2,hlt,ix];rw[ge_rw (hp s[k])];cases hpk:p s[k] with
  | true=>
   simp+decide(disch:=omega)only[RL,↓reduceIte,l2];refine⟨s.length-(k+1),by omega,k+1,rfl,hlt,l0,l1,rfl,λi hi=>?_⟩;by_cases e:i=k
   ·subst e;exact⟨_,q0a hlt,hpk⟩
   ·exact hall i (by omega)
  | false=>
   have ha:=zJ5 hall λc hc=>by rw[q0a hlt] at hc;cases hc;exact hpk
   simp+decide(disch:=omega)only[RL,↓reduceIte,l2,ha]
 ·have ha:=zJ5 hall λc hc=>by rw[q0i (by omega)] at hc;cases hc
  simp+decide(disch:=omega)only[RL,↓reduceIte,l0,l1,l2,hlt,ha]
include H in
theorem name_gp{s:Str}(hs:s.length<=maxLen):GP tab 105 [sv s] h λv h1=>v=.bool (zJk s)/\h1=h:=by
 have i0:zAb [sv s]=zAa [sv s]:=rfl;refine gpr H.t105 ?_;cases s with
 | nil=>simp only[RL,↓reduceIte,i0];rfl
 | cons c s=>
  have ix:∀h':AH,oIdxS (.c (sv (c::s))) (.c (.int .i64 ((0:Nat):Int))) .leaf [] h'=.val (byteV c) h':=λh'=>idx_sv (i:=0) rfl;have e1:∀{R E:AV->AH->Prop},GE tab 142 [byteV c] h R E=R (.bool (zH7 c)) h:=ge_rw (letter_gp H);have e2:∀{R E:AV->AH->Prop},GE tab 143 [sv (c::s),.fn 144 [] []] h R E=R (.int .i64 (aheadN zJl (c::s):Int)) h:=ge_rw (run_gp H hs λc=>name1_gp H);have ne:¬c::s=[]:=by simp
  unfold zJk;cases h1:zH7 c<;>by_cases h2:aheadN zJl (c::s)=(c::s).length<;>simp only[RL,↓reduceIte,i0,e1,e2,h1,ix,ne,h2,q0E,q0D]
end
section
variable{tab:Nat->Option AFunc}{h:AH}(H:PV tab)
include H in
theorem indexS_gp{α:Type}{R:List AV->α->Prop}{v x:AV}{xs:List α}{p:α->Bool}(a:SlV h 1 R v xs)(mx:x.mv=true)(hq:∀E y,R E y->∃w,E=[w]/\∀h',oEq false .num (.c x) (.c w) .leaf [] h'=.val (.bool (p y)) h'):GP tab 159 [v,x] h λw h1=>w=.int .i64 (idxP xs p)/\h1=h:=by
 have i0:zAb [v,x]=zAa [v,x]:=rfl;have mv:=a.mv;have ln:=a.len;have hb:=a.bound;have mx:∀h',oMove (.c x) .leaf [] h'=.val x h':=λh'=>zAg mx;unfold maxLen at hb;refine gpr H.t159 ?_;simp+decide(disch:=omega)only[RL,↓reduceIte,i0,mv,ln];refine zAd (λm l d1 h1=>∃k,m=xs.length-k/\k<=xs.length/\d1=[]/\h1=h/\l.get 0=some v/\l.get 1=some x/\l.get 2=some (.int .i64 (k:Int))/\l.get 3=some (.int .i64 (xs.length:Int))/\∀i,i<k->(hi:i<xs.length)->p xs[i]=false) ?_ (xs.length-0) ⟨0,rfl,q0k _,rfl,rfl,rfl,rfl,rfl,rfl,λi hi=>by omega⟩;rintro m l d1 h1 ⟨k,rfl,hk,rfl,rfl,l0,l1,l2,l3,hall⟩;by_cases hlt:k<xs.length
 ·obtain⟨id,o,E,ix,e1,r,ld,lw⟩:=a.at hlt;obtain⟨w,rfl,eq⟩:=hq _ _ r;have lw0:∀h' [MoreC h1 h'],oLoad (.c (.ptr id o)) .leaf [] h'=.val w h':=lw 0 w rfl;cases he:p xs[k] with
  | true=>
   have hi:=zEe hlt hall he;simp+decide(disch:=omega)only[RL,↓reduceIte,l0,l1,l2,l3,hlt,mv,mx,ix,lw0,eq,he,hi]
  | false=>
   simp+decide(disch:=omega)only[RL,↓reduceIte,l0,l1,l2,l3,hlt,mv,mx,ix,lw0,eq,he];refine⟨xs.length-(k+1),by omega,k+1,rfl,hlt,rfl,λi hi hi'=>?_⟩;by_cases e:i=k
   ·subst e;exact he
   ·exact hall i (by omega) hi'
 ·have hn:=zB5 λi hi=>hall i (by omega) hi;simp+decide(disch:=omega)only[RL,↓reduceIte,l2,l3,hlt,neg1,hn]
def RS(E:List AV)(x:Str):Prop:=E=[sv x]
include H in
theorem containsS_gp{v:AV}{x:Str}{xs:List Str}(a:SlV h 1 RS v xs):GP tab 125 [v,sv x] h λw h1=>w=.bool (decide (x∈xs))/\h1=h:=by
 have i0:zAb [v,sv x]=zAa [v,sv x]:=rfl;have mv:=a.mv;refine gpr H.t125 ?_;have e1:∀{R E:AV->AH->Prop},GE tab 159 [v,sv x] h R E=R (.int .i64 (idxP xs λy=>decide (x=y))) h:=ge_rw (indexS_gp H a rfl λE y hr=>⟨_,hr,λh'=>by simp only[RL,↓reduceIte]⟩);have e2:decide (x∈xs)=decide (((0:Nat):Int)<=idxP xs λy=>decide (x=y)):=by
  rw[show((0:Nat):Int)=0 from rfl,zJm];by_cases hx:x∈xs
  ·simp[hx]
  ·simp only[hx,decide_false];symm;rw[List.any_eq_false];intro y hy;simp;rintro rfl;exact hx hy
 simp only[RL,↓reduceIte,i0,mv,e1,e2]
include H in
theorem keys_gp:GP tab 146 [] h λv h1=>More h h1/\SlV h1 1 RS v zHq:=by
 refine gpr H.t146 ?_;have i0:zAb []=.leaf:=rfl;simp+decide only[RL,↓reduceIte,i0];refine⟨q2g _ _,.inr ⟨_,_,_,_,_,_,_,rfl,q0c _,by rw[q2a];exact q1b _ _ _,q0h _,by decide,λi hi=>⟨[sv zHq[i]],rfl,rfl,?_⟩⟩⟩;have hi:i<16:=hi;rcases i with _ | _ | _ | _ | _ | _ | _ | _ | _ | _ | _ | _ | _ | _ | _ | _ | i
 all_goals first | (exfalso;omega) | rfl
include H in
theorem isKey_gp{s:Str}:GP tab 106 [sv s] h λv h1=>v=.bool (decide (s∈zHq))/\More h h1:=by
 have i0:zAb [sv s]=zAa [sv s]:=rfl;refine gpr H.t106 ?_;simp only[RL,i0];refine(keys_gp H).to λv h1 q=>?_;obtain⟨m1,a⟩:=q;have mv:=a.mv;have e1:∀{R E:AV->AH->Prop},GE tab 125 [v,sv s] h1 R E=R (.bool (decide (s∈zHq))) h1:=ge_rw (containsS_gp H a);simp only[RL,↓reduceIte,e1];exact m1
include H in
theorem zFl{s:Str}(hs:s.length<=maxLen):GP tab 65 [sv s] h λv h1=>v=.bool (zB3 s)/\More h h1:=by
 have i0:zAb [sv s]=zAa [sv s]:=rfl;refine gpr H.t65 ?_;have e1:∀{R E:AV->AH->Prop},GE tab 105 [sv s] h R E=R (.bool (zJk s)) h:=ge_rw (name_gp H hs);have e2:∀{R E:AV->AH->Prop},GE tab 106 [sv s] h R E=R (.bool (decide (s∈zHq))) (nh tab 106 [sv s] h):=ge_nh (isKey_gp H);unfold zB3;cases h1:zJk s<;>by_cases h2:s.length<=12<;>simp only[RL,↓reduceIte,i0,e1,e2,h1,h2,moreT,q0E,q0D,q0N]
 all_goals trace_state
end
section
variable{tab:Nat->Option AFunc}{h:AH}(H:PV tab)
include H in
theorem prefix_gp{s:Str}:GP tab 180 [sv s,sv [42]] h λv h1=>v=.bool (starS s).isSome/\h1=h:=by
 have i0:zAb [sv s,sv [42]]=zAa [sv s,sv [42]]:=rfl;refine gpr H.t180 ?_;cases s with
 | nil=>
  have hl:¬([42]:Str).length<=([]:Str).length:=by decide
  simp only[RL,↓reduceIte,i0,hl];rfl
 | cons c s=>
  have hl:([42]:Str).length<=(c::s).length:=by simp
  have sl:∀h':AH,zEy (.c (sv (c::s))) none (some (.c (.int .i64 (([42]:Str).length:Int)))) .leaf [] h'=.val (sv [c]) h':=λh'=>by rw[slice_svh hl];rfl
  by_cases hc:c=42
  ·subst hc;simp only[RL,↓reduceIte,i0,hl,sl];rfl
  ·have e0:starS (c::s)=none:=by unfold starS;split<;>simp_all
   have ne:¬[c]=[42]:=by simpa using hc
   simp only[RL,↓reduceIte,i0,hl,sl,e0,ne,q0M]
abbrev starV(s:Str):AV:=match starS s with | some n=>.tup [sv n,.bool true] | none=>.tup [sv s,.bool false]
include H in
theorem cut0_gp{s:Str}:GP tab 147 [sv s,sv [42]] h λv h1=>v=starV s/\h1=h:=by
 have i0:zAb [sv s,sv [42]]=zAa [sv s,sv [42]]:=rfl;refine gpr H.t147 ?_;have e1:∀{R E:AV->AH->Prop},GE tab 180 [sv s,sv [42]] h R E=R (.bool (starS s).isSome) h:=ge_rw (prefix_gp H);cases hs:starS s with
 | none=>
  have hv:starV s=.tup [sv s,.bool false]:=by unfold starV;rw[hs]
  simp+decide only[RL,↓reduceIte,i0,e1,hs,hv,q0M]
 | some n=>
  have hv:starV s=.tup [sv n,.bool true]:=by unfold starV;rw[hs]
  have hn:s=42::n:=by unfold starS at hs;split at hs<;>simp_all
  subst hn;have sl:∀h':AH,zEy (.c (sv (42::n))) (some (.c (.int .i64 (([42]:Str).length:Int)))) none .leaf [] h'=.val (sv n) h':=λh'=>by rw[slice_svl (by simp)];rfl
  simp+decide only[RL,↓reduceIte,i0,e1,hs,hv,sl,q0J]
include H in
theorem cut_gp{s:Str}:GP tab 107 [sv s,sv [42]] h λv h1=>v=starV s/\h1=h:=by
 have i0:zAb [sv s,sv [42]]=zAa [sv s,sv [42]]:=rfl;refine gpr H.t107 ?_;have e1:∀{R E:AV->AH->Prop},GE tab 147 [sv s,sv [42]] h R E=R (starV s) h:=ge_rw (cut0_gp H);cases hs:starS s with
 | none=>
  have hv:starV s=.tup [sv s,.bool false]:=by unfold starV;rw[hs]
  simp+decide only[RL,↓reduceIte,i0,e1,hv]
 | some n=>
  have hv:starV s=.tup [sv n,.bool true]:=by unfold starV;rw[hs]
  simp+decide only[RL,↓reduceIte,i0,e1,hv]
theorem starS_len{s n:Str}(h:starS s=some n)(hs:s.length<=maxLen):n.length<=maxLen:=by
 unfold starS at h;split at h<;>simp_all;omega
include H in
theorem elem_gp{s:Str}(hs:s.length<=maxLen):GP tab 186 [sv s] h λv h1=>v=.tup [sv ((elemS s).getD []),.bool (elemS s).isSome]/\More h h1:=by
 have i0:zAb [sv s]=zAa [sv s]:=rfl;refine gpr H.t186 ?_;have e1:∀{R E:AV->AH->Prop},GE tab 107 [sv s,sv [42]] h R E=R (starV s) h:=ge_rw (cut_gp H);unfold elemS;cases hs':starS s with
 | none=>
  have hv:starV s=.tup [sv s,.bool false]:=by unfold starV;rw[hs']
  simp+decide only[RL,↓reduceIte,i0,e1,hv,Option.bind_none,q0M,moreT]
 | some n=>
  have hv:starV s=.tup [sv n,.bool true]:=by unfold starV;rw[hs']
  have e2:∀{R E:AV->AH->Prop},GE tab 65 [sv n] h R E=R (.bool (zB3 n)) (nh tab 65 [sv n] h):=ge_nh (zFl H (starS_len hs' hs));cases hw:zB3 n<;>simp+decide only[RL,↓reduceIte,i0,e1,e2,hv,hw,Option.bind_some,q0J,q0M,moreT]
abbrev StrsV(h:AH)(v:AV)(l:List zA9):Prop:=SlV h 2 (StructV h) v l
include H in
theorem find1_gp{b:Nat}{x:zA9}{n:Str}{c:T AV}{E:List AV}(r:∃h0,StructV h0 E x)(hb:b<h.next)(g:h.mem.get b=some (.cells c 1 none false))(g0:c.get 0=some (sv n)):GP tab 149 [.agg E,.ptr b 0] h λw h2=>w=.bool (decide (x.name=n))/\More h h2:=by
 obtain⟨h0,vf,rfl,_,_⟩:=r;have i0:zAb [.agg [sv x.name,vf],.ptr b 0]=zAa [.agg [sv x.name,vf],.ptr b 0]:=rfl;refine gpr H.t149 ?_;simp+decide(disch:=omega)only[RL,↓reduceIte,i0,g,g0,moreT]
abbrev placeV(o:Option Nat):AV:=.tup [.int .i64 ((o.getD 0:Nat):Int),.bool o.isSome]
include H in
theorem zLy{v:AV}{l:List zA9}{n:Str}{h0:AH}(a:SlV h 2 (StructV h0) v l):GP tab 108 [v,sv n] h λw h1=>w=placeV (findS l n)/\More h h1:=by
 have i0:zAb [v,sv n]=zAa [v,sv n]:=rfl;refine gpr H.t108 ?_;have mv:=a.mv;have m1:=q2g h (.cells (.log 1 0 (some (sv n)) .leaf) 1 none false);have g1:(h.add (.cells (.log 1 0 (some (sv n)) .leaf) 1 none false)).mem.get h.next=some (.cells (.log 1 0 (some (sv n)) .leaf) 1 none false):=by rw[q2a,q1b]
 have n1:(h.add (.cells (.log 1 0 (some (sv n)) .leaf) 1 none false)).next=h.next+1:=rfl
 have e1:∀{R E:AV->AH->Prop},GE tab 148 [v,.fn 149 [] [.ptr h.next 0]] (h.add (.cells (.log 1 0 (some (sv n)) .leaf) 1 none false)) R E=R (.int .i64 (idxP l λs=>decide (s.name=n))) (nh tab 148 [v,.fn 149 [] [.ptr h.next 0]] (h.add (.cells (.log 1 0 (some (sv n)) .leaf) 1 none false))):=
  ge_nh (idxStruct_gp H (a.more m1 λ_ _=>id) λh1 m E x _ r=>find1_gp H ⟨h0,r⟩ (by have:=m.next;omega) ((m.keep h.next (by omega)).trans g1) rfl)
 cases hf:findS l n with
 | none=>
  have hi:idxP l (λs=>decide (s.name=n))=-1:=by unfold idxP;rw[show l.findIdx? (λs=>decide (s.name=n))=none from hf]
  rw[hi] at e1;have l1:¬((0:Nat):Int)<=-1:=by decide
  have l2:(-1:Int)<((0:Nat):Int):=by decide
  simp+decide only[RL,↓reduceIte,i0,mv,e1,l1,l2,moreT];rfl
 | some i=>
  have hi:idxP l (λs=>decide (s.name=n))=i:=by unfold idxP;rw[show l.findIdx? (λs=>decide (s.name=n))=some i from hf]
  rw[hi] at e1;have l1:((0:Nat):Int)<=(i:Int):=by omega
  have l2:¬(i:Int)<((0:Nat):Int):=by omega
  simp+decide only[RL,↓reduceIte,i0,mv,e1,l1,l2,moreT];rfl
include H in
theorem zF1{v:AV}{l:List zA9}{t:Str}{h0:AH}(a:SlV h 2 (StructV h0) v l):GP tab 66 [v,sv t] h λw h1=>w=.bool (zBl l t)/\More h h1:=by
 have i0:zAb [v,sv t]=zAa [v,sv t]:=rfl;refine gpr H.t66 ?_;have mv:=a.mv;have e1:∀{R E:AV->AH->Prop},GE tab 107 [sv t,sv [42]] h R E=R (starV t) h:=ge_rw (cut_gp H);unfold zBl;by_cases h1:t=tInt
 ·subst h1;simp+decide only[RL,↓reduceIte,i0,moreT,Bool.true_or]
 by_cases h2:t=tBool
 ·subst h2;simp+decide only[RL,↓reduceIte,i0,h1,moreT,Bool.or_true,Bool.true_or]
 cases hs:starS t with
 | none=>
  have hv:starV t=.tup [sv t,.bool false]:=by unfold starV;rw[hs]
  simp+decide only[RL,↓reduceIte,i0,e1,h1,h2,hv,moreT,Bool.or_false]
 | some n=>
  have hv:starV t=.tup [sv n,.bool true]:=by unfold starV;rw[hs]
  have e2:∀{R E:AV->AH->Prop},GE tab 108 [v,sv n] h R E=R (placeV (findS l n)) (nh tab 108 [v,sv n] h):=ge_nh (zLy H a);have e3:(findS l n).isSome=l.any λs=>decide (s.name=n):=by unfold findS;rw[List.findIdx?_isSome]
  simp+decide only[RL,↓reduceIte,i0,e1,e2,h1,h2,hv,mv,moreT,Bool.false_or,e3]
include H in
theorem field1_gp{b:Nat}{x:FieldD}{n:Str}{c:T AV}{E:List AV}{s:Nat}(r:zDg E x)(hb:b<h.next)(g:h.mem.get b=some (.cells c s none false))(g0:c.get 0=some (sv n)):GP tab 179 [.agg E,.ptr b 0] h λw h2=>w=.bool (decide (x.name=n))/\More h h2:=by
 obtain⟨rfl,_,_⟩:=r;have i0:zAb [.agg [sv x.name,sv x.typ],.ptr b 0]=zAa [.agg [sv x.name,sv x.typ],.ptr b 0]:=rfl;refine gpr H.t179 ?_;simp+decide(disch:=omega)only[RL,↓reduceIte,i0,g,g0,moreT]
include H in
theorem hasField_gp{b:Nat}{v:AV}{fs:List FieldD}{n:Str}{c:T AV}{s:Nat}(a:SlV h 2 zDg v fs)(hb:b<h.next)(g:h.mem.get b=some (.cells c s none false))(g0:c.get 0=some (sv n)):GP tab 178 [v,.fn 179 [] [.ptr b 0]] h λw h2=>w=.bool (fs.any λx=>decide (x.name=n))/\More h h2:=by
 have i0:zAb [v,.fn 179 [] [.ptr b 0]]=zAa [v,.fn 179 [] [.ptr b 0]]:=rfl;have mv:=a.mv;refine gpr H.t178 ?_
 have e1:∀{R E:AV->AH->Prop},GE tab 200 [v,.fn 179 [] [.ptr b 0]] h R E=R (.int .i64 (idxP fs λs=>decide (s.name=n))) (nh tab 200 [v,.fn 179 [] [.ptr b 0]] h):=
  ge_nh (idxField_gp H a λh1 m E x _ r=>field1_gp H r (by have:=m.next;omega) ((m.keep b hb).trans g) g0)
 have e2:decide (((0:Nat):Int)<=idxP fs λs=>decide (s.name=n))=fs.any λx=>decide (x.name=n):=zJm;simp only[RL,↓reduceIte,i0,mv,e1,e2,moreT]
include H in
theorem field_gp{v va:AV}{l:List zA9}{fs:List FieldD}{f:FieldD}(a:StrsV h v l)(b:SlV h 2 zDg va fs)(hn:f.name.length<=maxLen):GP tab 141 [v,va,.agg [sv f.name,sv f.typ]] h λw h1=>w=.int .i64 (fieldE l fs f:Int)/\More h h1:=by
 have i0:zAb [v,va,.agg [sv f.name,sv f.typ]]=zAa [v,va,.agg [sv f.name,sv f.typ]]:=rfl;refine gpr H.t141 ?_;have mv:=a.mv;have mb:=b.mv;simp+decide only[RL,↓reduceIte,i0];have m1:More h (h.add (.cells (zAa [sv f.name,sv f.typ]) 2 none false)):=q2g _ _;have g1:(h.add (.cells (zAa [sv f.name,sv f.typ]) 2 none false)).mem.get h.next=some (.cells (zAa [sv f.name,sv f.typ]) 2 none false):=by rw[q2a,q1b]
 have n1:(h.add (.cells (zAa [sv f.name,sv f.typ]) 2 none false)).next=h.next+1:=rfl;generalize h.add (.cells (zAa [sv f.name,sv f.typ]) 2 none false)=h1 at *;refine(zFl H hn).to λw h2 q=>?_;obtain⟨rfl,m2⟩:=q;have n2:=m2.next;unfold fieldE;cases hw:zB3 f.name with
 | false=>simp+decide only[RL,↓reduceIte,m1.trans m2]
 | true=>
  simp+decide only[RL,↓reduceIte,mb];refine(hasField_gp H (b.more (m1.trans m2) λ_ _=>id) (by omega) ((m2.keep h.next (by omega)).trans g1) rfl).to λw h3 q=>?_;obtain⟨rfl,m3⟩:=q;have n3:=m3.next;cases hf:fs.any λx=>decide (x.name=f.name) with
  | true=>simp+decide only[RL,↓reduceIte,((m1.trans m2).trans m3)]
  | false=>
   have g3:=(m3.keep h.next (by omega)).trans ((m2.keep h.next (by omega)).trans g1);simp+decide only[RL,↓reduceIte,mv,g3];refine(zF1 H (a.more ((m1.trans m2).trans m3) λ_ _ r=>r)).to λw h4 q=>?_;obtain⟨rfl,m4⟩:=q;have m4':=((m1.trans m2).trans m3).trans m4;cases ht:zBl l f.typ<;>simp only[RL,↓reduceIte,m4']
include H in
theorem one_gp{v:AV}{l:List zA9}{i:Nat}(a:StrsV h v l)(hi:i<l.length):GP tab 104 [v,.int .i64 (i:Int)] h λw h1=>w=.int .i64 (oneE l i:Int)/\More h h1:=by
 have i0:zAb [v,.int .i64 (i:Int)]=zAa [v,.int .i64 (i:Int)]:=rfl;refine gpr H.t104 ?_;have mv:=a.mv;obtain⟨id,o,E,ix,_,r,ld,_⟩:=a.at hi;obtain⟨vf,rfl,af,hn⟩:=r;have e0:oneE l i=if zB3 l[i].name then(if(findS l l[i].name).getD 0<i then 6 else if 8<l[i].fields.length then 4 else zLz l l[i].fields) else 1:=by unfold oneE;rw[q0a hi]
 rw[e0];clear e0;generalize l[i]=s at *;simp+decide(disch:=omega)only[RL,↓reduceIte,i0,mv,ix,ld];have m1:More h ((h.add (.cells (zAa [sv [],.nils]) 2 none false)).set h.next (.cells (T.put (some vf) (T.put (some (sv s.name)) (zAa [sv [],.nils]) 0) 1) 2 none false)):=(q2g _ _).set (q0c _) _;have g1:((h.add (.cells (zAa [sv [],.nils]) 2 none false)).set h.next (.cells (T.put (some vf) (T.put (some (sv s.name)) (zAa [sv [],.nils]) 0) 1) 2 none false)).mem.get h.next=some (.cells (T.put (some vf) (T.put (some (sv s.name)) (zAa [sv [],.nils]) 0) 1) 2 none false):=q2d;have n1:((h.add (.cells (zAa [sv [],.nils]) 2 none false)).set h.next (.cells (T.put (some vf) (T.put (some (sv s.name)) (zAa [sv [],.nils]) 0) 1) 2 none false)).next=h.next+1:=rfl;generalize (h.add (.cells (zAa [sv [],.nils]) 2 none false)).set h.next (.cells (T.put (some vf) (T.put (some (sv s.name)) (zAa [sv [],.nils]) 0) 1) 2 none false)=h1 at *;refine(zFl H hn).to λw h2 q=>?_;obtain⟨rfl,m2⟩:=q;have g2:=(m2.keep h.next (by omega)).trans g1;have n2:=m2.next;have m12:=m1.trans m2;cases hw:zB3 s.name with
 | false=>simp+decide(disch:=omega)only[RL,↓reduceIte,m12]
 | true=>
 simp+decide(disch:=omega)only[RL,↓reduceIte,mv,g2];refine(zLy H (a.more m12 λ_ _ r=>r.more m12)).to λw h3 q=>?_;obtain⟨rfl,m3⟩:=q;have g3:=(m3.keep h.next (by omega)).trans g2;have n3:=m3.next;have m13:=m12.trans m3;by_cases hk:(findS l s.name).getD 0<i
 ·simp+decide(disch:=omega)only[RL,↓reduceIte,hk,m13]
 by_cases h8:8<s.fields.length
 ·have ln:=af.len;have maf:=af.mv;simp+decide(disch:=omega)only[RL,↓reduceIte,hk,h8,g3,ln,m13]
 have ln:=af.len;have maf:=af.mv;simp+decide(disch:=omega)only[RL,↓reduceIte,hk,h8,g3,ln];have hb:=af.bound;unfold maxLen at hb;refine zAd (λm t d1 h4=>∃k,m=s.fields.length-k/\k<=s.fields.length/\d1=[]/\More h3 h4/\t.get 0=some v/\t.get 2=some (.ptr h.next 0)/\t.get 7=some (.int .i64 (k:Int))/\t.get 8=some (.int .i64 (s.fields.length:Int))/\t.get 10=some vf/\zLz l s.fields=rowE (λk=>match s.fields[k]? with | some f=>fieldE l (s.fields.take k) f | none=>0) s.fields.length (s.fields.length-k)) ?_ (s.fields.length-0) ⟨0,rfl,q0k _,rfl,q2o _,rfl,rfl,rfl,rfl,rfl,rfl⟩;rintro m t d1 h4 ⟨k,rfl,hk2,rfl,m4,t0,t2,t7,t8,t10,he⟩;by_cases hlt:k<s.fields.length
 ·obtain⟨id2,o2,E2,ix2,_,r2,ld2,_⟩:=af.at hlt;obtain⟨rfl,hn2,ht2⟩:=r2;obtain⟨v',sl,av'⟩:=af.take (Nat.le_of_lt hlt);have mv':=av'.mv;rw[rowE_step hlt,q0a hlt] at he;simp only at he;generalize s.fields[k]=f at *;have n4:=m4.next;haveI:MoreC h h4:=⟨m13.trans m4⟩;simp+decide(disch:=omega)only[RL,↓reduceIte,t7,t8,t10,hlt,ix2,ld2];have m5:More h4 ((h4.add (.cells (zAa [sv [],sv []]) 2 none false)).set h4.next (.cells (T.put (some (sv f.typ)) (T.put (some (sv f.name)) (zAa [sv [],sv []]) 0) 1) 2 none false)):=(q2g _ _).set (q0c _) _;have g5:((h4.add (.cells (zAa [sv [],sv []]) 2 none false)).set h4.next (.cells (T.put (some (sv f.typ)) (T.put (some (sv f.name)) (zAa [sv [],sv []]) 0) 1) 2 none false)).mem.get h4.next=some (.cells (T.put (some (sv f.typ)) (T.put (some (sv f.name)) (zAa [sv [],sv []]) 0) 1) 2 none false):=q2d;have n5:((h4.add (.cells (zAa [sv [],sv []]) 2 none false)).set h4.next (.cells (T.put (some (sv f.typ)) (T.put (some (sv f.name)) (zAa [sv [],sv []]) 0) 1) 2 none false)).next=h4.next+1:=rfl;generalize (h4.add (.cells (zAa [sv [],sv []]) 2 none false)).set h4.next (.cells (T.put (some (sv f.typ)) (T.put (some (sv f.name)) (zAa [sv [],sv []]) 0) 1) 2 none false)=h5 at *
  have m15:=(m13.trans m4).trans m5;haveI:MoreC h h5:=⟨m15⟩;have g5':=((m4.trans m5).keep h.next (by omega)).trans g3;simp+decide(disch:=omega)only[RL,↓reduceIte,t0,t2,mv,g5,g5',zCq,sl,loadL_more];refine(field_gp H (a.more m15 λ_ _ r=>r.more m15) (av'.more m15 λ_ _ r=>r) hn2).to λw h6 q=>?_;obtain⟨rfl,m6⟩:=q;by_cases hz:fieldE l (s.fields.take k) f=0
  ·rw[if_pos hz] at he;have hz':((fieldE l (s.fields.take k) f:Nat):Int)=((0:Nat):Int):=by rw[hz]
   simp+decide(disch:=omega)only[RL,↓reduceIte,hz',t7];exact⟨s.fields.length-(k+1),by omega,k+1,rfl,hlt,(m4.trans m5).trans m6,t0,t2,rfl,t8,t10,he⟩
  ·rw[if_neg hz] at he;have hz':¬((fieldE l (s.fields.take k) f:Nat):Int)=((0:Nat):Int):=by omega
   rw[he];simp+decide(disch:=omega)only[RL,↓reduceIte,hz',m15.trans m6]
 ·obtain rfl:k=s.fields.length:=by omega
  rw[Nat.sub_self] at he;have he:zLz l s.fields=0:=he;rw[he];simp(disch:=omega)only[RL,↓reduceIte,t7,t8,hlt,m13.trans m4]
include H in
theorem check_gp{v:AV}{l:List zA9}(a:StrsV h v l):GP tab 64 [v] h λw h1=>More h h1/\∃z,w=.tup [.int .i64 z,.int .i64 (checkS l:Int)]:=by
 have i0:zAb [v]=zAa [v]:=rfl;refine gpr H.t64 ?_;have mv:=a.mv;have ln:=a.len;unfold checkS;by_cases h12:12<l.length
 ·simp+decide(disch:=omega)only[RL,↓reduceIte,i0,mv,ln,h12,q2o h];exact⟨_,rfl⟩
 have hb:=a.bound;unfold maxLen at hb;simp+decide(disch:=omega)only[RL,↓reduceIte,i0,mv,ln,h12];refine zAd (λm t d1 h1=>∃k,m=l.length-k/\k<=l.length/\d1=[]/\More h h1/\t.get 0=some v/\t.get 2=some (.int .i64 (k:Int))/\t.get 3=some (.int .i64 (l.length:Int))/\rowE (oneE l) l.length l.length=rowE (oneE l) l.length (l.length-k)) ?_ (l.length-0) ⟨0,rfl,q0k _,rfl,q2o _,rfl,rfl,rfl,rfl⟩;rintro m t d1 h1 ⟨k,rfl,hk2,rfl,m1,t0,t2,t3,he⟩;by_cases hlt:k<l.length
 ·simp+decide(disch:=omega)only[RL,↓reduceIte,t0,t2,t3,mv,hlt];refine(one_gp H (a.more m1 λ_ _ r=>r.more m1) hlt).to λw h2 q=>?_;obtain⟨rfl,m2⟩:=q;rw[rowE_step hlt] at he;by_cases hz:oneE l k=0
  ·rw[if_pos hz] at he;have hz':((oneE l k:Nat):Int)=((0:Nat):Int):=by rw[hz]
   simp+decide(disch:=omega)only[RL,↓reduceIte,hz',t2];exact⟨l.length-(k+1),by omega,k+1,rfl,hlt,m1.trans m2,t0,rfl,t3,he⟩
  ·rw[if_neg hz] at he;have hz':¬((oneE l k:Nat):Int)=((0:Nat):Int):=by omega
   rw[he];simp+decide(disch:=omega)only[RL,↓reduceIte,hz',m1.trans m2];exact⟨_,rfl⟩
 ·obtain rfl:k=l.length:=by omega
  rw[Nat.sub_self] at he;rw[he];simp+decide(disch:=omega)only[RL,↓reduceIte,t2,t3,hlt,m1];exact⟨_,rfl⟩
end
def argsS(op:Int):Int:=if op=17\/op=18\/op=25\/op=28\/op=30\/op=32 then 1 else if op=26 then 2 else if op=20\/op=21\/op=22\/op=23\/op=24\/op=27\/op=29\/op=33 then 0 else if 1<=op/\op<=16 then 2 else -1
def isOpS(op:Int):Bool:=decide (1<=op)&&decide (op<=34)&&!decide (op=19)
section
variable{tab:Nat->Option AFunc}{h:AH}(H:PV tab)
include H in
theorem isOp_gp{op:Int}:GP tab 121 [.int .i64 op] h λv h1=>v=.bool (isOpS op)/\h1=h:=by
 refine gpr H.t121 ?_;have i0:zAb [.int .i64 op]=zAa [.int .i64 op]:=rfl;simp only[BL,↓reduceIte,i0]
 all_goals repeat' ((first | refine cond_by ?_ ?_ | refine guardE_by ?_ ?_ | refine cond_cases ?_ ?_ | refine zIa ?_ ?_)<;>intro hc<;>simp only[BL,↓reduceIte, *])
 all_goals (unfold isOpS;congr 1;simp;try omega)
include H in
theorem args_gp{op:Int}:GP tab 120 [.int .i64 op] h λv h1=>v=.int .i64 (argsS op)/\h1=h:=by
 refine gpr H.t120 ?_;have i0:zAb [.int .i64 op]=zAa [.int .i64 op]:=rfl;simp+decide only[BL,↓reduceIte,i0,neg1]
 all_goals repeat' ((first | refine cond_by ?_ ?_ | refine guardE_by ?_ ?_ | refine cond_cases ?_ ?_ | refine zIa ?_ ?_)<;>intro hc<;>simp+decide only[BL,↓reduceIte, *])
 all_goals first | rfl | (unfold argsS;congr 1;(repeat' split)<;>omega)
end
theorem zB8{tab:Nat->Option AFunc}{a:ACode}{k:List Fr}{loc:T AV}{d:List AV}{h:AH}{Q:Res->Prop}:Rn tab (.code (.loop a)::k) none loc d h Q=Rn tab (.code a::.code (.loop a)::k) none loc d h Q:=by
 rw[zA1,zA1];refine propext ⟨λ⟨r,x,q⟩=>?_,λ⟨r,x,q⟩=>?_⟩
 ·obtain⟨hg,n,hn⟩:=x;cases n with
  | zero=>have hn:Res.fail [91]=r:=hn;rw[<-hn] at hg;exact hg.elim
  | succ n=>
   have hn:(Res.rec (motive:=λ_=>Res) (λloc d h=>evC tab n (.loop a) loc d h) Res.exit Res.ret Res.pan Res.fail (evC tab n a loc d h):Res)=r:=hn;cases e:evC tab n a loc d h with
   | fail l=>rw[e] at hn;have hn:Res.fail l=r:=hn;rw[<-hn] at hg;exact hg.elim
   | norm l1 d1 h1=>
    rw[e] at hn;have hd:Does tab a loc d h (.norm l1 d1 h1):=⟨trivial,n,e⟩;refine⟨_,hd,?_⟩;rw[zD3,zA1];exact⟨r,⟨hg,n,hn⟩,q⟩
   | exit i l1 d1 h1=>rw[e] at hn;have hd:Does tab a loc d h (.exit i l1 d1 h1):=⟨trivial,n,e⟩;have hn:Res.exit i l1 d1 h1=r:=hn;subst hn;exact⟨_,hd,q⟩
   | ret l1 d1 h1=>rw[e] at hn;have hd:Does tab a loc d h (.ret l1 d1 h1):=⟨trivial,n,e⟩;have hn:Res.ret l1 d1 h1=r:=hn;subst hn;exact⟨_,hd,q⟩
   | pan v l1 d1 h1=>rw[e] at hn;have hd:Does tab a loc d h (.pan v l1 d1 h1):=⟨trivial,n,e⟩;have hn:Res.pan v l1 d1 h1=r:=hn;subst hn;exact⟨_,hd,q⟩
 ·cases r with
  | norm=>
   rw[zD3,zA1] at q;obtain⟨r2,y,q⟩:=q;exact⟨r2,does_loop x y,q⟩
  | exit=>exact⟨_,zB2 x trivial,q⟩
  | ret=>exact⟨_,zB2 x trivial,q⟩
  | pan=>exact⟨_,zB2 x trivial,q⟩
  | fail=>exact x.1.elim
theorem zGs{z:List AV}{x:Opd}{loc:T AV}{tmp:List AV}{h:AH}:evOp (.clear z x) loc tmp h=zFj z (.c (ev loc tmp x)) .leaf [] h:=rfl
theorem zG6{z a:AV}{id off:Nat}{cap:ACap}{c:T AV}{s:Nat}{p:Option Nat}{h:AH}(g:h.mem.get id=some (.cells c s p false))(ga:c.get off=some a):zFj [z] (.c (.sl id off 1 cap)) .leaf [] h=.val (.tup []) (h.set id (.cells (T.put (some z) c off) s p false)):=by
 show zAq (AH.get h id) _=_;rw[q2f,g];show obind (zBr [z] c off) _ _=_;rw[zDv,ga];rfl
theorem clear_two{z a b:AV}{id off:Nat}{cap:ACap}{c:T AV}{s:Nat}{p:Option Nat}{h:AH}(g:h.mem.get id=some (.cells c s p false))(ga:c.get off=some a)(gb:c.get (off+1)=some b):zFj [z] (.c (.sl id off 2 cap)) .leaf [] h=.val (.tup []) (h.set id (.cells (T.put (some z) (T.put (some z) c off) (off+1)) s p false)):=by
 show zAq (AH.get h id) _=_;rw[q2f,g];show obind (zBr [z,z] c off) _ _=_;rw[zDv,ga];show obind (zBr [z] (T.put (some z) c off) (off+1)) _ _=_;rw[zDv,q1a _ _ _ _ (by omega),gb];rfl
section
variable{tab:Nat->Option AFunc}{h:AH}(H:PV tab)
include H in
theorem zJ0{id:Nat}{a b:Int}{c:T AV}(g:h.mem.get id=some (.cells c 2 none false))(ga:c.get 0=some (.int .i64 a))(gb:c.get 1=some (.int .i64 b)):GP tab 128 [.sl id 0 2 (.known 2)] h λv h1=>(a=b/\v=.sl id 0 1 (.known 2)/\h1=h.set id (.cells (T.put (some (.int .i64 ((0:Nat):Int))) c 1) 2 none false))\/(a≠b/\v=.sl id 0 2 (.known 2)/\h1=h):=by
 have i0:zAb [.sl id 0 2 (.known 2)]=zAa [.sl id 0 2 (.known 2)]:=rfl;refine GE.gp (zAi H.t128 rfl ?_) (E:=λ_ _=>False) λ_ _ x=>x;have s1:∀h',zAs true 1 (.c (.sl id 0 2 (.known 2))) (some (.c (.int .i64 ((1:Nat):Int)))) none none .leaf [] h'=.val (.sl id 1 1 (.known 1)) h':=λ_=>rfl;have s2:∀h',zAs true 1 (.c (.sl id 0 2 (.known 2))) none (some (.c (.int .i64 ((1:Nat):Int)))) none .leaf [] h'=.val (.sl id 0 1 (.known 2)) h':=λ_=>rfl;have c1:zFj [.int .i64 ((0:Nat):Int)] (.c (.sl id 1 1 (.known 1))) .leaf [] h=.val (.tup []) (h.set id (.cells (T.put (some (.int .i64 ((0:Nat):Int))) c 1) 2 none false)):=zG6 g gb;by_cases hab:a=b
 ·subst hab;simp+decide only[RL,↓reduceIte,i0,zB8,zBy,zCq,s1,s2,c1,zGs,g,ga,gb,Nat.reduceLT,Nat.reduceSub,Nat.lt_irrefl];exact .inl trivial
 ·have hba:¬b=a:=λe=>hab e.symm;simp+decide only[RL,↓reduceIte,i0,zB8,g,ga,gb,hab,hba,Nat.reduceLT,Nat.reduceSub,Nat.lt_irrefl];exact .inr hab
end
def Cut(h h1:AH)(id s cp:Nat)(v:AV)(L:List Int):Prop:=∃c',h1.mem.get id=some (.cells c' s none false)/\MoreBut id h h1/\v=.sl id 0 L.length (.known cp)/\∀i (hi:i<L.length),c'.get i=some (.int .i64 L[i])
theorem Cut.sl{h h1:AH}{id s cp:Nat}{v:AV}{L:List Int}(x:Cut h h1 id s cp v L)(hl:L.length<=cp)(hc:cp<=zBq)(hid:id<h.next)(h64:∀z∈L,I64 z):SlV h1 1 IntR v L:=by
 obtain⟨c',g,m,rfl,hv⟩:=x;refine .inr ⟨id,0,.known cp,s,c',none,false,rfl,hl,g,q0d hid m.next,q0m hl hc,λi hi=>⟨[.int .i64 L[i]],rfl,⟨rfl,h64 _ (q0l hi)⟩,?_⟩⟩;exact zBk (by rw[<-hv i hi];congr 1;omega) rfl
section
variable{tab:Nat->Option AFunc}{h:AH}(H:PV tab)
include H in
theorem idx1_gp{id cp s f:Nat}{caps:List AV}{p:Int->Bool}{a:Int}{c:T AV}(hp:∀(x:Int) {R E:AV->AH->Prop},GE tab f (.int .i64 x::caps) h R E=R (.bool (p x)) h)(g:h.mem.get id=some (.cells c s none false))(ga:c.get 0=some (.int .i64 a)):GP tab 167 [.sl id 0 1 (.known cp),.fn f [] caps] h λv h1=>v=.int .i64 (if p a then((0:Nat):Int) else -1)/\h1=h:=by
 have i0:zAb [.sl id 0 1 (.known cp),.fn f [] caps]=zAa [.sl id 0 1 (.known cp),.fn f [] caps]:=rfl;refine GE.gp (zAi H.t167 rfl ?_) (E:=λ_ _=>False) λ_ _ x=>x;cases e:p a<;>simp+decide only[RL,↓reduceIte,i0,zB8,hp,e,g,ga,Nat.reduceLT,Nat.lt_irrefl,neg1]
include H in
theorem idx2_gp{id cp s f:Nat}{caps:List AV}{p:Int->Bool}{a b:Int}{c:T AV}(hp:∀(x:Int) {R E:AV->AH->Prop},GE tab f (.int .i64 x::caps) h R E=R (.bool (p x)) h)(g:h.mem.get id=some (.cells c s none false))(ga:c.get 0=some (.int .i64 a))(gb:c.get 1=some (.int .i64 b)):GP tab 167 [.sl id 0 2 (.known cp),.fn f [] caps] h λv h1=>v=.int .i64 (if p a then((0:Nat):Int) else if p b then((1:Nat):Int) else -1)/\h1=h:=by
 have i0:zAb [.sl id 0 2 (.known cp),.fn f [] caps]=zAa [.sl id 0 2 (.known cp),.fn f [] caps]:=rfl;refine GE.gp (zAi H.t167 rfl ?_) (E:=λ_ _=>False) λ_ _ x=>x;cases e:p a<;>cases e':p b<;>simp+decide only[RL,↓reduceIte,i0,zB8,hp,e,e',g,ga,gb,Nat.reduceLT,Nat.lt_irrefl,neg1]
include H in
theorem del1_gp{id cp s f:Nat}{caps:List AV}{p:Int->Bool}{a:Int}{c:T AV}(hp:∀(x:Int) {R E:AV->AH->Prop},GE tab f (.int .i64 x::caps) h R E=R (.bool (p x)) h)(h1:cp=1\/cp=2)(g:h.mem.get id=some (.cells c s none false))(ga:c.get 0=some (.int .i64 a)):GP tab 129 [.sl id 0 1 (.known cp),.fn f [] caps] h λv h1=>Cut h h1 id s cp v ([a].filter λx=>!p x):=by
 have i0:zAb [.sl id 0 1 (.known cp),.fn f [] caps]=zAa [.sl id 0 1 (.known cp),.fn f [] caps]:=rfl;refine GE.gp (zAi H.t129 rfl ?_) (E:=λ_ _=>False) λ_ _ x=>x;have e0:∀{R E:AV->AH->Prop},GE tab 167 [.sl id 0 1 (.known cp),.fn f [] caps] h R E=R (.int .i64 (if p a then((0:Nat):Int) else -1)) h:=ge_rw (idx1_gp H hp g ga);have hz:¬((0:Nat):Int)=-1:=by decide
 have s1:∀h',zAs true 1 (.c (.sl id 0 1 (.known cp))) (some (.c (.int .i64 ((0:Nat):Int)))) none none .leaf [] h'=.val (.sl id 0 1 (.known cp)) h':=by rcases h1 with rfl | rfl<;>exact λ_=>rfl
 have s2:∀h',zAs true 1 (.c (.sl id 0 1 (.known cp))) none (some (.c (.int .i64 ((0:Nat):Int)))) none .leaf [] h'=.val (.sl id 0 0 (.known cp)) h':=by rcases h1 with rfl | rfl<;>exact λ_=>rfl
 have c1:zFj [.int .i64 ((0:Nat):Int)] (.c (.sl id 0 1 (.known cp))) .leaf [] h=.val (.tup []) (h.set id (.cells (T.put (some (.int .i64 ((0:Nat):Int))) c 0) s none false)):=zG6 g ga;cases e:p a
 ·rw[e] at e0;simp+decide only[RL,↓reduceIte,i0,e0,neg1,e,List.filter_cons,List.filter_nil];exact⟨c,g,MoreBut.refl _ _,rfl,λi hi=>by obtain rfl:i=0:=(by simp at hi;omega);exact ga⟩
 ·rw[e] at e0;simp+decide only[RL,↓reduceIte,i0,e0,neg1,hz,zB8,Nat.lt_irrefl,zGs,zBy,zCq,s1,s2,c1];exact⟨_,q2d,(MoreBut.refl _ _).set _,by rw[List.filter_cons,e];rfl,λi hi=>by simp[e] at hi⟩
include H in
theorem del2_gp{id s f:Nat}{caps:List AV}{p:Int->Bool}{a b:Int}{c:T AV}(hp:∀(x:Int) {R E:AV->AH->Prop},GE tab f (.int .i64 x::caps) h R E=R (.bool (p x)) h)(g:h.mem.get id=some (.cells c s none false))(ga:c.get 0=some (.int .i64 a))(gb:c.get 1=some (.int .i64 b)):GP tab 129 [.sl id 0 2 (.known 2),.fn f [] caps] h λv h1=>Cut h h1 id s 2 v ([a,b].filter λx=>!p x):=by
 have i0:zAb [.sl id 0 2 (.known 2),.fn f [] caps]=zAa [.sl id 0 2 (.known 2),.fn f [] caps]:=rfl;refine GE.gp (zAi H.t129 rfl ?_) (E:=λ_ _=>False) λ_ _ x=>x;have e0:∀{R E:AV->AH->Prop},GE tab 167 [.sl id 0 2 (.known 2),.fn f [] caps] h R E=R (.int .i64 (if p a then((0:Nat):Int) else if p b then((1:Nat):Int) else -1)) h:=ge_rw (idx2_gp H hp g ga gb);have hz:¬((0:Nat):Int)=-1:=by decide
 have hz':¬((1:Nat):Int)=-1:=by decide
 have s1:∀h',zAs true 1 (.c (.sl id 0 2 (.known 2))) (some (.c (.int .i64 ((0:Nat):Int)))) none none .leaf [] h'=.val (.sl id 0 2 (.known 2)) h':=λ_=>rfl;have s2:∀h',zAs true 1 (.c (.sl id 0 2 (.known 2))) none (some (.c (.int .i64 ((0:Nat):Int)))) none .leaf [] h'=.val (.sl id 0 0 (.known 2)) h':=λ_=>rfl;have s3:∀h',zAs true 1 (.c (.sl id 0 2 (.known 2))) (some (.c (.int .i64 ((1:Nat):Int)))) none none .leaf [] h'=.val (.sl id 1 1 (.known 1)) h':=λ_=>rfl;have s4:∀h',zAs true 1 (.c (.sl id 0 2 (.known 2))) none (some (.c (.int .i64 ((1:Nat):Int)))) none .leaf [] h'=.val (.sl id 0 1 (.known 2)) h':=λ_=>rfl;have c1:zFj [.int .i64 ((0:Nat):Int)] (.c (.sl id 1 1 (.known 1))) .leaf [] h=.val (.tup []) (h.set id (.cells (T.put (some (.int .i64 ((0:Nat):Int))) c 1) s none false)):=zG6 g gb;have c2:zFj [.int .i64 ((0:Nat):Int)] (.c (.sl id 0 2 (.known 2))) .leaf [] h=.val (.tup []) (h.set id (.cells (T.put (some (.int .i64 ((0:Nat):Int))) (T.put (some (.int .i64 ((0:Nat):Int))) c 0) 1) s none false)):=clear_two g ga gb;have c3:zFj [.int .i64 ((0:Nat):Int)] (.c (.sl id 1 1 (.known 1))) .leaf [] (h.set id (.cells (T.put (some (.int .i64 b)) c 0) s none false))=.val (.tup []) ((h.set id (.cells (T.put (some (.int .i64 b)) c 0) s none false)).set id (.cells (T.put (some (.int .i64 ((0:Nat):Int))) (T.put (some (.int .i64 b)) c 0) 1) s none false)):=zG6 q2d (by rw[q1a _ _ _ _ (by decide)];exact gb)
 cases e:p a<;>cases e':p b<;>rw[e,e'] at e0
 ·simp+decide only[RL,↓reduceIte,i0,e0,neg1];exact⟨c,g,MoreBut.refl _ _,by simp[e,e'],λi hi=>by simp only[List.filter_cons,e,e',q0A,List.filter_nil,if_true] at hi ⊢;rcases i with _ | _ | i;exact ga;exact gb;simp at hi;omega⟩
 ·simp+decide only[RL,↓reduceIte,i0,e0,neg1,hz',zB8,Nat.reduceAdd,Nat.lt_irrefl,zGs,zBy,zCq,s3,s4,c1];exact⟨_,q2d,(MoreBut.refl _ _).set _,by simp[e,e'],λi hi=>by simp[e,e'] at hi;subst hi;simp[e,e',q1a,ga]⟩
 ·simp+decide only[RL,↓reduceIte,i0,e0,neg1,hz,zB8,Nat.reduceAdd,Nat.lt_irrefl,Nat.reduceLT,g,ga,gb,hp,e',zGs,zBy,zCq,s3,s4,c3];exact⟨_,q2d,((MoreBut.refl _ _).set _).set _,by simp[e,e'],λi hi=>by simp[e,e'] at hi;subst hi;simp[e,e',q1a,q1b]⟩
 ·simp+decide only[RL,↓reduceIte,i0,e0,neg1,hz,zB8,Nat.reduceAdd,Nat.lt_irrefl,Nat.reduceLT,g,ga,gb,hp,e',zGs,zBy,zCq,s1,s2,c2];exact⟨_,q2d,(MoreBut.refl _ _).set _,by simp[e,e'],λi hi=>by simp[e,e'] at hi⟩
end
def okB(n:Nat)(i:Int):Bool:=decide (0<=i)&&decide (i<(n:Int))
def toS(x:BlkD):List Int:=if x.jump=1 then[x.to0] else if x.jump=2 then(if x.to0=x.to1 then[x.to0] else[x.to0,x.to1]) else[]
def nextS(n:Nat)(x:BlkD):List Int:=(toS x).filter (okB n)
theorem zAr{n es:Nat}{x i:Opd}{loc:T AV}{tmp:List AV}{h:AH}:evOp (.idxAddrA n es x i) loc tmp h=zCi n es (.c (ev loc tmp x)) (.c (ev loc tmp i)) .leaf [] h:=rfl
theorem zG7{h hB:AH}{o:AObj}(m:More (h.add o) hB):hB.mem.get h.next=some o/\h.next<hB.next/\More h hB:=⟨by rw[m.keep h.next (q0h _),q2a,q1b],q0d (q0h _) m.next,(q2g h o).trans m⟩
theorem Cut.new{h h0 h1:AH}{id s cp:Nat}{v:AV}{L:List Int}(x:Cut h h1 id s cp v L)(hl:L.length<=cp)(hc:cp<=2)(m:More h0 h)(hid:id<h.next)(hid0:h0.next<=id)(h64:∀z∈L,I64 z):SlV h1 1 IntR v L/\More h0 h1/\∀id o l c,v=.sl id o l c->h0.next<=id:=⟨x.sl hl (q0m hc (by decide)) hid h64,by
 obtain⟨_,_,mb,_⟩:=x;exact⟨q0m m.next mb.next,λk hk=>by rw[mb.keep k (q0d hk m.next) (by omega),m.keep k hk]⟩,λi o l c e=>by obtain⟨_,_,_,e',_⟩:=x;rw[e'] at e;injection e with e;omega⟩
section
variable{tab:Nat->Option AFunc}{h:AH}(H:PV tab)
include H in
theorem del0_gp{f:Nat}{caps:List AV}:GP tab 129 [.nils,.fn f [] caps] h λv h1=>v=.nils/\h1=h:=by
 have i0:zAb [.nils,.fn f [] caps]=zAa [.nils,.fn f [] caps]:=rfl;have e0:GP tab 167 [.nils,.fn f [] caps] h λv h1=>v=.int .i64 (-1)/\h1=h:=by
  refine GE.gp (zAi H.t167 rfl ?_) (E:=λ_ _=>False) λ_ _ x=>x;simp+decide only[RL,↓reduceIte,i0,zB8,Nat.lt_irrefl,neg1]
 have e1:∀{R E:AV->AH->Prop},GE tab 167 [.nils,.fn f [] caps] h R E=R (.int .i64 (-1)) h:=ge_rw e0;refine GE.gp (zAi H.t129 rfl ?_) (E:=λ_ _=>False) λ_ _ x=>x;simp+decide only[RL,↓reduceIte,i0,e1,neg1]
include H in
theorem nextC_gp{fb n:Nat}{vb:AV}{x:Int}(g:∀h' [MoreC h h'],oLoad (.c (.ptr fb (0+5))) .leaf [] h'=.val vb h')(ln:∀h',oLen .sl (.c vb) .leaf [] h'=.val (.int .i64 (n:Int)) h')(mv:∀h',oMove (.c vb) .leaf [] h'=.val vb h'):GP tab 130 [.int .i64 x,.ptr fb 0] h λv h1=>v=.bool (!okB n x)/\h1=h:=by
 have i0:zAb [.int .i64 x,.ptr fb 0]=zAa [.int .i64 x,.ptr fb 0]:=rfl;refine GE.gp (zAi H.t130 rfl ?_) (E:=λ_ _=>False) λ_ _ x=>x;have e:okB n x=(decide (0<=x)&&decide (x<(n:Int))):=rfl;by_cases h0:x<((0:Nat):Int)
 ·have e':¬0<=x:=by omega
  simp only[RL,↓reduceIte,i0,h0,e,e',q0D]
 ·have e':0<=x:=by omega
  by_cases h1:(n:Int)<=x
  ·have h2:¬x<(n:Int):=by omega
   simp only[RL,↓reduceIte,i0,h0,g,ln,h1,h2,e,e',q0N]
  ·have h2:x<(n:Int):=by omega
   simp only[RL,↓reduceIte,i0,h0,g,ln,h1,h2,e,e',Bool.and_true]
include H in
theorem next_gp{E:List AV}{f:FunD}{b:Nat}(r:FunV h E f)(hb:b<f.blocks.length):GP tab 76 [.agg E,.int .i64 (b:Int)] h λv h1=>SlV h1 1 IntR v (nextS f.blocks.length f.blocks[b])/\More h h1/\∀id o l c,v=.sl id o l c->h.next<=id:=by
 obtain⟨vp,vs,vi,vb,rfl,r1,r2,r3,r4,hn,hr⟩:=r;have i0:zAb [.agg [sv f.name,vp,sv f.result,vs,vi,vb],.int .i64 (b:Int)]=zAa [.agg [sv f.name,vp,sv f.result,vs,vi,vb],.int .i64 (b:Int)]:=rfl;obtain⟨id,o,E,ix,e1,⟨vl,rfl,s1,j0,j1,j2,j3⟩,ld,lw⟩:=r4.at hb;have mv:=r4.mv;have ln:=r4.len;have z:¬(b:Int)<((0:Nat):Int):=by omega
 have z2:¬(f.blocks.length:Int)<=(b:Int):=by omega
 refine GE.gp (zAi H.t76 rfl ?_) (E:=λ_ _=>False) λ_ _ x=>x;generalize f.blocks[b]=x at *;have ax:∀{id o:Nat} {h'},zCi 2 1 (.c (.ptr id o)) (.c (.int .i64 ((0:Nat):Int))) .leaf [] h'=.val (.ptr id (o+0)) h':=rfl;have ay:∀{id o:Nat} {h'},zCi 2 1 (.c (.ptr id o)) (.c (.int .i64 ((1:Nat):Int))) .leaf [] h'=.val (.ptr id (o+1)) h':=rfl;have key:∀(h2:AH),More (h.add (.cells (zAa [sv f.name,vp,sv f.result,vs,vi,vb]) 6 none false)) h2->∀(x:Int) {R E:AV->AH->Prop},GE tab 130 (.int .i64 x::[.ptr h.next 0]) h2 R E=R (.bool (!okB f.blocks.length x)) h2:=by
  intro h2 m2 x R E;obtain⟨g2,l2,_⟩:=zG7 m2;exact ge_rw (nextC_gp H (λh' m'=>zBa (kp g2 l2) rfl) ln mv)
 have nn:∀l:List Int,(l.filter λx=>!!okB f.blocks.length x)=l.filter (okB f.blocks.length):=λl=>by simp only[Bool.not_not]
 have i64:∀z∈nextS f.blocks.length x,I64 z:=λz hz=>by
  have:=(List.mem_filter.mp hz).1;unfold toS at this
  (repeat' split at this)<;>simp at this<;>rcases this with rfl | rfl<;>assumption
 have hlen:(nextS f.blocks.length x).length<=(toS x).length:=List.length_filter_le _ _;by_cases x1:x.jump=((1:Nat):Int)
 ·have eq:toS x=[x.to0]:=by unfold toS;rw[if_pos (show x.jump=1 from x1)]
  simp+decide only[RL,↓reduceIte,i0,ln,ix,ld,z,z2,x1,ax,zAr];have M:=λo p q=>((q2g (h.add (.cells (zAa [sv f.name,vp,sv f.result,vs,vi,vb]) 6 none false)) o).set (q0c _) p).trans (q2g _ q);refine(del1_gp H (key _ (M _ _ _)) (.inl rfl) (q2a▸q1b _ _ _) rfl).to λw h2 q=>?_;rw[nn,<-eq] at q;have q:=q.new (by rw[eq] at hlen;exact hlen) (by decide) (zG7 (M _ _ _)).2.2 (q0h _) (by show h.next<=h.next+1+1;omega) i64;have mw:=q.1.mv;simp only[RL,↓reduceIte,mw];exact q
 by_cases x2:x.jump=((2:Nat):Int)
 ·by_cases x3:x.to0=x.to1
  ·have eq:toS x=[x.to0]:=by unfold toS;rw[if_neg (show ¬x.jump=1 from x1),if_pos (show x.jump=2 from x2),if_pos x3]
   have d:¬((2:Nat):Int)=((1:Nat):Int):=by decide
   simp+decide only[RL,↓reduceIte,i0,ln,ix,ld,z,z2,x2,d,ax,ay,zAr];have M:=λo p q=>((q2g (h.add (.cells (zAa [sv f.name,vp,sv f.result,vs,vi,vb]) 6 none false)) o).set (q0c _) p).trans (q2g _ q);refine(zJ0 H (q2a▸q1b _ _ _) rfl rfl).to λw h2 q=>?_;rcases q with⟨_,rfl,rfl⟩ | ⟨q,_⟩
   ·simp+decide only[RL,↓reduceIte];have M:=λo p q r=>(M o p q).set (show(h.add (.cells (zAa [sv f.name,vp,sv f.result,vs,vi,vb]) 6 none false)).next<=h.next+1+1 from q0w _) r;refine(del1_gp H (key _ (M _ _ _ _)) (.inr rfl) q2d rfl).to λw h2 q=>?_;rw[nn,<-x3,<-eq] at q;have q:=q.new (by rw[eq] at hlen;exact q0m hlen (by simp)) (by decide) (zG7 (M _ _ _ _)).2.2 (q0h _) (by show h.next<=h.next+1+1;omega) i64;have mw:=q.1.mv;simp only[RL,↓reduceIte,mw];exact q
   ·exact(q x3).elim
  ·have eq:toS x=[x.to0,x.to1]:=by unfold toS;rw[if_neg (show ¬x.jump=1 from x1),if_pos (show x.jump=2 from x2),if_neg x3]
   have d:¬((2:Nat):Int)=((1:Nat):Int):=by decide
   simp+decide only[RL,↓reduceIte,i0,ln,ix,ld,z,z2,x2,d,ax,ay,zAr];have M:=λo p q=>((q2g (h.add (.cells (zAa [sv f.name,vp,sv f.result,vs,vi,vb]) 6 none false)) o).set (q0c _) p).trans (q2g _ q);refine(zJ0 H (q2a▸q1b _ _ _) rfl rfl).to λw h2 q=>?_;rcases q with⟨q,_⟩ | ⟨_,rfl,rfl⟩
   ·exact(x3 q).elim
   ·simp+decide only[RL,↓reduceIte];refine(del2_gp H (key _ (M _ _ _)) (q2a▸q1b _ _ _) rfl rfl).to λw h2 q=>?_;rw[nn,<-eq] at q;have q:=q.new (by rw[eq] at hlen;exact hlen) (by decide) (zG7 (M _ _ _)).2.2 (q0h _) (by show h.next<=h.next+1+1;omega) i64;have mw:=q.1.mv;simp only[RL,↓reduceIte,mw];exact q
 ·have eq:nextS f.blocks.length x=[]:=by unfold nextS toS;rw[if_neg (show ¬x.jump=1 from x1),if_neg (show ¬x.jump=2 from x2)];rfl
  have e0:∀{h2:AH} {R E:AV->AH->Prop},GE tab 129 [.nils,.fn 130 [] [.ptr h.next 0]] h2 R E=R .nils h2:=ge_rw (del0_gp H);have M:=λo p=>((q2g (h.add (.cells (zAa [sv f.name,vp,sv f.result,vs,vi,vb]) 6 none false)) o).set (q0c _) p);simp+decide only[RL,↓reduceIte,i0,ln,ix,ld,z,z2,x1,x2,e0];rw[eq];exact⟨.inl ⟨rfl,.inl rfl⟩,(zG7 (M _ _)).2.2,λ_ _ _ _ e=>by cases e⟩
end
inductive Arr(h:AH)(F:Nat->Prop):AV->List AV->Prop
 | nils:Arr h F .nils []
 | emp {id:Nat}:F id->id<h.next->Arr h F (.sl id 0 0 (.known 0)) []
 | sl {id s:Nat} {c:T AV} {cap:ACap} {cs:List AV}:cs≠[]->F id->id<h.next->h.mem.get id=some (.cells c s none false)->(∀i,i<cs.length->c.get i=cs[i]?)->(cap=.rest 1/\s=cs.length\/cap=.known cs.length)->cs.length<=1000000->
   Arr h F (.sl id 0 cs.length cap) cs
structure Stay(F:Nat->Prop)(h h':AH):Prop where
 next:h.next<=h'.next
 keep:∀id,F id->id<h.next->h'.mem.get id=h.mem.get id
theorem Stay.refl(F:Nat->Prop)(h:AH):Stay F h h:=⟨q0c _,λ_ _ _=>rfl⟩
theorem Stay.trans{F:Nat->Prop}{a b c:AH}(x:Stay F a b)(y:Stay F b c):Stay F a c:=⟨q0m x.next y.next,λid hf hi=>by rw[y.keep id hf (q0d hi x.next),x.keep id hf hi]⟩
theorem Stay.less{F G:Nat->Prop}{a b:AH}(x:Stay F a b)(hg:∀id,G id->F id):Stay G a b:=⟨x.next,λid hf hi=>x.keep id (hg id hf) hi⟩
theorem Stay.set{F:Nat->Prop}{h h':AH}(x:Stay F h h'){i:Nat}(hi:i<h.next->¬F i)(o:AObj):Stay F h (h'.set i o):=⟨by rw[q2b];exact x.next,λid hf hl=>by
 have hne:i≠id:=λe=>by subst e;exact hi hl hf
 rw[q2c,q1a _ _ _ _ hne];exact x.keep id hf hl⟩
theorem Stay.add{F:Nat->Prop}{h h':AH}(x:Stay F h h')(o:AObj):Stay F h (h'.add o):=⟨q0m x.next (q0w _),λid hf hl=>by
 rw[q2a,q1a _ _ _ _ (by have:=x.next;omega)];exact x.keep id hf hl⟩
theorem Arr.keep{h h':AH}{F G:Nat->Prop}{v:AV}{cs:List AV}(x:Arr h F v cs)(m:Stay F h h')(hg:∀id,F id->id<h.next->G id):Arr h' G v cs:=by
 cases x with
 | nils=>exact .nils
 | emp a b=>exact .emp (hg _ a b) (q0d b m.next)
 | sl a b c d e f g=>exact .sl a (hg _ b c) (q0d c m.next) (by rw[m.keep _ b c];exact d) e f g
theorem Arr.len{h h':AH}{F:Nat->Prop}{v:AV}{cs:List AV}(x:Arr h F v cs):oLen .sl (.c v) .leaf [] h'=.val (.int .i64 (cs.length:Int)) h':=by
 cases x with
 | nils=>rfl
 | emp=>exact zGv
 | sl=>exact zGv
theorem Arr.small{h:AH}{F:Nat->Prop}{v:AV}{cs:List AV}(x:Arr h F v cs):cs.length<=1000000:=by
 cases x with
 | nils=>exact q0k _
 | emp=>exact q0k _
 | sl a b c d e f g=>exact g
theorem Arr.mv{h:AH}{F:Nat->Prop}{v:AV}{cs:List AV}(x:Arr h F v cs):v.mv=true:=by cases x<;>rfl
theorem Arr.cells{h:AH}{F:Nat->Prop}{v:AV}{cs:List AV}(x:Arr h F v cs):cellsOf v=some [v]:=by cases x<;>rfl
theorem Arr.same{h:AH}{F:Nat->Prop}{v:AV}{cs:List AV}(x:Arr h F v cs):Ev.same v v=true:=by
 cases x with
 | nils=>rfl
 | emp=>exact zHc
 | sl=>exact zHc
theorem Arr.open{h:AH}{F:Nat->Prop}{v:AV}{cs:List AV}(x:Arr h F v cs){i:Nat}(hi:i<cs.length):∃id s c cap,v=.sl id 0 cs.length cap/\F id/\id<h.next/\h.mem.get id=some (.cells c s none false)/\c.get i=cs[i]?:=by
 cases x with
 | nils=>cases hi
 | emp=>cases hi
 | sl a b c d e f g=>exact⟨_,_,_,_,rfl,b,c,d,e i hi⟩
theorem Arr.appendG(sz:Nat)(hz:sz<=1000){h:AH}{F:Nat->Prop}{v x:AV}{cs:List AV}(a:Arr h F v cs){src:AV}(hs:∀k,zAv 1 src h k=k 1 [x])(hx:cs.length<1000000) :
  ∃v' h',zA0 none 1 sz (.c v) (.c src) .leaf [] h=.val v' h'/\Arr h' (λid=>id=h.next) v' (cs++[x])/\h'.next=h.next+1/\(∀k,k<h.next->(∀l n,v≠.sl k 0 l n)->h'.mem.get k=h.mem.get k):=by
 cases a with
 | nils=>
  refine⟨_,_,zGk hs (by omega) (zBw (by omega) (by omega)),?_,rfl,λk hk _=>by rw[q2a,q1a _ _ _ _ (by omega)]⟩;exact Arr.sl (cs:=[x]) (c:=zAa [x]) (by simp) rfl (q0h _) (by rw[q2a,q1b];rfl) (λi hi=>zAe _ _) (.inl ⟨rfl,rfl⟩) (by simp)
 | emp=>
  refine⟨_,_,zK6 hs (by omega) (zBw (by omega) (by omega)),?_,rfl,λk hk _=>by rw[q2a,q1a _ _ _ _ (by omega)]⟩;exact Arr.sl (cs:=[x]) (c:=zAa [x]) (by simp) rfl (q0h _) (by rw[q2a,q1b];rfl) (λi hi=>zAe _ _) (.inl ⟨rfl,rfl⟩) (by simp)
 | sl a1 a2 a3 a4 a5 a6 a7=>
  rename_i id s c cap;have hl:(cs++[x]).length=cs.length+1:=by simp
  have hput:∀i,i<(cs++[x]).length->(putL [x] c (cs.length*1)).get i=(cs++[x])[i]?:=by
   intro i hi;rw[hl] at hi;rw[zB9,Nat.mul_one];by_cases h1:i<cs.length
   ·rw[if_neg (by omega),a5 i h1,List.getElem?_append_left h1]
   ·obtain rfl:i=cs.length:=by omega
    rw[if_pos (by simp),List.getElem?_append_right (q0c _)]
  rcases a6 with⟨rfl,rfl⟩ | rfl
  ·refine⟨_,_,zGj hs a4 (Nat.mul_one _).symm (q0c _) (by omega) (zBw (by omega) (by omega)),?_,by rw[q2e,q2l],λk hk hne=>?_⟩
   ·rw[<-hl];exact Arr.sl (by simp) rfl (by rw[q2e,q2l];exact q0h _) (by rw[q2a,q2l,q1b]) hput (.inl ⟨rfl,by simp⟩) (by omega)
   ·rw[q2a,q2l,q1a _ _ _ _ (by omega),AH.kill_mem,q1a _ _ _ _ (λe=>hne _ _ (by rw[e]))]
  ·have hc:cs.length≠0:=λe=>a1 (q0r e);have hld:loadL c (cs.length*1) 0=some cs:=by
    rw[Nat.mul_one];clear hs hl hput hx hc a1 a4;have:∀(l:List AV) (o:Nat),(∀i,i<l.length->c.get (o+i)=l[i]?)->loadL c l.length o=some l:=by
     intro l;induction l with
     | nil=>intro o _;rfl
     | cons y l ih=>
      intro o hy;refine zBk (by have:=hy 0 (by simp);rwa [Nat.add_zero] at this) (ih (o+1) λi hi=>?_);have:=hy (i+1) (by simpa using hi)
      rwa [show o+(i+1)=o+1+i by omega] at this
    exact this cs 0 λi hi=>by rw[q0I];exact a5 i hi
   have hap:zA0 none 1 sz (.c (.sl id 0 cs.length (.known cs.length))) (.c src) .leaf [] h=.val (.sl h.next 0 (cs.length+1) (.rest 1)) (h.add (.cells (putL [x] (zAa cs) (cs.length*1)) ((cs.length+1)*1) none false)):=by
    show zAv 1 src h _=_;rw[hs];have e1:Nat.beq cs.length 0=false:=by rw[zDc];exact decide_eq_false hc
    have e2:Nat.ble (cs.length+1) cs.length=false:=by rw[ble_nat];exact decide_eq_false (by omega)
    show bi (Nat.beq 1 0) (OR.val (AV.sl id 0 cs.length (.known cs.length)) h) (bi (Nat.beq cs.length 0) _ (zAq (AH.get h id) _))=_;rw[e1,show Nat.beq 1 0=false from rfl,zBi,zBi,q2f,a4];simp only[zCf,fN_eq]
    show bi (Nat.ble (cs.length+1) cs.length) (bi false (Ev.F 49) (obind (zBr [x] c (Nat.add 0 (Nat.mul cs.length 1))) (Ev.F 49) (λc'=>OR.val (AV.sl id 0 (cs.length+1) (.known cs.length)) (AH.set h id (AObj.cells c' s none false)))))
     (bi (room (cs.length+1) sz) (obind (loadL c (cs.length*1) 0) (Ev.F 50) (λold=>AH.new h (AObj.cells (putL [x] (zAa old) (Nat.mul cs.length 1)) (Nat.mul (cs.length+1) 1) none false) (λid h=>OR.val (AV.sl id 0 (cs.length+1) (ACap.rest 1)) h))) (Ev.F 50))=_
    rw[e2,zBi,zBw (by omega) (by omega),zA8,hld];show AH.new h (AObj.cells (putL [x] (zAa cs) (Nat.mul cs.length 1)) (Nat.mul (cs.length+1) 1) none false) (λid h=>OR.val (AV.sl id 0 (cs.length+1) (ACap.rest 1)) h)=_;rw[q2k];rfl
   refine⟨_,_,hap,?_,rfl,λk hk _=>by rw[q2a,q1a _ _ _ _ (by omega)]⟩;rw[<-hl];refine Arr.sl (by simp) rfl (q0h _) (by rw[q2a,q1b]) (λi hi=>?_) (.inl ⟨rfl,by simp⟩) (by omega);rw[hl] at hi;rw[zB9,Nat.mul_one];by_cases h1:i<cs.length
   ·rw[if_neg (by omega),zAe,List.getElem?_append_left h1]
   ·obtain rfl:i=cs.length:=by omega
    rw[if_pos (by simp),List.getElem?_append_right (q0c _)]
theorem Arr.pushG(sz:Nat)(hz:sz<=1000){h:AH}{F:Nat->Prop}{v x:AV}{cs:List AV}(a:Arr h F v cs)(hx:cs.length<1000000) :
  ∃v' h',zA0 none 1 sz (.c v) (.c (.sl h.next 0 1 (.known 1))) .leaf [] (h.add (.cells (zAa [x]) 1 none false))=.val v' h'/\Arr h' (λid=>id=h.next+1) v' (cs++[x])/\h'.next=h.next+2/\(∀k,k<h.next->(∀l n,v≠.sl k 0 l n)->h'.mem.get k=h.mem.get k):=by
 obtain⟨v',h',e,b,c,d⟩:=(a.keep (Stay.add (Stay.refl _ _) _) λ_ f _=>f).appendG sz hz (x:=x) (src:=.sl h.next 0 1 (.known 1)) (λk=>zFd (by decide) (by rw[q2a,q1b]) (zBk (show(zAa [x]).get 0=_ from zAe _ _) rfl) k) hx;exact⟨v',h',e,b,c,λk hk hv=>(d k (Nat.lt_succ_of_lt hk) hv).trans (by rw[q2a,q1a _ _ _ _ (by omega)])⟩
theorem Arr.push{h:AH}{F:Nat->Prop}{v x:AV}{cs:List AV}(a:Arr h F v cs)(hx:cs.length<1000000) :
  ∃v' h',zA0 none 1 8 (.c v) (.c (.sl h.next 0 1 (.known 1))) .leaf [] (h.add (.cells (zAa [x]) 1 none false))=.val v' h'/\Arr h' (λid=>id=h.next+1) v' (cs++[x])/\h'.next=h.next+2/\(∀k,k<h.next->(∀l n,v≠.sl k 0 l n)->h'.mem.get k=h.mem.get k):=Arr.pushG 8 (by decide) a hx
theorem Arr.mk(h:AH)(z:AV){n:Nat}(hn:n<=1000000):Arr (h.add (.cells (zAa (List.replicate n z)) n none false)) (λk=>k=h.next) (.sl h.next 0 n (.known n)) (List.replicate n z):=by
 cases n with
 | zero=>exact .emp rfl (q0h _)
 | succ n=>
  have:=Arr.sl (h:=h.add (.cells (zAa (List.replicate (n+1) z)) (n+1) none false)) (F:=λk=>k=h.next) (id:=h.next) (s:=n+1) (c:=zAa (List.replicate (n+1) z)) (cap:=.known (List.replicate (n+1) z).length) (cs:=List.replicate (n+1) z) (by simp) rfl (q0h _) (by rw[q2a,q1b]) (λi _=>zAe _ _) (.inr rfl) (by simpa using hn);simpa using this
theorem zD6{h:AH}{z:AV}{b n:Nat}(hn:n<=1000000)(hb:b<=1000):zB0 [z] b (.c (.int .i64 (n:Int))) (.c (.int .i64 (n:Int))) .leaf [] h=.val (.sl h.next 0 n (.known n)) (h.add (.cells (zAa (List.replicate n z)) n none false)):=by
 have h1:Nat.mul n b<=1099511627776:=q0m (Nat.mul_le_mul hn hb) (by decide);show bi (Nat.ble n n) (bi (Nat.ble (Nat.mul n b) 1099511627776) (bi (Nat.ble n 1099511627776) (AH.new h (AObj.cells (zAa (lrep [z] n)) (Nat.mul n 1) none false) λid h=>OR.val (AV.sl id 0 n (ACap.known n)) h) (F 32)) (F 32)) (F 32)=_;rw[bi_eq,if_pos (Nat.ble_eq.mpr (q0c _)),bi_eq,if_pos (Nat.ble_eq.mpr h1),bi_eq,if_pos (Nat.ble_eq.mpr (q0m hn (by decide))),zE0,List.flatten_replicate_singleton,q2k,show Nat.mul n 1=n from Nat.mul_one n]
theorem zBz{z:List AV}{b:Nat}{l c:Opd}{loc:T AV}{tmp:List AV}{h:AH}:evOp (.mkSlice z b l c) loc tmp h=zB0 z b (.c (ev loc tmp l)) (.c (ev loc tmp c)) .leaf [] h:=rfl
theorem Arr.set{h:AH}{F:Nat->Prop}{v x:AV}{cs:List AV}(a:Arr h F v cs){i:Nat}(hi:i<cs.length):∃id s c cap,v=.sl id 0 cs.length cap/\F id/\id<h.next/\h.mem.get id=some (.cells c s none false)/\c.get i=cs[i]?/\Arr (h.set id (.cells (T.put (some x) c i) s none false)) F v (cs.set i x):=by
 cases a with
 | nils=>cases hi
 | emp=>cases hi
 | sl a b c d e f g=>
  refine⟨_,_,_,_,rfl,b,c,d,e i hi,?_⟩;rw[<-List.length_set (i:=i) (a:=x)];refine .sl (by simpa using a) b (by rw[q2b];exact c) q2d (λj hj=>?_) (by simpa using f) (by simpa using g);rw[List.length_set] at hj;rw[List.getElem?_set];by_cases h1:i=j
  ·subst h1;rw[q1b,if_pos rfl,if_pos hi]
  ·rw[q1a _ _ _ _ h1,if_neg h1,e j hj]
abbrev iv(z:Int):AV:=.int .i64 z
theorem Arr.slv{h:AH}{F:Nat->Prop}{v:AV}{xs:List Int}(a:Arr h F v (xs.map iv))(h64:∀z∈xs,I64 z):SlV h 1 IntR v xs:=by
 generalize e:xs.map iv=cs at a;cases a with
 | nils=>have:xs=[]:=by simpa using e
         exact .inl ⟨this,.inl rfl⟩
 | emp=>have:xs=[]:=by simpa using e
        exact .inl ⟨this,.inr ⟨_,_,_,rfl⟩⟩
 | sl a b c d f g k=>
  have hl:cs.length=xs.length:=by rw[<-e,q0j]
  refine .inr ⟨_,0,_,_,_,none,false,by rw[hl],?_,d,c,by rw[<-hl];exact q0m k (by decide),λi hi=>⟨[iv xs[i]],rfl,⟨rfl,h64 _ (q0l hi)⟩,?_⟩⟩
  ·rw[<-hl];rcases g with⟨rfl,g⟩ | rfl
   ·exact⟨rfl,q0c _,by rw[g];omega⟩
   ·exact q0c _
  ·refine zBk ?_ rfl;rw[show 0+i*1=i by omega,f i (by omega),<-e,q0t,q0a hi];rfl
theorem Arr.isF{h:AH}{F:Nat->Prop}{k o l:Nat}{n:ACap}{cs:List AV}(x:Arr h F (.sl k o l n) cs):F k/\k<h.next:=by
 generalize e:AV.sl k o l n=v at x;cases x with
 | nils=>cases e
 | emp a b=>injection e with e;subst e;exact⟨a,b⟩
 | sl _ a b=>injection e with e;subst e;exact⟨a,b⟩
theorem Arr.wk{h:AH}{F G:Nat->Prop}{v:AV}{cs:List AV}(x:Arr h F v cs)(hg:∀k l n,v=.sl k 0 l n->F k->G k):Arr h G v cs:=by
 cases x with
 | nils=>exact .nils
 | emp a b=>exact .emp (hg _ _ _ rfl a) b
 | sl a b c d e f g=>exact .sl a (hg _ _ _ rfl b) c d e f g
def RowsA(h:AH)(P:Nat->Prop)(o:Nat)(vs:List AV)(xss:List (List Int)):Prop:=∃c s,h.mem.get o=some (.cells c s none false)/\P o/\o<h.next/\(∀i,i<vs.length->c.get i=vs[i]?)/\vs.length=xss.length/\(∀i (hi:i<vs.length) (hi':i<xss.length),Arr h (λk=>P k/\k≠o) vs[i] (xss[i].map iv))/\
 ∀i j (hi:i<vs.length) (hj:j<vs.length),i≠j->∀k l c l' c',vs[i]=.sl k 0 l c->vs[j]≠.sl k 0 l' c'
theorem RowsA.keep{h h':AH}{P Q:Nat->Prop}{o:Nat}{vs:List AV}{xss:List (List Int)}(r:RowsA h P o vs xss)(m:Stay P h h')(hg:∀k,P k->k<h.next->Q k):RowsA h' Q o vs xss:=by
 obtain⟨c,s,g,hlo,ho,hc,hl,ha,hd⟩:=r;exact⟨c,s,(m.keep o hlo ho).trans g,hg _ hlo ho,q0d ho m.next,hc,hl,λi hi hi'=>(ha i hi hi').keep (m.less λ_ f=>f.1) λk f hk=>⟨hg k f.1 hk,f.2⟩,hd⟩
theorem RowsA.push{h:AH}{P:Nat->Prop}{o:Nat}{vs:List AV}{xss:List (List Int)}(r:RowsA h P o vs xss){k:Nat}(hk:k<vs.length)(hk':k<xss.length)(x:Int)(hx:xss[k].length<1000000)(hP:P (h.next+1)) :
  ∃v' h' c s,zA0 none 1 8 (.c vs[k]) (.c (.sl h.next 0 1 (.known 1))) .leaf [] (h.add (.cells (zAa [iv x]) 1 none false))=.val v' h'/\v'.mv=true/\cellsOf v'=some [v']/\h'.mem.get o=some (.cells c s none false)/\c.get k=some vs[k]/\RowsA (h'.set o (.cells (T.put (some v') c k) s none false)) P o (vs.set k v') (xss.set k (xss[k]++[x]))/\
  Stay (λj=>¬P j) h (h'.set o (.cells (T.put (some v') c k) s none false)):=by
 obtain⟨c,s,g,hol,ho,hc,hl,ha,hd⟩:=r;have hF:∀l n,vs[k]≠.sl o 0 l n:=λl n e=>((e▸ha k hk hk').isF).1.2 rfl;obtain⟨v',h',e,av,hn,hk2⟩:=(ha k hk hk').push (x:=iv x) (by simpa using hx);have hlen:(vs.set k v').length=vs.length:=List.length_set;refine⟨v',h',c,s,e,av.mv,av.cells,(hk2 o ho hF).trans g,(hc k hk).trans (q0a hk),?_,by rw[q2b,hn];omega,λj hp hj=>?_⟩
 ·refine⟨_,_,q2d,hol,by rw[q2b,hn];omega,λi hi=>?_,by simpa using hl,λi hi hi'=>?_,?_⟩
  ·rw[List.getElem?_set];by_cases h1:k=i
   ·subst h1;rw[q1b,if_pos rfl,if_pos hk]
   ·rw[q1a _ _ _ _ h1,if_neg h1,hc i (by omega)]
  ·by_cases h1:k=i
   ·subst h1;rw[List.getElem_set_self,List.getElem_set_self,q0O];exact av.keep (Stay.set (Stay.refl (λj=>j=h.next+1) _) (λ_ (e:o=h.next+1)=>by omega) _) λj (e:j=h.next+1) _=>⟨e▸hP,by omega⟩
   ·rw[List.getElem_set_ne h1,List.getElem_set_ne h1];have a1:=ha i (by omega) (by simpa using hi');have a2:Arr h (λj=>(P j/\j≠o)/\∀l n,vs[k]≠.sl j 0 l n) vs[i] (xss[i].map iv):=by
     refine a1.wk λj l n e f=>⟨f,λl' n' e'=>hd i k (by omega) hk (λe=>h1 e.symm) j l n l' n' e e'⟩
    exact a2.keep (Stay.set ⟨by omega,λj f hj=>hk2 j hj f.2⟩ (λ_ f=>f.1.2 rfl) _) λj f _=>f.1
  ·intro i j hi hj hij q l n l' n' e1 e2;have key:∀i (hi:i<(vs.set k v').length),k≠i->∀q l n l' n',(vs.set k v')[i]=.sl q 0 l n->v'≠.sl q 0 l' n':=λi hi h1 q l n l' n' e1 e2=>by
    rw[List.getElem_set_ne h1] at e1;have b1:=(e1▸ha i (by omega) (by omega):Arr h _ (.sl q 0 l n) _).isF.2;have b2:=(e2▸av:Arr h' _ (.sl q 0 l' n') _).isF.1;omega
   by_cases h1:k=i
   ·subst h1;rw[List.getElem_set_self] at e1;exact key j hj hij q l' n' l n e2 e1
   ·by_cases h2:k=j
    ·subst h2;rw[List.getElem_set_self] at e2;exact key i hi h1 q l n l' n' e1 e2
    ·rw[List.getElem_set_ne h1] at e1;rw[List.getElem_set_ne h2] at e2;exact hd i j (by omega) (by omega) hij q l n l' n' e1 e2
 ·have hne:o≠j:=λe=>hp (e▸hol);rw[q2c,q1a _ _ _ _ hne];exact hk2 j hj λl n e=>hp ((e▸ha k hk hk').isF).1.1
theorem SlV.stay{α:Type}{h h':AH}{es:Nat}{R R':List AV->α->Prop}{v:AV}{xs:List α}(a:SlV h es R v xs)(hn:h.next<=h'.next)(hk:∀id o l c,v=.sl id o l c->id<h.next->h'.mem.get id=h.mem.get id)(hR:∀E x,R E x->R' E x):SlV h' es R' v xs:=by
 rcases a with a | ⟨id,off,cap,sz,c,p,ro,e,ck,g,hi,hb,ha⟩
 ·exact .inl a
 ·exact .inr ⟨id,off,cap,sz,c,p,ro,e,ck,(hk _ _ _ _ e hi).trans g,q0d hi hn,hb,λi hi=>let⟨E,a,b,c⟩:=ha i hi;⟨E,a,hR _ _ b,c⟩⟩
theorem RowsA.sl{h:AH}{P:Nat->Prop}{o:Nat}{vs:List AV}{xss:List (List Int)}(r:RowsA h P o vs xss)(hb:xss.length<=1000000)(h64:∀x∈xss,∀z∈x,I64 z):SlV h 1 (λE xs=>∃w,E=[w]/\SlV h 1 IntR w xs) (.sl o 0 xss.length (.known xss.length)) xss:=by
 obtain⟨c,s,g,_,ho,hc,hl,ha,_⟩:=r;refine .inr ⟨o,0,_,s,c,none,false,rfl,q0c _,g,ho,q0m hb (by decide),λi hi=>⟨[vs[i]],rfl,⟨_,rfl,(ha i (by omega) hi).slv (h64 _ (q0l hi))⟩,?_⟩⟩;refine zBk ?_ rfl;rw[show 0+i*1=i by omega,hc i (by omega)];exact q0a _
def nxS(f:FunD)(i:Nat):List Int:=match f.blocks[i]? with | some x=>nextS f.blocks.length x | none=>[]
def addTo(i:Nat)(o:List (List Int))(k:Int):List (List Int):=o.set k.toNat (o.getD k.toNat []++[(i:Int)])
def ledN(f:FunD):Nat->List (List Int)
 | 0=>List.replicate f.blocks.length []
 | i+1=>(nxS f i).foldl (addTo i) (ledN f i)
def ledS(f:FunD):List (List Int):=ledN f f.blocks.length
theorem nx_in{f:FunD}{i:Nat}{k:Int}(h:k∈nxS f i):∃n:Nat,k=n/\n<f.blocks.length:=by
 unfold nxS at h;split at h
 ·have h:=(List.mem_filter.mp h).2;unfold okB at h;simp at h;exact⟨k.toNat,by omega,by omega⟩
 ·cases h
theorem addTo_len{i:Nat}{o:List (List Int)}{k:Int}:(addTo i o k).length=o.length:=List.length_set
theorem zIr{i:Nat}:∀{l:List Int} {o:List (List Int)},(l.foldl (addTo i) o).length=o.length
 | [],_=>rfl
 | k::l,o=>by rw[List.foldl_cons,zIr,addTo_len]
theorem zD8{f:FunD}:∀i,(ledN f i).length=f.blocks.length
 | 0=>q0q
 | i+1=>by rw[ledN,zIr,zD8 i]
theorem nx_len{f:FunD}{i:Nat}:(nxS f i).length<=2:=by
 unfold nxS;split
 ·refine q0m (List.length_filter_le _ _) ?_;unfold toS
  (repeat' split)<;>simp
 ·exact q0k _
theorem addTo_small{i b:Nat}{o:List (List Int)}{k:Int}(h:∀x∈o,x.length<=b):∀x∈addTo i o k,x.length<=b+1:=by
 intro x hx;unfold addTo at hx;rcases List.mem_or_eq_of_mem_set hx with h1 | rfl
 ·exact Nat.le_succ_of_le (h x h1)
 ·rw[q0o,q0e];cases e:o[k.toNat]? with
  | none=>simp
  | some y=>have:=h y (q0L e);simpa using this
theorem zHt{i:Nat}:∀{l:List Int} {b:Nat} {o:List (List Int)},(∀x∈o,x.length<=b)->∀x∈l.foldl (addTo i) o,x.length<=b+l.length
 | [],_,_,h=>h
 | k::l,b,o,h=>by
  have:=zHt (i:=i) (l:=l) (addTo_small (i:=i) (k:=k) h);intro x hx;have:=this x hx;rw[q0P];omega
theorem zHr{f:FunD}:∀i,∀x∈ledN f i,x.length<=2*i
 | 0,x,hx=>by rw[(List.mem_replicate.mp hx).2];exact q0k _
 | i+1,x,hx=>by
  have:=zHt (zHr (f:=f) i) x hx;have:=nx_len (f:=f) (i:=i);omega
theorem addTo_eq{i x:Nat}{o:List (List Int)}(h:x<o.length):addTo i o (x:Int)=o.set x (o[x]++[(i:Int)]):=by
 unfold addTo;rw[q0e,q0n,q0a h,q0F]
theorem addTo_in{i b:Nat}{o:List (List Int)}{k:Int}(hi:i<b)(h:∀x∈o,∀z∈x,∃n:Nat,z=n/\n<b):∀x∈addTo i o k,∀z∈x,∃n:Nat,z=n/\n<b:=by
 intro x hx z hz;unfold addTo at hx;rcases List.mem_or_eq_of_mem_set hx with h1 | rfl
 ·exact h x h1 z hz
 ·rcases List.mem_append.mp hz with h2 | h2
  ·rw[q0e] at h2;cases e:o[k.toNat]? with
   | none=>rw[e] at h2;cases h2
   | some y=>rw[e] at h2;exact h y (q0L e) z h2
  ·exact⟨i,by simpa using h2,hi⟩
theorem fold_in{i b:Nat}(hi:i<b):∀{l:List Int} {o:List (List Int)},(∀x∈o,∀z∈x,∃n:Nat,z=n/\n<b)->∀x∈l.foldl (addTo i) o,∀z∈x,∃n:Nat,z=n/\n<b
 | [],_,h=>h
 | _::l,_,h=>fold_in hi (l:=l) (addTo_in hi h)
theorem zJh{f:FunD}:∀i,∀x∈ledN f i,∀z∈x,∃n:Nat,z=n/\n<i
 | 0,x,hx,z,hz=>by rw[(List.mem_replicate.mp hx).2] at hz;cases hz
 | i+1,x,hx,z,hz=>fold_in (q0h i) (λx hx z hz=>let⟨n,a,b⟩:=zJh i x hx z hz;⟨n,a,Nat.lt_succ_of_lt b⟩) x hx z hz
theorem nxS_eq{f:FunD}{i:Nat}(hi:i<f.blocks.length):nextS f.blocks.length f.blocks[i]=nxS f i:=by unfold nxS;rw[q0a hi]
section
variable{tab:Nat->Option AFunc}{h:AH}(H:PV tab)
include H in
theorem zJ6{E:List AV}{f:FunD}(r:FunV h E f)(hb:f.blocks.length<=1000):GP tab 44 [.agg E] h λv h1=>(∃rid ws,v=.sl rid 0 f.blocks.length (.known f.blocks.length)/\RowsA h1 (λk=>h.next<=k) rid ws (ledS f))/\More h h1:=by
 have r0:=r;obtain⟨vp,vs,vi,vb,rfl,r1,r2,r3,r4,hn,hr⟩:=r;have i0:zAb [.agg [sv f.name,vp,sv f.result,vs,vi,vb]]=zAa [.agg [sv f.name,vp,sv f.result,vs,vi,vb]]:=rfl;have mv:=r4.mv;have ln:=r4.len;have mks:∀h':AH,zB0 [.nils] 24 (.c (.int .i64 (f.blocks.length:Int))) (.c (.int .i64 (f.blocks.length:Int))) .leaf [] h'=_:=λh'=>zD6 (by omega) (by omega);refine GE.gp (zAi H.t44 rfl ?_) (E:=λ_ _=>False) λ_ _ x=>x;simp+decide(disch:=omega)only[RL,↓reduceIte,i0,ln,zBz,mks];have hB:∃hB,hB=h.add (.cells (zAa [sv f.name,vp,sv f.result,vs,vi,vb]) 6 none false):=⟨_,rfl⟩;obtain⟨hB,eB⟩:=hB;rw[<-eB];have nB:hB.next=h.next+1:=by rw[eB];rfl
 have gB:hB.mem.get h.next=some (.cells (zAa [sv f.name,vp,sv f.result,vs,vi,vb]) 6 none false):=by rw[eB,q2a,q1b]
 have mB:More h hB:=by rw[eB];exact q2g _ _
 rw[<-nB];have rep:RowsA (hB.add (.cells (zAa (List.replicate f.blocks.length AV.nils)) f.blocks.length none false)) (λk=>hB.next<=k) hB.next (List.replicate f.blocks.length .nils) (ledN f 0):=by
  refine⟨_,_,by rw[q2a,q1b],q0c _,q0h _,λi hi=>zAe _ _,by simp[ledN],λi hi hi'=>?_,λi j hi hj _ k l c l' c' e=>?_⟩
  ·simp only[ledN,List.getElem_replicate,List.map_nil];exact .nils
  ·rw[List.getElem_replicate] at e;cases e
 have mC:=q2g hB (.cells (zAa (List.replicate f.blocks.length AV.nils)) f.blocks.length none false);generalize hB.add (.cells (zAa (List.replicate f.blocks.length AV.nils)) f.blocks.length none false)=hC at *;refine zAd (λm l d1 h1=>∃k ws,m=f.blocks.length-k/\k<=f.blocks.length/\d1=[]/\More hB h1/\RowsA h1 (λj=>hB.next<=j) hB.next ws (ledN f k)/\l.get 1=some (.ptr h.next 0)/\l.get 2=some (.int .i64 (k:Int))/\l.get 3=some (.int .i64 (f.blocks.length:Int))/\l.get 10=some (.sl hB.next 0 f.blocks.length (.known f.blocks.length))) ?_ (f.blocks.length-0) ⟨0,_,rfl,q0k _,rfl,mC,rep,rfl,rfl,rfl,rfl⟩;rintro m l d1 h1 ⟨k,ws,rfl,hk,rfl,m1,ra,l1,l2,l3,l10⟩;by_cases hlt:k<f.blocks.length
 ·have ldb:zAy 6 (.c (.ptr h.next 0)) .leaf [] h1=.val (.agg [sv f.name,vp,sv f.result,vs,vi,vb]) h1:=zAp ((m1.keep _ (by omega)).trans gB) rfl;simp+decide(disch:=omega)only[RL,↓reduceIte,l1,l2,l3,l10,hlt,ldb];refine(next_gp H (r0.more (mB.trans m1)) hlt).to λw h2 q=>?_;rw[nxS_eq hlt] at q;obtain⟨sw,m2,fw⟩:=q;have lw:=sw.len;have mw:=sw.mv;simp(disch:=omega)only[RL,lw];have rb:RowsA h2 (λq=>hB.next<=q/\∀o l c,w≠.sl q o l c) hB.next ws (ledN f k):=ra.keep ⟨m2.next,λid _ hi=>m2.keep id hi⟩ λq hq hl=>⟨hq,λo l c e=>by have:=fw q o l c e;omega⟩;refine zAd (λm l d3 h3=>∃j ws,m=(nxS f k).length-j/\j<=(nxS f k).length/\d3=[]/\More hB h3/\SlV h3 1 IntR w (nxS f k)/\RowsA h3 (λq=>hB.next<=q/\∀o l c,w≠.sl q o l c) hB.next ws (((nxS f k).take j).foldl (addTo k) (ledN f k))/\l.get 1=some (.ptr h.next 0)/\l.get 2=some (.int .i64 (k:Int))/\l.get 3=some (.int .i64 (f.blocks.length:Int))/\l.get 10=some (.sl hB.next 0 f.blocks.length (.known f.blocks.length))/\l.get 5=some (.int .i64 (k:Int))/\l.get 6=some (.int .i64 (j:Int))/\l.get 7=some (.int .i64 ((nxS f k).length:Int))/\l.get 9=some w) ?_ ((nxS f k).length-0) ⟨0,ws,rfl,q0k _,rfl,m1.trans m2,sw,rb,by simp+decide(disch:=omega)only[RL,↓reduceIte,l1],by simp+decide(disch:=omega)only[RL,↓reduceIte,l2],by simp+decide(disch:=omega)only[RL,↓reduceIte,l3],by simp+decide(disch:=omega)only[RL,↓reduceIte,l10],by simp+decide(disch:=omega)only[RL,↓reduceIte],by simp(disch:=omega)only[RL,↓reduceIte],by simp(disch:=omega)only[RL,↓reduceIte],by simp+decide(disch:=omega)only[RL,↓reduceIte]⟩
  clear sw m2 rb ldb l1 l2 l3 l10 m1 ra;rintro m l d1 h3 ⟨j,ws,rfl,hj,rfl,m3,sw,ra,l1,l2,l3,l10,l5,l6,l7,l9⟩;by_cases hjt:j<(nxS f k).length
  ·obtain⟨id,o,E,ix,e1,⟨rfl,i64⟩,ld,lw⟩:=sw.at hjt;have lw:oLoad (.c (.ptr id o)) .leaf [] h3=.val (.int .i64 (nxS f k)[j]) h3:=lw 0 _ rfl h3;obtain⟨x,ex,hx⟩:=nx_in (q0l hjt);rw[ex] at lw;have ra':=ra;obtain⟨c,s,g,_,ho,hc,hl,_⟩:=ra';have hwl:ws.length=f.blocks.length:=by rw[hl,zIr,zD8]
   have hxw:x<ws.length:=by omega
   have hrl:(((nxS f k).take j).foldl (addTo k) (ledN f k)).length=f.blocks.length:=by rw[zIr,zD8]
   have hxr:x<(((nxS f k).take j).foldl (addTo k) (ledN f k)).length:=by omega
   have hsm:(((nxS f k).take j).foldl (addTo k) (ledN f k))[x].length<1000000:=by
    have h1:=zHt (zHr (f:=f) k) _ (q0l hxr);have h2:((nxS f k).take j).length<=2:=q0m (by simp;omega) (nx_len (f:=f) (i:=k));omega
   have hcx:c.get x=some ws[x]:=(hc x hxw).trans (q0a hxw);have mx:∀h',oMove (.c ws[x]) .leaf [] h'=.val ws[x] h':=λ_=>zAg (by obtain⟨_,_,_,_,_,_,_,ha,_⟩:=ra;exact(ha x hxw hxr).mv);obtain⟨v',h',c',s',ap,mv',cl',g',gc',ra',st⟩:=ra.push hxw hxr (k:Int) hsm ⟨by have:=m3.next;omega,λo l c e=>by
    rcases sw with⟨e0,_⟩ | ⟨_,_,_,_,_,_,_,e',_,_,hid,_⟩
    ·rw[e0] at hjt;cases hjt
    ·rw[e'] at e;injection e;omega⟩
   have hlb:=nx_len (f:=f) (i:=k);have mvv:∀h',oMove (.c v') .leaf [] h'=.val v' h':=λ_=>zAg mv';simp+decide(disch:=omega)only[RL,↓reduceIte,l1,l2,l3,l10,l5,l6,l7,l9,hjt,ix,lw,g,hcx,ap,g',gc',cl'];refine⟨(nxS f k).length-(j+1),by omega,j+1,ws.set x v',rfl,hjt,⟨q0m m3.next st.next,λq hq=>by rw[st.keep q (λhh=>by have:=hh.1;omega) (q0d hq m3.next),m3.keep q hq]⟩,sw.stay st.next (λid o l c e hi=>st.keep id (λhh=>hh.2 o l c e) hi) λ_ _ x=>x,?_,rfl⟩;rw[List.take_add_one,q0a hjt,Option.toList_some,List.foldl_append,List.foldl_cons,List.foldl_nil,ex];rw[addTo_eq hxr];exact ra'
  ·have hje:j=(nxS f k).length:=by omega
   subst hje;rw[List.take_length] at ra;simp+decide(disch:=omega)only[RL,↓reduceIte,l1,l2,l3,l10,l6,l7,l9,hjt];exact⟨f.blocks.length-(k+1),by omega,k+1,ws,rfl,hlt,m3,ra.keep (Stay.refl _ _) λ_ f _=>f.1,rfl⟩
 ·have hke:k=f.blocks.length:=by omega
  subst hke;simp+decide(disch:=omega)only[RL,↓reduceIte,l1,l2,l3,l10,hlt];exact⟨⟨_,ws,rfl,ra.keep (Stay.refl _ _) λk (e:hB.next<=k) _=>by omega⟩,mB.trans m1⟩
theorem zI1{h1:AH}{P:Nat->Prop}{f:FunD}{rid:Nat}{ws:List AV}(hb:f.blocks.length<=1000)(ra:RowsA h1 P rid ws (ledS f)):SlV h1 1 (λE xs=>∃w,E=[w]/\SlV h1 1 IntR w xs) (.sl rid 0 f.blocks.length (.known f.blocks.length)) (ledS f):=by
 have hl:(ledS f).length=f.blocks.length:=zD8 _;have key:=ra.sl (by omega) λx hx z hz=>by
  obtain⟨n,rfl,hn⟩:=zJh _ x hx z hz;exact⟨by omega,by omega⟩
 rwa [hl] at key
include H in
theorem ahead_gp{E:List AV}{f:FunD}(r:FunV h E f)(hb:f.blocks.length<=1000):GP tab 44 [.agg E] h λv h1=>SlV h1 1 (λE xs=>∃w,E=[w]/\SlV h1 1 IntR w xs) v (ledS f)/\More h h1:=by
 obtain⟨v,h1,g,⟨rid,ws,rfl,ra⟩,m⟩:=zJ6 H r hb;exact⟨_,h1,g,zI1 hb ra,m⟩
end
abbrev Wk:=List Bool×List Int
def stepS(v:Wk->Nat->Wk)(s:Wk)(k:Int):Wk:=if s.1[k.toNat]?=some true then s else v s k.toNat
def zDd(f:FunD):Nat->Wk->Nat->Wk
 | 0,s,_=>s
 | n+1,s,b=>let s1:=(nxS f b).foldl (stepS (zDd f n)) (s.1.set b true,s.2);(s1.1,s1.2++[(b:Int)])
def zBp(l:List Bool):Nat:=l.count false
theorem zDq:∀{l:List Bool} {b:Nat},l[b]?=some false->zBp (l.set b true)+1=zBp l
 | [],b,h=>by cases h
 | x::l,0,h=>by
  have h:some x=some false:=h;injection h with h;subst h;unfold zBp;simp
 | x::l,b+1,h=>by
  have:=zDq (l:=l) (b:=b) h;unfold zBp at *;cases x<;>simp<;>omega
structure Did(s t:Wk)(L:List Nat):Prop where
 out:t.2=s.2++L.map λi:Nat=>(i:Int)
 len:t.1.length=s.1.length
 seen:∀i:Nat,t.1[i]?=some true<->(s.1[i]?=some true\/i∈L)
 nodup:L.Nodup
 new:∀i∈L,s.1[i]?=some false
 un:zBp t.1+L.length=zBp s.1
def Par(f:FunD)(b:Nat)(L:List Nat):Prop:=∀(A:List Nat) (i:Nat) (B:List Nat),L=A++i::B->(i:Int)∈nxS f b\/∃p:Nat,p∈B/\(i:Int)∈nxS f p
theorem Did.refl(s:Wk):Did s s []:=⟨by simp,rfl,by simp,List.nodup_nil,by simp,rfl⟩
theorem Did.trans{s t u:Wk}{L M:List Nat}(x:Did s t L)(y:Did t u M):Did s u (L++M):=by
 refine⟨by rw[y.out,x.out,q0O,List.append_assoc],y.len.trans x.len,λi=>by rw[y.seen,x.seen,List.mem_append,or_assoc],?_,?_,by have:=x.un;have:=y.un;rw[q0o];omega⟩
 ·refine List.nodup_append.mpr ⟨x.nodup,y.nodup,λa ha b hb e=>?_⟩;subst e;have:=(x.seen a).mpr (.inr ha);rw[y.new a hb] at this;cases this
 ·intro i hi;rcases List.mem_append.mp hi with h | h
  ·exact x.new i h
  ·have h2:=y.new i h;have h3:i<s.1.length:=by rw[<-x.len];exact(List.getElem?_eq_some_iff.mp h2).1
   cases e:s.1[i]? with
   | none=>simp at e;omega
   | some v=>
    cases v with
    | false=>rfl
    | true=>rw[(x.seen i).mpr (.inl e)] at h2;cases h2
theorem Par.nil{f:FunD}{b:Nat}:Par f b []:=λA i B e=>by simp at e
theorem Par.cat{f:FunD}{b:Nat}{L M:List Nat}(x:Par f b L)(y:Par f b M):Par f b (L++M):=by
 intro A i B e;rcases List.append_eq_append_iff.mp e with⟨C,h1,h2⟩ | ⟨C,h1,h2⟩
 ·exact y C i B h2
 ·cases C with
  | nil=>exact y [] i B h2.symm
  | cons c C=>
   injection h2 with h3 h4;subst h3;rcases x A i C h1 with h | ⟨p,hp,h⟩
   ·exact .inl h
   ·exact .inr ⟨p,by rw[h4];simp[hp],h⟩
theorem Par.one{f:FunD}{b k:Nat}{M:List Nat}(y:Par f k M)(hk:(k:Int)∈nxS f b):Par f b (M++[k]):=by
 intro A i B e;rcases List.append_eq_append_iff.mp e with⟨C,h1,h2⟩ | ⟨C,h1,h2⟩
 ·cases C with
  | nil=>injection h2 with h3 h4;rw[<-h3];exact .inl hk
  | cons c C=>simp at h2
 ·cases C with
  | nil=>injection h2 with h3 h4;rw[h3];exact .inl hk
  | cons c C=>
   injection h2 with h3 h4;subst h3;rcases y A i C h1 with h | ⟨p,hp,h⟩
   ·exact .inr ⟨k,by rw[h4];simp,h⟩
   ·exact .inr ⟨p,by rw[h4];simp[hp],h⟩
theorem set_seen{l:List Bool}{b:Nat}(hb:b<l.length)(i:Nat):(l.set b true)[i]?=some true<->(l[i]?=some true\/i=b):=by
 rw[List.getElem?_set];by_cases h:b=i
 ·subst h;simp[hb]
 ·simp[h];exact λe=>absurd e.symm h
mutual
theorem zIx{f:FunD}:∀(n:Nat) (s:Wk) (b:Nat),s.1.length=f.blocks.length->s.1[b]?=some false->zBp s.1<=n->∃L,Did s (zDd f n s b) (L++[b])/\Par f b L
 | 0,s,b,_,hs,hu=>by have:=zDq hs;omega
 | n+1,s,b,hl,hs,hu=>by
  have hb:b<s.1.length:=(List.getElem?_eq_some_iff.mp hs).1;have h1:=zDq hs;obtain⟨L,d,p⟩:=zIm n b (nxS f b) (λk hk=>hk) (s.1.set b true,s.2) (by simpa using hl) (by show zBp (s.1.set b true)<=n;omega);refine⟨L,?_,p⟩;have hbL:b∉L:=λh=>by
   have:=d.new b h;rw[(set_seen hb b).mpr (.inr rfl)] at this;cases this
  refine⟨by show _++_=_;rw[d.out,q0O,List.append_assoc];rfl,d.len.trans (by simp),λi=>?_,List.nodup_append.mpr ⟨d.nodup,by simp,λa ha c hc e=>by subst e;simp at hc;subst hc;exact hbL ha⟩,λi hi=>?_,?_⟩
  ·show _<->_;refine(d.seen i).trans ?_;rw[set_seen hb,List.mem_append,List.mem_singleton];constructor
   ·rintro((h | h) | h)
    ·exact .inl h
    ·exact .inr (.inr h)
    ·exact .inr (.inl h)
   ·rintro(h | h | h)
    ·exact .inl (.inl h)
    ·exact .inr h
    ·exact .inl (.inr h)
  ·rcases List.mem_append.mp hi with h | h
   ·have h2:=d.new i h;have h3:b≠i:=λe=>hbL (e▸h)
    rwa [List.getElem?_set_ne h3] at h2
   ·rw[List.mem_singleton.mp h];exact hs
  ·have:=d.un;have e:zBp (s.1.set b true,s.2).1=zBp (s.1.set b true):=rfl;rw[e] at this;show zBp _+(L++[b]).length=_;rw[q0o,List.length_singleton];have e2:zBp (zDd f (n+1) s b).1=zBp (List.foldl (stepS (zDd f n)) (s.1.set b true,s.2) (nxS f b)).1:=rfl;rw[e2];omega
theorem zIm{f:FunD}(n:Nat)(b:Nat):∀(l:List Int),(∀k∈l,k∈nxS f b)->∀s:Wk,s.1.length=f.blocks.length->zBp s.1<=n->∃L,Did s (l.foldl (stepS (zDd f n)) s) L/\Par f b L
 | [],_,s,_,_=>⟨[],Did.refl s,Par.nil⟩
 | k::l,hk,s,hl,hu=>by
  obtain⟨x,rfl,hx⟩:=nx_in (hk k (by simp));rw[List.foldl_cons];unfold stepS;rw[q0n];by_cases h:s.1[x]?=some true
  ·rw[if_pos h];exact zIm n b l (λk h=>hk k (by simp[h])) s hl hu
  ·rw[if_neg h];have h0:s.1[x]?=some false:=by
    have:x<s.1.length:=by omega
    rw[q0a this] at h ⊢;cases e:s.1[x] with
    | false=>rfl
    | true=>rw[e] at h;exact(h rfl).elim
   obtain⟨L,d,p⟩:=zIx n s x hl h0 hu;obtain⟨M,d2,p2⟩:=zIm n b l (λk h=>hk k (by simp[h])) (zDd f n s x) (d.len.trans hl) (by have:=d.un;omega);exact⟨(L++[x])++M,d.trans d2,(p.one (hk x (by simp))).cat p2⟩
end
theorem zBh:∀(l:List AV) (c:T AV) (off:Nat),(∀j,j<l.length->c.get (off+j)=l[j]?)->loadL c l.length off=some l
 | [],c,off,_=>rfl
 | v::l,c,off,h=>zBk (by have:=h 0 (by simp);simpa using this) (zBh l c (off+1) λj hj=>by have:=h (j+1) (by simpa using hj);rw[show off+1+j=off+(j+1) by omega];simpa using this)
def WkS(h:AH)(P:Nat->Prop)(W sid:Nat)(E:List AV)(n:Nat)(s:Wk):Prop:=∃c vd cs,h.mem.get W=some (.cells c 8 none false)/\P W/\W<h.next/\P sid/\sid<h.next/\W≠sid/\E.length=6/\(∀j,j<6->c.get j=E[j]?)/\c.get 6=some (.sl sid 0 n (.known n))/\c.get 7=some vd/\h.mem.get sid=some (.cells cs n none false)/\(∀i,i<n->cs.get i=s.1[i]?.map .bool)/\s.1.length=n/\Arr h (λk=>P k/\k≠W/\k≠sid) vd (s.2.map iv)
theorem WkS.keep{h h':AH}{P Q:Nat->Prop}{W sid n:Nat}{E:List AV}{s:Wk}(x:WkS h P W sid E n s)(m:Stay P h h')(hg:∀k,P k->k<h.next->Q k):WkS h' Q W sid E n s:=by
 obtain⟨c,vd,cs,g,a,b,c1,d,e,el,f,g6,g7,gs,hs,hl,ha⟩:=x;exact⟨c,vd,cs,(m.keep _ a b).trans g,hg _ a b,q0d b m.next,hg _ c1 d,q0d d m.next,e,el,f,g6,g7,(m.keep _ c1 d).trans gs,hs,hl,ha.keep (m.less λ_ h=>h.1) λk h hk=>⟨hg k h.1 hk,h.2⟩⟩
theorem WkS.mark{h:AH}{P:Nat->Prop}{W sid n b:Nat}{E:List AV}{s:Wk}(x:WkS h P W sid E n s)(hb:b<n):∃c cs,h.mem.get W=some (.cells c 8 none false)/\c.get 6=some (.sl sid 0 n (.known n))/\h.mem.get sid=some (.cells cs n none false)/\cs.get b=s.1[b]?.map .bool/\E.length=6/\(∀j,j<6->c.get j=E[j]?)/\W≠sid/\P sid/\WkS (h.set sid (.cells (T.put (some (.bool true)) cs b) n none false)) P W sid E n (s.1.set b true,s.2):=by
 obtain⟨c,vd,cs,g,pw,lw,ps,ls,ne,el,f6,g6,g7,gs,hcs,hl,ha⟩:=x;refine⟨c,cs,g,g6,gs,hcs b hb,el,f6,ne,ps,c,vd,T.put (some (.bool true)) cs b,by rw[q2c,q1a _ _ _ _ (Ne.symm ne)];exact g,pw,by rw[q2b];exact lw,ps,by rw[q2b];exact ls,ne,el,f6,g6,g7,q2d,λi hi=>?_,by simpa using hl,ha.keep (Stay.set (Stay.refl _ _) (λ_ f=>f.2.2 rfl) _) λk f _=>f⟩;rw[List.getElem?_set];by_cases e:b=i
 ·subst e;rw[q1b,if_pos rfl,if_pos (by omega)];rfl
 ·rw[q1a _ _ _ _ e,if_neg e,hcs i hi]
theorem WkS.done{h:AH}{P:Nat->Prop}{W sid n:Nat}{E:List AV}{s:Wk}(x:WkS h P W sid E n s)(z:Int)(hs:s.2.length<1000000)(hP:P (h.next+1)):∃c vd v' h',h.mem.get W=some (.cells c 8 none false)/\c.get 7=some vd/\(∀h',oMove (.c vd) .leaf [] h'=.val vd h')/\zA0 none 1 8 (.c vd) (.c (.sl h.next 0 1 (.known 1))) .leaf [] (h.add (.cells (zAa [iv z]) 1 none false))=.val v' h'/\(∀h',oMove (.c v') .leaf [] h'=.val v' h')/\cellsOf v'=some [v']/\h'.mem.get W=some (.cells c 8 none false)/\
  WkS (h'.set W (.cells (T.put (some v') c 7) 8 none false)) P W sid E n (s.1,s.2++[z])/\Stay (λk=>¬P k) h (h'.set W (.cells (T.put (some v') c 7) 8 none false)):=by
 obtain⟨c,vd,cs,g,pw,lw,ps,ls,ne,el,f6,g6,g7,gs,hcs,hl,ha⟩:=x;obtain⟨v',h',ap,ha',hn,hk⟩:=ha.push (x:=iv z) (by simpa using hs);have k1:∀k,k<h.next->(k=W\/k=sid\/¬P k)->h'.mem.get k=h.mem.get k:=λk hk1 hk2=>hk k hk1 λl n e=>by
  have:=(e▸ha).isF.1;rcases hk2 with rfl | rfl | h2
  ·exact this.2.1 rfl
  ·exact this.2.2 rfl
  ·exact h2 this.1
 refine⟨c,vd,v',h',g,g7,λ_=>zAg ha.mv,ap,λ_=>zAg ha'.mv,ha'.cells,(k1 W lw (.inl rfl)).trans g,⟨_,v',cs,q2d,pw,by rw[q2b,hn];omega,ps,by rw[q2b,hn];omega,ne,el,λj hj=>by rw[q1a _ _ _ _ (by omega)];exact f6 j hj,by rw[q1a _ _ _ _ (by decide)];exact g6,q1b _ _ _,?_,hcs,hl,?_⟩,by rw[q2b,hn];omega,λk hp hk2=>?_⟩
 ·rw[q2c,q1a _ _ _ _ ne];exact(k1 sid ls (.inr (.inl rfl))).trans gs
 ·rw[q0O];exact ha'.keep (Stay.set (Stay.refl (λj=>j=h.next+1) _) (λ_ (e:W=h.next+1)=>by omega) _) λj (e:j=h.next+1) _=>by subst e;exact⟨hP,by omega,by omega⟩
 ·rw[q2c,q1a _ _ _ _ (λe=>hp (by rw[<-e];exact pw))];exact k1 k hk2 (.inr (.inr hp))
section
variable{tab:Nat->Option AFunc}{h0:AH}(H:PV tab)
include H in
theorem visit_gp{E:List AV}{f:FunD}(r:FunV h0 E f)(hb:f.blocks.length<=1000){W sid:Nat}:∀(n:Nat) (h:AH) (P:Nat->Prop) (s:Wk) (b:Nat),More h0 h->(∀k,P k->h0.next<=k)->(∀k,h.next<=k->P k)->WkS h P W sid E f.blocks.length s->s.1[b]?=some false->zBp s.1<=n->s.2.length+zBp s.1<=1000->GP tab 183 [.ptr W 0,.int .i64 (b:Int)] h λ_ h1=>WkS h1 P W sid E f.blocks.length (zDd f n s b)/\Stay (λk=>¬P k) h h1
 | 0,h,P,s,b,_,_,_,_,hs,hu,_=>by have:=zDq hs;omega
 | n+1,h,P,s,b,m,hP,hPn,x,hs,hu,hm=>by
  have i0:zAb [.ptr W 0,.int .i64 (b:Int)]=zAa [.ptr W 0,.int .i64 (b:Int)]:=rfl;have hl:s.1.length=f.blocks.length:=by obtain⟨_,_,_,_,_,_,_,_,_,_,_,_,_,_,_,hl,_⟩:=x;exact hl
  have hb1:b<s.1.length:=(List.getElem?_eq_some_iff.mp hs).1;have hb2:b<f.blocks.length:=by omega
  obtain⟨c,cs,g,g6,gs,gb,el,f6,ne,ps,x1⟩:=x.mark hb2;have gb:cs.get b=some (.bool false):=by rw[gb,hs];rfl
  have gW:(h.set sid (.cells (T.put (some (.bool true)) cs b) f.blocks.length none false)).mem.get W=some (.cells c 8 none false):=by rw[q2c,q1a _ _ _ _ (Ne.symm ne)];exact g
  have hld1:zAy 6 (.c (.ptr W 0)) .leaf [] (h.set sid (.cells (T.put (some (.bool true)) cs b) f.blocks.length none false))=.val (.agg E) _:=zAp gW (by rw[<-el];exact zBh _ _ _ λj hj=>by rw[q0I];exact f6 j (by omega));have m1:=m.set (hP sid ps) (.cells (T.put (some (.bool true)) cs b) f.blocks.length none false);have st1:Stay (λk=>¬P k) h (h.set sid (.cells (T.put (some (.bool true)) cs b) f.blocks.length none false)):=Stay.set (Stay.refl _ _) (λ_ h=>h ps) _;refine GE.gp (zAi H.t183 rfl ?_) (E:=λ_ _=>False) λ_ _ x=>x;simp(disch:=omega)only[RL,i0,g,g6,gs,gb,hld1];clear hld1 gW g g6 gs gb f6 x;have hu1:zBp (s.1.set b true)<=n:=by have:=zDq hs;omega
  have hm1:s.2.length+zBp (s.1.set b true)+1<=1000:=by have:=zDq hs;omega
  have n1:(h.set sid (.cells (T.put (some (.bool true)) cs b) f.blocks.length none false)).next=h.next:=q2b;generalize h.set sid (.cells (T.put (some (.bool true)) cs b) f.blocks.length none false)=h1 at *;refine(next_gp H (r.more m1) hb2).to λw h2 q=>?_;rw[nxS_eq hb2] at q;obtain⟨sw,m2,fw⟩:=q;have lw:=sw.len;have mw:=sw.mv;simp(disch:=omega)only[RL,lw];have lst:∀{q o l c},w=.sl q o l c->h.next<=q:=λe=>n1▸fw _ _ _ _ e;have x2:WkS h2 (λq=>P q/\∀o l c,w≠.sl q o l c) W sid E f.blocks.length (s.1.set b true,s.2):=x1.keep ⟨m2.next,λid _ hi=>m2.keep id hi⟩ λq hq hl=>⟨hq,λo l c e=>by have:=fw q o l c e;omega⟩;have st2:Stay (λk=>¬P k) h h2:=st1.trans ⟨m2.next,λid _ hi=>m2.keep id hi⟩;refine zAd (λm l d3 h3=>∃j,m=(nxS f b).length-j/\j<=(nxS f b).length/\d3=[]/\More h0 h3/\Stay (λk=>¬P k) h h3/\SlV h3 1 IntR w (nxS f b)/\WkS h3 (λq=>P q/\∀o l c,w≠.sl q o l c) W sid E f.blocks.length (((nxS f b).take j).foldl (stepS (zDd f n)) (s.1.set b true,s.2))/\l.get 0=some (.ptr W 0)/\l.get 1=some (.int .i64 (b:Int))/\l.get 2=some (.int .i64 (j:Int))/\l.get 3=some (.int .i64 ((nxS f b).length:Int))/\l.get 5=some w) ?_ ((nxS f b).length-0) ⟨0,rfl,q0k _,rfl,m1.trans m2,st2,sw,x2,rfl,rfl,rfl,rfl,rfl⟩;clear sw m2 x2 st2 mw
  rintro m' l d3 h3 ⟨j,rfl,hj,rfl,m3,st3,sw,x3,l0,l1,l2,l3,l5⟩;obtain⟨L,d,_⟩:=zIm n b ((nxS f b).take j) (λk hk=>List.mem_of_mem_take hk) (s.1.set b true,s.2) (by simpa using hl) hu1;have hlb:=nx_len (f:=f) (i:=b);have du:=d.un;have dl:(((nxS f b).take j).foldl (stepS (zDd f n)) (s.1.set b true,s.2)).2.length=s.2.length+L.length:=by rw[d.out,q0o,q0j]
  have du:zBp (((nxS f b).take j).foldl (stepS (zDd f n)) (s.1.set b true,s.2)).1+L.length=zBp (s.1.set b true):=du;by_cases hjt:j<(nxS f b).length
  ·obtain⟨id,o,E',ix,e1,⟨rfl,i64⟩,ld,lw⟩:=sw.at hjt;have lw:oLoad (.c (.ptr id o)) .leaf [] h3=.val (.int .i64 (nxS f b)[j]) h3:=lw 0 _ rfl h3;obtain⟨k,ex,hx⟩:=nx_in (q0l hjt);rw[ex] at lw;obtain⟨c,cs,g,g6,gs,gb,_⟩:=x3.mark hx;have nid:∀{q o l c},w=.sl q o l c->q<h3.next:=λe=>by
    rcases sw with⟨e0,_⟩ | ⟨_,_,_,_,_,_,_,e',_,_,hid,_⟩
    ·rw[e0] at hjt;cases hjt
    ·rw[e'] at e;injection e;omega
   have tk:(nxS f b).take (j+1)=(nxS f b).take j++[(k:Int)]:=by rw[List.take_add_one,q0a hjt,Option.toList_some,ex]
   have hlen:(((nxS f b).take j).foldl (stepS (zDd f n)) (s.1.set b true,s.2)).1.length=f.blocks.length:=d.len.trans (by simpa using hl);generalize hgen:((nxS f b).take j).foldl (stepS (zDd f n)) (s.1.set b true,s.2)=t at *;have hk1:k<t.1.length:=by omega
   cases ek:t.1[k] with
   | true=>
    have gk:cs.get k=some (.bool true):=by rw[gb,q0a hk1,ek];rfl
    simp+decide(disch:=omega)only[RL,↓reduceIte,l0,l1,l2,l3,l5,hjt,ix,lw,g,g6,gs,gk];refine⟨(nxS f b).length-(j+1),by omega,j+1,rfl,hjt,m3,st3,sw,?_,rfl⟩;rw[tk,List.foldl_append,hgen];show WkS h3 _ W sid E _ (stepS (zDd f n) t k);unfold stepS;rw[q0n,q0a hk1,ek,if_pos rfl];exact x3
   | false=>
    have gk:cs.get k=some (.bool false):=by rw[gb,q0a hk1,ek];rfl
    simp+decide(disch:=omega)only[RL,↓reduceIte,l0,l1,l2,l3,l5,hjt,ix,lw,g,g6,gs,gk];refine(visit_gp r hb n h3 _ t k m3 (λq hq=>hP q hq.1) (λq hq=>⟨hPn q (by have:=st3.next;omega),λo l c e=>by have:=nid e;omega⟩) x3 (by rw[q0a hk1,ek]) (by omega) (by omega)).to λv h4 q=>?_;obtain⟨x4,st4⟩:=q;simp+decide(disch:=omega)only[RL,↓reduceIte,l0,l1,l2,l3,l5];refine⟨(nxS f b).length-(j+1),by omega,j+1,rfl,hjt,⟨q0m m3.next st4.next,λq hq=>by rw[st4.keep q (λhh=>by have:=hP q hh.1;omega) (q0d hq m3.next),m3.keep q hq]⟩,st3.trans (st4.less λq hq hh=>hq hh.1),sw.stay st4.next (λid o l c e hi=>st4.keep id (λhh=>hh.2 o l c e) hi) λ_ _ x=>x,?_,rfl⟩;rw[tk,List.foldl_append,hgen];show WkS h4 _ W sid E _ (stepS (zDd f n) t k);unfold stepS;rw[q0n,if_neg (by rw[q0a hk1,ek];intro h;cases h)];exact x4
  ·have hje:j=(nxS f b).length:=by omega
   subst hje;rw[List.take_length] at *;obtain⟨c,vd,v',h',g,g7,mvd,ap,mv',cl',g',x4,st4⟩:=(x3.keep (Stay.refl _ _) λ_ f _=>f.1:WkS h3 P W sid E f.blocks.length _).done (b:Int) (by omega) (hPn _ (by have:=st3.next;omega));simp+decide(disch:=omega)only[RL,↓reduceIte,l0,l1,l2,l3,l5,hjt,g,g7,ap,cl',g'];exact⟨x4,st3.trans st4⟩
end
def walkS(f:FunD):Wk:=zDd f f.blocks.length (List.replicate f.blocks.length false,[]) 0
theorem zEf(n:Nat):zBp (List.replicate n false)=n:=by unfold zBp;simp
theorem Arr.at{h:AH}{F:Nat->Prop}{id len s:Nat}{cap:ACap}{c:T AV}{cs:List AV}(a:Arr h F (.sl id 0 len cap) cs)(g:h.mem.get id=some (.cells c s none false)):len=cs.length/\∀i,i<cs.length->c.get i=cs[i]?:=by
 generalize e:AV.sl id 0 len cap=v at a;cases a with
 | nils=>cases e
 | emp=>injection e with e1 e2 e3;exact⟨e3,λi hi=>by cases hi⟩
 | sl a b c' d f=>
  injection e with e1 e2 e3;subst e1;rw[g] at d;injection d with d;injection d with d1;subst d1;exact⟨e3,f⟩
section
variable{tab:Nat->Option AFunc}{h:AH}(H:PV tab)
include H in
theorem walk_gp{E:List AV}{f:FunD}(r:FunV h E f)(hb:f.blocks.length<=1000)(hb0:0<f.blocks.length):GP tab 155 [.agg E] h λv h1=>∃W sid,v=.ptr W 0/\WkS h1 (λk=>h.next<=k) W sid E f.blocks.length (walkS f)/\More h h1:=by
 have r0:=r;obtain⟨vp,vs,vi,vb,rfl,r1,r2,r3,r4,hn,hr⟩:=r;have i0:zAb [.agg [sv f.name,vp,sv f.result,vs,vi,vb]]=zAa [.agg [sv f.name,vp,sv f.result,vs,vi,vb]]:=rfl;have mv:=r4.mv;have ln:=r4.len;have mks:∀h':AH,zB0 [.bool false] 1 (.c (.int .i64 (f.blocks.length:Int))) (.c (.int .i64 (f.blocks.length:Int))) .leaf [] h'=_:=λh'=>zD6 (by omega) (by omega);have pos:((0:Nat):Int)<(f.blocks.length:Int):=by omega
 have ldb:zAy 6 (.c (.ptr h.next 0)) .leaf [] (h.add (.cells (zAa [sv f.name,vp,sv f.result,vs,vi,vb]) 6 none false))=.val (.agg [sv f.name,vp,sv f.result,vs,vi,vb]) (h.add (.cells (zAa [sv f.name,vp,sv f.result,vs,vi,vb]) 6 none false)):=zAp (by rw[q2a,q1b]) rfl;refine GE.gp (zAi H.t155 rfl ?_) (E:=λ_ _=>False) λ_ _ x=>x;simp+decide only[RL,↓reduceIte,i0,ln,zBz,mks,pos,ldb];have x0:WkS (((h.add (.cells (zAa [sv f.name,vp,sv f.result,vs,vi,vb]) 6 none false)).add (.cells (zAa (List.replicate f.blocks.length (.bool false))) f.blocks.length none false)).add (.cells (zAa [sv f.name,vp,sv f.result,vs,vi,vb,.sl (h.next+1) 0 f.blocks.length (.known f.blocks.length),.nils]) 8 none false)) (λk=>h.next<=k) (h.next+1+1) (h.next+1) [sv f.name,vp,sv f.result,vs,vi,vb] f.blocks.length (List.replicate f.blocks.length false,[]):=by
  refine⟨_,.nils,zAa (List.replicate f.blocks.length (.bool false)),by rw[q2a];exact q1b _ _ _,by show h.next<=h.next+1+1;omega,q0h _,q0w _,Nat.lt_succ_of_lt (q0h _),by omega,rfl,λj hj=>?_,zAe _ _,zAe _ _,?_,λi hi=>?_,q0q,.nils⟩
  ·rw[zAe];rcases j with _ | _ | _ | _ | _ | _ | j<;>first | rfl | omega
  ·rw[q2a];refine(q1a _ _ _ _ (show h.next+1+1≠h.next+1 by omega)).trans ?_;rw[q2a];exact q1b _ _ _
  ·rw[zAe,q0z,q0z,if_pos hi,if_pos hi];rfl
 have M:=((q2g h (.cells (zAa [sv f.name,vp,sv f.result,vs,vi,vb]) 6 none false)).trans (q2g _ (.cells (zAa (List.replicate f.blocks.length (.bool false))) f.blocks.length none false))).trans (q2g _ (.cells (zAa [sv f.name,vp,sv f.result,vs,vi,vb,.sl (h.next+1) 0 f.blocks.length (.known f.blocks.length),.nils]) 8 none false));refine(visit_gp H r0 hb f.blocks.length _ _ _ 0 M (λk hk=>hk) (λk hk=>q0m M.next hk) x0 (by rw[q0z,if_pos hb0]) (Nat.le_of_eq (zEf _)) (by rw[zEf];simpa using hb)).to λv h1 q=>?_;simp only[RL,↓reduceIte];exact⟨_,_,rfl,q.1,q0m M.next q.2.next,λk hk=>by rw[q.2.keep k (by omega) (q0d hk M.next),M.keep k hk]⟩
include H in
theorem reached_gp{E:List AV}{f:FunD}(r:FunV h E f)(hb:f.blocks.length<=1000)(hb0:0<f.blocks.length):GP tab 118 [.agg E] h λv h1=>Arr h1 (λk=>h.next<=k) v ((walkS f).1.map .bool)/\More h h1:=by
 have r0:=r;obtain⟨vp,vs,vi,vb,rfl,r1,r2,r3,r4,hn,hr⟩:=r;have i0:zAb [.agg [sv f.name,vp,sv f.result,vs,vi,vb]]=zAa [.agg [sv f.name,vp,sv f.result,vs,vi,vb]]:=rfl;have ldb:zAy 6 (.c (.ptr h.next 0)) .leaf [] (h.add (.cells (zAa [sv f.name,vp,sv f.result,vs,vi,vb]) 6 none false))=.val (.agg [sv f.name,vp,sv f.result,vs,vi,vb]) (h.add (.cells (zAa [sv f.name,vp,sv f.result,vs,vi,vb]) 6 none false)):=zAp (by rw[q2a,q1b]) rfl;have M:=q2g h (.cells (zAa [sv f.name,vp,sv f.result,vs,vi,vb]) 6 none false);refine GE.gp (zAi H.t118 rfl ?_) (E:=λ_ _=>False) λ_ _ x=>x;simp+decide only[RL,↓reduceIte,i0,ldb];refine(walk_gp H (r0.more M) hb hb0).to λw h2 q=>?_;obtain⟨W,sid,rfl,x,m2⟩:=q;obtain⟨c,vd,cs,g,pw,lw,ps,ls,ne,el,f6,g6,g7,gs,hcs,hl,ha⟩:=x;simp only[RL,↓reduceIte,g,g6];refine⟨?_,M.trans m2⟩;have:=Arr.sl (h:=h2) (F:=λk=>h.next<=k) (id:=sid) (s:=f.blocks.length) (c:=cs) (cap:=.known ((walkS f).1.map AV.bool).length) (cs:=(walkS f).1.map .bool) (λe=>by rw[List.map_eq_nil_iff] at e;rw[e] at hl;simp at hl;omega) (q0m M.next ps) ls gs (λi hi=>by rw[q0j,hl] at hi;rw[hcs i hi,q0t]) (.inr rfl) (by rw[q0j,hl];omega)
 rwa [q0j,hl] at this
def revN(xs:List Int)(i:Nat):List Int:=List.ofFn λp:_root_.Fin xs.length=>if p.1<i\/xs.length-i<=p.1 then xs[xs.length-1-p.1]'(by omega) else xs[p.1]
theorem zFw{xs:List Int}{i p:Nat}(hp:p<xs.length):(revN xs i)[p]?=some (if p<i\/xs.length-i<=p then xs[xs.length-1-p]'(by omega) else xs[p]):=by
 unfold revN;rw[List.getElem?_ofFn,dif_pos hp]
theorem zDi{xs:List Int}{i:Nat}:(revN xs i).length=xs.length:=List.length_ofFn
theorem revN_zero{xs:List Int}:revN xs 0=xs:=by
 refine List.ext_getElem? λp=>?_;by_cases h:p<xs.length
 ·rw[zFw h,if_neg (by omega),q0a h]
 ·rw[q0i (by rw[zDi];omega),q0i (by omega)]
theorem revN_all{xs:List Int}{i:Nat}(h:xs.length<=2*i+1):revN xs i=xs.reverse:=by
 refine List.ext_getElem? λp=>?_;by_cases hp:p<xs.length
 ·rw[zFw hp,List.getElem?_reverse hp,q0a (show xs.length-1-p<xs.length by omega)];by_cases hc:p<i\/xs.length-i<=p
  ·rw[if_pos hc]
  ·rw[if_neg hc];congr 1;have:xs.length-1-p=p:=by omega
   simp only[this]
 ·rw[q0i (by rw[zDi];omega),q0i (by rw[List.length_reverse];omega)]
theorem revN_step{xs:List Int}{i:Nat}(h:2*i+1<xs.length):revN xs (i+1)=((revN xs i).set i (xs[xs.length-1-i]'(by omega))).set (xs.length-1-i) (xs[i]'(by omega)):=by
 refine List.ext_getElem? λp=>?_;by_cases hp:p<xs.length
 ·rw[zFw hp,List.getElem?_set,List.length_set,List.getElem?_set,zDi,zFw hp];by_cases h1:xs.length-1-i=p
  ·subst h1;rw[if_pos rfl,if_pos hp,if_pos (by omega)];congr 1;have:xs.length-1-(xs.length-1-i)=i:=by omega
   simp only[this]
  ·rw[if_neg h1];by_cases h2:i=p
   ·subst h2;rw[if_pos rfl,if_pos hp,if_pos (by omega)]
   ·rw[if_neg h2];by_cases h3:p<i\/xs.length-i<=p
    ·rw[if_pos h3,if_pos (by omega)]
    ·rw[if_neg h3,if_neg (by omega)]
 ·rw[q0i (by rw[zDi];omega),q0i (by simp[zDi];omega)]
include H in
theorem reverse_gp{F:Nat->Prop}{v:AV}{xs:List Int}(a:Arr h F v (xs.map iv)):GP tab 184 [v] h λ_ h1=>Arr h1 F v (xs.reverse.map iv)/\Stay (λk=>¬F k) h h1:=by
 have i0:zAb [v]=zAa [v]:=rfl;have mv:∀h',oMove (.c v) .leaf [] h'=.val v h':=λ_=>zAg a.mv;have ln:∀h',oLen .sl (.c v) .leaf [] h'=.val (.int .i64 (xs.length:Int)) h':=λ_=>by rw[a.len,q0j]
 have hb:xs.length<=1000000:=by have:=a.small;simpa using this
 refine GE.gp (zAi H.t184 rfl ?_) (E:=λ_ _=>False) λ_ _ x=>x;simp(disch:=omega)only[RL,i0,mv,ln];have w0:IntKind.i64.wrap ((xs.length:Int)-((1:Nat):Int))=(xs.length:Int)-1:=zGm (by omega) (by omega);refine zAd (λm l d h1=>∃i:Nat,m=xs.length-i/\i<=xs.length/\d=[]/\Arr h1 F v ((revN xs i).map iv)/\Stay (λk=>¬F k) h h1/\l.get 0=some v/\l.get 1=some (.int .i64 (i:Int))/\l.get 2=some (.int .i64 ((xs.length:Int)-1-i))) ?_ (xs.length-0) ⟨0,rfl,q0k _,rfl,by rw[revN_zero];exact a,Stay.refl _ _,rfl,rfl,by simp(disch:=omega)only[RL,↓reduceIte,w0];simp⟩;rintro m l d h1 ⟨i,rfl,hi,rfl,a1,st,l0,l1,l2⟩;by_cases hc:2*i+1<xs.length
 ·have ej:(xs.length:Int)-1-i=((xs.length-1-i:Nat):Int):=by omega
  rw[ej] at l2;have hij:(i:Int)<((xs.length-1-i:Nat):Int):=by omega
  have hn1:i<((revN xs i).map iv).length:=by rw[q0j,zDi];omega
  obtain⟨id,s,c,cap,e,fi,hid,g,gi,a2⟩:=a1.set (x:=iv (xs[xs.length-1-i]'(by omega))) hn1;subst e;obtain⟨-,gj⟩:=a1.at g;have gi:c.get i=some (iv (xs[i]'(by omega))):=by rw[gi,q0t,zFw (by omega),if_neg (by omega)];rfl
  have gj:c.get (xs.length-1-i)=some (iv (xs[xs.length-1-i]'(by omega))):=by rw[gj _ (by rw[q0j,zDi];omega),q0t,zFw (by omega),if_neg (by omega)];rfl
  have hn2:xs.length-1-i<(((revN xs i).map iv).set i (iv (xs[xs.length-1-i]'(by omega)))).length:=by rw[List.length_set,q0j,zDi];omega
  obtain⟨id',s',c',cap',e',_,_,g',_,a3⟩:=a2.set (x:=iv (xs[i]'(by omega))) hn2;injection e' with e1;subst e1;rw[q2d] at g';injection g' with g';injection g' with g1 g2;subst g1;subst g2;have a4:=a3;rw[show(((revN xs i).map iv).set i (iv (xs[xs.length-1-i]'(by omega)))).set (xs.length-1-i) (iv (xs[i]'(by omega)))=(revN xs (i+1)).map iv by rw[revN_step hc,List.map_set,List.map_set]] at a4;have hlen:((revN xs i).map iv).length=xs.length:=by rw[q0j,zDi]
  rw[hlen] at a4 l0 mv ⊢;have q1:i<xs.length:=by omega
  have q2:xs.length-1-i<xs.length:=by omega
  have w1:IntKind.i64.wrap (((xs.length-1-i:Nat):Int)-((1:Nat):Int))=(xs.length:Int)-1-((i+1:Nat):Int):=by rw[zGm (by omega) (by omega)];omega
  simp+decide(disch:=omega)only[RL,↓reduceIte,l0,l1,l2,mv,hij,g,gi,gj,w1];exact⟨xs.length-(i+1),by omega,i+1,rfl,by omega,a4,Stay.set (Stay.set st (λ_ h=>h fi) _) (λ_ h=>h fi) _,rfl,rfl⟩
 ·have hij:¬(i:Int)<(xs.length:Int)-1-i:=by omega
  rw[revN_all (by omega)] at a1;simp+decide(disch:=omega)only[RL,↓reduceIte,l0,l1,l2,hij];exact⟨a1,st⟩
def zE7(f:FunD):List Int:=(walkS f).2.reverse
include H in
theorem order_gp{E:List AV}{f:FunD}(r:FunV h E f)(hb:f.blocks.length<=1000)(hb0:0<f.blocks.length):GP tab 156 [.agg E] h λv h1=>Arr h1 (λk=>h.next<=k) v ((zE7 f).map iv)/\More h h1:=by
 have r0:=r;obtain⟨vp,vs,vi,vb,rfl,r1,r2,r3,r4,hn,hr⟩:=r;have i0:zAb [.agg [sv f.name,vp,sv f.result,vs,vi,vb]]=zAa [.agg [sv f.name,vp,sv f.result,vs,vi,vb]]:=rfl;have ldb:zAy 6 (.c (.ptr h.next 0)) .leaf [] (h.add (.cells (zAa [sv f.name,vp,sv f.result,vs,vi,vb]) 6 none false))=.val (.agg [sv f.name,vp,sv f.result,vs,vi,vb]) (h.add (.cells (zAa [sv f.name,vp,sv f.result,vs,vi,vb]) 6 none false)):=zAp (by rw[q2a,q1b]) rfl;have M:=q2g h (.cells (zAa [sv f.name,vp,sv f.result,vs,vi,vb]) 6 none false);refine GE.gp (zAi H.t156 rfl ?_) (E:=λ_ _=>False) λ_ _ x=>x;simp+decide only[RL,↓reduceIte,i0,ldb];refine(walk_gp H (r0.more M) hb hb0).to λw h2 q=>?_;obtain⟨W,sid,rfl,x,m2⟩:=q;obtain⟨c,vd,cs,g,pw,lw,ps,ls,ne,el,f6,g6,g7,gs,hcs,hl,ha⟩:=x;have mv:∀h',oMove (.c vd) .leaf [] h'=.val vd h':=λ_=>zAg ha.mv;simp only[RL,↓reduceIte,g,g7,mv];refine(reverse_gp H ha).to λw h3 q=>?_;obtain⟨a3,st⟩:=q;simp only[RL,↓reduceIte,mv];exact⟨a3.wk λk _ _ _ f=>q0m M.next f.1,⟨q0m (M.trans m2).next st.next,λk hk=>by rw[st.keep k (λhh=>by have:=M.next;have:=hh.1;omega) (q0d hk (M.trans m2).next),(M.trans m2).keep k hk]⟩⟩
end
section
variable{h:AH}
theorem u_and{m:Nat}(hm:m<4294967296):oBin .and (.c (.int .u64 (m:Int))) (.c (.int .u64 ((4294967295:Nat):Int))) .leaf [] h=.val (.int .u64 (m:Int)) h:=by
 have r1:zAo .u64 (Int.ofNat m)=true:=Nat.ble_eq.mpr (show m<=18446744073709551615 by omega);show bi (zAo .u64 (Int.ofNat m)) (bi (zAo .u64 (Int.ofNat 4294967295)) (fN (Nat.land m 4294967295) λn=>bi (zAo .u64 (Int.ofNat n)) (OR.val (AV.int .u64 (Int.ofNat n)) h) (F 23)) (F 23)) (F 23)=_;have e:Nat.land m 4294967295=m:=(Nat.and_two_pow_sub_one_eq_mod m 32).trans (Nat.mod_eq_of_lt hm);rw[r1,e,fN_eq,r1];rfl
theorem u_shr{m:Nat}(hm:m<4294967296):oBin .shr (.c (.int .u64 (m:Int))) (.c (.int .u64 ((32:Nat):Int))) .leaf [] h=.val (.int .u64 ((0:Nat):Int)) h:=by
 rw[bin_shr (by decide),show m / 2 ^ 32=0 from Nat.div_eq_of_lt hm]
end
section
variable{tab:Nat->Option AFunc}{h:AH}(H:PV tab)
include H in
theorem mul64_gp{n:Nat}(hn:n<=1000000):GP tab 182 [.int .u64 ((1:Nat):Int),.int .u64 (n:Int)] h λv h1=>v=.tup [.int .u64 ((0:Nat):Int),.int .u64 (n:Int)]/\h1=h:=by
 have i0:zAb [.int .u64 ((1:Nat):Int),.int .u64 (n:Int)]=zAa [.int .u64 ((1:Nat):Int),.int .u64 (n:Int)]:=rfl;have a1:∀h',oBin .and (.c (.int .u64 ((1:Nat):Int))) (.c (.int .u64 ((4294967295:Nat):Int))) .leaf [] h'=.val (.int .u64 ((1:Nat):Int)) h':=λ_=>u_and (by decide);have a0:∀h',oBin .and (.c (.int .u64 ((0:Nat):Int))) (.c (.int .u64 ((4294967295:Nat):Int))) .leaf [] h'=.val (.int .u64 ((0:Nat):Int)) h':=λ_=>u_and (by decide);have an:∀h',oBin .and (.c (.int .u64 (n:Int))) (.c (.int .u64 ((4294967295:Nat):Int))) .leaf [] h'=.val (.int .u64 (n:Int)) h':=λ_=>u_and (by omega);have s1:∀h',oBin .shr (.c (.int .u64 ((1:Nat):Int))) (.c (.int .u64 ((32:Nat):Int))) .leaf [] h'=.val (.int .u64 ((0:Nat):Int)) h':=λ_=>u_shr (by decide);have s0:∀h',oBin .shr (.c (.int .u64 ((0:Nat):Int))) (.c (.int .u64 ((32:Nat):Int))) .leaf [] h'=.val (.int .u64 ((0:Nat):Int)) h':=λ_=>u_shr (by decide);have sn:∀h',oBin .shr (.c (.int .u64 (n:Int))) (.c (.int .u64 ((32:Nat):Int))) .leaf [] h'=.val (.int .u64 ((0:Nat):Int)) h':=λ_=>u_shr (by omega);have w1:IntKind.u64.wrap (((1:Nat):Int)*(n:Int))=(n:Int):=by rw[<-Int.natCast_mul,zGl,Nat.one_mul,Nat.mod_eq_of_lt (by omega)]
 have w2:IntKind.u64.wrap (((0:Nat):Int)*(n:Int))=((0:Nat):Int):=by rw[<-Int.natCast_mul,zGl,Nat.zero_mul]
 have w3:IntKind.u64.wrap (((0:Nat):Int)+((0:Nat):Int))=((0:Nat):Int):=rfl;have w4:IntKind.u64.wrap (((1:Nat):Int)*((0:Nat):Int))=((0:Nat):Int):=rfl;have w5:IntKind.u64.wrap (((0:Nat):Int)*((0:Nat):Int))=((0:Nat):Int):=rfl;have ob:∀{op:ABin} {x y:Opd} {loc:T AV} {tmp:List AV} {h':AH},evOp (.bin op x y) loc tmp h'=oBin op (.c (ev loc tmp x)) (.c (ev loc tmp y)) .leaf [] h':=rfl;refine GE.gp (zAi H.t182 rfl ?_) (E:=λ_ _=>False) λ_ _ x=>x;simp+decide only[RL,↓reduceIte,i0,ob,a1,a0,an,s1,s0,sn,w1,w2,w3,w4,w5]
include H in
theorem mul_gp{n:Nat}(hn:n<=1000000):GP tab 151 [.int .u64 ((1:Nat):Int),.int .u64 (n:Int)] h λv h1=>v=.tup [.int .u64 ((0:Nat):Int),.int .u64 (n:Int)]/\h1=h:=by
 have i0:zAb [.int .u64 ((1:Nat):Int),.int .u64 (n:Int)]=zAa [.int .u64 ((1:Nat):Int),.int .u64 (n:Int)]:=rfl;have e1:∀{R E:AV->AH->Prop},GE tab 182 [.int .u64 ((1:Nat):Int),.int .u64 (n:Int)] h R E=R _ h:=ge_rw (mul64_gp H hn);refine GE.gp (zAi H.t151 rfl ?_) (E:=λ_ _=>False) λ_ _ x=>x;simp+decide only[RL,↓reduceIte,i0,e1]
end
theorem zHb:∀{l:List AV} {c:T AV} {off:Nat},(∀i,off<=i->i<off+l.length->c.get i≠none)->zBr l c off=some (putL l c off)
 | [],c,off,_=>rfl
 | v::l,c,off,hx=>by
  cases hw:c.get off with
  | none=>exact absurd hw (hx off (q0c _) (by simp))
  | some w=>
  rw[zDv,hw,zBj,zHb (l:=l) λi h1 h2=>?_]
  ·rfl
  ·rw[T.get_put];split
   ·exact λh=>by cases h
   ·exact hx i (by omega) (by simp;omega)
theorem copy_ok{h:AH}{d doff dl n sz:Nat}{dc:ACap}{p:Option Nat}{src:AV}{new:List AV}{c:T AV}(hs:∀k,zAv 1 src h k=k n new)(hl:new.length=n)(hd:dl≠0)(g:h.mem.get d=some (.cells c sz p false))(hc:∀i,doff<=i->i<doff+min n dl->c.get i≠none):oCopy 1 (.c (.sl d doff dl dc)) (.c src) .leaf [] h=.val (.int .i64 ((min n dl:Nat):Int)) (h.set d (.cells (putL (new.take (min n dl)) c doff) sz p false)):=by
 show zAv 1 src h _=_;rw[hs];have e:Nat.beq dl 0=false:=by cases dl with | zero=>exact absurd rfl hd | succ n=>rfl
 have em:nmin n dl=min n dl:=by unfold nmin;rw[bi_eq];split<;>rename_i hh<;>simp at hh<;>omega
 show bi (Nat.beq dl 0) _ (zAq (AH.get h d) _)=_;rw[e,zBi,q2f,g];show obind (zBr (ltake (Nat.mul (nmin n dl) 1) new) c doff) _ _=_;rw[em,zFy,show Nat.mul (min n dl) 1=min n dl from Nat.mul_one _,zHb (λi h1 h2=>hc i h1 (by rw[q0v] at h2;omega))];show natV (min n dl) _=_;rw[zCj]
theorem slk_lo{kill:Bool}{es id off len cp lo:Nat}(h1:lo<=len)(h2:len<=cp)(h3:lo<cp){h':AH}:zAs kill es (.c (.sl id off len (.known cp))) (some (.c (.int .i64 (lo:Int)))) none none .leaf [] h'=.val (.sl id (off+lo*es) (len-lo) (.known (cp-lo))) h':=by
 show bi (Nat.ble cp cp) (bi (Nat.ble len cp) (bi (Nat.ble lo len) (fN (Nat.sub len lo) λn=>fN (Nat.sub cp lo) λm=>bi (Nat.beq m 0) (OR.val (AV.sl id off n (ACap.known m)) h') (fN (Nat.add off (Nat.mul lo es)) λoff=>OR.val (AV.sl id off n (ACap.known m)) h')) (F 35)) (F 35)) (F 35)=_;rw[bi_eq,if_pos (Nat.ble_eq.mpr (q0c _)),bi_eq,if_pos (Nat.ble_eq.mpr h2),bi_eq,if_pos (Nat.ble_eq.mpr h1),fN_eq,fN_eq,fN_eq];have e:Nat.beq (Nat.sub cp lo) 0=false:=by rw[zDc];exact decide_eq_false (λe=>by have e:cp-lo=0:=e;omega)
 rw[e];rfl
theorem slk_hi{kill:Bool}{es id off len cp i:Nat}(h1:i<=cp){h':AH}:zAs kill es (.c (.sl id off len (.known cp))) none (some (.c (.int .i64 (i:Int)))) none .leaf [] h'=.val (.sl id off i (.known cp)) h':=by
 show bi (Nat.ble cp cp) (bi (Nat.ble i cp) (bi (Nat.ble 0 i) (fN (Nat.sub i 0) λn=>fN (Nat.sub cp 0) λm=>bi (Nat.beq m 0) (OR.val (AV.sl id off n (ACap.known m)) h') (fN (Nat.add off (Nat.mul 0 es)) λoff=>OR.val (AV.sl id off n (ACap.known m)) h')) (F 35)) (F 35)) (F 35)=_;rw[bi_eq,if_pos (Nat.ble_eq.mpr (q0c _)),bi_eq,if_pos (Nat.ble_eq.mpr h1),bi_eq,if_pos (Nat.ble_eq.mpr (q0k _)),fN_eq,fN_eq,fN_eq];have e:Nat.add off (Nat.mul 0 es)=off:=by simp
 rw[e];show bi (Nat.beq cp 0) _ _=_;rw[bi_eq];split<;>rfl
theorem op_copy{es:Nat}{x y:Opd}{loc:T AV}{tmp:List AV}{h:AH}:evOp (.copy es x y) loc tmp h=oCopy es (.c (ev loc tmp x)) (.c (ev loc tmp y)) .leaf [] h:=rfl
section
variable{tab:Nat->Option AFunc}{h:AH}(H:PV tab)
include H in
theorem rep_gp{n id:Nat}{x:Int}(hn:n<=1000000)(g:h.mem.get id=some (.cells (zAa [iv x]) 1 none false))(hid:id<h.next):GP tab 113 [.sl id 0 1 (.known 1),.int .i64 (n:Int)] h λv h1=>Arr h1 (λk=>h.next<=k) v (List.replicate n (iv x))/\More h h1:=by
 have i0:zAb [.sl id 0 1 (.known 1),.int .i64 (n:Int)]=zAa [.sl id 0 1 (.known 1),.int .i64 (n:Int)]:=rfl;have e1:∀{h':AH} {R E:AV->AH->Prop},GE tab 151 [.int .u64 ((1:Nat):Int),.int .u64 (n:Int)] h' R E=R _ h':=ge_rw (mul_gp H hn);have c1:IntKind.u64.wrap ((1:Nat):Int)=((1:Nat):Int):=rfl;have cn:IntKind.u64.wrap (n:Int)=(n:Int):=by rw[zGl,Nat.mod_eq_of_lt (by omega)]
 have ci:IntKind.i64.wrap (n:Int)=(n:Int):=zGm (by omega) (by omega);have z:¬(n:Int)<((0:Nat):Int):=by omega
 have z1:¬((0:Nat):Int)<((0:Nat):Int):=by omega
 have z2:¬((9223372036854775807:Nat):Int)<(n:Int):=by omega
 have oc:∀{k:IntKind} {x:Opd} {loc:T AV} {tmp:List AV} {h':AH},evOp (.convI k x) loc tmp h'=oConvI k (.c (ev loc tmp x)) .leaf [] h':=rfl;refine GE.gp (zAi H.t113 rfl ?_) (E:=λ_ _=>False) λ_ _ x=>x;have mks:∀h':AH,zB0 [.int .i64 ((0:Nat):Int)] 8 (.c (.int .i64 (n:Int))) (.c (.int .i64 (n:Int))) .leaf [] h'=_:=λh'=>zD6 hn (by omega);have m1:=q2g h (.cells (zAa (List.replicate n (iv ((0:Nat):Int)))) n none false);have g1:(h.add (.cells (zAa (List.replicate n (iv ((0:Nat):Int)))) n none false)).mem.get h.next=some (.cells (zAa (List.replicate n (iv ((0:Nat):Int)))) n none false):=by rw[q2a,q1b]
 have gs:(h.add (.cells (zAa (List.replicate n (iv ((0:Nat):Int)))) n none false)).mem.get id=some (.cells (zAa [iv x]) 1 none false):=(m1.keep id hid).trans g;have n1:(h.add (.cells (zAa (List.replicate n (iv ((0:Nat):Int)))) n none false)).next=h.next+1:=rfl;by_cases hn0:n=0
 ·subst hn0;have cp:∀h',oCopy 1 (.c (.sl h.next 0 0 (.known 0))) (.c (.sl id 0 1 (.known 1))) .leaf [] h'=zAv 1 (.sl id 0 1 (.known 1)) h' λ_ _=>.val (.int .i64 ((0:Nat):Int)) h':=λ_=>rfl;have cp:oCopy 1 (.c (.sl h.next 0 0 (.known 0))) (.c (.sl id 0 1 (.known 1))) .leaf [] (h.add (.cells (zAa (List.replicate 0 (iv ((0:Nat):Int)))) 0 none false))=.val (.int .i64 ((0:Nat):Int)) _:=(cp _).trans (zFd (by decide) gs (zBk (show(zAa [iv x]).get 0=_ from zAe _ _) rfl) _);simp+decide only[RL,↓reduceIte,i0,e1,c1,cn,ci,z,z2,oc,zBz,mks,op_copy,cp,zB8];exact⟨.emp (q0c _) (q0h _),m1⟩
 ·have cp:=copy_ok (h:=h.add (.cells (zAa (List.replicate n (iv ((0:Nat):Int)))) n none false)) (d:=h.next) (doff:=0) (dl:=n) (dc:=.known n) (src:=.sl id 0 1 (.known 1)) (n:=1) (new:=[iv x]) (λk=>zFd (by decide) gs (zBk (show(zAa [iv x]).get 0=_ from zAe _ _) rfl) k) rfl hn0 g1 (λi _ h2=>by rw[zAe,q0z,if_pos (by omega)];exact λe=>by cases e);have em:min 1 n=1:=by omega
  rw[em] at cp;simp+decide only[RL,↓reduceIte,i0,e1,c1,cn,ci,z,z1,z2,oc,zBz,mks,op_copy,cp];generalize hgen:h.add (.cells (zAa (List.replicate n (iv ((0:Nat):Int)))) n none false)=h1 at *;refine zAd (λm l d h2=>∃k c,m=n-k/\1<=k/\k<=n/\d=[]/\More h h2/\h2.next=h.next+1/\h2.mem.get h.next=some (.cells c n none false)/\(∀i,i<n->c.get i=some (iv (if i<k then x else 0)))/\l.get 6=some (.sl h.next 0 n (.known n))/\l.get 7=some (.int .i64 (k:Int))) ?_ (n-1) ⟨1,_,rfl,q0c _,by omega,rfl,m1.set (q0c _) _,by rw[q2b];exact n1,q2d,λi hi=>?_,rfl,rfl⟩
  ·rintro m l d h2 ⟨k,c,rfl,hk1,hk,rfl,m2,n2,g2,gc,l6,l7⟩;by_cases hlt:k<n
   ·have t1:∀h',zAs false 1 (.c (.sl h.next 0 n (.known n))) (some (.c (.int .i64 (k:Int)))) none none .leaf [] h'=.val (.sl h.next k (n-k) (.known (n-k))) h':=λ_=>(slk_lo (by omega) (q0c _) hlt).trans (by rw[q0I,Nat.mul_one]);have t2:∀h',zAs false 1 (.c (.sl h.next 0 n (.known n))) none (some (.c (.int .i64 (k:Int)))) none .leaf [] h'=.val (.sl h.next 0 k (.known n)) h':=λ_=>slk_hi hk;have ld:loadL c (k*1) 0=some (List.replicate k (iv x)):=by
     have:=zBh (List.replicate k (iv x)) c 0 λj hj=>by
      rw[q0q] at hj;rw[q0I,gc j (by omega),if_pos hj,q0z,if_pos hj]
     rw[q0q] at this;rw[Nat.mul_one];exact this
    have cp:=copy_ok (h:=h2) (d:=h.next) (doff:=k) (dl:=n-k) (dc:=.known (n-k)) (src:=.sl h.next 0 k (.known n)) (n:=k) (λf=>zFd (by omega) g2 ld f) (q0q) (by omega) g2 (λi h1 h3=>by rw[gc i (by omega)];exact λe=>by cases e);have w:IntKind.i64.wrap ((k:Int)+((min k (n-k):Nat):Int))=((k+min k (n-k):Nat):Int):=wrap_add (by omega);simp only[RL,↓reduceIte,l6,l7,hlt,zBy,zCq,t1,t2,op_copy,cp,w];refine⟨n-(k+min k (n-k)),by omega,k+min k (n-k),_,rfl,by omega,by omega,m2.set (q0c _) _,n2,rfl,λi hi=>?_,rfl⟩;rw[zB9,q0v,q0q];by_cases e1:k<=i/\i<k+min (min k (n-k)) k
    ·rw[if_pos e1,if_pos (by omega),List.getElem?_take,if_pos (by omega),q0z,if_pos (by omega)]
    ·rw[if_neg e1,gc i hi];congr 2;by_cases e2:i<k
     ·rw[if_pos e2,if_pos (by omega)]
     ·rw[if_neg e2,if_neg (by omega)]
   ·have hke:k=n:=by omega
    subst hke;simp only[RL,↓reduceIte,l6,l7,hlt];refine⟨?_,m2⟩;have:=Arr.sl (h:=h2) (F:=λq=>h.next<=q) (id:=h.next) (s:=k) (c:=c) (cap:=.known (List.replicate k (iv x)).length) (cs:=List.replicate k (iv x)) (λe=>by simp at e;omega) (q0c _) (by omega) g2 (λi hi=>by rw[q0q] at hi;rw[gc i hi,if_pos hi,q0z,if_pos hi]) (.inr rfl) (by rw[q0q];exact hn)
    rwa [q0q] at this
  ·show(T.put (some (iv x)) (zAa (List.replicate n (iv ((0:Nat):Int)))) 0).get i=_;by_cases e:i=0
   ·subst e;rw[q1b];rfl
   ·rw[q1a _ _ _ _ (Ne.symm e),zAe,q0z,if_pos hi,if_neg (by omega)];rfl
end
abbrev Nr:=Nat->Option Nat
inductive Ch(nr:Nr):Nat->Nat->Prop
 | refl (x:Nat):Ch nr x x
 | step {x u y:Nat}:nr x=some u->Ch nr u y->Ch nr x y
structure Gr(n:Nat)(num:Nat->Nat)(ah:Nat->List Nat):Prop where
 inj:∀a b,a<n->b<n->num a=num b->a=b
 lt:∀a,a<n->num a<n
 zero:num 0=0
 pos:0<n
 pre:∀b,b<n->∀p∈ah b,p<n
 par:∀b,b<n->b≠0->∃q∈ah b,num q<num b
structure Ok(n:Nat)(num:Nat->Nat)(nr:Nr):Prop where
 root:nr 0=some 0
 lt:∀b u,nr b=some u->b<n/\u<n/\nr u≠none
 sink:∀b u,nr b=some u->b≠0->num u<num b
section
variable{n:Nat}{num:Nat->Nat}{ah:Nat->List Nat}(G:Gr n num ah){nr:Nr}
theorem Ch.trans{x y z:Nat}(a:Ch nr x y)(b:Ch nr y z):Ch nr x z:=by
 induction a with
 | refl=>exact b
 | step h _ ih=>exact .step h (ih b)
theorem Ok.le(V:Ok n num nr){b u:Nat}(h:nr b=some u):num u<=num b:=by
 by_cases e:b=0
 ·subst e;rw[V.root] at h;injection h with h;subst h;exact q0c _
 ·exact Nat.le_of_lt (V.sink b u h e)
theorem Ch.le(V:Ok n num nr){x y:Nat}(a:Ch nr x y):num y<=num x:=by
 induction a with
 | refl=>exact q0c _
 | step h _ ih=>exact q0m ih (V.le h)
theorem Ch.set(V:Ok n num nr){x y:Nat}(a:Ch nr x y)(h:nr x≠none):nr y≠none:=by
 induction a with
 | refl=>exact h
 | step e _ ih=>exact ih (V.lt _ _ e).2.2
theorem Ch.root(V:Ok n num nr){y:Nat}(a:Ch nr 0 y):y=0:=by
 have:∀x y,Ch nr x y->x=0->y=0:=by
  intro x y a;induction a with
  | refl=>exact λe=>e
  | step h _ ih=>intro e;subst e;rw[V.root] at h;injection h with h;exact ih h.symm
 exact this 0 y a rfl
theorem Ch.cmp(V:Ok n num nr){x y z:Nat}(a:Ch nr x y)(b:Ch nr x z):Ch nr y z\/Ch nr z y:=by
 induction a generalizing z with
 | refl=>exact .inl b
 | step h a ih=>
  cases b with
  | refl=>exact .inr (.step h a)
  | step h' b=>rw[h] at h';injection h' with h';subst h';exact ih b
theorem Ch.down(V:Ok n num nr){x y z:Nat}(a:Ch nr x y)(b:Ch nr x z)(h:num z<=num y):Ch nr y z:=by
 rcases a.cmp V b with c | c
 ·exact c
 ·cases c with
  | refl=>exact .refl _
  | step e c=>
   by_cases h0:z=0
   ·subst h0;have:=(Ch.step e c).root V;subst this;exact .refl _
   ·have:=V.sink _ _ e h0;have:=c.le V;omega
def up(nr:Nr)(c m:Nat):Nr:=λx=>if x=c then some m else nr x
theorem zDu{c m:Nat}:up nr c m c=some m:=if_pos rfl
theorem up_ne{c m x:Nat}(h:x≠c):up nr c m x=nr x:=if_neg h
theorem Ch.up{c m x y:Nat}(a:Ch nr x y)(h:¬Ch nr x c):Ch (up nr c m) x y:=by
 induction a with
 | refl=>exact .refl _
 | step e _ ih=>exact .step ((up_ne λk=>h (by rw[k];exact .refl _)).trans e) (ih λk=>h (.step e k))
theorem Ch.upL(V:Ok n num nr){c m x y:Nat}(a:Ch nr x y)(h:num c<=num y)(h0:c≠0):Ch (Ev.up nr c m) x y:=by
 induction a with
 | refl=>exact .refl _
 | step e b ih=>
  rename_i x u y;by_cases k:x=c
  ·subst k;have:=V.sink _ _ e h0;have:=b.le V;omega
  ·exact .step ((up_ne k).trans e) (ih h)
structure NInv(n:Nat)(num:Nat->Nat)(ah:Nat->List Nat)(nr:Nr)(pc:Nat):Prop where
 V:Ok n num nr
 P:∀b,b<n->num b<pc->nr b≠none
 D:∀b q,nr b≠none->q<n->num q<=num b->nr q≠none
 K:∀b u,nr b=some u->b≠0->∀m,(∀p∈ah b,nr p≠none->Ch nr p m)->num m<=num u
 J:∀b u q,nr b=some u->b≠0->num b<pc->q∈ah b->num q<num b->Ch nr q u
 I:∀b u q,nr b=some u->b≠0->pc<=num b->q∈ah b->num q<num b->Ch nr q u\/(num u<pc/\∀m,Ch nr q m->num m<=num u->Ch nr u m)
structure Meets(ah:Nat->List Nat)(nr:Nr)(c m:Nat):Prop where
 on:∀p∈ah c,nr p≠none->Ch nr p m
 top:∀y,(∀p∈ah c,nr p≠none->Ch nr p y)->Ch nr m y
include G in
theorem NInv.next{c m pc:Nat}(x:NInv n num ah nr pc)(hc:c<n)(hn:num c=pc)(h0:c≠0)(M:Meets ah nr c m):NInv n num ah (up nr c m) (pc+1)/\(∀u,nr c=some u->num m<=num u)/\num m<num c/\m<n:=by
 obtain⟨q0,hq0,hlt⟩:=G.par c hc h0;have hq0n:=G.pre c hc q0 hq0;have V:=x.V;have hs0:nr q0≠none:=x.P q0 hq0n (by omega);have hm0:Ch nr q0 m:=M.on q0 hq0 hs0;have hmlt:num m<num c:=Nat.lt_of_le_of_lt (hm0.le V) hlt;have hms:nr m≠none:=hm0.set V hs0;have hmn:m<n:=by
  cases e:nr m with
  | none=>exact(hms e).elim
  | some u=>exact(V.lt _ _ e).1
 have hmc:m≠c:=λe=>by rw[e] at hmlt;omega
 have key:∀u,nr c=some u->num m<=num u/\Ch nr u m:=by
  intro u hu;have h1:num m<=num u:=x.K c u hu h0 m M.on;rcases x.I c u q0 hu h0 (by omega) hq0 hlt with h2 | ⟨_,h2⟩
  ·exact⟨h1,h2.down V hm0 h1⟩
  ·exact⟨h1,h2 m hm0 h1⟩
 have mono:∀p y,nr p≠none->Ch (up nr c m) p y->Ch nr p y:=by
  intro p y hp a;induction a with
  | refl=>exact .refl _
  | step e b ih=>
   rename_i x' u y;by_cases k:x'=c
   ·subst k;rw[zDu] at e;injection e with e;subst e;cases e':nr x' with
    | none=>exact(hp e').elim
    | some w=>exact .step e' ((key w e').2.trans (ih hms))
   ·rw[up_ne k] at e;exact .step e (ih (V.lt _ _ e).2.2)
 have low:∀q y,num q<num c->Ch nr q y->Ch (up nr c m) q y:=λq y hq a=>a.up λk=>by have:=k.le V;omega
 have sets:∀b,nr b≠none->up nr c m b≠none:=λb hb=>by
  by_cases k:b=c
  ·rw[k,zDu];exact λe=>by cases e
  ·rw[up_ne k];exact hb
 refine⟨⟨⟨by rw[up_ne (λe=>h0 e.symm)];exact V.root,λb u hb=>?_,λb u hb hb0=>?_⟩,λb hb hp=>?_,λb q hb hq hle=>?_,λb u hb hb0 y hy=>?_,λb u q hb hb0 hp hq hql=>?_,λb u q hb hb0 hp hq hql=>?_⟩,λu hu=>(key u hu).1,hmlt,hmn⟩
 ·by_cases k:b=c
  ·subst k;rw[zDu] at hb;injection hb with hb;subst hb;exact⟨hc,hmn,sets _ hms⟩
  ·rw[up_ne k] at hb;have:=V.lt _ _ hb;exact⟨this.1,this.2.1,sets _ this.2.2⟩
 ·by_cases k:b=c
  ·subst k;rw[zDu] at hb;injection hb with hb;subst hb;exact hmlt
  ·rw[up_ne k] at hb;exact V.sink _ _ hb hb0
 ·by_cases k:b=c
  ·rw[k,zDu];exact λe=>by cases e
  ·exact sets b (x.P b hb (by
    have:num b≠num c:=λe=>k (G.inj _ _ hb hc e);omega))
 ·by_cases k:b=c
  ·subst k;by_cases k2:q=b
   ·rw[k2,zDu];exact λe=>by cases e
   ·exact sets q (x.P q hq (by
     have:num q≠num b:=λe=>k2 (G.inj _ _ hq hc e);omega))
  ·rw[up_ne k] at hb;exact sets q (x.D b q hb hq hle)
 ·by_cases k:b=c
  ·subst k;rw[zDu] at hb;injection hb with hb;subst hb;exact(M.top y λp hp hs=>mono p y hs (hy p hp (sets p hs))).le V
  ·rw[up_ne k] at hb;exact x.K b u hb hb0 y λp hp hs=>mono p y hs (hy p hp (sets p hs))
 ·by_cases k:b=c
  ·subst k;rw[zDu] at hb;injection hb with hb;subst hb;have hqn:=G.pre b hc q hq;exact low _ _ hql (M.on q hq (x.P q hqn (by omega)))
  ·rw[up_ne k] at hb;have hbn:=(V.lt _ _ hb).1;have:num b≠num c:=λe=>k (G.inj _ _ hbn hc e);exact low _ _ (by omega) (x.J b u q hb hb0 (by omega) hq hql)
 ·have k:b≠c:=λe=>by subst e;omega
  rw[up_ne k] at hb;have hbn:=(V.lt _ _ hb).1;have hqs:nr q≠none:=x.D b q (by rw[hb];exact λe=>by cases e) (G.pre b hbn q hq) (by omega);have hcs:nr c≠none:=x.D b c (by rw[hb];exact λe=>by cases e) hc (by omega);rcases x.I b u q hb hb0 (by omega) hq hql with h1 | ⟨h1,h2⟩
  ·by_cases hu:num c<=num u
   ·exact .inl (h1.upL V hu h0)
   ·refine .inr ⟨by omega,λy hy hyu=>?_⟩;exact low _ _ (by omega) (h1.down V (mono q y hqs hy) hyu)
  ·exact .inr ⟨by omega,λy hy hyu=>low _ _ (by omega) (h2 y (mono q y hqs hy) hyu)⟩
include G in
theorem NInv.again(x:NInv n num ah nr n):NInv n num ah nr 1:=
 ⟨x.V,λb hb h=>x.P b hb (by have:=G.pos;omega),x.D,x.K,λb u q hb hb0 h _ _=>by
  have hbn:=(x.V.lt _ _ hb).1;exact(hb0 (G.inj _ _ hbn G.pos (by rw[G.zero];omega))).elim,λb u q hb hb0 _ hq hql=>.inl (x.J b u q hb hb0 (G.lt _ (x.V.lt _ _ hb).1) hq hql)⟩
def nr0:Nr:=λx=>if x=0 then some 0 else none
include G in
theorem NInv.init:NInv n num ah nr0 1:=by
 have h:∀b u,nr0 b=some u->b=0/\u=0:=λb u h=>by
  unfold nr0 at h;split at h
  ·injection h with h;exact⟨by assumption,h.symm⟩
  ·cases h
 have h':∀b,nr0 b≠none->b=0:=λb hb=>by
  unfold nr0 at hb;split at hb
  ·assumption
  ·exact(hb rfl).elim
 refine⟨⟨rfl,λb u e=>by obtain⟨rfl,rfl⟩:=h b u e;exact⟨G.pos,G.pos,λe=>by cases e⟩,λb u e hb=>(hb (h b u e).1).elim⟩,λb hb hp=>?_,λb q hb hq hle=>?_,λb u e hb=>(hb (h b u e).1).elim,λb u q e hb=>(hb (h b u e).1).elim,λb u q e hb=>(hb (h b u e).1).elim⟩
 ·have:b=0:=G.inj _ _ hb G.pos (by rw[G.zero];omega);subst this;exact λe=>by cases e
 ·have:=h' b hb;subst this;have:q=0:=G.inj _ _ hq G.pos (by rw[G.zero] at *;omega);subst this;exact λe=>by cases e
end
end Go.Ev
