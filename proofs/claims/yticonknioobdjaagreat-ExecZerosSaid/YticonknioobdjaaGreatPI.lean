/- VaZ5 VaZ6 VaZ7 VaZ8 VaZ9 ExS ExP NuW MaA MaS MaO MaO2 MaO3 -/
import Derived.Test.YticonknioobdjaaGreatPH
import Derived.Test.YticonknioobdjaaGreatPE
set_option linter.unusedSimpArgs false
set_option linter.unusedVariables false
set_option linter.unusedSectionVars false
set_option linter.defProp false
set_option maxRecDepth 100000
set_option maxHeartbeats 4000000
namespace Go.Ev
open Go
section
variable{tab:Nat->Option AFunc}{h0 h:AH}(H:PV tab)
include H in
theorem isLaid_gp{C:Nat}{f:FunD}{c:T AV}(m0:More h0 h)(hC:C<h.next)(h0C:h0.next<=C)(g:h.mem.get C=some (.cells c 13 none false)){vi vb:AV}(g7:c.get 7=some vi)(g8:c.get 8=some vb)(g9:c.get 9=some .nils)(g10:c.get 10=some .nils)(si:SlV h0 5 (InsV h0) vi f.ins)(sb:SlV h0 5 (BlkV h0) vb f.blocks)(hn:f.ins.length<=100000) :
  GP tab 69 [.ptr C 0] h λv h1=>v=.bool (laidS f).isSome/\More h0 h1/\C<h1.next/\∀s,laidS f=some s->∃vw vx,LdS h0 h1 C f.ins.length (T.put (some vx) (T.put (some vw) c 9) 10) vw vx s:=by
 have i0:zAb [.ptr C 0]=zAa [.ptr C 0]:=rfl;have li:=si.len;have mi:=si.mv;have lb:=sb.len;have mb:=sb.mv;refine GE.gp (zAi H.t69 rfl ?_) (E:=λ_ _=>False) λ_ _ x=>x;have neC:¬h.next=C:=by omega
 simp+decide(disch:=omega)only[RL,↓reduceIte,i0,g,g7,li,neg1];refine zCu λhB eB=>?_;have mB:More h hB:=by rw[eB];exact q2g _ _
 have gB:hB.mem.get h.next=some (.cells (zAa [iv (-1)]) 1 none false):=by rw[eB,q2a,q1b]
 have nB:hB.next=h.next+1:=by rw[eB];rfl
 refine(rep_gp H (by omega:f.ins.length<=1000000) gB (by omega)).to λvw h2 q=>?_;obtain⟨a1,m2⟩:=q;have g2:=((mB.trans m2).keep _ hC).trans g;have mks:∀h':AH,zB0 [.int .i64 ((0:Nat):Int)] 8 (.c (.int .i64 (f.ins.length:Int))) (.c (.int .i64 (f.ins.length:Int))) .leaf [] h'=_:=λh'=>zD6 (by omega) (by omega);have mw:∀h',oMove (.c vw) .leaf [] h'=.val vw h':=λ_=>zAg a1.mv;have cw:=a1.cells;have ne2:¬h2.next=C:=by have:=m2.next;omega
 simp+decide(disch:=omega)only[RL,↓reduceIte,g2,g7,g8,g9,g10,li,lb,cw,zBz,mks,ne2];refine zHf λh3 e3=>?_;have hL0:LdS h0 h3 C f.ins.length (T.put (some (.sl h2.next 0 f.ins.length (.known f.ins.length))) (T.put (some vw) c 9) 10) vw (.sl h2.next 0 f.ins.length (.known f.ins.length)) (List.replicate f.ins.length (-1),List.replicate f.ins.length 0):=by
  have nx:=m2.next;have a2:=(a1.keep (h':=h2.set C (.cells (T.put (some vw) c 9) 13 none false)) (Stay.set (Stay.refl _ _) (λ_ (e:hB.next<=C)=>by omega) _) λ_ f _=>f);have a3:=Arr.mk (h2.set C (.cells (T.put (some vw) c 9) 13 none false)) (iv ((0:Nat):Int)) (show f.ins.length<=1000000 by omega);have a2':=a2.keep (Stay.add (Stay.refl _ _) (.cells (zAa (List.replicate f.ins.length (iv ((0:Nat):Int)))) f.ins.length none false)) λ_ f _=>f;have m3:More h0 (h2.set C (.cells (T.put (some vw) c 9) 13 none false)):=((m0.trans mB).trans m2).set h0C _;have n0:=m0.next;rw[e3];refine⟨(m3.trans (q2g _ _)).set h0C _,?_,h0C,q2d,by rw[q1a _ _ _ _ (by decide),q1b],q1b _ _ _,?_,?_,q0q,q0q⟩
  ·show C<h2.next+1;omega
  ·rw[List.map_replicate];exact a2'.keep (Stay.set (Stay.refl _ _) (λ_ (e:hB.next<=C)=>by omega) _) λk (e:hB.next<=k) _=>⟨by omega,by omega⟩
  ·rw[List.map_replicate];refine a3.keep (Stay.set (F:=λk=>k=h2.next) (Stay.refl _ _) (λ_ (e:C=h2.next)=>by omega) _) λk (e:k=h2.next) _=>⟨by omega,by omega,λo l n e'=>?_⟩;rw[e'] at a1;have:=a1.isF;omega
 clear e3;generalize AV.sl h2.next 0 f.ins.length (.known f.ins.length)=vx at *;obtain⟨c',ec⟩:∃c',c'=T.put (some vx) (T.put (some vw) c 9) 10:=⟨_,rfl⟩;have k7:c'.get 7=some vi:=by rw[ec,q1a _ _ _ _ (by decide),q1a _ _ _ _ (by decide)];exact g7
 have k8:c'.get 8=some vb:=by rw[ec,q1a _ _ _ _ (by decide),q1a _ _ _ _ (by decide)];exact g8
 rw[<-ec] at hL0;have hbb:=sb.bound;unfold maxLen at hbb;refine zAd (λm l d h1=>∃k s,m=f.blocks.length-k/\k<=f.blocks.length/\d=[]/\laidB f k=some s/\LdS h0 h1 C f.ins.length c' vw vx s/\l.get 0=some (.ptr C 0)/\l.get 1=some (.int .i64 (k:Int))/\l.get 2=some (.int .i64 (f.blocks.length:Int))/\l.get 4=some vb) ?_ (f.blocks.length-0) ⟨0,_,rfl,q0k _,rfl,rfl,hL0,rfl,rfl,rfl,rfl⟩;rintro m l d h1 ⟨k,s,rfl,hk,rfl,hs,L,l0,l1,l2,l4⟩;by_cases hlt:k<f.blocks.length
 ·haveI:MoreC h0 h1:=⟨L.m⟩;obtain⟨ib,ob,Eb,jb,eb,⟨vli,rfl,sl,q0,q1,q2,q3⟩,ldb,-⟩:=sb.at hlt;have ldb:=ldb h1;have ml:=sl.mv;have ll:=sl.len;simp+decide(disch:=omega)only[RL,↓reduceIte,l1,l2,l4,hlt,jb,ldb,ll];refine zHf λhA eA=>?_;have L:=L.more (h':=hA) (by rw[eA];exact(q2g _ _).set (q0c _) _);clear eA;have eL:=zIn hlt;have hlb:=sl.bound;unfold maxLen at hlb;refine zAd (λm l d h1=>∃j s,m=f.blocks[k].list.length-j/\j<=f.blocks[k].list.length/\d=[]/\laidN f.ins.length k (listB f k) (laidB f k) j=some s/\LdS h0 h1 C f.ins.length c' vw vx s/\l.get 0=some (.ptr C 0)/\l.get 1=some (.int .i64 (k:Int))/\l.get 2=some (.int .i64 (f.blocks.length:Int))/\l.get 4=some vb/\l.get 6=some (.int .i64 (j:Int))/\l.get 7=some (.int .i64 (f.blocks[k].list.length:Int))/\l.get 9=some vli/\l.get 12=some (.int .i64 (k:Int))) ?_ (f.blocks[k].list.length-0) ⟨0,s,rfl,q0k _,rfl,hs,L,by simp+decide(disch:=omega)only[RL,↓reduceIte,l0],by simp+decide(disch:=omega)only[RL,↓reduceIte,l1],by simp+decide(disch:=omega)only[RL,↓reduceIte,l2],by simp+decide(disch:=omega)only[RL,↓reduceIte,l4],by simp(disch:=omega)only[RL,↓reduceIte],by simp(disch:=omega)only[RL,↓reduceIte],by simp+decide(disch:=omega)only[RL,↓reduceIte],by simp+decide(disch:=omega)only[RL,↓reduceIte]⟩
  clear l0 l1 l2 l4 L ldb;rintro m l d h1 ⟨j,t,rfl,hj,rfl,ht,L,l0,l1,l2,l4,l6,l7,l9,l12⟩;haveI:MoreC h0 h1:=⟨L.m⟩;have gC:=L.g;have mC:=L.m;have nC:=L.hC;by_cases hjt:j<f.blocks[k].list.length
  ·obtain⟨id,o,E,ix,e1,⟨rfl,i64⟩,ld,lw⟩:=sl.at hjt;have lw:oLoad (.c (.ptr id o)) .leaf [] h1=.val (.int .i64 f.blocks[k].list[j]) h1:=lw 0 _ rfl h1;have eg:(listB f k).getD j 0=f.blocks[k].list[j]:=by rw[eL,q0e,q0a hjt];rfl
   have st:laidN f.ins.length k (listB f k) (laidB f k) (j+1)=if 0<=f.blocks[k].list[j]/\(f.blocks[k].list[j]).toNat<f.ins.length/\t.1.getD (f.blocks[k].list[j]).toNat 0=-1 then some (t.1.set (f.blocks[k].list[j]).toNat (k:Int),t.2.set (f.blocks[k].list[j]).toNat (j:Int)) else none:=by
    show zGw _ _ _ _ _=_;rw[ht,eg];rfl
   generalize f.blocks[k].list[j]=z at *;have bad:laidN f.ins.length k (listB f k) (laidB f k) (j+1)=none->laidS f=none:=λe=>laidB_end (b:=k+1) (laidN_end e (by rw[eL];omega)) hlt;have em:∀s:Laid,(none=some s->∃vw vx,LdS h0 h1 C f.ins.length (T.put (some vx) (T.put (some vw) c 9) 10) vw vx s)=True:=λs=>eq_true λe=>by cases e
   by_cases z0:z<((0:Nat):Int)
   ·rw[if_neg (λe=>by omega)] at st;have hN:=bad st;simp+decide(disch:=omega)only[RL,↓reduceIte,l0,l1,l2,l4,l6,l7,l9,hjt,ix,lw,z0,hN,q0M];exact⟨mC,nC,λs e=>by cases e⟩
   by_cases z1:(f.ins.length:Int)<=z
   ·rw[if_neg (λe=>by omega)] at st;have hN:=bad st;simp+decide(disch:=omega)only[RL,↓reduceIte,l0,l1,l2,l4,l6,l7,l9,hjt,ix,lw,z0,gC,k7,li,z1,hN,q0M];exact⟨mC,nC,λs e=>by cases e⟩
   obtain⟨y,rfl⟩:∃y:Nat,z=y:=⟨z.toNat,by omega⟩;rw[q0n] at st;have hy:y<f.ins.length:=by omega
   obtain⟨id1,s1,c1,cap1,id2,s2,c2,cap2,rfl,rfl,g1,v1,g2,v2,n12,n1C,n2C,L'⟩:=L.put hy (k:Int) (j:Int);have k9:=L.c9;have k10:=L.c10;by_cases z2:t.1.getD y 0=-1
   ·rw[if_pos ⟨by omega,hy,z2⟩] at st;rw[z2] at v1;have n21:¬id2=id1:=λe=>n12 e.symm;simp+decide(disch:=omega)only[RL,↓reduceIte,l0,l1,l2,l4,l6,l7,l9,l12,hjt,ix,lw,z0,gC,k7,li,z1,k9,k10,g1,v1,g2,v2,n12];exact⟨_,by omega,j+1,_,rfl,by omega,st,L',rfl⟩
   ·rw[if_neg (λe=>z2 e.2.2)] at st;have hN:=bad st;simp+decide(disch:=omega)only[RL,↓reduceIte,l0,l1,l2,l4,l6,l7,l9,l12,hjt,ix,lw,z0,gC,k7,li,z1,k9,k10,g1,v1,z2,hN,q0M];exact⟨mC,nC,λs e=>by cases e⟩
  ·obtain rfl:j=f.blocks[k].list.length:=by omega
   simp+decide(disch:=omega)only[RL,↓reduceIte,l0,l1,l2,l4,l6,l7,l9,hjt];refine⟨_,by omega,k+1,t,rfl,by omega,?_,L,rfl⟩;show laidN _ _ _ _ (listB f k).length=_;rw[eL] at ht ⊢;exact ht
 ·obtain rfl:k=f.blocks.length:=by omega
  have hs:laidS f=some s:=hs;simp(disch:=omega)only[RL,↓reduceIte,l1,l2,l4,hlt,hs,q0J];refine⟨L.m,L.hC,λt ht=>?_⟩;injection ht with ht;subst ht;exact⟨vw,vx,by rw[<-ec];exact L⟩
end
def linkS(f:FunD):Bool:=f.blocks.all (jumpS f)&&!decide (false∈(walkS f).1)
section
variable{tab:Nat->Option AFunc}{h:AH}(H:PV tab)
include H in
theorem isLinked1_gp{C:Nat}{p:ProgD}{f:FunD}{c:T AV}(x:CkB h C p f c){E:List AV}{y:BlkD}{h0:AH}(r:BlkV h0 E y){b:Nat}(hb:b<h.next)(g:h.mem.get b=some (.cells (zAa [.ptr C 0]) 1 none false)):GP tab 115 [.agg E,.ptr b 0] h λv h1=>v=.bool (!jumpS f y)/\More h h1:=by
 have r0:=r;obtain⟨vli,rfl,sl,j0,j1,j2,j3⟩:=r;have i0:zAb [.agg [vli,.int .i64 y.jump,.int .i64 y.arg,.int .i64 y.to0,.int .i64 y.to1],.ptr b 0]=zAa [.agg [vli,.int .i64 y.jump,.int .i64 y.arg,.int .i64 y.to0,.int .i64 y.to1],.ptr b 0]:=rfl;refine GE.gp (zAi H.t115 rfl ?_) (E:=λ_ _=>False) λ_ _ x=>x;have nb:¬h.next=b:=by omega
 have M:=q2g h (.cells (zAa [vli,.int .i64 y.jump,.int .i64 y.arg,.int .i64 y.to0,.int .i64 y.to1]) 5 none false);have ld:zAy 5 (.c (.ptr h.next 0)) .leaf [] (h.add (.cells (zAa [vli,.int .i64 y.jump,.int .i64 y.arg,.int .i64 y.to0,.int .i64 y.to1]) 5 none false))=.val (.agg [vli,.int .i64 y.jump,.int .i64 y.arg,.int .i64 y.to0,.int .i64 y.to1]) _:=zAp (by rw[q2a,q1b]) rfl;simp+decide only[RL,↓reduceIte,i0,g,nb,ld];refine(isJump_gp H (x.more M) r0).to λw h2 q=>?_;obtain⟨rfl,m2⟩:=q;simp only[RL,↓reduceIte];exact M.trans m2
include H in
theorem isLinked_gp{C:Nat}{p:ProgD}{f:FunD}{c:T AV}(x:CkB h C p f c)(hbn:f.blocks.length<=1000)(hb0:0<f.blocks.length):GP tab 70 [.ptr C 0] h λv h1=>v=.bool (linkS f)/\More h h1:=by
 have X:=x;obtain⟨vs,vg,vf,n,vp,r,vl,vi,vb,g,hC,g0,g1,g2,g3,g4,g5,g6,g7,g8,rfl,rfl,s1,s2,s3,s4,s5,s6,s7,k1,k2⟩:=x;have i0:zAb [.ptr C 0]=zAa [.ptr C 0]:=rfl;have mv:=s7.mv;have M:=q2g h (.cells (zAa [.ptr C 0]) 1 none false);have gB:(h.add (.cells (zAa [.ptr C 0]) 1 none false)).mem.get h.next=some (.cells (zAa [.ptr C 0]) 1 none false):=by rw[q2a,q1b]
 have eF:FunV h [sv f.name,vp,sv f.result,vl,vi,vb] f:=⟨vp,vl,vi,vb,rfl,s4,s5,s6,s7,k1,k2⟩;refine GE.gp (zAi H.t70 rfl ?_) (E:=λ_ _=>False) λ_ _ x=>x;have neC:¬h.next=C:=by omega
 unfold linkS;simp+decide only[RL,↓reduceIte,i0,g,g8,neC];refine(anyBlock_gp H (s7.more M λ_ _ r=>r) λh1 m E x _ r=>isLinked1_gp H (X.more (M.trans m)) r (q0d (q0h _) m.next) ((m.keep _ (q0h _)).trans gB)).to λw h2 q=>?_;obtain⟨rfl,m2⟩:=q;have M2:=M.trans m2;have gC2:=(M2.keep _ hC).trans g;have gB2:=(m2.keep _ (q0h _)).trans gB;have e:(f.blocks.any λx=>!jumpS f x)=!f.blocks.all (jumpS f):=by rw[List.all_eq_not_any_not,Bool.not_not]
 rw[e];cases ha:f.blocks.all (jumpS f) with
 | false=>simp only[RL,↓reduceIte,eq_true M2,q0D]
 | true=>
  have ld:zAy 6 (.c (.ptr C 3)) .leaf [] h2=.val (.agg [sv f.name,vp,sv f.result,vl,vi,vb]) h2:=zAp gC2 (zBh [sv f.name,vp,sv f.result,vl,vi,vb] c 3 λj hj=>by
   rcases j with _ | _ | _ | _ | _ | _ | j
   ·exact g3
   ·exact g4
   ·exact g5
   ·exact g6
   ·exact g7
   ·exact g8
   ·simp at hj;omega)
  simp only[RL,↓reduceIte,gB2,ld];refine(reached_gp H (eF.more M2) hbn hb0).to λw h3 q=>?_;obtain⟨a3,m3⟩:=q;have sb:SlV h3 1 BoolR w (walkS f).1:=Arr.slG a3 λ_ _=>rfl;have eh:∀{R E:AV->AH->Prop},GE tab 117 [w,.bool false] h3 R E=R (.bool (decide (false∈(walkS f).1))) h3:=ge_rw (hasBool_gp H sb);simp only[RL,↓reduceIte,eh,q0E,eq_true (M2.trans m3)]
def zIb(p:ProgD)(f:FunD):Bool:=decide (f.params.length<=6)&&(decide (f.slots.length<=16384)&&(decide (f.ins.length<=16384)&&(decide (f.blocks.length<=4096)&&(decide (f.blocks.length≠0)&&(f.params.all (zBl p.structs)&&(f.slots.all (zBl p.structs)&&(decide (f.result=[])||zBl p.structs f.result)))))))
include H in
theorem zGg{C:Nat}{p:ProgD}{f:FunD}{c:T AV}(x:CkB h C p f c){t:Str}{b:Nat}(hb:b<h.next)(g:h.mem.get b=some (.cells (zAa [.ptr C 0]) 1 none false)):GP tab 111 [sv t,.ptr b 0] h λv h1=>v=.bool (!zBl p.structs t)/\More h h1:=by
 obtain⟨vs,vg,vf,n,vp,r,vl,vi,vb,gC,hC,g0,g1,g2,g3,g4,g5,g6,g7,g8,en,er,s1,s2,s3,s4,s5,s6,s7,k1,k2⟩:=x;have i0:zAb [sv t,.ptr b 0]=zAa [sv t,.ptr b 0]:=rfl;have mv:=s1.mv;refine GE.gp (zAi H.t111 rfl ?_) (E:=λ_ _=>False) λ_ _ x=>x;simp only[RL,↓reduceIte,i0,g,gC,g0];refine(zF1 H s1).to λw h2 q=>?_;obtain⟨rfl,m2⟩:=q;simp only[RL,↓reduceIte];exact m2
include H in
theorem isFrame_gp{C:Nat}{p:ProgD}{f:FunD}{c:T AV}(x:CkB h C p f c):GP tab 68 [.ptr C 0] h λv h1=>v=.bool (zIb p f)/\More h h1:=by
 have X:=x;obtain⟨vs,vg,vf,n,vp,r,vl,vi,vb,g,hC,g0,g1,g2,g3,g4,g5,g6,g7,g8,rfl,rfl,s1,s2,s3,s4,s5,s6,s7,k1,k2⟩:=x;have i0:zAb [.ptr C 0]=zAa [.ptr C 0]:=rfl;have neC:¬h.next=C:=by omega
 have l36:loadL c 6 3=some [sv f.name,vp,sv f.result,vl,vi,vb]:=zBh [sv f.name,vp,sv f.result,vl,vi,vb] c 3 λj hj=>by
   rcases j with _ | _ | _ | _ | _ | _ | j
   ·exact g3
   ·exact g4
   ·exact g5
   ·exact g6
   ·exact g7
   ·exact g8
   ·simp at hj;omega
 refine GE.gp (zAi H.t68 rfl ?_) (E:=λ_ _=>False) λ_ _ x=>x;have l4:=s4.len;have l5:=s5.len;have l6:=s6.len;have l7:=s7.len;have m4:=s4.mv;have m5:=s5.mv;have m6:=s6.mv;have m7:=s7.mv;rw[zC6,zKh];refine zIk (λl d h1=>d=[]/\More h h1/\h1.mem.get h.next=some (.cells (zAa [.ptr C 0]) 1 none false)/\h.next<h1.next/\l.get 1=some (.ptr h.next 0)/\l.get 2=some (.ptr (h.next+1) 0)/\(∃c,h1.mem.get (h.next+1)=some (.cells c 6 none false)/\h.next+1<h1.next/\c.get 1=some vp/\c.get 2=some (sv f.result)/\c.get 3=some vl/\c.get 4=some vi/\c.get 5=some vb)) ?_ ?_
 ·simp+decide only[RL,↓reduceIte,i0,g,l36,neC];exact⟨((q2g h _).trans (q2g _ _)).set (q0w _) _,rfl,by omega,_,rfl,by omega,rfl,rfl,rfl,rfl,rfl⟩
 rintro l d h1 ⟨rfl,m1,gB,nB,l1,l2,cf,gF,nF,f1,f2,f3,f4,f5⟩;have hE:zIb p f=(decide (f.params.length<=6)&&(decide (f.slots.length<=16384)&&(decide (f.ins.length<=16384)&&(decide (f.blocks.length<=4096)&&(decide (f.blocks.length≠0)&&(f.params.all (zBl p.structs)&&(f.slots.all (zBl p.structs)&&(decide (f.result=[])||zBl p.structs f.result)))))))):=rfl;have M1:=eq_true m1;by_cases c1:((6:Nat):Int)<(f.params.length:Int)
 ·rw[decide_eq_false (show ¬f.params.length<=6 by omega),q0D] at hE;simp only[RL,↓reduceIte,l1,l2,gF,f1,l4,c1,hE,M1]
 rw[decide_eq_true (show f.params.length<=6 by omega),q0E] at hE;by_cases c2:((16384:Nat):Int)<(f.slots.length:Int)
 ·rw[decide_eq_false (show ¬f.slots.length<=16384 by omega),q0D] at hE;simp only[RL,↓reduceIte,l1,l2,gF,f1,f3,l4,l5,c1,c2,hE,M1]
 rw[decide_eq_true (show f.slots.length<=16384 by omega),q0E] at hE;by_cases c3:((16384:Nat):Int)<(f.ins.length:Int)
 ·rw[decide_eq_false (show ¬f.ins.length<=16384 by omega),q0D] at hE;simp only[RL,↓reduceIte,l1,l2,gF,f1,f3,f4,l4,l5,l6,c1,c2,c3,hE,M1]
 rw[decide_eq_true (show f.ins.length<=16384 by omega),q0E] at hE;by_cases c4:((4096:Nat):Int)<(f.blocks.length:Int)
 ·rw[decide_eq_false (show ¬f.blocks.length<=4096 by omega),q0D] at hE;simp only[RL,↓reduceIte,l1,l2,gF,f1,f3,f4,f5,l4,l5,l6,l7,c1,c2,c3,c4,hE,M1]
 rw[decide_eq_true (show f.blocks.length<=4096 by omega),q0E] at hE;by_cases c5:(f.blocks.length:Int)=((0:Nat):Int)
 ·rw[decide_eq_false (show ¬f.blocks.length≠0 by omega),q0D] at hE;simp only[RL,↓reduceIte,l1,l2,gF,f1,f3,f4,f5,l4,l5,l6,l7,c1,c2,c3,c5,Nat.not_lt_zero,hE,M1]
 rw[decide_eq_true (show f.blocks.length≠0 by omega),q0E] at hE;simp only[RL,↓reduceIte,l1,l2,gF,f1,f3,f4,f5,l4,l5,l6,l7,c1,c2,c3,c4,c5];have bad:∀l:List Str,(l.any λt=>!zBl p.structs t)=!l.all (zBl p.structs):=λl=>by rw[List.all_eq_not_any_not,Bool.not_not]
 refine(anyStr_gp H (s4.more m1 λ_ _ r=>r) λh3 m x _ r=>zGg H (X.more (m1.trans m)) (q0d nB m.next) ((m.keep _ nB).trans gB)).to λw h2 q=>?_;obtain⟨rfl,m2⟩:=q;have M2:=m1.trans m2;have gF2:=(m2.keep _ nF).trans gF;have gB2:=(m2.keep _ nB).trans gB;have nF2:=q0d nF m2.next;have nB2:=q0d nB m2.next;rw[bad];cases ha:f.params.all (zBl p.structs) with
 | false=>
  rw[ha,q0D] at hE;simp only[RL,↓reduceIte,eq_true M2,hE]
 | true=>
  rw[ha,q0E] at hE;simp only[RL,↓reduceIte,l2,gF2,f3];refine(anyStr_gp H (s5.more M2 λ_ _ r=>r) λh3 m x _ r=>zGg H (X.more (M2.trans m)) (q0d nB2 m.next) ((m.keep _ nB2).trans gB2)).to λw h3 q=>?_;obtain⟨rfl,m3⟩:=q;have M3:=M2.trans m3;have gF3:=(m3.keep _ nF2).trans gF2;have gB3:=(m3.keep _ nB2).trans gB2;have nB3:=q0d nB2 m3.next;rw[bad];cases hb:f.slots.all (zBl p.structs) with
  | false=>
   rw[hb,q0D] at hE;simp only[RL,↓reduceIte,eq_true M3,hE]
  | true=>
   rw[hb,q0E] at hE;by_cases hr:f.result=[]
   ·rw[decide_eq_true hr,Bool.true_or] at hE;rw[hr] at f2;have f2:cf.get 2=some (sv []):=f2;simp only[RL,↓reduceIte,l2,gF3,f2,eq_true M3,hE]
   ·rw[decide_eq_false hr,Bool.false_or] at hE;have hr':¬[]=f.result:=λe=>hr e.symm;simp only[RL,↓reduceIte,l2,gF3,f2,hr];refine(zGg H (X.more M3) nB3 gB3).to λw h4 q=>?_;obtain⟨rfl,m4⟩:=q;simp only[RL,↓reduceIte,Bool.not_not,hE,eq_true (M3.trans m4)]
end
def findF(p:ProgD)(n:Str):Option Nat:=p.funs.findIdx? λf=>decide (f.name=n)
def zG1(p:ProgD)(i:Nat):Bool:=match p.globals[i]? with
 | some g=>decide (g.name∉(p.globals.take i).map FieldD.name)&&(zB3 g.name&&zBl p.structs g.typ)
 | none=>false
def funAt(p:ProgD)(i:Nat):Bool:=match p.funs[i]? with
 | some f=>decide ((findF p f.name).getD 0=i)&&zB3 f.name
 | none=>false
abbrev tMain:Str:=[109,97,105,110]
def mainS(p:ProgD):Bool:=match findF p tMain with
 | some i=>(match p.funs[i]? with | some f=>decide (f.params.length=0)&&decide (f.result=[]) | none=>false)
 | none=>false
def headS(p:ProgD):Bool:=decide (checkS p.structs=0)&&(decide (p.globals.length<=12)&&(decide (p.funs.length<=24)&&((List.range p.globals.length).all (zG1 p)&&((List.range p.funs.length).all (funAt p)&&mainS p))))
section
variable{tab:Nat->Option AFunc}{h:AH}(H:PV tab)
include H in
theorem vfind1_gp{b:Nat}{x:FunD}{n:Str}{c:T AV}{E:List AV}(r:∃h0,FunV h0 E x)(hb:b<h.next)(g:h.mem.get b=some (.cells c 1 none false))(g0:c.get 0=some (sv n)):GP tab 110 [.agg E,.ptr b 0] h λw h2=>w=.bool (decide (x.name=n))/\More h h2:=by
 obtain⟨h0,vp,vs,vi,vb,rfl,_⟩:=r;have i0:zAb [.agg [sv x.name,vp,sv x.result,vs,vi,vb],.ptr b 0]=zAa [.agg [sv x.name,vp,sv x.result,vs,vi,vb],.ptr b 0]:=rfl;have nb:¬h.next=b:=by omega
 refine gpr H.t110 ?_;simp+decide only[RL,↓reduceIte,i0,g,g0,nb,moreT]
include H in
theorem zK9{E:List AV}{p:ProgD}{n:Str}{h0:AH}(r:ProgV h0 E p)(m:More h0 h):GP tab 67 [.agg E,sv n] h λw h1=>w=placeV (findF p n)/\More h h1:=by
 obtain⟨vs,vg,vf,rfl,r1,r2,r3⟩:=r;have i0:zAb [.agg [vs,vg,vf],sv n]=zAa [.agg [vs,vg,vf],sv n]:=rfl;refine gpr H.t67 ?_;have mv:=r3.mv;simp+decide only[RL,↓reduceIte,i0];refine zCu λhB eB=>?_;have mB:More h hB:=by rw[eB];exact(q2g _ _).trans (q2g _ _)
 have nB:h.next+1<hB.next:=by rw[eB];exact q0h _
 have gB:hB.mem.get (h.next+1)=some (.cells (zAa [sv n]) 1 none false):=by rw[eB,q2a];exact q1b _ _ _
 clear eB;refine(idxFun_gp H (r3.more (m.trans mB) λ_ _=>id) λh1 m1 E x _ r=>vfind1_gp H ⟨h0,r⟩ (by have:=m1.next;omega) ((m1.keep _ nB).trans gB) rfl).to λw h2 q=>?_;obtain⟨rfl,m2⟩:=q;have M:=eq_true (mB.trans m2);cases hf:findF p n with
 | none=>
  have hi:idxP p.funs (λs=>decide (s.name=n))=-1:=by unfold idxP;rw[show p.funs.findIdx? (λs=>decide (s.name=n))=none from hf]
  rw[hi];have l1:¬((0:Nat):Int)<=-1:=by decide
  have l2:(-1:Int)<((0:Nat):Int):=by decide
  simp only[RL,↓reduceIte,l1,l2,M];rfl
 | some i=>
  have hi:idxP p.funs (λs=>decide (s.name=n))=i:=by unfold idxP;rw[show p.funs.findIdx? (λs=>decide (s.name=n))=some i from hf]
  rw[hi];have l1:((0:Nat):Int)<=(i:Int):=by omega
  have l2:¬(i:Int)<((0:Nat):Int):=by omega
  simp only[RL,↓reduceIte,l1,l2,M];rfl
include H in
theorem isHead_gp{E:List AV}{p:ProgD}(r:ProgV h E p):GP tab 35 [.agg E] h λw h1=>w=.bool (headS p)/\More h h1:=by
 have R:=r;obtain⟨vs,vg,vf,rfl,s1,s2,s3⟩:=r;have i0:zAb [.agg [vs,vg,vf]]=zAa [.agg [vs,vg,vf]]:=rfl;have m1:=s1.mv;have m2:=s2.mv;have m3:=s3.mv;have l2:=s2.len;have l3:=s3.len;have hE:headS p=(decide (checkS p.structs=0)&&(decide (p.globals.length<=12)&&(decide (p.funs.length<=24)&&((List.range p.globals.length).all (zG1 p)&&((List.range p.funs.length).all (funAt p)&&mainS p))))):=rfl;refine gpr H.t35 ?_;rw[zC6,zKh];refine zIk (λl d h1=>d=[]/\checkS p.structs=0/\p.globals.length<=12/\p.funs.length<=24/\More h h1/\h.next<h1.next/\h1.mem.get h.next=some (.cells (zAa [vs,vg,vf]) 3 none false)/\l.get 1=some (.ptr h.next 0)) ?_ ?_
 ·simp+decide(disch:=omega)only[RL,↓reduceIte,i0];have ld:zAy 3 (.c (.ptr h.next 0)) .leaf [] (h.add (.cells (zAa [vs,vg,vf]) 3 none false))=.val (.agg [vs,vg,vf]) _:=zAp (by rw[q2a,q1b]) rfl;have MA:=q2g h (.cells (zAa [vs,vg,vf]) 3 none false);refine(check_gp H (show StrsV _ vs p.structs from s1.more MA λ_ _ r=>r.more MA)).to λw h2 q=>?_;obtain⟨mm,z,rfl⟩:=q;have g2:h2.mem.get h.next=some (.cells (zAa [vs,vg,vf]) 3 none false):=(mm.keep _ (q0h _)).trans (by rw[q2a,q1b]);have n2:h.next<h2.next:=q0d (q0h _) mm.next;have M2:=MA.trans mm;by_cases c1:checkS p.structs=0
  ·have c1':(checkS p.structs:Int)=((0:Nat):Int):=by omega
   by_cases c2:((12:Nat):Int)<(p.globals.length:Int)
   ·rw[decide_eq_false (show ¬p.globals.length<=12 by omega),q0D,q0N] at hE;simp+decide(disch:=omega)only[RL,↓reduceIte,g2,c1',l2,c2,hE,eq_true M2]
   by_cases c3:((24:Nat):Int)<(p.funs.length:Int)
   ·rw[decide_eq_false (show ¬p.funs.length<=24 by omega),q0D,q0N,q0N] at hE;simp+decide(disch:=omega)only[RL,↓reduceIte,g2,c1',l2,l3,c2,c3,hE,eq_true M2]
   ·simp+decide(disch:=omega)only[RL,↓reduceIte,g2,c1',l2,l3,c2,c3];exact⟨c1,by omega,by omega,M2,n2⟩
  ·have c1':¬(checkS p.structs:Int)=((0:Nat):Int):=by omega
   rw[decide_eq_false c1,q0D] at hE;simp+decide(disch:=omega)only[RL,↓reduceIte,g2,c1',hE,eq_true M2]
 rintro l d h1 ⟨rfl,c1,c2,c3,M1,n1,gB,l1⟩;rw[decide_eq_true c1,decide_eq_true c2,decide_eq_true c3,q0E,q0E,q0E] at hE;clear i0;have mvm:∀{i:Nat} {h':AH},oMove (.c (.mp i)) .leaf [] h'=.val (.mp i) h':=zAg rfl;rw[zC6,zKh];refine zIk (λl d h2=>d=[]/\(List.range p.globals.length).all (zG1 p)=true/\More h h2/\h.next<h2.next/\h2.mem.get h.next=some (.cells (zAa [vs,vg,vf]) 3 none false)/\l.get 1=some (.ptr h.next 0)) ?_ ?_
 ·simp+decide(disch:=omega)only[RL,↓reduceIte,op_mkMap,mvm,l1,gB,l2];refine zHf λhA eA=>?_;have mA:More h1 hA:=by rw[eA];exact q2g _ _
  have gM:hA.mem.get h1.next=some (.map (encE sv AV.bool ([]:List (Str×Bool×Nat))) 0):=by rw[eA,q2a,q1b];rfl
  have nM:h1.next<hA.next:=by rw[eA];exact q0h _
  clear eA;have st:∀n,getE n ([]:List (Str×Bool×Nat))=if n∈(p.globals.take 0).map FieldD.name then some true else none:=λn=>by simp[getE]
  refine zAd (λm l d h2=>∃k es clock,m=p.globals.length-k/\k<=p.globals.length/\d=[]/\More h1 h2/\h1.next<h2.next/\h2.mem.get h1.next=some (.map (encE sv AV.bool es) clock)/\(∀n,getE n es=if n∈(p.globals.take k).map FieldD.name then some true else none)/\(∀i,i<k->zG1 p i=true)/\l.get 1=some (.ptr h.next 0)/\l.get 4=some (.int .i64 (k:Int))/\l.get 5=some (.int .i64 (p.globals.length:Int))/\l.get 7=some vg/\l.get 8=some (.mp h1.next)) ?_ (p.globals.length-0) ⟨0,[],0,rfl,q0k _,rfl,mA,nM,gM,st,λi hi=>by omega,by simp+decide(disch:=omega)only[RL,↓reduceIte,l1],by simp(disch:=omega)only[RL,↓reduceIte],by simp(disch:=omega)only[RL,↓reduceIte],by simp+decide(disch:=omega)only[RL,↓reduceIte],by simp+decide(disch:=omega)only[RL,↓reduceIte]⟩;clear l1 gM nM mA st;rintro m l d h2 ⟨k,es,clock,rfl,hk,rfl,M2,n2,gM,st,hall,l1,l4,l5,l7,l8⟩;by_cases hlt:k<p.globals.length
  ·haveI:MoreC h h2:=⟨M1.trans M2⟩;obtain⟨id,o,E,ix,e1,⟨rfl,w1,w2⟩,ld,lw⟩:=s2.at hlt;have ld:=ld h2;have gg:p.globals[k]?=some p.globals[k]:=q0a hlt;have hA:zG1 p k=(decide (p.globals[k].name∉(p.globals.take k).map FieldD.name)&&(zB3 p.globals[k].name&&zBl p.structs p.globals[k].typ)):=by unfold zG1;rw[gg]
   have bad:zG1 p k=false->headS p=false:=λe=>by
    rw[hE];have:(List.range p.globals.length).all (zG1 p)=false:=by rw[List.all_eq_false];exact⟨k,List.mem_range.mpr hlt,by rw[e];decide⟩
    rw[this,q0D]
   have lk:∀(h':AH) [MoreC h2 h'] (n:Str),zEc (.one .str) (.bool false) false (.c (.mp h1.next)) (.c (sv n)) .leaf [] h'=.val (.bool (decide (n∈(p.globals.take k).map FieldD.name))) h':=λh' _ n=>by
    rw[look_enc (ev':=AV.bool) key_str (kp gM n2) n,st];by_cases h:n∈(p.globals.take k).map FieldD.name
    ·rw[if_pos h,decide_eq_true h];rfl
    ·rw[if_neg h,decide_eq_false h];rfl
   generalize p.globals[k]=x at *;obtain⟨xn,xt⟩:=x;dsimp only at *;by_cases hin:xn∈(p.globals.take k).map FieldD.name
   ·have lk1:∀(h':AH) [MoreC h2 h'],zEc (.one .str) (.bool false) false (.c (.mp h1.next)) (.c (sv xn)) .leaf [] h'=.val (.bool true) h':=λh' _=>by rw[lk,decide_eq_true hin]
    have hb:=bad (by rw[hA,decide_eq_false (λe=>e hin),q0D]);simp+decide(disch:=omega)only[RL,↓reduceIte,l1,l4,l5,l7,l8,hlt,ix,ld,mvm,op_lookup,lk1,hb];exact(M1.trans M2).trans ((q2g _ _).set (q0c _) _)
   ·have lk1:∀(h':AH) [MoreC h2 h'],zEc (.one .str) (.bool false) false (.c (.mp h1.next)) (.c (sv xn)) .leaf [] h'=.val (.bool false) h':=λh' _=>by rw[lk,decide_eq_false hin]
    rw[decide_eq_true hin,q0E] at hA;simp+decide(disch:=omega)only[RL,↓reduceIte,l1,l4,l5,l7,l8,hlt,ix,ld,mvm,op_lookup,lk1];refine zCu λhC eC=>?_;have mC:More h2 hC:=by rw[eC];exact(q2g _ _).set (q0c _) _
    have gC:hC.mem.get h2.next=some (.cells (zAa [sv xn,sv xt]) 2 none false):=by rw[eC,q2d];rfl
    have nC:h2.next<hC.next:=by rw[eC];exact q0h _
    clear eC;have M20:=(M1.trans M2).trans mC;refine(zFl H w1).to λw h3 q=>?_;obtain⟨rfl,m3'⟩:=q;have gB3:=(((M2.trans mC).trans m3').keep _ n1).trans gB;have gC3:=(m3'.keep _ nC).trans gC;cases hw:zB3 xn with
    | false=>
     have hb:=bad (by rw[hA,hw,q0D]);simp(disch:=omega)only[RL,↓reduceIte,hb,eq_true (M20.trans m3')]
    | true=>
     rw[hw,q0E] at hA;simp+decide(disch:=omega)only[RL,↓reduceIte,l1,gB3,gC3];refine(zF1 H (s1.more (M20.trans m3') λ_ _ r=>r)).to λw h4 q=>?_;obtain⟨rfl,m4⟩:=q;have gC4:=(m4.keep _ (q0d nC m3'.next)).trans gC3;have M24:=(mC.trans m3').trans m4;have gM4:=(M24.keep _ n2).trans gM;cases ht:zBl p.structs xt with
     | false=>
      have hb:=bad (by rw[hA,ht]);simp(disch:=omega)only[RL,↓reduceIte,hb,eq_true ((M20.trans m3').trans m4)]
     | true=>
      have up:=upd_enc (ek:=sv) (ev':=AV.bool) key_str gM4 xn true rfl;simp+decide(disch:=omega)only[RL,↓reduceIte,l1,l4,l5,l7,l8,gC4,mvm,op_mapUpd,up];refine⟨_,by omega,k+1,_,_,rfl,by omega,?_,?_,rfl,?_,?_,rfl⟩
      ·exact((M2.trans M24).set (q0c _) _)
      ·exact q0d n2 M24.next
      ·intro n;rw[getE_set,st,List.take_add_one,gg,q0O];by_cases e:n=xn
       ·subst e;rw[if_pos rfl,if_pos (by simp)]
       ·rw[if_neg e];congr 1;simp[e]
      ·intro i hi;by_cases e:i=k
       ·subst e;rw[hA,ht]
       ·exact hall i (by omega)
  ·have hG:(List.range p.globals.length).all (zG1 p)=true:=by rw[List.all_eq_true];intro i hi;exact hall i (by have:=List.mem_range.mp hi;omega)
   have M3:=M1.trans M2;have gB3:=(M2.keep _ n1).trans gB;have n3:=q0d n1 M2.next;simp+decide(disch:=omega)only[RL,↓reduceIte,l1,l4,l5,l7,hlt,hG,eq_true M3,gB3,eq_true n3]
 rintro l d hX ⟨rfl,hG,MX,nX,gX,l1⟩;rw[hG,q0E] at hE;clear M1 n1 gB hG;rw[zC6];refine run_cut1 (λl d h2=>d=[]/\(List.range p.funs.length).all (funAt p)=true/\More h h2/\h.next<h2.next/\h2.mem.get h.next=some (.cells (zAa [vs,vg,vf]) 3 none false)/\l.get 1=some (.ptr h.next 0)) ?_ ?_
 ·simp(disch:=omega)only[RL,l1,gX,l3];refine zAd (λm l d h2=>∃k,m=p.funs.length-k/\k<=p.funs.length/\d=[]/\More hX h2/\(∀i,i<k->funAt p i=true)/\l.get 1=some (.ptr h.next 0)/\l.get 11=some (.int .i64 (k:Int))/\l.get 12=some (.int .i64 (p.funs.length:Int))/\l.get 14=some vf) ?_ (p.funs.length-0) ⟨0,rfl,q0k _,rfl,q2o _,λi hi=>by omega,by simp+decide(disch:=omega)only[RL,↓reduceIte,l1],by simp(disch:=omega)only[RL,↓reduceIte],by simp(disch:=omega)only[RL,↓reduceIte],by simp+decide(disch:=omega)only[RL,↓reduceIte]⟩;clear l1;rintro m l d h2 ⟨k,rfl,hk,rfl,M2,hall,l1,l11,l12,l14⟩;have M02:=MX.trans M2;have g2:=(M2.keep _ nX).trans gX;have n2:=q0d nX M2.next;by_cases hlt:k<p.funs.length
  ·haveI:MoreC h h2:=⟨M02⟩;obtain⟨id,o,E,ix,e1,⟨vp,vl,vi,vb,rfl,t1,t2,t3,t4,w1,w2⟩,ld,lw⟩:=s3.at hlt;have ld:=ld h2;have gg:p.funs[k]?=some p.funs[k]:=q0a hlt;have hA:funAt p k=(decide ((findF p p.funs[k].name).getD 0=k)&&zB3 p.funs[k].name):=by unfold funAt;rw[gg]
   have bad:funAt p k=false->headS p=false:=λe=>by
    rw[hE];have:(List.range p.funs.length).all (funAt p)=false:=by rw[List.all_eq_false];exact⟨k,List.mem_range.mpr hlt,by rw[e];decide⟩
    rw[this,q0D]
   generalize p.funs[k]=x at *;have lp:∀(h':AH) [MoreC h2 h'],zAy 3 (.c (.ptr h.next 0)) .leaf [] h'=.val (.agg [vs,vg,vf]) h':=λh' _=>zAp (kp g2 n2) rfl;simp+decide(disch:=omega)only[RL,↓reduceIte,l1,l11,l12,l14,hlt,ix,ld,lp];refine zCu λhC eC=>?_;have mC:More h2 hC:=by rw[eC];exact(q2g _ _).set (q0c _) _
   obtain⟨cC,gC,gc0,nC⟩:∃cC,hC.mem.get h2.next=some (.cells cC 6 none false)/\cC.get 0=some (sv x.name)/\h2.next<hC.next:=⟨_,by rw[eC,q2d],rfl,by rw[eC];exact q0h _⟩;clear eC;refine(zK9 H R (M02.trans mC)).to λw h3 q=>?_;obtain⟨rfl,m3'⟩:=q;have gC3:=(m3'.keep _ nC).trans gC;have M03:=(M02.trans mC).trans m3';by_cases hf:(findF p x.name).getD 0=k
   ·have hf':((((findF p x.name).getD 0:Nat)):Int)=(k:Int):=by omega
    rw[decide_eq_true hf,q0E] at hA;simp(disch:=omega)only[RL,↓reduceIte,hf,gC3,gc0];refine(zFl H w1).to λw h4 q=>?_;obtain⟨rfl,m4⟩:=q;cases hw:zB3 x.name with
    | false=>
     have hb:=bad (by rw[hA,hw]);simp+decide(disch:=omega)only[RL,↓reduceIte,hb,eq_true (M03.trans m4)]
    | true=>
     simp+decide(disch:=omega)only[RL,↓reduceIte,l1,l11,l12,l14];exact⟨_,by omega,k+1,rfl,by omega,((M2.trans mC).trans m3').trans m4,λi hi=>by
      by_cases e:i=k
      ·subst e;rw[hA,hw]
      ·exact hall i (by omega),rfl⟩
   ·have hf':¬((((findF p x.name).getD 0:Nat)):Int)=(k:Int):=by omega
    have hb:=bad (by rw[hA,decide_eq_false hf,q0D]);simp+decide(disch:=omega)only[RL,↓reduceIte,hf',hb,eq_true M03]
  ·have hG:(List.range p.funs.length).all (funAt p)=true:=by rw[List.all_eq_true];intro i hi;exact hall i (by have:=List.mem_range.mp hi;omega)
   simp+decide(disch:=omega)only[RL,↓reduceIte,l1,l11,l12,l14,hlt,hG,eq_true M02,g2,eq_true n2]
 rintro l d h1 ⟨rfl,hG,M1,n1,gB,l1⟩;rw[hG,q0E] at hE;have lp:∀(h':AH) [MoreC h1 h'],zAy 3 (.c (.ptr h.next 0)) .leaf [] h'=.val (.agg [vs,vg,vf]) h':=λh' _=>zAp (kp gB n1) rfl;simp(disch:=omega)only[RL,l1,lp];refine(zK9 H R M1).to λw h2 q=>?_;obtain⟨rfl,m2'⟩:=q;have M2:=M1.trans m2';have gB2:=(m2'.keep _ n1).trans gB;rw[hE];unfold mainS;cases hf:findF p tMain with
 | none=>simp(disch:=omega)only[RL,↓reduceIte,q0M,eq_true M2]
 | some k=>
  have hk:k<p.funs.length:=(List.findIdx?_eq_some_iff_getElem.mp hf).1;haveI:MoreC h h2:=⟨M2⟩;obtain⟨id,o,E,ix,e1,⟨vp,vl,vi,vb,rfl,t1,t2,t3,t4,w1,w2⟩,-,lw⟩:=s3.at hk;have lw1:oLoad (.c (.ptr id (o+1))) .leaf [] h2=.val vp h2:=lw 1 _ rfl h2;have lw2:oLoad (.c (.ptr id (o+2))) .leaf [] h2=.val (sv p.funs[k].result) h2:=lw 2 _ rfl h2;have lpp:=t1.len;have mpp:=t1.mv;dsimp only;rw[q0a hk];dsimp only;by_cases c1:(p.funs[k].params.length:Int)=((0:Nat):Int)
  ·rw[decide_eq_true (show p.funs[k].params.length=0 by omega),q0E];by_cases c2:p.funs[k].result=[]
   ·simp+decide(disch:=omega)only[RL,↓reduceIte,q0J,l1,gB2,ix,lw1,lw2,lpp,c1,c2,eq_true M2]
   ·have c2':¬[]=p.funs[k].result:=λe=>c2 e.symm;simp+decide(disch:=omega)only[RL,↓reduceIte,q0J,l1,gB2,ix,lw1,lw2,lpp,c1,c2,eq_true M2]
  ·rw[decide_eq_false (show ¬p.funs[k].params.length=0 by omega),q0D];simp+decide(disch:=omega)only[RL,↓reduceIte,q0J,l1,gB2,ix,lw1,lpp,c1,eq_true M2]
end
def whS(s:Laid)(i:Nat):Int:=s.1.getD i 0
def ixS(s:Laid)(i:Nat):Int:=s.2.getD i 0
noncomputable def insAt(p:ProgD)(f:FunD)(s:Laid)(b k:Nat):Bool:=match f.ins[((listB f b).getD k 0).toNat]? with
 | some x=>insS p f (whS s) (ixS s) x b k
 | none=>false
noncomputable def blkAt(p:ProgD)(f:FunD)(s:Laid)(b:Nat):Bool:=(List.range (listB f b).length).all (insAt p f s b)&&(match f.blocks[b]? with | some y=>endB f (whS s) (ixS s) b y | none=>false)
noncomputable def zCp(p:ProgD)(f:FunD):Bool:=zIb p f&&(match laidS f with
 | some s=>linkS f&&(List.range f.blocks.length).all (blkAt p f s)
 | none=>false)
theorem AllR.of{f:FunD}(hb0:0<f.blocks.length)(h:false∉(walkS f).1):AllR f:=by
 obtain⟨L,d,-⟩:=zIx (f:=f) f.blocks.length (List.replicate f.blocks.length false,[]) 0 q0q (by rw[q0z,if_pos hb0]) (Nat.le_of_eq (zEf _));have hlen:(walkS f).1.length=f.blocks.length:=d.len.trans q0q;intro b hb;rw[q0a (by omega)];cases e:(walkS f).1[b] with
 | true=>rfl
 | false=>exact absurd (e▸q0l (by omega)) h
theorem Arr.rowI{h:AH}{F:Nat->Prop}{v:AV}{xs:List Int}(a:Arr h F v (xs.map iv))(h0:0<xs.length):∃id cap c s,v=.sl id 0 xs.length cap/\F id/\id<h.next/\h.mem.get id=some (.cells c s none false)/\∀b,b<xs.length->c.get b=some (iv (xs.getD b 0)):=by
 generalize e:xs.map iv=cs at a;have hl:cs.length=xs.length:=by rw[<-e,q0j]
 cases a with
 | nils=>simp at hl;omega
 | emp=>simp at hl;omega
 | sl a b c d f g k=>exact⟨_,_,_,_,by rw[hl],b,c,d,λi hi=>by rw[f i (by omega),<-e,q0t,q0e,q0a hi];rfl⟩
structure CkD(h0:AH)(p:ProgD)(f:FunD)(vs vg vf vp vl vi vb:AV):Prop where
 s1:SlV h0 2 (StructV h0) vs p.structs
 s2:SlV h0 2 zDg vg p.globals
 s3:SlV h0 6 (FunV h0) vf p.funs
 s4:SlV h0 1 StrR vp f.params
 s5:SlV h0 1 StrR vl f.slots
 s6:SlV h0 5 (InsV h0) vi f.ins
 s7:SlV h0 5 (BlkV h0) vb f.blocks
 k1:f.name.length<=maxLen
 k2:f.result.length<=maxLen
def ckL(f:FunD)(vs vg vf vp vl vi vb:AV):List AV:=[vs,vg,vf,sv f.name,vp,sv f.result,vl,vi,vb]
theorem CkD.ckB{h0 h:AH}{p:ProgD}{f:FunD}{vs vg vf vp vl vi vb:AV}(D:CkD h0 p f vs vg vf vp vl vi vb){C:Nat}{c:T AV}(m:More h0 h)(hC:C<h.next)(g:h.mem.get C=some (.cells c 13 none false))(hc:∀j,j<9->c.get j=(ckL f vs vg vf vp vl vi vb)[j]?):CkB h C p f c:=
 ⟨vs,vg,vf,_,vp,_,vl,vi,vb,g,hC,hc 0 (by decide),hc 1 (by decide),hc 2 (by decide),hc 3 (by decide),hc 4 (by decide),hc 5 (by decide),hc 6 (by decide),hc 7 (by decide),hc 8 (by decide),rfl,rfl,D.s1.more m λ_ _ r=>r.more m,D.s2.more m λ_ _ r=>r,D.s3.more m λ_ _ r=>r.more m,D.s4.more m λ_ _ r=>r,D.s5.more m λ_ _ r=>r,D.s6.more m λ_ _ r=>r.more m,D.s7.more m λ_ _ r=>r.more m,D.k1,D.k2⟩
section
variable{tab:Nat->Option AFunc}{h0 h:AH}(H:PV tab)
include H in
theorem isWhole_gp{C:Nat}{p:ProgD}{f:FunD}{c:T AV}{vs vg vf vp vl vi vb:AV}(D:CkD h0 p f vs vg vf vp vl vi vb)(m0:More h0 h)(hC:C<h.next)(h0C:h0.next<=C)(g:h.mem.get C=some (.cells c 13 none false))(hc:∀j,j<9->c.get j=(ckL f vs vg vf vp vl vi vb)[j]?)(c9:∀j,9<=j->j<13->c.get j=some .nils)(hbn:f.blocks.length<=1000)(hin:f.ins.length<=100000)(han:∀x∈f.ins,x.args.length<=100000):GP tab 36 [.ptr C 0] h λv h1=>v=.bool (zCp p f)/\More h0 h1:=by
 have i0:zAb [.ptr C 0]=zAa [.ptr C 0]:=rfl;refine GE.gp (zAi H.t36 rfl ?_) (E:=λ_ _=>False) λ_ _ x=>x;rw[zC6,zKh];refine zIk (λl d h1=>d=[]/\zIb p f=true/\linkS f=true/\l.get 0=some (.ptr C 0)/\∃s vw vx,laidS f=some s/\LdS h0 h1 C f.ins.length (T.put (some vx) (T.put (some vw) c 9) 10) vw vx s) ?_ ?_
 ·simp+decide(disch:=omega)only[RL,↓reduceIte,i0];refine(isFrame_gp H (D.ckB m0 hC g hc)).to λw h2 q=>?_;obtain⟨rfl,m2⟩:=q;have M2:=m0.trans m2;cases hf:zIb p f with
  | false=>
   have hw:zCp p f=false:=by unfold zCp;rw[hf,q0D]
   simp+decide(disch:=omega)only[RL,↓reduceIte,hw,eq_true M2]
  | true=>
   have hb0:0<f.blocks.length:=by
    unfold zIb at hf;simp at hf;exact Nat.pos_of_ne_zero λe=>hf.2.2.2.2.1 (q0r e)
   simp+decide(disch:=omega)only[RL,↓reduceIte];refine(isLaid_gp H M2 (q0d hC m2.next) h0C ((m2.keep _ hC).trans g) (hc 7 (by decide)) (hc 8 (by decide)) (c9 9 (by decide) (by decide)) (c9 10 (by decide) (by decide)) D.s6 D.s7 hin).to λw h3 q=>?_;obtain⟨rfl,m3,hC3,hL⟩:=q;cases hs:laidS f with
   | none=>
    have hw:zCp p f=false:=by unfold zCp;rw[hs];exact q0N _
    simp+decide(disch:=omega)only[RL,↓reduceIte,hw,q0M,eq_true m3]
   | some s=>
    obtain⟨vw,vx,L⟩:=hL s hs;have hc':∀j,j<9->(T.put (some vx) (T.put (some vw) c 9) 10).get j=(ckL f vs vg vf vp vl vi vb)[j]?:=λj hj=>by rw[q1a _ _ _ _ (by omega),q1a _ _ _ _ (by omega)];exact hc j hj
    simp+decide(disch:=omega)only[RL,↓reduceIte,q0J];refine(isLinked_gp H (D.ckB m3 hC3 L.g hc') hbn hb0).to λw h4 q=>?_;obtain⟨rfl,m4⟩:=q;cases hl:linkS f with
    | false=>
     have hw:zCp p f=false:=by unfold zCp;rw[hs,hl];exact q0N _
     simp+decide(disch:=omega)only[RL,↓reduceIte,hw,eq_true (m3.trans m4)]
    | true=>
     simp+decide(disch:=omega)only[RL,↓reduceIte];exact⟨s,vw,vx,rfl,L.more m4⟩
 rintro l d hX ⟨rfl,hf,hl,l0,s,vw,vx,hs,L⟩;have hb0:0<f.blocks.length:=by
  unfold zIb at hf;simp at hf;exact Nat.pos_of_ne_zero λe=>hf.2.2.2.2.1 (q0r e)
 have hr:AllR f:=AllR.of hb0 (by unfold linkS at hl;simp at hl;exact hl.2);obtain⟨c',ec⟩:∃c',c'=T.put (some vx) (T.put (some vw) c 9) 10:=⟨_,rfl⟩;have hc':∀j,j<9->c'.get j=(ckL f vs vg vf vp vl vi vb)[j]?:=λj hj=>by rw[ec,q1a _ _ _ _ (by omega),q1a _ _ _ _ (by omega)];exact hc j hj
 have c11:c'.get 11=some .nils:=by rw[ec,q1a _ _ _ _ (by omega),q1a _ _ _ _ (by omega)];exact c9 11 (by decide) (by decide)
 have c12:c'.get 12=some .nils:=by rw[ec,q1a _ _ _ _ (by omega),q1a _ _ _ _ (by omega)];exact c9 12 (by decide) (by decide)
 rw[<-ec] at L;clear ec c9;have gX:=L.g;have eF:FunV h0 [sv f.name,vp,sv f.result,vl,vi,vb] f:=⟨vp,vl,vi,vb,rfl,D.s4,D.s5,D.s6,D.s7,D.k1,D.k2⟩;have l36:loadL c' 6 3=some [sv f.name,vp,sv f.result,vl,vi,vb]:=zBh [sv f.name,vp,sv f.result,vl,vi,vb] c' 3 λj hj=>by
  have hj:j<6:=hj;rw[hc' (3+j) (by omega)];rcases j with _ | _ | _ | _ | _ | _ | j
  all_goals first | rfl | omega
 have hE:zCp p f=(List.range f.blocks.length).all (blkAt p f s):=by unfold zCp;rw[hf,hs,q0E];dsimp only;rw[hl,q0E]
 rw[zC6];refine run_cut1 (λl d h1=>d=[]/\More h0 h1/\CkV h1 C p f (whS s) (ixS s)/\l.get 0=some (.ptr C 0)) ?_ ?_
 ·simp(disch:=omega)only[RL,l0,gX,l36];refine(zJ6 H (eF.more L.m) hbn).to λw h3 q=>?_;obtain⟨⟨rid,ws,rfl,ra⟩,m3⟩:=q;have g3:=(m3.keep _ L.hC).trans gX;have n3:=q0d L.hC m3.next;have M3:=L.m.trans m3;have ld3:zAy 6 (.c (.ptr C 3)) .leaf [] h3=.val (.agg [sv f.name,vp,sv f.result,vl,vi,vb]) h3:=zAp g3 l36;have sm:bi (bi (same vp vp) (bi (same vl vl) (bi (same vi vi) (bi (same vb vb) true false) false) false) false) true false=true:=by rw[D.s4.same,D.s5.same,D.s6.same,D.s7.same];rfl
  simp(disch:=omega)only[RL,g3,l36];refine⟨sm,?_⟩;refine(nearest_gp H (eF.more M3) hbn hb0 hr).to λw h4 q=>?_;obtain⟨rn,m4,fr⟩:=q;have g4:=(m4.keep _ n3).trans g3;have n4:=q0d n3 m4.next;have M4:=M3.trans m4;obtain⟨nid,ncap,cn,sn,rfl,hnid,gn,gnc⟩:=rn;have hnC:¬C=nid:=by have:=fr _ _ _ _ rfl;omega
  simp+decide(disch:=omega)only[RL,↓reduceIte,l0,g4,c11,c12];refine⟨(M4.set L.h0C _).set L.h0C _,?_⟩;have L4:=(L.more m3).more m4;have st:∀(F:Nat->Prop) (o1 o2:AObj),¬F C->Stay F h4 ((h4.set C o1).set C o2):=λF o1 o2 hF=>(Stay.set (Stay.refl _ _) (λ_=>hF) _).set (λ_=>hF) _;have aw:=L4.aw.keep (st _ (.cells (T.put (some (.sl rid 0 f.blocks.length (.known f.blocks.length))) c' 11) 13 none false) (.cells (T.put (some (.sl nid 0 f.blocks.length ncap)) (T.put (some (.sl rid 0 f.blocks.length (.known f.blocks.length))) c' 11) 12) 13 none false) λe=>e.2 rfl) λ_ f _=>f;have ax:=L4.ax.keep (st _ (.cells (T.put (some (.sl rid 0 f.blocks.length (.known f.blocks.length))) c' 11) 13 none false) (.cells (T.put (some (.sl nid 0 f.blocks.length ncap)) (T.put (some (.sl rid 0 f.blocks.length (.known f.blocks.length))) c' 11) 12) 13 none false) λe=>e.2.1 rfl) λ_ f _=>f;have ra4:=(ra.keep ⟨m4.next,λid _ hi=>m4.keep id hi⟩ λ_ f _=>f).keep (Q:=λk=>h0.next<=k) (st (λk=>hX.next<=k) (.cells (T.put (some (.sl rid 0 f.blocks.length (.known f.blocks.length))) c' 11) 13 none false) (.cells (T.put (some (.sl nid 0 f.blocks.length ncap)) (T.put (some (.sl rid 0 f.blocks.length (.known f.blocks.length))) c' 11) 12) 13 none false) (by have:=L.hC;omega)) λk (e:hX.next<=k) _=>q0m L.m.next e
  refine⟨_,vw,vx,.sl rid 0 f.blocks.length (.known f.blocks.length),.sl nid 0 f.blocks.length ncap,D.ckB ((M4.set L.h0C _).set L.h0C _) n4 q2d λj hj=>?_,?_,?_,?_,q1b _ _ _,λhn=>⟨?_,?_⟩,zI1 hbn ra4,nid,ncap,cn,sn,rfl,hnid,?_,gnc⟩
  ·rw[q1a _ _ _ _ (by omega),q1a _ _ _ _ (by omega)];exact hc' j hj
  ·rw[q1a _ _ _ _ (by omega),q1a _ _ _ _ (by omega)];exact L.c9
  ·rw[q1a _ _ _ _ (by omega),q1a _ _ _ _ (by omega)];exact L.c10
  ·rw[q1a _ _ _ _ (by omega),q1b]
  ·obtain⟨id,cap,c2,s2,e,-,hi,gg,hg⟩:=aw.rowI (by have:=L.lw;omega);rw[L.lw] at e hg;exact⟨id,cap,c2,s2,e,hi,gg,hg⟩
  ·obtain⟨id,cap,c2,s2,e,-,hi,gg,hg⟩:=ax.rowI (by have:=L.lx;omega);rw[L.lx] at e hg;exact⟨id,cap,c2,s2,e,hi,gg,hg⟩
  ·rw[q2c,q1a _ _ _ _ hnC,q2c,q1a _ _ _ _ hnC];exact gn
 clear L gX l0 l36 eF;rintro l d h1 ⟨rfl,M1,V,l0⟩;have VV:=V;obtain⟨cV,_,_,_,_,B,-⟩:=V;obtain⟨vs',vg',vf',n',vp',r',vl',vi',vb',gV,hV,-,-,-,-,-,-,-,-,g8,-,-,-,-,-,-,-,-,s7,-⟩:=B;have lb:=s7.len;have mb:=s7.mv;have hbb:=s7.bound;unfold maxLen at hbb;have hLB:=zLq (b:=f.blocks.length) hs;simp+decide(disch:=omega)only[RL,l0,gV,g8,lb];refine zAd (λm l d h2=>∃k,m=f.blocks.length-k/\k<=f.blocks.length/\d=[]/\More h1 h2/\(∀b,b<k->blkAt p f s b=true)/\l.get 0=some (.ptr C 0)/\l.get 2=some (.int .i64 (k:Int))/\l.get 3=some (.int .i64 (f.blocks.length:Int))/\l.get 5=some vb') ?_ (f.blocks.length-0) ⟨0,rfl,q0k _,rfl,q2o _,λi hi=>by omega,by simp+decide(disch:=omega)only[RL,↓reduceIte,l0],by simp(disch:=omega)only[RL,↓reduceIte],by simp(disch:=omega)only[RL,↓reduceIte],by simp+decide(disch:=omega)only[RL,↓reduceIte]⟩;clear l0;rintro m l d h2 ⟨k,rfl,hk,rfl,M2,hall,l0,l2,l3,l5⟩;by_cases hlt:k<f.blocks.length
 ·haveI:MoreC h1 h2:=⟨M2⟩;obtain⟨ib,ob,Eb,jb,eb,⟨vli,rfl,sl,q0,q1,q2,q3⟩,ldb,-⟩:=s7.at hlt;have ldb:=ldb h2;have ml:=sl.mv;have ll:=sl.len;have eL:=zIn hlt;have hL:InL f f.blocks[k].list:=eL▸hLB k hlt;have bad:blkAt p f s k=false->zCp p f=false:=λe=>by
   rw[hE,List.all_eq_false];exact⟨k,List.mem_range.mpr hlt,by rw[e];decide⟩
  have hbl:=sl.bound;unfold maxLen at hbl;have eB:blkAt p f s k=((List.range f.blocks[k].list.length).all (insAt p f s k)&&endB f (whS s) (ixS s) k f.blocks[k]):=by
   unfold blkAt;rw[eL,q0a hlt]
  simp+decide(disch:=omega)only[RL,↓reduceIte,l2,l3,l5,hlt,jb,ldb,ll];refine zHf λhA eA=>?_;have mA:More h1 hA:=by rw[eA];exact M2.trans ((q2g _ _).set (q0c _) _)
  clear eA;refine zAd (λm l d h2=>∃j,m=f.blocks[k].list.length-j/\j<=f.blocks[k].list.length/\d=[]/\More h1 h2/\(∀b,b<j->insAt p f s k b=true)/\l.get 0=some (.ptr C 0)/\l.get 2=some (.int .i64 (k:Int))/\l.get 3=some (.int .i64 (f.blocks.length:Int))/\l.get 5=some vb'/\l.get 7=some (.int .i64 (j:Int))/\l.get 8=some (.int .i64 (f.blocks[k].list.length:Int))/\l.get 10=some (.int .i64 (k:Int))) ?_ (f.blocks[k].list.length-0) ⟨0,rfl,q0k _,rfl,mA,λi hi=>by omega,by simp+decide(disch:=omega)only[RL,↓reduceIte,l0],by simp+decide(disch:=omega)only[RL,↓reduceIte,l2],by simp+decide(disch:=omega)only[RL,↓reduceIte,l3],by simp+decide(disch:=omega)only[RL,↓reduceIte,l5],by simp(disch:=omega)only[RL,↓reduceIte],by simp(disch:=omega)only[RL,↓reduceIte],by simp+decide(disch:=omega)only[RL,↓reduceIte]⟩;clear l0 l2 l3 l5 ldb M2 mA;rintro m l d h2 ⟨j,rfl,hj,rfl,M2,hal,l0,l2,l3,l5,l7,l8,l10⟩;by_cases hjt:j<f.blocks[k].list.length
  ·obtain⟨i,hi1,hi2⟩:=hL _ (q0l hjt);have eI:insAt p f s k j=insS p f (whS s) (ixS s) f.ins[i] k j:=by
    unfold insAt;rw[eL,q0e,q0a hjt,q0F,hi1,q0n,q0a hi2]
   simp+decide(disch:=omega)only[RL,↓reduceIte,l0,l7,l8,l10,hjt];refine(isIns_gp H (VV.more M2) hb0 hr hlt hjt hL hi2 hi1 (han _ (q0l hi2))).to λw h3 q=>?_;obtain⟨rfl,m3⟩:=q;rw[<-eI];cases hx:insAt p f s k j with
   | false=>
    have hw:=bad (by rw[eB,show(List.range f.blocks[k].list.length).all (insAt p f s k)=false from by rw[List.all_eq_false];exact⟨j,List.mem_range.mpr hjt,by rw[hx];decide⟩,q0D]);simp+decide(disch:=omega)only[RL,↓reduceIte,hw,eq_true ((M1.trans M2).trans m3)]
   | true=>
    simp+decide(disch:=omega)only[RL,↓reduceIte,l0,l2,l3,l5,l7,l8,l10];exact⟨_,by omega,j+1,rfl,by omega,M2.trans m3,λb hb=>by
     by_cases e:b=j
     ·subst e;exact hx
     ·exact hal b (by omega),rfl⟩
  ·have hG:(List.range f.blocks[k].list.length).all (insAt p f s k)=true:=by rw[List.all_eq_true];intro i hi;exact hal i (by have:=List.mem_range.mp hi;omega)
   rw[hG,q0E] at eB;simp+decide(disch:=omega)only[RL,↓reduceIte,l0,l7,l8,l10,hjt];refine(isEnd_gp H (VV.more M2) hb0 hr hlt).to λw h3 q=>?_;obtain⟨rfl,m3⟩:=q;rw[<-eB];cases hx:blkAt p f s k with
   | false=>
    have hw:=bad hx;simp+decide(disch:=omega)only[RL,↓reduceIte,hw,eq_true ((M1.trans M2).trans m3)]
   | true=>
    simp+decide(disch:=omega)only[RL,↓reduceIte,l0,l2,l3,l5];exact⟨_,by omega,k+1,rfl,by omega,M2.trans m3,λb hb=>by
     by_cases e:b=k
     ·subst e;exact hx
     ·exact hall b (by omega),rfl⟩
 ·have hG:zCp p f=true:=by rw[hE,List.all_eq_true];intro i hi;exact hall i (by have:=List.mem_range.mp hi;omega)
  simp(disch:=omega)only[RL,↓reduceIte,l2,l3,l5,hlt,hG,eq_true (M1.trans M2)]
end
def GrtF(f:FunD):Prop:=f.blocks.length<=1000/\f.ins.length<=100000/\∀x∈f.ins,x.args.length<=100000
def Grt(p:ProgD):Prop:=∀f∈p.funs,GrtF f
noncomputable def zCz(p:ProgD):Bool:=headS p&&p.funs.all (zCp p)
section
variable{tab:Nat->Option AFunc}{h:AH}(H:PV tab)
include H in
theorem valid_gp{E:List AV}{p:ProgD}(r:ProgV h E p)(G:Grt p):GP tab 16 [.agg E] h λw h1=>w=.bool (zCz p)/\More h h1:=by
 have R:=r;obtain⟨vs,vg,vf,rfl,s1,s2,s3⟩:=r;have i0:zAb [.agg [vs,vg,vf]]=zAa [.agg [vs,vg,vf]]:=rfl;have m3:=s3.mv;have l3:=s3.len;have hb3:=s3.bound;unfold maxLen at hb3;refine gpr H.t16 ?_;have MA:=q2g h (.cells (zAa [vs,vg,vf]) 3 none false);have gA:(h.add (.cells (zAa [vs,vg,vf]) 3 none false)).mem.get h.next=some (.cells (zAa [vs,vg,vf]) 3 none false):=by rw[q2a,q1b]
 have l30:loadL (zAa [vs,vg,vf]) 3 0=some [vs,vg,vf]:=rfl;simp+decide(disch:=omega)only[RL,↓reduceIte,i0,l30];refine(isHead_gp H (R.more MA)).to λw h2 q=>?_;obtain⟨rfl,m2⟩:=q;have M2:=MA.trans m2;have g2:=(m2.keep _ (q0h _)).trans gA;have n2:h.next<h2.next:=q0d (q0h _) m2.next;cases hh:headS p with
 | false=>
  have hV:zCz p=false:=by unfold zCz;rw[hh,q0D]
  simp+decide(disch:=omega)only[RL,↓reduceIte,hV,eq_true M2]
 | true=>
  have hV:zCz p=p.funs.all (zCp p):=by unfold zCz;rw[hh,q0E]
  simp+decide(disch:=omega)only[RL,↓reduceIte,g2,l3];refine zAd (λm l d h3=>∃k,m=p.funs.length-k/\k<=p.funs.length/\d=[]/\More h2 h3/\(∀i,i<k->(hi:i<p.funs.length)->zCp p p.funs[i]=true)/\l.get 1=some (.ptr h.next 0)/\l.get 3=some (.int .i64 (k:Int))/\l.get 4=some (.int .i64 (p.funs.length:Int))/\l.get 6=some vf) ?_ (p.funs.length-0) ⟨0,rfl,q0k _,rfl,q2o _,λi hi=>by omega,rfl,rfl,rfl,rfl⟩;rintro m l d hX ⟨k,rfl,hk,rfl,MX,hall,l1,l3',l4,l6⟩;have M3:=M2.trans MX;by_cases hlt:k<p.funs.length
  ·haveI:MoreC h hX:=⟨M3⟩;obtain⟨id,o,E,ix,e1,⟨vp,vl,vi,vb,rfl,t1,t2,t3,t4,w1,w2⟩,ld,-⟩:=s3.at hlt;have ld:=ld hX;have hg:=G _ (q0l hlt);have bad:zCp p p.funs[k]=false->zCz p=false:=λe=>by
    rw[hV,List.all_eq_false];exact⟨_,q0l hlt,by rw[e];decide⟩
   generalize hx:p.funs[k]=x at *;have gX:=(MX.keep _ n2).trans g2;have nX:=q0d n2 MX.next;have lp:∀(h':AH) [MoreC hX h'],zAy 3 (.c (.ptr h.next 0)) .leaf [] h'=.val (.agg [vs,vg,vf]) h':=λh' _=>zAp (kp gX nX) rfl;have l60:loadL (T.put (some vb) (T.put (some vi) (T.put (some vl) (T.put (some (sv x.result)) (T.put (some vp) (T.put (some (sv x.name)) (zAa [sv [],AV.nils,sv [],AV.nils,AV.nils,AV.nils]) 0) 1) 2) 3) 4) 5) 6 0=some [sv x.name,vp,sv x.result,vl,vi,vb]:=rfl;simp+decide(disch:=omega)only[RL,↓reduceIte,l1,l3',l4,l6,hlt,ix,ld,lp,l60];refine zCu λhC eC=>?_;obtain⟨hA,mA,nA,eC⟩:∃hA,More hX hA/\hA.next=hX.next+1/\hC=hA.add (.cells (zAa [vs,vg,vf,sv x.name,vp,sv x.result,vl,vi,vb,.nils,.nils,.nils,.nils]) 13 none false):=⟨_,(q2g _ _).set (q0c _) _,rfl,eC⟩;have M4:=M3.trans mA;have D:CkD hA p x vs vg vf vp vl vi vb:=⟨s1.more M4 λ_ _ r=>r.more M4,s2.more M4 λ_ _ r=>r,s3.more M4 λ_ _ r=>r.more M4,t1.more M4 λ_ _ r=>r,t2.more M4 λ_ _ r=>r,t3.more M4 λ_ _ r=>r.more M4,t4.more M4 λ_ _ r=>r.more M4,w1,w2⟩;have mC:More hA hC:=by rw[eC];exact q2g _ _
   have gC:hC.mem.get (hX.next+1)=some (.cells (zAa [vs,vg,vf,sv x.name,vp,sv x.result,vl,vi,vb,.nils,.nils,.nils,.nils]) 13 none false):=by rw[eC,<-nA,q2a,q1b]
   refine(isWhole_gp H D mC (by rw[eC,<-nA];exact q0h _) (by omega) gC (λj hj=>by rw[zAe];exact List.getElem?_append_left (l₁:=ckL x vs vg vf vp vl vi vb) hj) (λj h1 h2=>by
    rw[zAe];rcases(show j=9\/j=10\/j=11\/j=12 by omega) with rfl | rfl | rfl | rfl<;>rfl) hg.1 hg.2.1 hg.2.2).to λw h4 q=>?_
   obtain⟨rfl,m4⟩:=q;have M5:=M4.trans m4;cases hw:zCp p x with
   | false=>
    have hb:=bad hw;simp+decide(disch:=omega)only[RL,↓reduceIte,hb,eq_true M5]
   | true=>
    simp+decide(disch:=omega)only[RL,↓reduceIte,l1,l3',l4,l6];exact⟨_,by omega,k+1,rfl,by omega,(MX.trans mA).trans m4,λi hi hi'=>by
     by_cases e:i=k
     ·subst e;rw[hx];exact hw
     ·exact hall i (by omega) hi',rfl⟩
  ·have hG:zCz p=true:=by
    rw[hV,List.all_eq_true];intro f hf;obtain⟨i,hi,rfl⟩:=q0y hf;exact hall i (by omega) hi
   simp(disch:=omega)only[RL,↓reduceIte,l3',l4,l6,hlt,hG,eq_true M3]
end
structure Obj where
 of:Nat
 frame:Int
 fields:List Int
structure MSt where
 glob:List Int
 objs:List Obj
 frames:List Bool
 framed:Nat
 pos:Nat
 fuel:Nat
 out:List Int
 steps:Nat
inductive Rz(α:Type) where
 | ok (a:α) (s:MSt)
 | stop (e f:Nat) (s:MSt)
def Rz.bind{α β:Type}(x:Rz α)(k:α->MSt->Rz β):Rz β:=match x with
 | .ok a s=>k a s
 | .stop e f s=>.stop e f s
structure ActD where
 fn:Nat
 frame:Nat
 args:List Int
 vals:List Int
 slots:List Int
def openS(s:MSt)(fr:Int):Bool:=decide (1<=fr)&&(decide (fr<=(s.frames.length:Int))&&s.frames.getD (fr.toNat-1) false)
def freedS(s:MSt)(o:Obj):Bool:=decide (o.frame≠0)&&!openS s o.frame
def chkS(s:MSt)(obj field:Int):Nat:=if obj=0 then 10 else if 1<=obj then(match s.objs[obj.toNat-1]? with
 | some o=>if freedS s o then 14 else if 0<=field/\field<(o.fields.length:Int) then 0 else 2
 | none=>13) else 13
def getS(s:MSt)(obj field:Int):Int:=match s.objs[obj.toNat-1]? with
 | some o=>o.fields.getD field.toNat 0
 | none=>0
def setO(l:List Obj)(i k:Nat)(v:Int):List Obj:=match l[i]? with
 | some o=>l.set i {o with fields:=o.fields.set k v}
 | none=>l
def setS(s:MSt)(obj field v:Int):MSt:={s with objs:=setO s.objs (obj.toNat-1) field.toNat v}
def zAz{α:Type}(e:Nat)(s:MSt)(k:MSt->Rz α):Rz α:=if e=0 then k s else if e=14 then .stop 4 14 s else .stop 2 e s
def makeS(p:ProgD)(s:MSt)(name:Str)(fr:Int):Int×Nat×MSt:=match findS p.structs name with
 | none=>(0,13,s)
 | some at_=>if fr≠0/\openS s fr=false then(0,13,s) else if s.objs.length=131072 then(0,4,s) else
  ((s.objs.length:Int)+1,0,{s with objs:=s.objs++[⟨at_,fr,List.replicate (match p.structs[at_]? with | some x=>x.fields.length | none=>0) 0⟩],framed:=if fr≠0 then s.framed+1 else s.framed})
def zA3(s:MSt):Rz Unit:=if s.fuel=0 then .stop 3 0 s else .ok () {s with fuel:=s.fuel-1,steps:=s.steps+1}
section
variable(p:ProgD)(nd:Int->Int->Int->Int×Nat)(rd:Nat->Int)
def insV(call:Nat->List Int->MSt->Rz Int)(f:FunD)(a:ActD)(x:InsD)(s:MSt):Rz (Int×ActD):=
 let args:=x.args.map λi=>a.vals.getD i.toNat 0
 let a0:=args.getD 0 0
 let al:=args.getD (args.length-1) 0
 if x.op<=18 then zAz (nd x.op a0 al).2 s λs=>.ok ((nd x.op a0 al).1,a) s
 else if x.op=31 then(call x.n.toNat args s).bind λv s=>.ok (v,a) s
 else if x.op=32 then .ok (0,a) {s with out:=s.out++[a0]}
 else if x.op=25 then zAz (chkS s a0 x.n) s λs=>.ok (getS s a0 x.n,a) s
 else if 0<args.length then
  (if x.op=28 then .ok (0,{a with slots:=a.slots.set x.n.toNat al}) s
  else if x.op=26 then zAz (chkS s a0 x.n) s λs=>.ok (0,a) (setS s a0 x.n al)
  else if x.op=30 then .ok (0,a) {s with glob:=s.glob.set x.n.toNat al}
  else .ok (0,a) s)
 else if x.op=20 then .ok (a.args.getD x.n.toNat 0,a) s
 else if x.op=21\/x.op=22 then .ok (x.n,a) s
 else if x.op=24 then
  (let r:=makeS p s x.name ((a.frame:Int)*x.n)
   zAz r.2.1 r.2.2 λs=>.ok (r.1,a) s)
 else if x.op=27 then .ok (a.slots.getD x.n.toNat 0,a) s
 else if x.op=29 then .ok (s.glob.getD x.n.toNat 0,a) s
 else if x.op=33 then .ok (rd s.pos,a) {s with pos:=s.pos+1}
 else .ok (0,a) s
def rowV(call:Nat->List Int->MSt->Rz Int)(f:FunD):List Int->ActD->MSt->Rz ActD
 | [],a,s=>.ok a s
 | z::l,a,s=>match f.ins[z.toNat]? with
  | some x=>if x.op=34 then rowV call f l a s else
   (zA3 s).bind λ_ s=>(insV p nd rd call f a x s).bind λr s=>rowV call f l {r.2 with vals:=r.2.vals.set z.toNat r.1} s
  | none=>.ok a s
def phiV(f:FunD)(b:Nat)(from_:Int)(vals:List Int):List Int:=
 (listB f b).foldl (λacc z=>match f.ins[z.toNat]? with
  | some x=>if x.op=34/\from_∈ledB f b then acc.set z.toNat (vals.getD (x.args.getD ((ledB f b).idxOf from_) 0).toNat 0) else acc
  | none=>acc) vals
def jumpV(y:BlkD)(a:ActD):Option Nat×Int:=if y.jump=1\/y.jump=2/\a.vals.getD y.arg.toNat 0≠0 then(some y.to0.toNat,0) else if y.jump=2 then(some y.to1.toNat,0) else if 0<=y.arg then(none,a.vals.getD y.arg.toNat 0) else(none,0)
def backS(a:ActD)(s:MSt):MSt:=if openS s a.frame then{s with frames:=s.frames.set (a.frame-1) false} else s
mutual
def runV:Nat->Nat->List Int->MSt->Rz Int
 | 0,_,_,s=>.stop 3 0 s
 | n+1,fn,args,s=>match p.funs[fn]? with
  | some f=>zBn n f ⟨fn,s.frames.length+1,args,List.replicate f.ins.length 0,List.replicate f.slots.length 0⟩ 0 (-1) {s with frames:=s.frames++[true]}
  | none=>.stop 3 0 s
def zBn:Nat->FunD->ActD->Nat->Int->MSt->Rz Int
 | 0,_,_,_,_,s=>.stop 3 0 s
 | n+1,f,a,b,from_,s=>(rowV p nd rd (runV n) f (listB f b) {a with vals:=phiV f b from_ a.vals} s).bind λa s=>(zA3 s).bind λ_ s=>
  match f.blocks[b]? with
  | some y=>(match jumpV y a with
   | (some c,_)=>zBn n f a c b s
   | (none,v)=>.ok v (backS a s))
  | none=>.stop 3 0 s
end
structure ResD where
 out:List Int
 fin:Nat
 fault:Nat
 steps:Nat
 made:Nat
 framed:Nat
def start(fuel:Nat):MSt:=⟨List.replicate p.globals.length 0,[],[],0,0,fuel,[],0⟩
def resV(r:Rz Int):ResD:=match r with
 | .ok _ s=>⟨s.out,1,0,s.steps,s.objs.length-s.framed,s.framed⟩
 | .stop e f s=>⟨s.out,e,f,s.steps,s.objs.length-s.framed,s.framed⟩
def execV(fuel:Nat):ResD:=resV (runV p nd rd (2*fuel+2) ((findF p tMain).getD 0) [] (start p fuel))
end
def InN(z:Int)(n:Nat):Prop:=∃k:Nat,z=k/\k<n
structure OkI(p:ProgD)(f:FunD)(b:Nat)(x:InsD):Prop where
 args:∀a∈x.args,InN a f.ins.length
 phi:x.op=34->x.args.length=(ledB f b).length
 low:x.op<=18->1<=x.args.length
 one:x.op=25\/x.op=28\/x.op=30\/x.op=32->x.args.length=1
 two:x.op=26->x.args.length=2
 none:x.op=20\/x.op=21\/x.op=22\/x.op=23\/x.op=24\/x.op=27\/x.op=29\/x.op=33->x.args.length=0
 par:x.op=20->InN x.n f.params.length
 new:x.op=24->x.n=0\/x.n=1
 slot:x.op=27\/x.op=28->InN x.n f.slots.length
 glob:x.op=29\/x.op=30->InN x.n p.globals.length
 call:x.op=31->∃(k:Nat) (g:FunD),x.n=k/\p.funs[k]?=some g/\x.args.length=g.params.length
 op:1<=x.op/\x.op<=34/\x.op≠19
structure OkB(f:FunD)(y:BlkD):Prop where
 to0:y.jump=1\/y.jump=2->InN y.to0 f.blocks.length
 to1:y.jump=2->InN y.to1 f.blocks.length
 arg:y.jump=2\/y.jump=3/\0<=y.arg->InN y.arg f.ins.length
 jump:y.jump=1\/y.jump=2\/y.jump=3
structure OkF(p:ProgD)(f:FunD):Prop where
 pos:0<f.blocks.length
 list:∀b,b<f.blocks.length->InL f (listB f b)
 ins:∀b,b<f.blocks.length->∀z∈listB f b,∀x,f.ins[z.toNat]?=some x->OkI p f b x
 blk:∀(b:Nat) (y:BlkD),f.blocks[b]?=some y->OkB f y
theorem typ_in{f:FunD}{wh ix:Nat->Int}{z:Int}{b:Nat}{k:Int}(h:typS f wh ix z b k≠[]):InN z f.ins.length:=by
 unfold typS at h;split at h
 ·rename_i h0;cases e:f.ins[z.toNat]? with
  | none=>rw[e] at h;exact absurd rfl h
  | some x=>exact⟨z.toNat,by omega,(List.getElem?_eq_some_iff.mp e).1⟩
 ·exact absurd rfl h
theorem end_in{f:FunD}{wh ix:Nat->Int}{z:Int}{b:Nat}(h:endS f wh ix z b≠[]):InN z f.ins.length:=by
 unfold endS at h;exact typ_in h
theorem atS_in{l:List Str}{i:Int}(h:atS l i≠[]):InN i l.length:=by
 unfold atS at h;split at h
 ·rename_i h0;refine⟨i.toNat,by omega,?_⟩;rcases q0x i.toNat l.length with hl | hl
  ·exact hl
  ·rw[q0e,q0i hl] at h;exact absurd rfl h
 ·exact absurd rfl h
theorem globS_in{p:ProgD}{i:Int}(h:zDa p i≠[]):InN i p.globals.length:=by
 unfold zDa at h;split at h
 ·rename_i h0;refine⟨i.toNat,by omega,?_⟩;rcases q0x i.toNat p.globals.length with hl | hl
  ·exact hl
  ·rw[q0i hl] at h;exact absurd rfl h
 ·exact absurd rfl h
theorem isTyp_ne{l:List zA9}{t:Str}(h:zBl l t=true):t≠[]:=by
 rintro rfl;simp[zBl,starS] at h
theorem argsS_of{op:Int}(h1:1<=op)(h34:op<=34)(h19:op≠19):(op<=18->argsS op=1\/argsS op=2)/\(op=25\/op=28\/op=30\/op=32->argsS op=1)/\(op=26->argsS op=2)/\(op=20\/op=21\/op=22\/op=23\/op=24\/op=27\/op=29\/op=33->argsS op=0):=by
 refine⟨λh=>?_,λh=>?_,λh=>?_,λh=>?_⟩
 all_goals (unfold argsS;(repeat' split)<;>omega)
theorem ins_ok{p:ProgD}{f:FunD}{wh ix:Nat->Int}{x:InsD}{b k:Nat}(h:insS p f wh ix x b k=true):OkI p f b x:=by
 unfold insS at h;split at h
 ·cases h
 rename_i hF;have hF:zF5 x b=true:=by cases e:zF5 x b with | true=>rfl | false=>exact absurd e hF
 have hop:1<=x.op/\x.op<=34/\x.op≠19:=by
  have:isOpS x.op=true:=by unfold zF5 at hF;simp at hF;exact hF.1
  unfold isOpS at this;simpa[and_assoc] using this
 have hA:argsS x.op=-1\/argsS x.op=(x.args.length:Int):=by
  have h1:=args_ge (op:=x.op);simp[zF5] at hF;rcases h1 with h1 | h1
  ·exact .inl h1
  ·exact .inr (hF.2.1.resolve_left (by omega))
 obtain⟨a1,a2,a3,a4⟩:=argsS_of hop.1 hop.2.1 hop.2.2;have low:x.op<=18->1<=x.args.length:=λe=>by have:=a1 e;omega
 have one:x.op=25\/x.op=28\/x.op=30\/x.op=32->x.args.length=1:=λe=>by have:=a2 e;omega
 have two:x.op=26->x.args.length=2:=λe=>by have:=a3 e;omega
 have none:x.op=20\/x.op=21\/x.op=22\/x.op=23\/x.op=24\/x.op=27\/x.op=29\/x.op=33->x.args.length=0:=λe=>by have:=a4 e;omega
 split at h
 ·rename_i h34;have h:(if b=0 then false else if 0<k/\opS f ((listB f b).getD (k-1) 0)≠34 then false else if x.args.length≠(ledB f b).length then false else if zBl p.structs x.typ=true then(List.range (ledB f b).length).all (phiAt f wh ix x b) else false)=true:=h;generalize listB f b=L at h;by_cases b0:b=0
  ·rw[if_pos b0] at h;cases h
  rw[if_neg b0] at h;by_cases c1:0<k/\opS f (L.getD (k-1) 0)≠34
  ·rw[if_pos c1] at h;cases h
  rw[if_neg c1] at h;by_cases hl:x.args.length=(ledB f b).length
  ·rw[if_neg (λe=>e hl)] at h;by_cases ht:zBl p.structs x.typ=true
   ·rw[if_pos ht] at h;refine⟨λa ha=>?_,λ_=>hl,low,one,two,none,λe=>by omega,λe=>by omega,λe=>by omega,λe=>by omega,λe=>by omega,hop⟩;obtain⟨i,hi,rfl⟩:=q0y ha;rw[List.all_eq_true] at h;have:=h i (List.mem_range.mpr (by omega));unfold phiAt at this;rw[decide_eq_true_eq,q0e,q0a hi] at this;have this:endS f wh ix x.args[i] _=x.typ:=this;unfold endS at this;exact typ_in (by rw[this];exact isTyp_ne ht)
   ·rw[if_neg ht] at h;cases h
  ·rw[if_pos hl] at h;cases h
 ·rename_i h34;split at h
  ·cases h
  rename_i hm;have args:∀a∈x.args,InN a f.ins.length:=λa ha=>typ_in (wh:=wh) (ix:=ix) (b:=b) (k:=(k:Int)) λe=>hm (by unfold typsS;exact List.mem_map.mpr ⟨a,ha,e⟩);have tl:(typsS f wh ix x b k).length=x.args.length:=by unfold typsS;simp
  have sl:∀{t w:Str},isS x t (typsS f wh ix x b k) [w]=true->w≠[]:=λ{t w} e=>by
   unfold isS at e;simp at e;intro ew;apply hm;rw[e.2,ew];simp
  unfold rowS at h;refine⟨args,λe=>absurd e h34,low,one,two,none,λe=>?_,λe=>?_,λe=>?_,λe=>?_,λe=>?_,hop⟩
  ·rw[if_neg (by omega),if_neg (by omega),if_neg (by omega),if_neg (by omega),if_neg (by omega),if_neg (by omega),if_neg (by omega)] at h;unfold newS at h;rw[if_pos e] at h;simp at h;exact atS_in (by rw[<-h.2];exact h.1)
  ·rw[if_neg (by omega),if_neg (by omega),if_neg (by omega),if_neg (by omega),if_neg (by omega),if_neg (by omega),if_neg (by omega)] at h;unfold newS at h;rw[if_neg (by omega),if_neg (by omega),if_neg (by omega),if_neg (by omega),if_pos e] at h;simp at h;exact h.2.2
  ·rcases e with e | e
   ·rw[if_neg (by omega),if_neg (by omega),if_neg (by omega),if_neg (by omega),if_neg (by omega),if_neg (by omega),if_neg (by omega)] at h;unfold newS at h;rw[if_neg (by omega),if_neg (by omega),if_neg (by omega),if_neg (by omega),if_neg (by omega),if_pos e] at h;simp at h;exact atS_in (by rw[<-h.2];exact h.1)
   ·rw[if_neg (by omega),if_neg (by omega),if_neg (by omega),if_pos e] at h;exact atS_in (sl h)
  ·rcases e with e | e
   ·rw[if_neg (by omega),if_neg (by omega),if_neg (by omega),if_neg (by omega),if_neg (by omega),if_neg (by omega),if_neg (by omega)] at h;unfold newS at h;rw[if_neg (by omega),if_neg (by omega),if_neg (by omega),if_neg (by omega),if_neg (by omega),if_neg (by omega)] at h;simp at h;exact globS_in (by rw[<-h.2];exact h.1)
   ·rw[if_neg (by omega),if_neg (by omega),if_neg (by omega),if_neg (by omega),if_pos e] at h;exact globS_in (sl h)
  ·rw[if_neg (by omega),if_neg (by omega),if_neg (by omega),if_neg (by omega),if_neg (by omega),if_neg (by omega),if_pos e] at h;unfold callS at h;split at h
   ·rename_i h0;cases hg:p.funs[x.n.toNat]? with
    | none=>rw[hg] at h;cases h
    | some g=>
     rw[hg] at h;dsimp only at h;unfold isS at h;simp at h;exact⟨x.n.toNat,g,by omega,hg,by rw[<-tl,h.2]⟩
   ·cases h
theorem whole_ok{p:ProgD}{f:FunD}(h:zCp p f=true):OkF p f:=by
 unfold zCp at h;rw[q0C] at h;obtain⟨hf,h⟩:=h;have pos:0<f.blocks.length:=by
  unfold zIb at hf;simp at hf;exact Nat.pos_of_ne_zero λe=>hf.2.2.2.2.1 (q0r e)
 cases hs:laidS f with
 | none=>rw[hs] at h;cases h
 | some s=>
  rw[hs] at h;dsimp only at h;rw[q0C,List.all_eq_true] at h;obtain⟨hl,h⟩:=h;unfold linkS at hl;rw[q0C,List.all_eq_true] at hl;refine⟨pos,zLq hs,λb hb z hz x hx=>?_,λb y hy=>?_⟩
  ·have:=h b (List.mem_range.mpr hb);unfold blkAt at this;rw[q0C,List.all_eq_true] at this;obtain⟨k,hk,rfl⟩:=q0y hz;have:=this.1 k (List.mem_range.mpr hk);unfold insAt at this;rw[q0e,q0a hk,q0F,hx] at this;exact ins_ok this
  ·obtain⟨hb,e⟩:=List.getElem?_eq_some_iff.mp hy;have h1:=hl.1 y (e▸q0l hb);have h2:=h b (List.mem_range.mpr hb);unfold blkAt at h2;rw[q0C,hy] at h2;have h2:endB f (whS s) (ixS s) b y=true:=h2.2;unfold jumpS zH8 at h1;unfold endB at h2;have tb:tBool≠[]:=by decide
   have tin:∀{t:Str},t≠[]->endS f (whS s) (ixS s) y.arg b=t->InN y.arg f.ins.length:=λht e=>end_in (by rw[e];exact ht);by_cases j1:y.jump=1
   ·rw[if_pos j1] at h1;simp at h1;exact⟨λ_=>⟨y.to0.toNat,by omega,by omega⟩,λe=>by omega,λe=>by omega,.inl j1⟩
   ·rw[if_neg j1] at h1;by_cases j2:y.jump=2
    ·rw[if_pos j2] at h1 h2;simp at h1 h2;exact⟨λ_=>⟨y.to0.toNat,by omega,by omega⟩,λ_=>⟨y.to1.toNat,by omega,by omega⟩,λ_=>tin tb h2,.inr (.inl j2)⟩
    ·rw[if_neg j2] at h1 h2;simp at h1;rw[if_pos h1.1] at h2;refine⟨λe=>by omega,λe=>by omega,λe=>?_,.inr (.inr h1.1)⟩;split at h2
     ·simp at h2;omega
     ·rename_i hr;simp at h2;exact tin hr h2
theorem zLa{p:ProgD}(h:zCz p=true):(∀f∈p.funs,OkF p f)/\∃k f,findF p tMain=some k/\p.funs[k]?=some f/\f.params=[]/\p.funs.length<=24/\p.globals.length<=12/\checkS p.structs=0:=by
 unfold zCz at h;rw[q0C,List.all_eq_true] at h;refine⟨λf hf=>whole_ok (h.2 f hf),?_⟩;have hh:=h.1;unfold headS at hh;simp only[q0C,decide_eq_true_eq] at hh;obtain⟨h1,h2,h3,-,-,h4⟩:=hh;unfold mainS at h4;cases e:findF p tMain with
 | none=>rw[e] at h4;cases h4
 | some k=>
  rw[e] at h4;dsimp only at h4;cases e2:p.funs[k]? with
  | none=>rw[e2] at h4;cases h4
  | some f=>
   rw[e2] at h4;simp at h4;exact⟨k,f,rfl,e2,h4.1,h3,h2,h1⟩
theorem wrapR(z:Int):I64 (IntKind.i64.wrap z):=zH9 (wf_wrap .i64 z)
theorem zLw{n:Nat}(h:n<=9223372036854775807):I64 (n:Int):=⟨by omega,by omega⟩
def Bn(op:ABin)(m n:Int)(r:Int):Prop:=∀h',oBin op (.c (.int .i64 m)) (.c (.int .i64 n)) .leaf [] h'=.val (.int .i64 r) h'
theorem zKt{m:Nat}(h:I64 (Int.ofNat m)):m<2 ^ 63:=by
 have h2:(m:Int)<9223372036854775808:=h.2;omega
theorem in_of{m:Nat}(h:m<2 ^ 63):zAo .i64 (Int.ofNat m)=true:=zGz ⟨by show _<=(m:Int);omega,by show(m:Int)<_;omega⟩
theorem and_ex{m n:Int}(hm:I64 m)(hn:I64 n):∃r,I64 r/\Bn .and m n r:=by
 have r1:=zGz hm;have r2:=zGz hn;have key:∀B:AH->OR,(∃r,I64 r/\∀h,B h=.val (.int .i64 r) h)->(∀h,oBin .and (.c (.int .i64 m)) (.c (.int .i64 n)) .leaf [] h=bi (zAo .i64 m) (bi (zAo .i64 n) (B h) (F 23)) (F 23))->∃r,I64 r/\Bn .and m n r:=λB ⟨r,hr,hB⟩ e=>⟨r,hr,λh=>by rw[e,r1,r2,zA8,zA8,hB]⟩;cases m with
 | ofNat a=>cases n with
  | ofNat b=>
   have hl:Nat.land a b<2 ^ 63:=Nat.and_lt_two_pow _ (zKt hn);exact key _ ⟨Int.ofNat (Nat.land a b),zLw (by omega),λh=>by show fN (Nat.land a b) (λn=>bi (zAo .i64 (Int.ofNat n)) (OR.val (AV.int .i64 (Int.ofNat n)) h) (F 23))=_;rw[fN_eq,in_of hl];rfl⟩ λh=>rfl
  | negSucc b=>exact key _ ⟨_,wrapR _,λh=>rfl⟩ λh=>rfl
 | negSucc a=>exact key _ ⟨_,wrapR _,λh=>rfl⟩ λh=>rfl
theorem or_ex{m n:Int}(hm:I64 m)(hn:I64 n):∃r,I64 r/\Bn .or m n r:=by
 have r1:=zGz hm;have r2:=zGz hn;have key:∀B:AH->OR,(∃r,I64 r/\∀h,B h=.val (.int .i64 r) h)->(∀h,oBin .or (.c (.int .i64 m)) (.c (.int .i64 n)) .leaf [] h=bi (zAo .i64 m) (bi (zAo .i64 n) (B h) (F 23)) (F 23))->∃r,I64 r/\Bn .or m n r:=λB ⟨r,hr,hB⟩ e=>⟨r,hr,λh=>by rw[e,r1,r2,zA8,zA8,hB]⟩;cases m with
 | ofNat a=>cases n with
  | ofNat b=>
   have hl:Nat.lor a b<2 ^ 63:=Nat.or_lt_two_pow (zKt hm) (zKt hn);exact key _ ⟨Int.ofNat (Nat.lor a b),zLw (by omega),λh=>by show fN (Nat.lor a b) (λn=>bi (zAo .i64 (Int.ofNat n)) (OR.val (AV.int .i64 (Int.ofNat n)) h) (F 23))=_;rw[fN_eq,in_of hl];rfl⟩ λh=>rfl
  | negSucc b=>exact key _ ⟨_,wrapR _,λh=>rfl⟩ λh=>rfl
 | negSucc a=>exact key _ ⟨_,wrapR _,λh=>rfl⟩ λh=>rfl
theorem xor_ex{m n:Int}(hm:I64 m)(hn:I64 n):∃r,I64 r/\Bn .xor m n r:=by
 have r1:=zGz hm;have r2:=zGz hn;have key:∀B:AH->OR,(∃r,I64 r/\∀h,B h=.val (.int .i64 r) h)->(∀h,oBin .xor (.c (.int .i64 m)) (.c (.int .i64 n)) .leaf [] h=bi (zAo .i64 m) (bi (zAo .i64 n) (B h) (F 23)) (F 23))->∃r,I64 r/\Bn .xor m n r:=λB ⟨r,hr,hB⟩ e=>⟨r,hr,λh=>by rw[e,r1,r2,zA8,zA8,hB]⟩;cases m with
 | ofNat a=>cases n with
  | ofNat b=>
   have hl:Nat.xor a b<2 ^ 63:=Nat.xor_lt_two_pow (zKt hm) (zKt hn);exact key _ ⟨Int.ofNat (Nat.xor a b),zLw (by omega),λh=>by show fN (Nat.xor a b) (λn=>bi (zAo .i64 (Int.ofNat n)) (OR.val (AV.int .i64 (Int.ofNat n)) h) (F 23))=_;rw[fN_eq,in_of hl];rfl⟩ λh=>rfl
  | negSucc b=>exact key _ ⟨_,wrapR _,λh=>rfl⟩ λh=>rfl
 | negSucc a=>exact key _ ⟨_,wrapR _,λh=>rfl⟩ λh=>rfl
theorem tmod_in{m n:Int}(hm:I64 m):I64 (Int.tmod m n):=by
 obtain⟨h1,h2⟩:=hm;cases m with
 | ofNat a=>
  have e:Int.tmod (Int.ofNat a) n=((a % n.natAbs:Nat):Int):=by cases n<;>rfl
  rw[e];have:=Nat.mod_le a n.natAbs;have h2:(a:Int)<_:=h2;exact⟨by omega,by omega⟩
 | negSucc a=>
  have e:Int.tmod (Int.negSucc a) n=-(((a+1) % n.natAbs:Nat):Int):=by cases n<;>rfl
  rw[e];have:=Nat.mod_le (a+1) n.natAbs;have h1:-9223372036854775808<=-((a:Int)+1):=by have:Int.negSucc a=-((a:Int)+1):=rfl;rw[<-this];exact h1
  exact⟨by omega,by omega⟩
theorem rem_ex{m n:Int}(hm:I64 m)(hn:n≠0):Bn .rem m n (Int.tmod m n):=λh=>by
 show bi (eqI n (Int.ofNat 0)) (F 22) (fI (Int.tmod m n) λn=>OR.val (AV.int .i64 n) h)=_;rw[zEm,decide_eq_false (show ¬n=Int.ofNat 0 from hn),zBi,fI_eq]
theorem shl_ex{m:Int}{n:Nat}:∃r,I64 r/\∀h',oBin .shl (.c (.int .i64 m)) (.c (.int .u64 (n:Int))) .leaf [] h'=.val (.int .i64 r) h':=by
 have e:∀h',oBin .shl (.c (.int .i64 m)) (.c (.int .u64 (n:Int))) .leaf [] h'=bi (Nat.ble n 64) (intV .i64 (Int.mul m (Int.ofNat (Nat.pow 2 n))) h') (OR.val (AV.int .i64 (Int.ofNat 0)) h'):=λh'=>rfl;cases hb:Nat.ble n 64 with
 | true=>exact⟨_,wrapR (Int.mul m (Int.ofNat (Nat.pow 2 n))),λh'=>by rw[e,hb,zA8,zCb]⟩
 | false=>exact⟨0,⟨by decide,by decide⟩,λh'=>by rw[e,hb];rfl⟩
theorem shr_ex{m:Int}(hm:I64 m){n:Nat}(hn:n<=64):∃r,I64 r/\∀h',oBin .shr (.c (.int .i64 m)) (.c (.int .u64 (n:Int))) .leaf [] h'=.val (.int .i64 r) h':=by
 have hb:Nat.ble n 64=true:=Nat.ble_eq.mpr hn;cases m with
 | ofNat a=>
  refine⟨((a / 2 ^ n:Nat):Int),zLw ?_,λh'=>?_⟩
  ·have:=zKt hm;have:=Nat.div_le_self a (2 ^ n);omega
  ·show bi (Nat.ble n 64) (fN (Nat.div a (Nat.pow 2 n)) λm=>OR.val (AV.int .i64 (Int.ofNat m)) h') (F 26)=_;rw[hb,zA8,fN_eq];rfl
 | negSucc a=>
  have e:Int.fdiv (Int.negSucc a) (Int.ofNat (Nat.pow 2 n))=Int.negSucc (a / 2 ^ n):=by
   rw[Int.fdiv_eq_ediv_of_nonneg _ (by exact Int.natCast_nonneg _)];have:(2:Nat) ^ n≠0:=by have:=Nat.pow_pos (n:=n) (show 0<2 by decide);omega
   obtain⟨k,hk⟩:∃k,Nat.pow 2 n=k+1:=Nat.exists_eq_succ_of_ne_zero this;rw[hk,show 2 ^ n=k+1 from hk];rfl
  refine⟨Int.negSucc (a / 2 ^ n),?_,λh'=>?_⟩
  ·have h1:=hm.1;have:=Nat.div_le_self a (2 ^ n);generalize a / 2 ^ n=q at *;rw[show Int.negSucc a=-((a:Int)+1) from rfl] at h1;rw[show Int.negSucc q=-((q:Int)+1) from rfl];exact⟨by omega,by omega⟩
  ·show bi (Nat.ble n 64) (OR.val (AV.int .i64 (Int.fdiv (Int.negSucc a) (Int.ofNat (Nat.pow 2 n)))) h') (F 26)=_;rw[hb,zA8,e]
section
variable{tab:Nat->Option AFunc}(H:PV tab)
include H in
theorem truth_gp{h:AH}{b:Bool}:GP tab 233 [.bool b] h λv h1=>v=.int .i64 (((if b then 1 else 0:Nat)):Int)/\h1=h:=by
 have i0:zAb [.bool b]=zAa [.bool b]:=rfl;refine gpr H.t233 ?_;cases b
 ·simp only[RL,↓reduceIte,i0]
 ·simp only[RL,↓reduceIte,i0]
include H in
theorem compare_ex{op x y:Int}:∃b:Bool,∀h,GP tab 234 [.int .i64 op,.int .i64 x,.int .i64 y] h λv h1=>v=.bool b/\h1=h:=by
 have i0:zAb [.int .i64 op,.int .i64 x,.int .i64 y]=zAa [.int .i64 op,.int .i64 x,.int .i64 y]:=rfl;refine⟨if op=11 then decide (x=y) else if op=12 then !decide (x=y) else if op=13 then decide (x<y) else if op=14 then decide (x<=y) else if op=15 then decide (y<x) else decide (y<=x),λh=>?_⟩;refine gpr H.t234 ?_;by_cases c1:op=((11:Nat):Int)
 ·subst c1;simp only[RL,↓reduceIte,Nat.reduceEqDiff,i0];rfl
 by_cases c2:op=((12:Nat):Int)
 ·subst c2;simp only[RL,↓reduceIte,Nat.reduceEqDiff,i0,c1];rfl
 by_cases c3:op=((13:Nat):Int)
 ·subst c3;simp only[RL,↓reduceIte,Nat.reduceEqDiff,i0,c1,c2];rfl
 by_cases c4:op=((14:Nat):Int)
 ·subst c4;simp only[RL,↓reduceIte,Nat.reduceEqDiff,i0,c1,c2,c3];rfl
 by_cases c5:op=((15:Nat):Int)
 ·subst c5;simp only[RL,↓reduceIte,Nat.reduceEqDiff,i0,c1,c2,c3,c4];rfl
 rw[if_neg (show ¬op=11 from c1),if_neg (show ¬op=12 from c2),if_neg (show ¬op=13 from c3),if_neg (show ¬op=14 from c4),if_neg (show ¬op=15 from c5)];simp only[RL,↓reduceIte,Nat.reduceEqDiff,i0,c1,c2,c3,c4,c5]
include H in
theorem divide_ex{op x y:Int}(hx:I64 x):∃(r:Int) (e:Nat),I64 r/\∀h,GP tab 227 [.int .i64 op,.int .i64 x,.int .i64 y] h λv h1=>v=.tup [.int .i64 r,.int .i64 (e:Int)]/\h1=h:=by
 have i0:zAb [.int .i64 op,.int .i64 x,.int .i64 y]=zAa [.int .i64 op,.int .i64 x,.int .i64 y]:=rfl;by_cases c0:y=((0:Nat):Int)
 ·refine⟨0,11,⟨by decide,by decide⟩,λh=>GE.gp (zAi H.t227 rfl ?_) (E:=λ_ _=>False) λ_ _=>id⟩;subst c0;simp only[RL,↓reduceIte,Nat.reduceEqDiff,i0];rfl
 by_cases c1:op=((4:Nat):Int)
 ·refine⟨_,0,wrapR (Int.tdiv x y),λh=>GE.gp (zAi H.t227 rfl ?_) (E:=λ_ _=>False) λ_ _=>id⟩;have e1:∀h',oBin .quo (.c (.int .i64 x)) (.c (.int .i64 y)) .leaf [] h'=_:=λh'=>bin_quo c0;subst c1;simp only[RL,↓reduceIte,Nat.reduceEqDiff,i0,c0,e1]
 ·refine⟨_,0,tmod_in (n:=y) hx,λh=>GE.gp (zAi H.t227 rfl ?_) (E:=λ_ _=>False) λ_ _=>id⟩;have e1:∀h',oBin .rem (.c (.int .i64 x)) (.c (.int .i64 y)) .leaf [] h'=_:=rem_ex hx c0;simp only[RL,↓reduceIte,Nat.reduceEqDiff,i0,c0,c1,e1]
include H in
theorem shift_ex{op x y:Int}(hx:I64 x)(hy:I64 y):∃(r:Int) (e:Nat),I64 r/\∀h,GP tab 226 [.int .i64 op,.int .i64 x,.int .i64 y] h λv h1=>v=.tup [.int .i64 r,.int .i64 (e:Int)]/\h1=h:=by
 have i0:zAb [.int .i64 op,.int .i64 x,.int .i64 y]=zAa [.int .i64 op,.int .i64 x,.int .i64 y]:=rfl;by_cases c0:y<((0:Nat):Int)
 ·refine⟨0,12,⟨by decide,by decide⟩,λh=>GE.gp (zAi H.t226 rfl ?_) (E:=λ_ _=>False) λ_ _=>id⟩;simp only[RL,↓reduceIte,Nat.reduceEqDiff,i0,c0];rfl
 obtain⟨n,rfl⟩:∃n:Nat,y=n:=⟨y.toNat,by omega⟩;have hn:n<9223372036854775808:=by have:=hy.2;omega
 by_cases c1:op=((10:Nat):Int)
 ·subst c1;obtain⟨m,hm,e2⟩:∃m:Nat,m<=64/\(if 63<n then((63:Nat):Int) else(n:Int))=(m:Int):=by
   by_cases c:63<n
   ·exact⟨63,by omega,if_pos (by omega)⟩
   ·exact⟨n,by omega,if_neg (by omega)⟩
  obtain⟨r,hr,e1⟩:=shr_ex hx hm;have e3:IntKind.u64.wrap (m:Int)=(m:Int):=by rw[zGl,Nat.mod_eq_of_lt (by omega)]
  refine⟨r,0,hr,λh=>GE.gp (zAi H.t226 rfl ?_) (E:=λ_ _=>False) λ_ _=>id⟩;simp only[RL,↓reduceIte,Nat.reduceEqDiff,i0,c0,e2,e3,e1]
 by_cases c2:((64:Nat):Int)<=(n:Int)
 ·refine⟨0,0,⟨by decide,by decide⟩,λh=>GE.gp (zAi H.t226 rfl ?_) (E:=λ_ _=>False) λ_ _=>id⟩;simp only[RL,↓reduceIte,Nat.reduceEqDiff,i0,c0,c1,c2];rfl
 ·obtain⟨r,hr,e1⟩:=shl_ex (m:=x) (n:=n);have e3:IntKind.u64.wrap (n:Int)=(n:Int):=by rw[zGl,Nat.mod_eq_of_lt (by omega)]
  refine⟨r,0,hr,λh=>GE.gp (zAi H.t226 rfl ?_) (E:=λ_ _=>False) λ_ _=>id⟩;simp only[RL,↓reduceIte,Nat.reduceEqDiff,i0,c0,c1,c2,e3,e1]
include H in
theorem plain_ex{op x y:Int}(hx:I64 x)(hy:I64 y):∃(r:Int),I64 r/\∀h,GP tab 228 [.int .i64 op,.int .i64 x,.int .i64 y] h λv h1=>v=.int .i64 r/\h1=h:=by
 have i0:zAb [.int .i64 op,.int .i64 x,.int .i64 y]=zAa [.int .i64 op,.int .i64 x,.int .i64 y]:=rfl;have ob:∀{o:ABin} {x y:Opd} {loc:T AV} {tmp:List AV} {h':AH},evOp (.bin o x y) loc tmp h'=oBin o (.c (ev loc tmp x)) (.c (ev loc tmp y)) .leaf [] h':=by intro o;cases o<;>(intros;rfl)
 have ng:∀{h':AH},oNeg (.c (.int .i64 x)) .leaf [] h'=.val (.int .i64 (IntKind.i64.wrap (-x))) h':=by
  intro h';show intV .i64 _ _=_;rw[zCb];rfl
 have tr:∀{b:Bool} {h:AH} {R E:AV->AH->Prop},GE tab 233 [.bool b] h R E=R (.int .i64 (((if b then 1 else 0:Nat)):Int)) h:=ge_rw (truth_gp H);have it:∀b:Bool,I64 (((if b=true then 1 else 0:Nat)):Int):=λb=>by cases b<;>exact⟨by decide,by decide⟩
 by_cases c1:op=((1:Nat):Int)
 ·subst c1;refine⟨_,wrapR (x+y),λh=>GE.gp (zAi H.t228 rfl ?_) (E:=λ_ _=>False) λ_ _=>id⟩;simp only[RL,↓reduceIte,Nat.reduceEqDiff,i0]
 by_cases c2:op=((2:Nat):Int)
 ·subst c2;refine⟨_,wrapR (x-y),λh=>GE.gp (zAi H.t228 rfl ?_) (E:=λ_ _=>False) λ_ _=>id⟩;simp only[RL,↓reduceIte,Nat.reduceEqDiff,i0,c1]
 by_cases c3:op=((3:Nat):Int)
 ·subst c3;refine⟨_,wrapR (x*y),λh=>GE.gp (zAi H.t228 rfl ?_) (E:=λ_ _=>False) λ_ _=>id⟩;simp only[RL,↓reduceIte,Nat.reduceEqDiff,i0,c1,c2]
 by_cases c4:op=((6:Nat):Int)
 ·subst c4;obtain⟨r,hr,e⟩:=and_ex hx hy;unfold Bn at e;refine⟨r,hr,λh=>GE.gp (zAi H.t228 rfl ?_) (E:=λ_ _=>False) λ_ _=>id⟩;simp only[RL,↓reduceIte,Nat.reduceEqDiff,i0,c1,c2,c3,ob,e]
 by_cases c5:op=((7:Nat):Int)
 ·subst c5;obtain⟨r,hr,e⟩:=or_ex hx hy;unfold Bn at e;refine⟨r,hr,λh=>GE.gp (zAi H.t228 rfl ?_) (E:=λ_ _=>False) λ_ _=>id⟩;simp only[RL,↓reduceIte,Nat.reduceEqDiff,i0,c1,c2,c3,c4,ob,e]
 by_cases c6:op=((8:Nat):Int)
 ·subst c6;obtain⟨r,hr,e⟩:=xor_ex hx hy;unfold Bn at e;refine⟨r,hr,λh=>GE.gp (zAi H.t228 rfl ?_) (E:=λ_ _=>False) λ_ _=>id⟩;simp only[RL,↓reduceIte,Nat.reduceEqDiff,i0,c1,c2,c3,c4,c5,ob,e]
 by_cases c7:op=((17:Nat):Int)
 ·subst c7;refine⟨_,wrapR (-x),λh=>GE.gp (zAi H.t228 rfl ?_) (E:=λ_ _=>False) λ_ _=>id⟩;simp only[RL,↓reduceIte,Nat.reduceEqDiff,i0,c1,c2,c3,c4,c5,c6,ng]
 by_cases c8:op=((18:Nat):Int)
 ·subst c8;refine⟨_,it (decide (x=((0:Nat):Int))),λh=>GE.gp (zAi H.t228 rfl ?_) (E:=λ_ _=>False) λ_ _=>id⟩;simp only[RL,↓reduceIte,Nat.reduceEqDiff,i0,c1,c2,c3,c4,c5,c6,c7,tr]
 obtain⟨b,hb⟩:=compare_ex H (op:=op) (x:=x) (y:=y);have eb:∀{h:AH} {R E:AV->AH->Prop},GE tab 234 [.int .i64 op,.int .i64 x,.int .i64 y] h R E=R (.bool b) h:=ge_rw (hb _);refine⟨_,it b,λh=>GE.gp (zAi H.t228 rfl ?_) (E:=λ_ _=>False) λ_ _=>id⟩;simp only[RL,↓reduceIte,Nat.reduceEqDiff,i0,c1,c2,c3,c4,c5,c6,c7,c8,eb,tr]
include H in
theorem binary_gp{h:AH}{op:Int}:GP tab 224 [.int .i64 op] h λv h1=>v=.bool (decide (1<=op)&&decide (op<=16))/\h1=h:=by
 have i0:zAb [.int .i64 op]=zAa [.int .i64 op]:=rfl;refine gpr H.t224 ?_;by_cases c1:((1:Nat):Int)<=op
 ·rw[decide_eq_true (show 1<=op from c1),q0E];simp only[RL,↓reduceIte,i0,c1];rfl
 ·rw[decide_eq_false (show ¬1<=op from c1),q0D];simp only[RL,↓reduceIte,i0,c1]
include H in
theorem unary_gp{h:AH}{op:Int}:GP tab 225 [.int .i64 op] h λv h1=>v=.bool (decide (op=17)||decide (op=18))/\h1=h:=by
 have i0:zAb [.int .i64 op]=zAa [.int .i64 op]:=rfl;refine gpr H.t225 ?_;by_cases c1:op=((17:Nat):Int)
 ·rw[decide_eq_true (show op=17 from c1),Bool.true_or];subst c1;simp only[RL,↓reduceIte,i0]
 ·rw[decide_eq_false (show ¬op=17 from c1),Bool.false_or];simp only[RL,↓reduceIte,i0,c1];rfl
include H in
theorem do_ex{op x y:Int}(hx:I64 x)(hy:I64 y):∃(r:Int) (e:Nat),I64 r/\∀h,GP tab 212 [.int .i64 op,.int .i64 x,.int .i64 y] h λv h1=>v=.tup [.int .i64 r,.int .i64 (e:Int)]/\h1=h:=by
 have i0:zAb [.int .i64 op,.int .i64 x,.int .i64 y]=zAa [.int .i64 op,.int .i64 x,.int .i64 y]:=rfl;have eb:∀{h:AH} {R E:AV->AH->Prop},GE tab 224 [.int .i64 op] h R E=R _ h:=ge_rw (binary_gp H);have eu:∀{h:AH} {R E:AV->AH->Prop},GE tab 225 [.int .i64 op] h R E=R _ h:=ge_rw (unary_gp H);generalize hb:(decide (1<=op)&&decide (op<=16))=bb at eb;generalize hu:(decide (op=17)||decide (op=18))=uu at eu;have main:(bb=true\/uu=true)->∃(r:Int) (e:Nat),I64 r/\∀h,GP tab 212 [.int .i64 op,.int .i64 x,.int .i64 y] h λv h1=>v=.tup [.int .i64 r,.int .i64 (e:Int)]/\h1=h:=by
  intro hbu;by_cases c1:op=((9:Nat):Int)\/op=((10:Nat):Int)
  ·obtain⟨r,e,hr,hs⟩:=shift_ex H (op:=op) hx hy;have es:∀{h:AH} {R E:AV->AH->Prop},GE tab 226 [.int .i64 op,.int .i64 x,.int .i64 y] h R E=R _ h:=ge_rw (hs _);refine⟨r,e,hr,λh=>GE.gp (zAi H.t212 rfl ?_) (E:=λ_ _=>False) λ_ _=>id⟩;rcases c1 with c | c<;>subst c<;>rcases hbu with h | h<;>subst h
   ·simp only[RL,↓reduceIte,Nat.reduceEqDiff,i0,eb,es]
   ·cases bb<;>simp only[RL,↓reduceIte,Nat.reduceEqDiff,i0,eb,eu,es]
   ·simp only[RL,↓reduceIte,Nat.reduceEqDiff,i0,eb,es,q0p,Nat.reduceEqDiff]
   ·cases bb<;>simp only[RL,↓reduceIte,Nat.reduceEqDiff,i0,eb,eu,es,q0p,Nat.reduceEqDiff]
  ·have n9:¬op=((9:Nat):Int):=λe=>c1 (.inl e);have n10:¬op=((10:Nat):Int):=λe=>c1 (.inr e);by_cases c2:op=((4:Nat):Int)\/op=((5:Nat):Int)
   ·obtain⟨r,e,hr,hs⟩:=divide_ex H (op:=op) (y:=y) hx;have es:∀{h:AH} {R E:AV->AH->Prop},GE tab 227 [.int .i64 op,.int .i64 x,.int .i64 y] h R E=R _ h:=ge_rw (hs _);refine⟨r,e,hr,λh=>GE.gp (zAi H.t212 rfl ?_) (E:=λ_ _=>False) λ_ _=>id⟩;rcases c2 with c | c<;>subst c<;>rcases hbu with h | h<;>subst h
    ·simp only[RL,↓reduceIte,Nat.reduceEqDiff,i0,eb,es,n9,n10,Nat.reduceEqDiff]
    ·cases bb<;>simp only[RL,↓reduceIte,Nat.reduceEqDiff,i0,eb,eu,es,n9,n10,Nat.reduceEqDiff]
    ·simp only[RL,↓reduceIte,Nat.reduceEqDiff,i0,eb,es,n9,n10,q0p,Nat.reduceEqDiff]
    ·cases bb<;>simp only[RL,↓reduceIte,Nat.reduceEqDiff,i0,eb,eu,es,n9,n10,q0p,Nat.reduceEqDiff]
   ·have n4:¬op=((4:Nat):Int):=λe=>c2 (.inl e);have n5:¬op=((5:Nat):Int):=λe=>c2 (.inr e);obtain⟨r,hr,hs⟩:=plain_ex H (op:=op) hx hy;have es:∀{h:AH} {R E:AV->AH->Prop},GE tab 228 [.int .i64 op,.int .i64 x,.int .i64 y] h R E=R _ h:=ge_rw (hs _);refine⟨r,0,hr,λh=>GE.gp (zAi H.t212 rfl ?_) (E:=λ_ _=>False) λ_ _=>id⟩;rcases hbu with h | h<;>subst h
    ·simp only[RL,↓reduceIte,Nat.reduceEqDiff,i0,eb,es,n9,n10,n4,n5]
    ·cases bb<;>simp only[RL,↓reduceIte,Nat.reduceEqDiff,i0,eb,eu,es,n9,n10,n4,n5]
 cases bb with
 | true=>exact main (.inl rfl)
 | false=>cases uu with
  | true=>exact main (.inr rfl)
  | false=>
   refine⟨0,9,⟨by decide,by decide⟩,λh=>GE.gp (zAi H.t212 rfl ?_) (E:=λ_ _=>False) λ_ _=>id⟩;simp only[RL,↓reduceIte,Nat.reduceEqDiff,i0,eb,eu];rfl
end
noncomputable def doS(tab:Nat->Option AFunc)(op x y:Int):Int×Nat:=open Classical in if H:∃q:Int×Nat,I64 q.1/\∀h,GP tab 212 [.int .i64 op,.int .i64 x,.int .i64 y] h λv h1=>v=.tup [.int .i64 q.1,.int .i64 (q.2:Int)]/\h1=h then Classical.choose H else(0,9)
theorem do_gp{tab:Nat->Option AFunc}(H:PV tab){op x y:Int}(hx:I64 x)(hy:I64 y):I64 (doS tab op x y).1/\∀h,GP tab 212 [.int .i64 op,.int .i64 x,.int .i64 y] h λv h1=>v=.tup [.int .i64 (doS tab op x y).1,.int .i64 ((doS tab op x y).2:Int)]/\h1=h:=by
 obtain⟨r,e,hr,hs⟩:=do_ex H (op:=op) hx hy;have Hx:∃q:Int×Nat,I64 q.1/\∀h,GP tab 212 [.int .i64 op,.int .i64 x,.int .i64 y] h λv h1=>v=.tup [.int .i64 q.1,.int .i64 (q.2:Int)]/\h1=h:=⟨(r,e),hr,hs⟩;have e:doS tab op x y=Classical.choose Hx:=by unfold doS;rw[dif_pos Hx]
 rw[e];exact Classical.choose_spec Hx
structure Sub(a b:AH):Prop where
 next:a.next<=b.next
 keep:∀k o,a.mem.get k=some o->b.mem.get k=some o
theorem SlV.sub{α:Type}{h h':AH}{es:Nat}{R R':List AV->α->Prop}{v:AV}{xs:List α}(a:SlV h es R v xs)(m:Sub h h')(hR:∀E x,R E x->R' E x):SlV h' es R' v xs:=by
 rcases a with a | ⟨id,off,cap,sz,c,p,ro,e,ck,g,hi,hb,ha⟩
 ·exact .inl a
 ·exact .inr ⟨id,off,cap,sz,c,p,ro,e,ck,m.keep _ _ g,q0d hi m.next,hb,λi hi=>let⟨E,a,b,c⟩:=ha i hi;⟨E,a,hR _ _ b,c⟩⟩
section
variable{h h':AH}{E:List AV}
theorem StructV.sub{x:zA9}(r:StructV h E x)(m:Sub h h'):StructV h' E x:=let⟨v,a,b,c⟩:=r;⟨v,a,b.sub m λ_ _=>id,c⟩
theorem InsV.sub{x:InsD}(r:InsV h E x)(m:Sub h h'):InsV h' E x:=let⟨v,a,b,c⟩:=r;⟨v,a,b.sub m λ_ _=>id,c⟩
theorem BlkV.sub{x:BlkD}(r:BlkV h E x)(m:Sub h h'):BlkV h' E x:=let⟨v,a,b,c⟩:=r;⟨v,a,b.sub m λ_ _=>id,c⟩
theorem FunV.sub{x:FunD}(r:FunV h E x)(m:Sub h h'):FunV h' E x:=let⟨p,s,i,b,e,r1,r2,r3,r4,r5⟩:=r;⟨p,s,i,b,e,r1.sub m λ_ _=>id,r2.sub m λ_ _=>id,r3.sub m λ_ _ r=>r.sub m,r4.sub m λ_ _ r=>r.sub m,r5⟩
end
abbrev nv(n:Nat):AV:=.int .i64 (n:Int)
inductive Lab where
 | no | mac | sto | glob | list | fld (i:Nat) | frames | acts | sites | out | inp
def KeepR(r:Lab)(h:AH)(lab:Nat->Lab)(h':AH)(lab':Nat->Lab):Prop:=h.next<=h'.next/\∀k,lab k=r->k<h.next->lab' k=r/\h'.mem.get k=h.mem.get k
theorem Arr.keepR{h h':AH}{lab lab':Nat->Lab}{r:Lab}{v:AV}{cs:List AV}(x:Arr h (λk=>lab k=r) v cs)(m:KeepR r h lab h' lab'):Arr h' (λk=>lab' k=r) v cs:=
 x.keep ⟨m.1,λk hk hl=>(m.2 k hk hl).2⟩ λk hk hl=>(m.2 k hk hl).1
theorem Arr.to{h h':AH}{F G:Nat->Prop}{v:AV}{cs:List AV}(x:Arr h F v cs)(hn:h.next<=h'.next)(hk:∀k,F k->k<h.next->G k/\h'.mem.get k=h.mem.get k):Arr h' G v cs:=
 x.keep ⟨hn,λk a b=>(hk k a b).2⟩ λk a b=>(hk k a b).1
def ObjL(h:AH)(lab:Nat->Lab)(r:Lab)(id:Nat)(L:List AV):Prop:=∃c,h.mem.get id=some (.cells c L.length none false)/\lab id=r/\id<h.next/\∀j,j<L.length->c.get j=L[j]?
theorem ObjL.keepR{h h':AH}{lab lab':Nat->Lab}{r:Lab}{id:Nat}{L:List AV}(x:ObjL h lab r id L)(m:KeepR r h lab h' lab'):ObjL h' lab' r id L:=by
 obtain⟨c,g,hl,hi,hc⟩:=x;exact⟨c,(m.2 id hl hi).2.trans g,(m.2 id hl hi).1,q0d hi m.1,hc⟩
theorem put_L{c:T AV}{L:List AV}{j:Nat}{v:AV}(hc:∀i,i<L.length->c.get i=L[i]?):∀i,i<(L.set j v).length->(T.put (some v) c j).get i=(L.set j v)[i]?:=λi hi=>by
 rw[List.length_set] at hi;rw[List.getElem?_set];by_cases e:j=i
 ·subst e;rw[q1b,if_pos rfl,if_pos hi]
 ·rw[q1a _ _ _ _ e,if_neg e,hc i hi]
theorem ObjL.set{h:AH}{lab:Nat->Lab}{r:Lab}{id:Nat}{L:List AV}{c:T AV}(hl:lab id=r)(hi:id<h.next)(hc:∀j,j<L.length->c.get j=L[j]?)(j:Nat)(v:AV):ObjL (h.set id (.cells (T.put (some v) c j) L.length none false)) lab r id (L.set j v):=
 ⟨_,by rw[List.length_set];exact q2d,hl,by rw[q2b];exact hi,put_L hc⟩
inductive ArrN(h:AH)(F:Nat->Prop)(es:Nat):AV->List (List AV)->Prop
 | nils:ArrN h F es .nils []
 | sl {id:Nat} {c:T AV} {xs:List (List AV)}:xs≠[]->F id->id<h.next->h.mem.get id=some (.cells c (xs.length*es) none false)->
   (∀(i:Nat) (hi:i<xs.length),xs[i].length=es/\∀j,j<es->c.get (i*es+j)=xs[i][j]?)->ArrN h F es (.sl id 0 xs.length (.rest es)) xs
theorem ArrN.to{h h':AH}{F G:Nat->Prop}{es:Nat}{v:AV}{xs:List (List AV)}(x:ArrN h F es v xs)(hn:h.next<=h'.next)(hk:∀k,F k->k<h.next->G k/\h'.mem.get k=h.mem.get k):ArrN h' G es v xs:=by
 cases x with
 | nils=>exact .nils
 | sl a b c d e=>exact .sl a (hk _ b c).1 (q0d c hn) ((hk _ b c).2.trans d) e
theorem ArrN.len{h:AH}{F:Nat->Prop}{es:Nat}{v:AV}{xs:List (List AV)}(x:ArrN h F es v xs):∀h',oLen .sl (.c v) .leaf [] h'=.val (.int .i64 (xs.length:Int)) h':=by
 cases x with
 | nils=>exact λ_=>rfl
 | sl=>exact λ_=>zGv
theorem ArrN.mv{h:AH}{F:Nat->Prop}{es:Nat}{v:AV}{xs:List (List AV)}(x:ArrN h F es v xs):v.mv=true:=by cases x<;>rfl
theorem ArrN.cells{h:AH}{F:Nat->Prop}{es:Nat}{v:AV}{xs:List (List AV)}(x:ArrN h F es v xs):cellsOf v=some [v]:=by cases x<;>rfl
theorem ArrN.open{h:AH}{F:Nat->Prop}{es:Nat}{v:AV}{xs:List (List AV)}(x:ArrN h F es v xs){i:Nat}(hi:i<xs.length):∃id c,v=.sl id 0 xs.length (.rest es)/\F id/\id<h.next/\h.mem.get id=some (.cells c (xs.length*es) none false)/\xs[i].length=es/\∀j,j<es->c.get (i*es+j)=xs[i][j]?:=by
 cases x with
 | nils=>cases hi
 | sl a b c d e=>exact⟨_,_,rfl,b,c,d,(e i hi).1,(e i hi).2⟩
theorem ArrN.append{h:AH}{F:Nat->Prop}{es by':Nat}{v:AV}{xs:List (List AV)}(x:ArrN h F es v xs){src:AV}{new:List AV}(hs:∀k,zAv es src h k=k 1 new)(hl:new.length=es)(he:1<=es)(hx:xs.length<1000000)(hby:by'<=1000) :
  ∃v' h',zA0 none es by' (.c v) (.c src) .leaf [] h=.val v' h'/\ArrN h' (λk=>k=h.next) es v' (xs++[new])/\h'.next=h.next+1/\(∀k,k<h.next->¬F k->h'.mem.get k=h.mem.get k):=by
 have one:ArrN (h.add (.cells (zAa new) (1*es) none false)) (λk=>k=h.next) es (.sl h.next 0 1 (.rest es)) [new]:=by
  refine ArrN.sl (xs:=[new]) (c:=zAa new) (by simp) rfl (q0h _) (by rw[q2a,q1b];simp) λi hi=>?_;obtain rfl:i=0:=by simp at hi;omega
  refine⟨hl,λj hj=>?_⟩;rw[Nat.zero_mul,q0I,zAe];rfl
 cases x with
 | nils=>exact⟨_,_,zGk hs (by omega) (zBw (by omega) hby),one,rfl,λk hk _=>by rw[q2a,q1a _ _ _ _ (by omega)]⟩
 | sl a1 a2 a3 a4 a5=>
  rename_i id c;refine⟨_,_,zGj hs a4 rfl he (by omega) (zBw (by omega) hby),?_,by rw[q2e,q2l],λk hk hne=>?_⟩
  rotate_left
  ·rw[q2a,q2l,q1a _ _ _ _ (by omega),AH.kill_mem,q1a _ _ _ _ (λe=>hne (by rw[<-e];exact a2))]
  have e:xs.length+1=(xs++[new]).length:=by simp
  rw[e];refine ArrN.sl (c:=putL new c (xs.length*es)) (by simp) rfl (by rw[q2e,q2l];exact q0h _) (by rw[q2a,q2l,q1b]) λi hi=>?_;by_cases h1:i<xs.length
  ·rw[List.getElem_append_left h1];refine⟨(a5 i h1).1,λj hj=>?_⟩;have h2:(i+1)*es<=xs.length*es:=q0u _ h1;rw[Nat.succ_mul] at h2;rw[zB9,if_neg (by omega)];exact(a5 i h1).2 j hj
  ·obtain rfl:i=xs.length:=by simp at hi;omega
   rw[List.getElem_append_right (q0c _)];simp only[Nat.sub_self,List.getElem_cons_zero];refine⟨hl,λj hj=>?_⟩;rw[zB9,if_pos (by omega)];congr 1;omega
inductive Stk(h:AH)(F:Nat->Prop):AV->Nat->Prop
 | nils:Stk h F .nils 0
 | sl {id s n:Nat} {c:T AV}:F id->id<h.next->h.mem.get id=some (.cells c s none false)->n<=s->(∀i,i<s->c.get i≠none)->s<=1000000->Stk h F (.sl id 0 n (.rest 1)) n
theorem Stk.to{h h':AH}{F G:Nat->Prop}{v:AV}{n:Nat}(x:Stk h F v n)(hn:h.next<=h'.next)(hk:∀k,F k->k<h.next->G k/\h'.mem.get k=h.mem.get k):Stk h' G v n:=by
 cases x with
 | nils=>exact .nils
 | sl a b c d e f=>exact .sl (hk _ a b).1 (q0d b hn) ((hk _ a b).2.trans c) d e f
theorem Stk.mv{h:AH}{F:Nat->Prop}{v:AV}{n:Nat}(x:Stk h F v n):v.mv=true:=by cases x<;>rfl
theorem Stk.cells{h:AH}{F:Nat->Prop}{v:AV}{n:Nat}(x:Stk h F v n):cellsOf v=some [v]:=by cases x<;>rfl
theorem Stk.push{h:AH}{F:Nat->Prop}{v x:AV}{n:Nat}(a:Stk h F v n)(hx:n<1000000) :
  ∃v' h',zA0 none 1 8 (.c v) (.c (.sl h.next 0 1 (.known 1))) .leaf [] (h.add (.cells (zAa [x]) 1 none false))=.val v' h'/\Stk h' (λk=>F k/\k<h.next\/k=h.next+1) v' (n+1)/\h.next+1<=h'.next/\h'.next<=h.next+2/\(∀k,k<h.next->¬F k->h'.mem.get k=h.mem.get k):=by
 have hs:∀k,zAv 1 (.sl h.next 0 1 (.known 1)) (h.add (.cells (zAa [x]) 1 none false)) k=k 1 [x]:=λk=>zFd (by decide) (by rw[q2a,q1b]) (zBk (show(zAa [x]).get 0=_ from zAe _ _) rfl) k;cases a with
 | nils=>
  refine⟨_,_,zGk hs (by omega) (zBw (by omega) (by omega)),?_,q0w _,q0c _,λk hk _=>by rw[q2a,q2a,q1a _ _ _ _ (by rw[q2e];omega),q1a _ _ _ _ (by omega)]⟩;exact Stk.sl (s:=1) (c:=zAa [x]) (.inr rfl) (q0h _) (by rw[q2a,q1b]) (q0c _) (λi hi=>by
   obtain rfl:i=0:=by omega
   rw[zAe];simp) (by omega)
 | sl b1 b2 b3 b4 b5 b6=>
  rename_i id s c;have g1:(h.add (.cells (zAa [x]) 1 none false)).mem.get id=some (.cells c s none false):=by rw[q2a,q1a _ _ _ _ (by omega)];exact b3
  by_cases hr:n+1<=s
  ·have hap:zA0 none 1 8 (.c (.sl id 0 n (.rest 1))) (.c (.sl h.next 0 1 (.known 1))) .leaf [] (h.add (.cells (zAa [x]) 1 none false))=.val (.sl id 0 (n+1) (.rest 1)) ((h.add (.cells (zAa [x]) 1 none false)).set id (.cells (putL [x] c n) s none false)):=by
    show zAv 1 (.sl h.next 0 1 (.known 1)) (h.add (.cells (zAa [x]) 1 none false)) _=_;rw[hs];show bi (Nat.beq 1 0) (OR.val (AV.sl id 0 n (.rest 1)) (h.add (.cells (zAa [x]) 1 none false))) (zAq (AH.get (h.add (.cells (zAa [x]) 1 none false)) id) _)=_;rw[show Nat.beq 1 0=false from rfl,zBi,q2f,g1];simp only[zCf,fN_eq];have e1:Nat.ble (Nat.add 0 (Nat.mul (n+1) 1)) s=true:=Nat.ble_eq.mpr (by show 0+(n+1)*1<=s;omega);have e2:Nat.add 0 (Nat.mul n 1)=n:=by show 0+n*1=n;omega
    have key:∀A B C D:OR,bi (Nat.beq 1 1) (bi false D (bi (Nat.ble 1 1) (bi (Nat.ble (Nat.add 0 (Nat.mul (n+1) 1)) s) (obind (zBr [x] c (Nat.add 0 (Nat.mul n 1))) D λc'=>OR.val (AV.sl id 0 (n+1) (.rest 1)) (AH.set (h.add (.cells (zAa [x]) 1 none false)) id (AObj.cells c' s none false))) A) B)) C=.val (.sl id 0 (n+1) (.rest 1)) ((h.add (.cells (zAa [x]) 1 none false)).set id (.cells (putL [x] c n) s none false)):=by
     intro A B C D;rw[show Nat.beq 1 1=true from rfl,zA8,zBi,show Nat.ble 1 1=true from rfl,zA8,e1,zA8,e2,zHb (λi h1 h2=>b5 i (by simp at h2;omega))];rfl
    exact key _ _ _ _
   refine⟨_,_,hap,?_,by rw[q2b];exact q0c _,by rw[q2b];exact q0w _,λk hk hf=>?_⟩
   ·refine Stk.sl (.inl ⟨b1,b2⟩) (by rw[q2b];exact Nat.lt_succ_of_lt b2) q2d hr (λi hi=>?_) b6;rw[zB9];split
    ·rename_i hh;obtain rfl:i=n:=by simp at hh;omega
     simp
    ·exact b5 i hi
   ·rw[q2c,q1a _ _ _ _ (λe=>hf (by rw[<-e];exact b1)),q2a,q1a _ _ _ _ (by omega)]
  ·obtain rfl:n=s:=by omega
   refine⟨_,_,zGj hs g1 (Nat.mul_one _).symm (q0c _) (by omega) (zBw (by omega) (by omega)),?_,by rw[q2e,q2l];exact q0w _,by rw[q2e,q2l];exact q0c _,λk hk hf=>?_⟩
   ·refine Stk.sl (.inr (by rw[q2e])) (q0h (h.next+1)) (by rw[q2a,q2l,q1b]) (by omega) (λi hi=>?_) (by omega);rw[zB9];split
    ·rename_i hh;rw[q0a (by omega)];exact λe=>by cases e
    ·rename_i hh;simp at hh;exact b5 i (by omega)
   ·rw[q2a,q2l,q2e,q1a _ _ _ _ (by omega),AH.kill_mem,q1a _ _ _ _ (λe=>hf (by rw[<-e];exact b1)),q2a,q1a _ _ _ _ (by omega)]
def InpK(h:AH)(v:AV)(xs:List Int):Prop:=(v=.nils/\xs=[])\/∃id off cap,v=.sl id off xs.length (.known cap)/\xs.length<=cap/\(xs≠[]->∃c sz p ro,h.mem.get id=some (.cells c sz p ro)/\id<h.next/\∀i (hi:i<xs.length),c.get (off+i)=some (iv xs[i]))
def InpO(h:AH)(F:Nat->Prop)(v:AV)(xs:List Int):Prop:=(xs=[]/\∃id off e,v=.sl id off 0 (.rest e))\/(xs≠[]/\∃id off c sz,v=.sl id off xs.length (.rest 1)/\F id/\id<h.next/\h.mem.get id=some (.cells c sz none false)/\off+xs.length=sz/\∀i (hi:i<xs.length),c.get (off+i)=some (iv xs[i]))
theorem InpO.to{h h':AH}{F G:Nat->Prop}{v:AV}{xs:List Int}(x:InpO h F v xs)(hn:h.next<=h'.next)(hk:∀k,F k->k<h.next->G k/\h'.mem.get k=h.mem.get k):InpO h' G v xs:=by
 rcases x with x | ⟨a,id,off,c,sz,e,f,hi,g,hl,hc⟩
 ·exact .inl x
 ·exact .inr ⟨a,id,off,c,sz,e,(hk _ f hi).1,q0d hi hn,(hk _ f hi).2.trans g,hl,hc⟩
theorem InpK.len{h:AH}{v:AV}{xs:List Int}(x:InpK h v xs):∀h',oLen .sl (.c v) .leaf [] h'=.val (.int .i64 (xs.length:Int)) h':=by
 rcases x with⟨rfl,rfl⟩ | ⟨id,off,cap,rfl,_⟩
 ·exact λ_=>rfl
 ·exact λ_=>zGv
theorem InpK.mv{h:AH}{v:AV}{xs:List Int}(x:InpK h v xs):v.mv=true:=by
 rcases x with⟨rfl,rfl⟩ | ⟨id,off,cap,rfl,_⟩<;>rfl
theorem InpK.cells{h:AH}{v:AV}{xs:List Int}(x:InpK h v xs):cellsOf v=some [v]:=by
 rcases x with⟨rfl,rfl⟩ | ⟨id,off,cap,rfl,_⟩<;>rfl
theorem InpO.len{h:AH}{F:Nat->Prop}{v:AV}{xs:List Int}(x:InpO h F v xs):∀h',oLen .sl (.c v) .leaf [] h'=.val (.int .i64 (xs.length:Int)) h':=by
 rcases x with⟨rfl,_,_,_,rfl⟩ | ⟨_,_,_,_,_,rfl,_⟩<;>exact λ_=>zGv
theorem InpO.mv{h:AH}{F:Nat->Prop}{v:AV}{xs:List Int}(x:InpO h F v xs):v.mv=true:=by
 rcases x with⟨rfl,_,_,_,rfl⟩ | ⟨_,_,_,_,_,rfl,_⟩<;>rfl
theorem InpO.cells{h:AH}{F:Nat->Prop}{v:AV}{xs:List Int}(x:InpO h F v xs):cellsOf v=some [v]:=by
 rcases x with⟨rfl,_,_,_,rfl⟩ | ⟨_,_,_,_,_,rfl,_⟩<;>rfl
theorem InpK.next{h:AH}{v:AV}{z:Int}{xs:List Int}(x:InpK h v (z::xs)):∃id off v',(∀h' k,zCx 1 (.c v) (.c (.int k ((0:Nat):Int))) .leaf [] h'=.val (.ptr id off) h')/\(∃c sz p ro,h.mem.get id=some (.cells c sz p ro)/\c.get off=some (iv z))/\(∀h' kill,zAs kill 1 (.c v) (some (.c (nv 1))) none none .leaf [] h'=.val v' h')/\InpK h v' xs:=by
 rcases x with⟨_,e⟩ | ⟨id,off,cap,rfl,hl,hx⟩
 ·cases e
 ·obtain⟨c,sz,p,ro,g,hi,hc⟩:=hx (by simp);rw[q0P] at hl;refine⟨id,off,if cap-1=0 then .sl id off xs.length (.known (cap-1)) else .sl id (off+1) xs.length (.known (cap-1)),λh' k=>by rw[idx_sl (by simp)];rfl,⟨c,sz,p,ro,g,by have:=hc 0 (by simp);simpa using this⟩,λh' kill=>?_,?_⟩
  ·show bi (Nat.ble cap cap) (bi (Nat.ble (xs.length+1) cap) (bi (Nat.ble 1 (xs.length+1)) (fN (Nat.sub (xs.length+1) 1) λn=>fN (Nat.sub cap 1) λm=>bi (Nat.beq m 0) (OR.val (AV.sl id off n (ACap.known m)) h') (fN (Nat.add off (Nat.mul 1 1)) λoff=>OR.val (AV.sl id off n (ACap.known m)) h')) (F 35)) (F 35)) (F 35)=_;rw[bi_eq,if_pos (Nat.ble_eq.mpr (q0c _)),bi_eq,if_pos (Nat.ble_eq.mpr hl),bi_eq,if_pos (Nat.ble_eq.mpr (by omega)),fN_eq,fN_eq,fN_eq,zDc,bi_eq];have e1:Nat.sub (xs.length+1) 1=xs.length:=rfl;have e2:Nat.sub cap 1=cap-1:=rfl;have e3:Nat.add off (Nat.mul 1 1)=off+1:=rfl;rw[e1,e2,e3];by_cases hc0:cap-1=0
   ·rw[if_pos hc0,if_pos (decide_eq_true hc0)]
   ·rw[if_neg hc0,if_neg (by rw[decide_eq_false hc0];decide)]
  ·by_cases hc0:cap-1=0
   ·rw[if_pos hc0];exact .inr ⟨id,off,cap-1,rfl,by omega,λhn=>absurd (q0r (by omega)) hn⟩
   ·rw[if_neg hc0];exact .inr ⟨id,off+1,cap-1,rfl,by omega,λ_=>⟨c,sz,p,ro,g,hi,λi hi'=>by have:=hc (i+1) (by simpa using hi');rw[show off+1+i=off+(i+1) by omega];simpa using this⟩⟩
theorem InpO.next{h:AH}{F:Nat->Prop}{v:AV}{z:Int}{xs:List Int}(x:InpO h F v (z::xs)):∃id off v' h1,(∀h' k,zCx 1 (.c v) (.c (.int k ((0:Nat):Int))) .leaf [] h'=.val (.ptr id off) h')/\(∃c sz p ro,h.mem.get id=some (.cells c sz p ro)/\c.get off=some (iv z))/\(zAs true 1 (.c v) (some (.c (nv 1))) none none .leaf [] h=.val v' h1)/\InpO h1 F v' xs/\h.next<=h1.next/\(∀k,k<h.next->¬F k->h1.mem.get k=h.mem.get k):=by
 rcases x with⟨e,_⟩ | ⟨_,id,off,c,sz,rfl,f,hi,g,hl,hc⟩
 ·cases e
 ·rw[q0P] at hl;have e1:Nat.ble (Nat.add off (Nat.mul (xs.length+1) 1)) sz=true:=Nat.ble_eq.mpr (by show off+(xs.length+1)*1<=sz;omega);have run:zAs true 1 (.c (.sl id off (xs.length+1) (.rest 1))) (some (.c (nv 1))) none none .leaf [] h=bi (Nat.beq xs.length 0) (AH.new (AH.kill h id) (AObj.cells T.leaf 0 none false) λid h=>OR.val (AV.sl id 0 0 (ACap.rest 1)) h) (OR.val (AV.sl id (off+1) xs.length (ACap.rest 1)) h):=by
   show zAq (AH.get h id) _=_;rw[q2f,g];simp only[zCf];show bi (Nat.ble (Nat.add off (Nat.mul (xs.length+1) 1)) sz) (bi (Nat.ble 1 (xs.length+1)) (fN (Nat.sub (xs.length+1) 1) λn=>bi (Nat.beq n 0) (AH.new (AH.kill h id) (AObj.cells T.leaf 0 none false) λid h=>OR.val (AV.sl id 0 0 (ACap.rest 1)) h) (fN (Nat.add off (Nat.mul 1 1)) λoff=>OR.val (AV.sl id off n (ACap.rest 1)) h)) (Ev.F 36)) (Ev.F 36)=_;rw[e1,zA8,show Nat.ble 1 (xs.length+1)=true from Nat.ble_eq.mpr (by omega),zA8,fN_eq,fN_eq];rfl
  by_cases h0:xs.length=0
  ·obtain rfl:=q0r h0;refine⟨id,off,.sl h.next 0 0 (.rest 1),(h.kill id).add (AObj.cells T.leaf 0 none false),λh' k=>by rw[idx_sl (by simp)];rfl,⟨c,sz,none,false,g,by have:=hc 0 (by simp);simpa using this⟩,?_,.inl ⟨rfl,_,_,_,rfl⟩,?_,λk hk hf=>?_⟩
   ·show zAs true 1 (.c (.sl id off (0+1) (.rest 1))) (some (.c (nv 1))) none none .leaf [] h=_;rw[show(0:Nat)+1=([]:List Int).length+1 from rfl,run];show AH.new (AH.kill h id) (AObj.cells T.leaf 0 none false) (λid h=>OR.val (AV.sl id 0 0 (ACap.rest 1)) h)=_;rw[q2k,q2l]
   ·rw[q2e,q2l];exact q0w _
   ·rw[q2a,q2l,q1a _ _ _ _ (by omega),AH.kill_mem,q1a _ _ _ _ (λe=>hf (by rw[<-e];exact f))]
  ·refine⟨id,off,.sl id (off+1) xs.length (.rest 1),h,λh' k=>by rw[idx_sl (by simp)];rfl,⟨c,sz,none,false,g,by have:=hc 0 (by simp);simpa using this⟩,?_,.inr ⟨λe=>h0 (by rw[e];rfl),id,off+1,c,sz,rfl,f,hi,g,by omega,λi hi'=>by have:=hc (i+1) (by simpa using hi');rw[show off+1+i=off+(i+1) by omega];simpa using this⟩,q0c _,λ_ _ _=>rfl⟩;show zAs true 1 (.c (.sl id off (xs.length+1) (.rest 1))) (some (.c (nv 1))) none none .leaf [] h=_;rw[run,zDc,decide_eq_false h0,zBi]
structure MK where
 vs:AV
 vg:AV
 vf:AV
 va:AV
 vstr:AV
 L:List Int
 own:Bool
structure MV where
 glob:AV
 inp:AV
 out:AV
 acts:AV
 sites:AV
 list:AV
 frames:AV
 fl:List AV
 depth:Nat
 rows:List (List AV)
def macL(K:MK)(V:MV)(S:Nat)(s:MSt):List AV:=[K.vs,K.vg,K.vf,K.va,V.glob,.ptr S 0,V.inp,nv s.fuel,V.out,nv 0,nv 0,nv s.steps,nv 0,V.acts,V.sites,.nilf]
def stoL(K:MK)(V:MV)(s:MSt):List AV:=[K.vstr,V.list,V.frames,nv s.framed]
def zBo(l:List Obj)(fl:List AV):List (List AV):=List.zipWith (λ(o:Obj) f=>[nv o.of,iv o.frame,f]) l fl
def PartM(r:Lab)(h:AH)(lab:Nat->Lab)(M S:Nat)(K:MK)(V:MV)(s:MSt):Prop:=match r with
 | .no=>True
 | .mac=>ObjL h lab .mac M (macL K V S s)
 | .sto=>ObjL h lab .sto S (stoL K V s)
 | .glob=>Arr h (λk=>lab k=.glob) V.glob (s.glob.map iv)
 | .out=>Arr h (λk=>lab k=.out) V.out (s.out.map iv)
 | .frames=>Arr h (λk=>lab k=.frames) V.frames (s.frames.map AV.bool)
 | .list=>ArrN h (λk=>lab k=.list) 3 V.list (zBo s.objs V.fl)
 | .fld i=>∀(h1:i<V.fl.length) (h2:i<s.objs.length),Arr h (λk=>lab k=.fld i) V.fl[i] (s.objs[i].fields.map iv)
 | .acts=>Stk h (λk=>lab k=.acts) V.acts V.depth
 | .sites=>ArrN h (λk=>lab k=.sites) 2 V.sites V.rows
 | .inp=>K.own=true->InpO h (λk=>lab k=.inp) V.inp (K.L.drop s.pos)
theorem PartM.keepR{r:Lab}{h h':AH}{lab lab':Nat->Lab}{M S:Nat}{K:MK}{V:MV}{s:MSt}(x:PartM r h lab M S K V s)(m:KeepR r h lab h' lab'):PartM r h' lab' M S K V s:=by
 cases r with
 | no=>trivial
 | mac=>exact ObjL.keepR x m
 | sto=>exact ObjL.keepR x m
 | glob=>exact Arr.keepR x m
 | out=>exact Arr.keepR x m
 | frames=>exact Arr.keepR x m
 | list=>exact ArrN.to x m.1 m.2
 | fld i=>exact λh1 h2=>Arr.keepR (x h1 h2) m
 | acts=>exact Stk.to x m.1 m.2
 | sites=>exact ArrN.to x m.1 m.2
 | inp=>exact λho=>(x ho).to m.1 m.2
structure MacR(ex:Lab->Prop)(hd h:AH)(lab:Nat->Lab)(M S:Nat)(K:MK)(V:MV)(s:MSt):Prop where
 sub:Sub hd h
 dis:∀k o,hd.mem.get k=some o->lab k=.no/\k<hd.next
 new:∀k,h.next<=k->lab k=.no
 part:∀r,¬ex r->PartM r h lab M S K V s
 fll:V.fl.length=s.objs.length
 inp:K.own=false->InpK hd V.inp (K.L.drop s.pos)
 iglob:∀z∈s.glob,I64 z
 ifld:∀o∈s.objs,∀z∈o.fields,I64 z
 dep:V.depth<=s.frames.length
 sit:V.rows.length<=s.objs.length
abbrev MacS:=MacR λ_=>False
def FrK(lab:Nat->Lab)(h:AH)(lab':Nat->Lab)(h':AH):Prop:=h.next<=h'.next/\∀k,k<h.next->lab k=.no->lab' k=.no/\h'.mem.get k=h.mem.get k
theorem FrK.refl(lab:Nat->Lab)(h:AH):FrK lab h lab h:=⟨q0c _,λ_ _ a=>⟨a,rfl⟩⟩
theorem FrK.trans{l1 l2 l3:Nat->Lab}{h1 h2 h3:AH}(a:FrK l1 h1 l2 h2)(b:FrK l2 h2 l3 h3):FrK l1 h1 l3 h3:=⟨q0m a.1 b.1,λk hk hl=>by
 have x:=a.2 k hk hl;have y:=b.2 k (q0d hk a.1) x.1;exact⟨y.1,y.2.trans x.2⟩⟩
theorem FrK.more{lab:Nat->Lab}{h h':AH}(m:More h h'):FrK lab h lab h':=⟨m.next,λk hk hl=>⟨hl,m.keep k hk⟩⟩
section
variable{ex:Lab->Prop}{hd h h':AH}{lab lab':Nat->Lab}{M S:Nat}{K:MK}{V:MV}{s:MSt}
theorem MacR.keep(X:MacR ex hd h lab M S K V s)(kr:∀r,r≠.no->KeepR r h lab h' lab')(kd:∀k,k<hd.next->lab k=.no->lab' k=.no/\h'.mem.get k=h.mem.get k)(nx:h.next<=h'.next)(new:∀k,h'.next<=k->lab' k=.no):MacR ex hd h' lab' M S K V s where
 sub:=⟨q0m X.sub.next nx,λk o e=>by have d:=X.dis k o e;rw[(kd k d.2 d.1).2];exact X.sub.keep k o e⟩
 dis:=λk o e=>by have d:=X.dis k o e;exact⟨(kd k d.2 d.1).1,d.2⟩
 new:=new
 part:=λr hr=>by
  by_cases e:r=.no
  ·subst e;trivial
  ·exact(X.part r hr).keepR (kr r e)
 fll:=X.fll
 inp:=X.inp
 iglob:=X.iglob
 ifld:=X.ifld
 dep:=X.dep
 sit:=X.sit
theorem MacR.more(X:MacR ex hd h lab M S K V s)(m:More h h'):MacR ex hd h' lab M S K V s:=
 X.keep (λr _=>⟨m.next,λk hk hl=>⟨hk,m.keep k hl⟩⟩) (λk hk hl=>⟨hl,m.keep k (q0d hk X.sub.next)⟩) m.next λk hk=>X.new k (q0m m.next hk)
theorem MacR.off(X:MacR ex hd h lab M S K V s){id:Nat}(hl:lab id=.no)(hi:hd.next<=id)(o:AObj):MacR ex hd (h.set id o) lab M S K V s:=
 X.keep (λr hr=>⟨by rw[q2b];exact q0c _,λk hk _=>⟨hk,by rw[q2c,q1a _ _ _ _ (λe=>hr (by rw[<-hk,<-e];exact hl))]⟩⟩) (λk hk hl=>⟨hl,by rw[q2c,q1a _ _ _ _ (by omega)]⟩) (by rw[q2b];exact q0c _) λk hk=>X.new k (by rw[q2b] at hk;exact hk)
theorem zF0{r0:Lab}{id:Nat}(hl:lab id=r0)(o:AObj):∀r,r≠r0->KeepR r h lab (h.set id o) lab:=λr hr=>⟨by rw[q2b];exact q0c _,λk hk _=>⟨hk,by rw[q2c,q1a _ _ _ _ (λe=>hr (by rw[<-hk,<-e];exact hl))]⟩⟩
theorem MacR.one{r0:Lab}{V':MV}{s':MSt}(X:MacR ex hd h lab M S K V s)(hr0:r0≠.no)(kr:∀r,r≠r0->KeepR r h lab h' lab')(nx:h.next<=h'.next)(new:∀k,h'.next<=k->lab' k=.no)
  (part:∀r,¬ex r->(r≠r0->PartM r h' lab' M S K V s)->PartM r h' lab' M S K V' s')
  (fll:V'.fl.length=s'.objs.length) (inp:K.own=false->InpK hd V'.inp (K.L.drop s'.pos)) (iglob:∀z∈s'.glob,I64 z) (ifld:∀o∈s'.objs,∀z∈o.fields,I64 z) (dep:V'.depth<=s'.frames.length) (sit:V'.rows.length<=s'.objs.length):MacR ex hd h' lab' M S K V' s'/\FrK lab h lab' h':=by
 have kn:=kr .no (λe=>hr0 e.symm);refine⟨⟨⟨q0m X.sub.next nx,λk o e=>?_⟩,λk o e=>?_,new,λr hr=>?_,fll,inp,iglob,ifld,dep,sit⟩,nx,λk hk hl=>kn.2 k hl hk⟩
 ·have d:=X.dis k o e;rw[(kn.2 k d.1 (q0d d.2 X.sub.next)).2];exact X.sub.keep k o e
 ·have d:=X.dis k o e;exact⟨(kn.2 k d.1 (q0d d.2 X.sub.next)).1,d.2⟩
 ·exact part r hr λhne=>(X.part r hr).keepR (kr r hne)
theorem MacR.setM{L:List AV}{c:T AV}(X:MacR (λr=>r=.mac) hd h lab M S K V s)(g:h.mem.get M=some (.cells c 16 none false))(hl:lab M=.mac)(hi:M<h.next)(hLl:L.length=16)(hc:∀j,j<16->c.get j=L[j]?)(j:Nat)(v:AV)(hL:macL K V S s=L.set j v):MacS hd (h.set M (.cells (T.put (some v) c j) 16 none false)) lab M S K V s/\FrK lab h lab (h.set M (.cells (T.put (some v) c j) 16 none false)):=by
 have kr:=zF0 (h:=h) hl (.cells (T.put (some v) c j) 16 none false);have o:=ObjL.set hl hi (hLl▸hc) j v;rw[hLl] at o;refine⟨⟨⟨by rw[q2b];exact X.sub.next,λk o e=>?_⟩,X.dis,λk hk=>X.new k (by rw[q2b] at hk;exact hk),λr _=>?_,X.fll,X.inp,X.iglob,X.ifld,X.dep,X.sit⟩,by rw[q2b];exact q0c _,λk hk hlk=>(kr .no (λe=>by cases e)).2 k hlk hk⟩
 ·have d:=X.dis k o e;rw[((kr .no (λe=>by cases e)).2 k d.1 (q0d d.2 X.sub.next)).2];exact X.sub.keep k o e
 ·by_cases e:r=.mac
  ·subst e;show ObjL _ _ _ _ _;rw[hL];exact o
  ·exact(X.part r e).keepR (kr r e)
theorem MacR.setS{L:List AV}{c:T AV}(X:MacR (λr=>r=.sto) hd h lab M S K V s)(g:h.mem.get S=some (.cells c 4 none false))(hl:lab S=.sto)(hi:S<h.next)(hLl:L.length=4)(hc:∀j,j<4->c.get j=L[j]?)(j:Nat)(v:AV)(hL:stoL K V s=L.set j v):MacS hd (h.set S (.cells (T.put (some v) c j) 4 none false)) lab M S K V s/\FrK lab h lab (h.set S (.cells (T.put (some v) c j) 4 none false)):=by
 have kr:=zF0 (h:=h) hl (.cells (T.put (some v) c j) 4 none false);have o:=ObjL.set hl hi (hLl▸hc) j v;rw[hLl] at o;refine⟨⟨⟨by rw[q2b];exact X.sub.next,λk o e=>?_⟩,X.dis,λk hk=>X.new k (by rw[q2b] at hk;exact hk),λr _=>?_,X.fll,X.inp,X.iglob,X.ifld,X.dep,X.sit⟩,by rw[q2b];exact q0c _,λk hk hlk=>(kr .no (λe=>by cases e)).2 k hlk hk⟩
 ·have d:=X.dis k o e;rw[((kr .no (λe=>by cases e)).2 k d.1 (q0d d.2 X.sub.next)).2];exact X.sub.keep k o e
 ·by_cases e:r=.sto
  ·subst e;show ObjL _ _ _ _ _;rw[hL];exact o
  ·exact(X.part r e).keepR (kr r e)
end
noncomputable def labN(lab:Nat->Lab)(r0:Lab)(n:Nat):Nat->Lab:=λk=>if k=n then r0 else @ite _ (lab k=r0) (Classical.propDecidable _) .no (lab k)
theorem zGx{lab:Nat->Lab}{r0:Lab}{n:Nat}:labN lab r0 n n=r0:=if_pos rfl
theorem labN_of{lab:Nat->Lab}{r0:Lab}{n k:Nat}(h1:k≠n)(h2:lab k≠r0):labN lab r0 n k=lab k:=by unfold labN;rw[if_neg h1,if_neg h2]
theorem labN_no{lab:Nat->Lab}{r0:Lab}{n k:Nat}(h1:k≠n)(h2:lab k=.no):labN lab r0 n k=.no:=by unfold labN;rw[if_neg h1,h2];split<;>rfl
section
variable{ex:Lab->Prop}{hd h h':AH}{lab lab':Nat->Lab}{M S:Nat}{K:MK}{V:MV}{s:MSt}
theorem zLr{r0:Lab}{n:Nat}(hn:h.next<=n)(nx:h.next<=h'.next)(hk:∀k,k<h.next->lab k≠r0->h'.mem.get k=h.mem.get k):∀r,r≠r0->KeepR r h lab h' (labN lab r0 n):=λr hr=>⟨nx,λk hkr hlt=>by
 have h2:lab k≠r0:=λe=>hr (by rw[<-hkr,e]);exact⟨by rw[labN_of (by omega) h2];exact hkr,hk k hlt h2⟩⟩
theorem zIl{r0:Lab}{n:Nat}(hn':n<h'.next)(nx:h.next<=h'.next)(new:∀k,h.next<=k->lab k=.no):∀k,h'.next<=k->labN lab r0 n k=.no:=λk hk=>labN_no (by omega) (new k (by omega))
theorem MacR.weak{ex':Lab->Prop}(X:MacR ex hd h lab M S K V s)(he:∀r,ex r->ex' r):MacR ex' hd h lab M S K V s:=⟨X.sub,X.dis,X.new,λr hr=>X.part r λe=>hr (he r e),X.fll,X.inp,X.iglob,X.ifld,X.dep,X.sit⟩
theorem MacR.pm(X:MacR ex hd h lab M S K V s)(he:¬ex .mac):∃c,h.mem.get M=some (.cells c 16 none false)/\lab M=.mac/\M<h.next/\∀j,j<16->c.get j=(macL K V S s)[j]?:=X.part .mac he
theorem MacR.ps(X:MacR ex hd h lab M S K V s)(he:¬ex .sto):∃c,h.mem.get S=some (.cells c 4 none false)/\lab S=.sto/\S<h.next/\∀j,j<4->c.get j=(stoL K V s)[j]?:=X.part .sto he
theorem MacR.cellM{V':MV}{s':MSt}(X:MacS hd h lab M S K V s){c:T AV}(g:h.mem.get M=some (.cells c 16 none false))(hc:∀j,j<16->c.get j=(macL K V S s)[j]?)(hl:lab M=.mac)(hi:M<h.next)(j:Nat)(v:AV)(hL:macL K V' S s'=(macL K V S s).set j v)(part:∀r,r≠.mac->PartM r h lab M S K V s->PartM r h lab M S K V' s')(fll:V'.fl.length=s'.objs.length)(inp:K.own=false->InpK hd V'.inp (K.L.drop s'.pos))(iglob:∀z∈s'.glob,I64 z)(ifld:∀o∈s'.objs,∀z∈o.fields,I64 z)(dep:V'.depth<=s'.frames.length)(sit:V'.rows.length<=s'.objs.length) :
  MacS hd (h.set M (.cells (T.put (some v) c j) 16 none false)) lab M S K V' s'/\FrK lab h lab (h.set M (.cells (T.put (some v) c j) 16 none false)):=
 MacR.setM (L:=macL K V S s) ⟨X.sub,X.dis,X.new,λr hr=>part r hr (X.part r id),fll,inp,iglob,ifld,dep,sit⟩ g hl hi rfl hc j v hL
theorem op_step{k:Nat}(X:MacS hd h lab M S K V s)(hf:s.fuel=k+1):∃c,h.mem.get M=some (.cells c 16 none false)/\c.get 7=some (nv (k+1))/\c.get 11=some (nv s.steps)/\
  (MacS hd ((h.set M (.cells (T.put (some (nv k)) c 7) 16 none false)).set M (.cells (T.put (some (nv (s.steps+1))) (T.put (some (nv k)) c 7) 11) 16 none false)) lab M S K V {s with fuel:=k,steps:=s.steps+1})/\FrK lab h lab ((h.set M (.cells (T.put (some (nv k)) c 7) 16 none false)).set M (.cells (T.put (some (nv (s.steps+1))) (T.put (some (nv k)) c 7) 11) 16 none false)):=by
 obtain⟨c,g,hl,hi,hc⟩:=X.pm id;refine⟨c,g,by rw[hc 7 (by decide),<-hf];rfl,hc 11 (by decide),?_⟩;obtain⟨X1,f1⟩:=X.cellM (V':=V) (s':={s with fuel:=k}) g hc hl hi 7 (nv k) rfl (λr hr x=>by cases r<;>first | exact absurd rfl hr | exact x) X.fll X.inp X.iglob X.ifld X.dep X.sit;obtain⟨X2,f2⟩:=X1.cellM (V':=V) (s':={s with fuel:=k,steps:=s.steps+1}) q2d (λj hj=>put_L (L:=macL K V S s) (j:=7) (v:=nv k) hc j hj) hl (by rw[q2b];exact hi) 11 (nv (s.steps+1)) rfl (λr hr x=>by cases r<;>first | exact absurd rfl hr | exact x) X.fll X.inp X.iglob X.ifld X.dep X.sit;exact⟨X2,f1.trans f2⟩
theorem op_out(X:MacS hd h lab M S K V s)(z:Int)(hl:s.out.length<1000000):∃c v' h1,h.mem.get M=some (.cells c 16 none false)/\M<h.next/\c.get 8=some V.out/\(∀h',oMove (.c V.out) .leaf [] h'=.val V.out h')/\zA0 none 1 8 (.c V.out) (.c (.sl h.next 0 1 (.known 1))) .leaf [] (h.add (.cells (zAa [iv z]) 1 none false))=.val v' h1/\(∀h',oMove (.c v') .leaf [] h'=.val v' h')/\cellsOf v'=some [v']/\h1.mem.get M=some (.cells c 16 none false)/\
  ∃lab',MacS hd (h1.set M (.cells (T.put (some v') c 8) 16 none false)) lab' M S K {V with out:=v'} {s with out:=s.out++[z]}/\FrK lab h lab' (h1.set M (.cells (T.put (some v') c 8) 16 none false)):=by
 obtain⟨c,g,hlM,hi,hc⟩:=X.pm id;have a:Arr h (λk=>lab k=.out) V.out (s.out.map iv):=X.part .out id;obtain⟨v',h1,ap,a',nx,hk⟩:=a.pushG 8 (by decide) (x:=iv z) (by rw[q0j];exact hl);have hk':∀k,k<h.next->lab k≠.out->h1.mem.get k=h.mem.get k:=λk hk1 hk2=>hk k hk1 λl n e=>hk2 (e▸a).isF.1;have kr:=zLr (lab:=lab) (r0:=.out) (n:=h.next+1) (h':=h1) (by omega) (by omega) hk';obtain⟨X1,f1⟩:=(X.weak (ex':=λr=>r=.mac) λr e=>e.elim).one (V':={V with out:=v'}) (s':={s with out:=s.out++[z]}) (r0:=.out) (λe=>by cases e) kr (by omega) (zIl (by omega) (by omega) X.new) (λr hr x=>by
  cases r with
  | mac=>exact absurd rfl hr
  | out=>
   show Arr _ _ _ ((s.out++[z]).map iv);rw[q0O];exact a'.keep (Stay.refl _ _) λk e _=>by rw[e];exact zGx
  | _=>exact x λe=>by cases e) X.fll X.inp X.iglob X.ifld X.dep X.sit
 have gM:=(kr .mac (λe=>by cases e)).2 M hlM hi;obtain⟨X2,f2⟩:=X1.setM (L:=macL K V S s) (gM.2.trans g) gM.1 (by omega) rfl hc 8 v' rfl;exact⟨c,v',h1,g,hi,hc 8 (by decide),λ_=>zAg a.mv,ap,λ_=>zAg a'.mv,a'.cells,gM.2.trans g,_,X2,f1.trans f2⟩
theorem op_glob(X:MacS hd h lab M S K V s){i:Nat}(hi:i<s.glob.length)(z:Int)(hz:I64 z):∃id sz c cap,V.glob=.sl id 0 s.glob.length cap/\h.mem.get id=some (.cells c sz none false)/\c.get i=some (iv (s.glob.getD i 0))/\M≠id/\
  MacS hd (h.set id (.cells (T.put (some (iv z)) c i) sz none false)) lab M S K V {s with glob:=s.glob.set i z}/\FrK lab h lab (h.set id (.cells (T.put (some (iv z)) c i) sz none false)):=by
 have a:Arr h (λk=>lab k=.glob) V.glob (s.glob.map iv):=X.part .glob id;obtain⟨id,sz,c,cap,e,hl,hlt,g,hc,a'⟩:=a.set (x:=iv z) (i:=i) (by rw[q0j];exact hi);obtain⟨cM,gM,hlM,-⟩:=X.pm (λe=>e);rw[q0j] at e;refine⟨id,sz,c,cap,e,g,by rw[hc,q0t,q0e,q0a hi];rfl,(λe=>by rw[e,hl] at hlM;cases hlM),?_⟩;exact X.one (r0:=.glob) (λe=>by cases e) (zF0 hl _) (by rw[q2b];exact q0c _) (λk hk=>X.new k (by rw[q2b] at hk;exact hk)) (λr hr x=>by
  cases r with
  | glob=>
   show Arr _ _ _ ((s.glob.set i z).map iv);rw[List.map_set];exact a'
  | _=>exact x λe=>by cases e) X.fll X.inp (λy hy=>by
   rcases List.mem_or_eq_of_mem_set hy with h | h
   ·exact X.iglob y h
   ·exact h▸hz) X.ifld X.dep X.sit
end
section
variable{hd h h':AH}{lab lab':Nat->Lab}{M S:Nat}{K:MK}{V:MV}{s:MSt}
theorem drop_next{L xs:List Int}{p:Nat}{z:Int}(e:L.drop p=z::xs):L.drop (p+1)=xs:=by
 rw[show L.drop (p+1)=(L.drop p).drop 1 from by rw[List.drop_drop],e];rfl
theorem op_read{z:Int}{xs:List Int}(X:MacS hd h lab M S K V s)(e:K.L.drop s.pos=z::xs):∃c id off v' h1,h.mem.get M=some (.cells c 16 none false)/\c.get 6=some V.inp/\(∀h' k,zCx 1 (.c V.inp) (.c (.int k ((0:Nat):Int))) .leaf [] h'=.val (.ptr id off) h')/\(∃ci sz p ro,h.mem.get id=some (.cells ci sz p ro)/\ci.get off=some (iv z))/\zAs true 1 (.c V.inp) (some (.c (nv 1))) none none .leaf [] h=.val v' h1/\cellsOf v'=some [v']/\h1.mem.get M=some (.cells c 16 none false)/\
  MacS hd (h1.set M (.cells (T.put (some v') c 6) 16 none false)) lab M S K {V with inp:=v'} {s with pos:=s.pos+1}/\FrK lab h lab (h1.set M (.cells (T.put (some v') c 6) 16 none false)):=by
 obtain⟨c,g,hlM,hi,hc⟩:=X.pm id;cases ho:K.own with
 | false=>
  have x:=X.inp ho;rw[e] at x;obtain⟨id,off,v',ix,gi,sl,x'⟩:=x.next;obtain⟨X2,f2⟩:=X.cellM (V':={V with inp:=v'}) (s':={s with pos:=s.pos+1}) g hc hlM hi 6 v' rfl (λr hr x=>by
   cases r with
   | mac=>exact absurd rfl hr
   | inp=>exact λh=>by rw[ho] at h;cases h
   | _=>exact x) X.fll (λ_=>by rw[drop_next e];exact x') X.iglob X.ifld X.dep X.sit
  obtain⟨ci,sz,p,ro,g1,g2⟩:=gi;exact⟨c,id,off,v',h,g,hc 6 (by decide),ix,⟨ci,sz,p,ro,X.sub.keep _ _ g1,g2⟩,sl h true,x'.cells,g,X2,f2⟩
 | true=>
  have x:InpO h (λk=>lab k=.inp) V.inp (K.L.drop s.pos):=X.part .inp (λe=>e) ho;rw[e] at x;obtain⟨id,off,v',h1,ix,gi,sl,x',nx,hk⟩:=x.next;have kr:∀r,r≠.inp->KeepR r h lab h1 lab:=λr hr=>⟨nx,λk hkr hlt=>⟨hkr,hk k hlt λe=>hr (by rw[<-hkr];exact e)⟩⟩;obtain⟨X1,f1⟩:=(X.weak (ex':=λr=>r=.mac) λr e=>e.elim).one (V':={V with inp:=v'}) (s':={s with pos:=s.pos+1}) (r0:=.inp) (λe=>by cases e) kr nx (λk hk=>X.new k (q0m nx hk)) (λr hr x=>by
   cases r with
   | mac=>exact absurd rfl hr
   | inp=>exact λ_=>by rw[show K.L.drop (s.pos+1)=xs from drop_next e];exact x'
   | _=>exact x λe=>by cases e) X.fll (λh=>by rw[ho] at h;cases h) X.iglob X.ifld X.dep X.sit
  have gM:=(kr .mac (λe=>by cases e)).2 M hlM hi;obtain⟨X2,f2⟩:=X1.setM (L:=macL K V S s) (gM.2.trans g) hlM (by omega) rfl hc 6 v' rfl;exact⟨c,id,off,v',h1,g,hc 6 (by decide),ix,gi,sl,x'.cells,gM.2.trans g,X2,f1.trans f2⟩
theorem MacR.cellS{V':MV}{s':MSt}(X:MacS hd h lab M S K V s){c:T AV}(g:h.mem.get S=some (.cells c 4 none false))(hc:∀j,j<4->c.get j=(stoL K V s)[j]?)(hl:lab S=.sto)(hi:S<h.next)(j:Nat)(v:AV)(hL:stoL K V' s'=(stoL K V s).set j v)(part:∀r,r≠.sto->PartM r h lab M S K V s->PartM r h lab M S K V' s')(fll:V'.fl.length=s'.objs.length)(inp:K.own=false->InpK hd V'.inp (K.L.drop s'.pos))(iglob:∀z∈s'.glob,I64 z)(ifld:∀o∈s'.objs,∀z∈o.fields,I64 z)(dep:V'.depth<=s'.frames.length)(sit:V'.rows.length<=s'.objs.length) :
  MacS hd (h.set S (.cells (T.put (some v) c j) 4 none false)) lab M S K V' s'/\FrK lab h lab (h.set S (.cells (T.put (some v) c j) 4 none false)):=
 MacR.setS (L:=stoL K V s) ⟨X.sub,X.dis,X.new,λr hr=>part r hr (X.part r id),fll,inp,iglob,ifld,dep,sit⟩ g hl hi rfl hc j v hL
theorem op_enter(X:MacS hd h lab M S K V s)(hl:s.frames.length<1000000):∃c v' h1,h.mem.get S=some (.cells c 4 none false)/\S<h.next/\c.get 2=some V.frames/\(∀h',oMove (.c V.frames) .leaf [] h'=.val V.frames h')/\zA0 none 1 1 (.c V.frames) (.c (.sl h.next 0 1 (.known 1))) .leaf [] (h.add (.cells (zAa [.bool true]) 1 none false))=.val v' h1/\(∀h',oMove (.c v') .leaf [] h'=.val v' h')/\(∀h',oLen .sl (.c v') .leaf [] h'=.val (nv (s.frames.length+1)) h')/\cellsOf v'=some [v']/\h1.mem.get S=some (.cells c 4 none false)/\
  ∃lab',MacS hd (h1.set S (.cells (T.put (some v') c 2) 4 none false)) lab' M S K {V with frames:=v'} {s with frames:=s.frames++[true]}/\FrK lab h lab' (h1.set S (.cells (T.put (some v') c 2) 4 none false)):=by
 obtain⟨c,g,hlM,hi,hc⟩:=X.ps id;have a:Arr h (λk=>lab k=.frames) V.frames (s.frames.map AV.bool):=X.part .frames id;obtain⟨v',h1,ap,a',nx,hk⟩:=a.pushG 1 (by decide) (x:=.bool true) (by rw[q0j];exact hl);have hk':∀k,k<h.next->lab k≠.frames->h1.mem.get k=h.mem.get k:=λk hk1 hk2=>hk k hk1 λl n e=>hk2 (e▸a).isF.1;have kr:=zLr (lab:=lab) (r0:=.frames) (n:=h.next+1) (h':=h1) (by omega) (by omega) hk';obtain⟨X1,f1⟩:=(X.weak (ex':=λr=>r=.sto) λr e=>e.elim).one (V':={V with frames:=v'}) (s':={s with frames:=s.frames++[true]}) (r0:=.frames) (λe=>by cases e) kr (by omega) (zIl (by omega) (by omega) X.new) (λr hr x=>by
  cases r with
  | sto=>exact absurd rfl hr
  | frames=>
   show Arr _ _ _ ((s.frames++[true]).map AV.bool);rw[q0O];exact a'.keep (Stay.refl _ _) λk e _=>by rw[e];exact zGx
  | _=>exact x λe=>by cases e) X.fll X.inp X.iglob X.ifld (by have:=X.dep;show V.depth<=(s.frames++[true]).length;rw[q0o];omega) X.sit
 have gM:=(kr .sto (λe=>by cases e)).2 S hlM hi;obtain⟨X2,f2⟩:=X1.setS (L:=stoL K V s) (gM.2.trans g) gM.1 (by omega) rfl hc 2 v' rfl;exact⟨c,v',h1,g,hi,hc 2 (by decide),λ_=>zAg a.mv,ap,λ_=>zAg a'.mv,λh'=>by rw[a'.len (h':=h')];simp,a'.cells,gM.2.trans g,_,X2,f1.trans f2⟩
theorem op_leave(X:MacS hd h lab M S K V s){i:Nat}(hi:i<s.frames.length):∃id sz c cap,V.frames=.sl id 0 s.frames.length cap/\h.mem.get id=some (.cells c sz none false)/\c.get i=some (.bool (s.frames.getD i false))/\S≠id/\
  MacS hd (h.set id (.cells (T.put (some (.bool false)) c i) sz none false)) lab M S K V {s with frames:=s.frames.set i false}/\FrK lab h lab (h.set id (.cells (T.put (some (.bool false)) c i) sz none false)):=by
 have a:Arr h (λk=>lab k=.frames) V.frames (s.frames.map AV.bool):=X.part .frames id;obtain⟨id,sz,c,cap,e,hl,hlt,g,hc,a'⟩:=a.set (x:=.bool false) (i:=i) (by rw[q0j];exact hi);obtain⟨cM,gM,hlM,-⟩:=X.ps (λe=>e);rw[q0j] at e;refine⟨id,sz,c,cap,e,g,by rw[hc,q0t,q0e,q0a hi];rfl,(λe=>by rw[e,hl] at hlM;cases hlM),?_⟩;exact X.one (r0:=.frames) (λe=>by cases e) (zF0 hl _) (by rw[q2b];exact q0c _) (λk hk=>X.new k (by rw[q2b] at hk;exact hk)) (λr hr x=>by
  cases r with
  | frames=>
   show Arr _ _ _ ((s.frames.set i false).map AV.bool);rw[List.map_set];exact a'
  | _=>exact x λe=>by cases e) X.fll X.inp X.iglob X.ifld (by have:=X.dep;show V.depth<=(s.frames.set i false).length;rw[List.length_set];exact this) X.sit
theorem op_push(X:MacS hd h lab M S K V s)(x:AV)(hl:V.depth<1000000)(hd':V.depth<s.frames.length):∃c v' h1,h.mem.get M=some (.cells c 16 none false)/\M<h.next/\c.get 13=some V.acts/\(∀h',oMove (.c V.acts) .leaf [] h'=.val V.acts h')/\zA0 none 1 8 (.c V.acts) (.c (.sl h.next 0 1 (.known 1))) .leaf [] (h.add (.cells (zAa [x]) 1 none false))=.val v' h1/\(∀h',oMove (.c v') .leaf [] h'=.val v' h')/\cellsOf v'=some [v']/\h1.mem.get M=some (.cells c 16 none false)/\
  ∃lab',MacS hd (h1.set M (.cells (T.put (some v') c 13) 16 none false)) lab' M S K {V with acts:=v',depth:=V.depth+1} s/\FrK lab h lab' (h1.set M (.cells (T.put (some v') c 13) 16 none false)):=by
 obtain⟨c,g,hlM,hi,hc⟩:=X.pm id;have a:Stk h (λk=>lab k=.acts) V.acts V.depth:=X.part .acts id;obtain⟨v',h1,ap,a',nx,nx2,hk⟩:=a.push (x:=x) hl;obtain⟨lab',hlab⟩:∃lab':Nat->Lab,lab'=λk=>if k=h.next+1 then .acts else lab k:=⟨_,rfl⟩;have l1:∀k,k≠h.next+1->lab' k=lab k:=λk hk=>by rw[hlab];exact if_neg hk
 have l2:lab' (h.next+1)=.acts:=by rw[hlab];exact if_pos rfl
 by_cases hn:h1.next=h.next+1
 ·have a'':Stk h1 (λk=>lab k=.acts) v' (V.depth+1):=by
   generalize V.depth+1=n at a';cases a' with
   | nils=>exact .nils
   | sl a b c d e f=>exact .sl (by rcases a with a | a;exact a.1;omega) b c d e f
  have kr:∀r,r≠.acts->KeepR r h lab h1 lab:=λr hr=>⟨by omega,λk hkr hlt=>⟨hkr,hk k hlt λe=>hr (by rw[<-hkr];exact e)⟩⟩;obtain⟨X1,f1⟩:=(X.weak (ex':=λr=>r=.mac) λr e=>e.elim).one (V':={V with acts:=v',depth:=V.depth+1}) (s':=s) (r0:=.acts) (λe=>by cases e) kr (by omega) (λk hk=>X.new k (by omega)) (λr hr x=>by
   cases r with
   | mac=>exact absurd rfl hr
   | acts=>exact a''
   | _=>exact x λe=>by cases e) X.fll X.inp X.iglob X.ifld hd' X.sit
  have gM:=(kr .mac (λe=>by cases e)).2 M hlM hi;obtain⟨X2,f2⟩:=X1.setM (L:=macL K V S s) (gM.2.trans g) hlM (by omega) rfl hc 13 v' rfl;exact⟨c,v',h1,g,hi,hc 13 (by decide),λ_=>zAg a.mv,ap,λ_=>zAg a'.mv,a'.cells,gM.2.trans g,_,X2,f1.trans f2⟩
 ·have kr:∀r,r≠.acts->KeepR r h lab h1 lab':=λr hr=>⟨by omega,λk hkr hlt=>⟨by rw[l1 k (by omega)];exact hkr,hk k hlt λe=>hr (by rw[<-hkr];exact e)⟩⟩;obtain⟨X1,f1⟩:=(X.weak (ex':=λr=>r=.mac) λr e=>e.elim).one (V':={V with acts:=v',depth:=V.depth+1}) (s':=s) (r0:=.acts) (λe=>by cases e) kr (by omega) (λk hk=>by rw[l1 k (by omega)];exact X.new k (by omega)) (λr hr x=>by
   cases r with
   | mac=>exact absurd rfl hr
   | acts=>exact Stk.to a' (q0c _) λk hk _=>⟨by
     rcases hk with hk | hk
     ·rw[l1 k (by omega)];exact hk.1
     ·rw[hk];exact l2,rfl⟩
   | _=>exact x λe=>by cases e) X.fll X.inp X.iglob X.ifld hd' X.sit
  have gM:=(kr .mac (λe=>by cases e)).2 M hlM hi;obtain⟨X2,f2⟩:=X1.setM (L:=macL K V S s) (gM.2.trans g) gM.1 (by omega) rfl hc 13 v' rfl;exact⟨c,v',h1,g,hi,hc 13 (by decide),λ_=>zAg a.mv,ap,λ_=>zAg a'.mv,a'.cells,gM.2.trans g,_,X2,f1.trans f2⟩
theorem op_pop(X:MacS hd h lab M S K V s){n:Nat}(hn:V.depth=n+1):∃c v',h.mem.get M=some (.cells c 16 none false)/\M<h.next/\c.get 13=some V.acts/\(∀h',oMove (.c V.acts) .leaf [] h'=.val V.acts h')/\(∀h',oLen .sl (.c V.acts) .leaf [] h'=.val (nv (n+1)) h')/\zAs false 1 (.c V.acts) none (some (.c (nv n))) none .leaf [] h=.val v' h/\(∀h',oMove (.c v') .leaf [] h'=.val v' h')/\cellsOf v'=some [v']/\
  MacS hd (h.set M (.cells (T.put (some v') c 13) 16 none false)) lab M S K {V with acts:=v',depth:=n} s/\FrK lab h lab (h.set M (.cells (T.put (some v') c 13) 16 none false)):=by
 obtain⟨c,g,hlM,hi,hc⟩:=X.pm id;have a:Stk h (λk=>lab k=.acts) V.acts V.depth:=X.part .acts id;have a0:=a;rw[hn] at a;generalize ev:V.acts=v at a;cases a with
 | sl a1 a2 a3 a4 a5 a6=>
  rename_i id sz ca;obtain⟨X2,f2⟩:=X.cellM (V':={V with acts:=.sl id 0 n (.rest 1),depth:=n}) (s':=s) g hc hlM hi 13 (.sl id 0 n (.rest 1)) rfl (λr hr x=>by
   cases r with
   | mac=>exact absurd rfl hr
   | acts=>exact Stk.sl a1 a2 a3 (by omega) a5 a6
   | _=>exact x) X.fll X.inp X.iglob X.ifld (by have:=X.dep;show n<=_;omega) X.sit
  refine⟨c,.sl id 0 n (.rest 1),g,hi,by rw[<-ev];exact hc 13 (by decide),λ_=>rfl,λ_=>zGv,?_,λ_=>rfl,rfl,X2,f2⟩;show zAq (AH.get h id) _=_;rw[q2f,a3];simp only[zCf];have key:∀A B:OR,bi (Nat.ble (Nat.add 0 (Nat.mul n 1)) sz) (bi (Nat.ble 0 n) (bi (Nat.beq 0 0) (OR.val (AV.sl id 0 n (ACap.rest 1)) h) A) B) B=OR.val (AV.sl id 0 n (ACap.rest 1)) h:=by
   intro A B;rw[show Nat.ble (Nat.add 0 (Nat.mul n 1)) sz=true from Nat.ble_eq.mpr (by show 0+n*1<=sz;omega),zA8,show Nat.ble 0 n=true from Nat.ble_eq.mpr (q0k _),zA8];rfl
  exact key _ _
theorem op_site(X:MacS hd h lab M S K V s)(x y:AV)(hl:V.rows.length<1000000)(hs:V.rows.length<s.objs.length):∃c v' h1,h.mem.get M=some (.cells c 16 none false)/\M<h.next/\c.get 14=some V.sites/\(∀h',oMove (.c V.sites) .leaf [] h'=.val V.sites h')/\zA0 none 2 16 (.c V.sites) (.c (.sl h.next 0 1 (.known 1))) .leaf [] (h.add (.cells (zAa [x,y]) 2 none false))=.val v' h1/\(∀h',oMove (.c v') .leaf [] h'=.val v' h')/\cellsOf v'=some [v']/\h1.mem.get M=some (.cells c 16 none false)/\
  ∃lab' rows,MacS hd (h1.set M (.cells (T.put (some v') c 14) 16 none false)) lab' M S K {V with sites:=v',rows:=rows} s/\FrK lab h lab' (h1.set M (.cells (T.put (some v') c 14) 16 none false)):=by
 obtain⟨c,g,hlM,hi,hc⟩:=X.pm id;have a:ArrN h (λk=>lab k=.sites) 2 V.sites V.rows:=X.part .sites id;obtain⟨v',h1,ap,a',nx,hk⟩:=(a.to (h':=h.add (.cells (zAa [x,y]) 2 none false)) (G:=λk=>lab k=.sites) (q0w _) λk hk hlt=>⟨hk,by rw[q2a,q1a _ _ _ _ (by omega)]⟩).append (new:=[x,y]) (src:=.sl h.next 0 1 (.known 1)) (by':=16) (λk=>zFd (by decide) (by rw[q2a,q1b]) (zBh [x,y] _ _ λj hj=>by rw[q0I,zAe]) k) rfl (by omega) hl (by omega);have hk':∀k,k<h.next->lab k≠.sites->h1.mem.get k=h.mem.get k:=λk hk1 hk2=>by rw[hk k (Nat.lt_succ_of_lt hk1) hk2,q2a,q1a _ _ _ _ (by omega)]
 rw[q2e] at nx;have kr:=zLr (lab:=lab) (r0:=.sites) (n:=h.next+1) (h':=h1) (by omega) (by omega) hk';obtain⟨X1,f1⟩:=(X.weak (ex':=λr=>r=.mac) λr e=>e.elim).one (V':={V with sites:=v',rows:=V.rows++[[x,y]]}) (s':=s) (r0:=.sites) (λe=>by cases e) kr (by omega) (zIl (by omega) (by omega) X.new) (λr hr x=>by
  cases r with
  | mac=>exact absurd rfl hr
  | sites=>exact a'.to (q0c _) λk e _=>⟨by rw[e];exact zGx,rfl⟩
  | _=>exact x λe=>by cases e) X.fll X.inp X.iglob X.ifld X.dep (by show(V.rows++[[x,y]]).length<=_;simp;omega)
 have gM:=(kr .mac (λe=>by cases e)).2 M hlM hi;obtain⟨X2,f2⟩:=X1.setM (L:=macL K V S s) (gM.2.trans g) gM.1 (by omega) rfl hc 14 v' rfl;exact⟨c,v',h1,g,hi,hc 14 (by decide),λ_=>zAg a.mv,ap,λ_=>zAg a'.mv,a'.cells,gM.2.trans g,_,_,X2,f1.trans f2⟩
end
theorem zA6{l:List Obj}{fl:List AV}(h:fl.length=l.length):(zBo l fl).length=l.length:=by unfold zBo;rw[List.length_zipWith];omega
theorem zEx{l:List Obj}{fl:List AV}{i:Nat}(h1:i<l.length)(h2:i<fl.length)(h3:i<(zBo l fl).length):(zBo l fl)[i]=[nv l[i].of,iv l[i].frame,fl[i]]:=List.getElem_zipWith (f:=λ(o:Obj) f=>[nv o.of,iv o.frame,f]) (h:=h3)
theorem zI0{l:List Obj}{i k:Nat}{v:Int}(h:i<l.length):setO l i k v=l.set i {l[i] with fields:=l[i].fields.set k v}:=by unfold setO;rw[q0a h]
theorem setO_rows{l:List Obj}{fl:List AV}{i k:Nat}{v:Int}(hl:fl.length=l.length):zBo (setO l i k v) fl=zBo l fl:=by
 by_cases h:i<l.length
 ·rw[zI0 h];refine List.ext_getElem (by rw[zA6 (by simpa using hl),zA6 hl,List.length_set]) λj h1 h2=>?_;rw[zA6 hl] at h2;rw[zEx (by simpa using h2) (by omega),zEx h2 (by omega),List.getElem_set];by_cases e:i=j
  ·subst e;simp
  ·simp[e]
 ·unfold setO;rw[q0i (by omega)]
section
variable{hd h h':AH}{lab lab':Nat->Lab}{M S:Nat}{K:MK}{V:MV}{s:MSt}
theorem MacR.obj(X:MacS hd h lab M S K V s){i:Nat}(hi:i<s.objs.length):∃id c sz f,V.list=.sl id 0 s.objs.length (.rest 3)/\h.mem.get id=some (.cells c sz none false)/\id<h.next/\c.get (i*3)=some (nv s.objs[i].of)/\c.get (i*3+1)=some (iv s.objs[i].frame)/\c.get (i*3+2)=some f/\Arr h (λk=>lab k=.fld i) f (s.objs[i].fields.map iv):=by
 have a:ArrN h (λk=>lab k=.list) 3 V.list (zBo s.objs V.fl):=X.part .list (λe=>e);have hl:=zA6 X.fll;obtain⟨id,c,e,hlb,hlt,g,h1,h2⟩:=a.open (i:=i) (by omega);have er:=zEx hi (by rw[X.fll];exact hi) (by omega);have f:=X.part (.fld i) (λe=>e) (by rw[X.fll];exact hi) hi;rw[er] at h2;rw[hl] at e;exact⟨id,c,_,_,e,g,hlt,by have:=h2 0 (by decide);rwa [Nat.add_zero] at this,h2 1 (by decide),h2 2 (by decide),f⟩
theorem op_setF(X:MacS hd h lab M S K V s){i k:Nat}(hi:i<s.objs.length)(hk:k<s.objs[i].fields.length)(z:Int)(hz:I64 z):∃lid lc lsz id sz c cap,V.list=.sl lid 0 s.objs.length (.rest 3)/\h.mem.get lid=some (.cells lc lsz none false)/\lc.get (i*3+2)=some (.sl id 0 s.objs[i].fields.length cap)/\h.mem.get id=some (.cells c sz none false)/\c.get k=some (iv s.objs[i].fields[k])/\
  MacS hd (h.set id (.cells (T.put (some (iv z)) c k) sz none false)) lab M S K V {s with objs:=setO s.objs i k z}/\FrK lab h lab (h.set id (.cells (T.put (some (iv z)) c k) sz none false)):=by
 obtain⟨lid,lc,lsz,f,le,lg,-,-,-,l2,a⟩:=X.obj hi;obtain⟨id,sz,c,cap,e,hl,hlt,g,hc,a'⟩:=a.set (x:=iv z) (i:=k) (by rw[q0j];exact hk);rw[q0j] at e;rw[e] at l2;refine⟨lid,lc,lsz,id,sz,c,cap,le,lg,l2,g,by rw[hc,q0t,q0a hk];rfl,?_⟩;have hlen:(setO s.objs i k z).length=s.objs.length:=by rw[zI0 hi,List.length_set]
 have hf:=X.part (.fld i) _root_.id (by rw[X.fll];exact hi) hi;have kr:=zF0 (h:=h) hl (.cells (T.put (some (iv z)) c k) sz none false);refine X.one (r0:=.fld i) (λe=>by cases e) kr (by rw[q2b];exact q0c _) (λk hk=>X.new k (by rw[q2b] at hk;exact hk)) (λr hr x=>?_) (by rw[hlen];exact X.fll) X.inp X.iglob (λo ho y hy=>?_) X.dep (by rw[hlen];exact X.sit)
 ·cases r with
  | fld j=>
   by_cases ej:j=i
   ·subst ej;intro h1 h2;have e2:(setO s.objs j k z)[j]={s.objs[j] with fields:=s.objs[j].fields.set k z}:=by
     rw[List.getElem_of_eq (zI0 hi)];simp
    show Arr _ _ _ ((setO s.objs j k z)[j].fields.map iv);rw[e2];dsimp only;rw[List.map_set];have ef:V.fl[j]=f:=by
     have a0:ArrN h (λk=>lab k=.list) 3 V.list (zBo s.objs V.fl):=X.part .list (λe=>e);obtain⟨id',c',e',-,-,g',-,h2'⟩:=a0.open (i:=j) (by rw[zA6 X.fll];exact hi);rw[zEx hi (by rw[X.fll];exact hi)] at h2';rw[zA6 X.fll] at e';rw[e'] at le;injection le with q1 _ _ _;subst q1;rw[g'] at lg;injection lg with q;injection q with q _ _ _;subst q;have:=h2' 2 (by decide);rw[l2] at this;injection this with this;rw[e];exact this.symm
    rw[ef];exact a'
   ·intro h1 h2;have h2':j<s.objs.length:=by rw[hlen] at h2;exact h2
    have e2:(setO s.objs i k z)[j]=s.objs[j]:=by
     rw[List.getElem_of_eq (zI0 hi)];simp[Ne.symm ej]
    show Arr _ _ _ ((setO s.objs i k z)[j].fields.map iv);rw[e2];exact x (λe=>ej (by injection e)) h1 h2'
  | list=>
   show ArrN _ _ _ _ (zBo (setO s.objs i k z) V.fl);rw[setO_rows X.fll];exact x λe=>by cases e
  | _=>exact x λe=>by cases e
 ·rw[zI0 hi] at ho;rcases List.mem_or_eq_of_mem_set ho with h | h
  ·exact X.ifld o h y hy
  ·subst h;rcases List.mem_or_eq_of_mem_set hy with h | h
   ·exact X.ifld _ (q0l hi) y h
   ·exact h▸hz
theorem op_make(X:MacS hd h lab M S K V s)(n at_:Nat)(fr:Int)(hn:n<=1000000)(hl:s.objs.length<1000000):∃c v' h1,h.mem.get S=some (.cells c 4 none false)/\S<h.next/\c.get 1=some V.list/\(∀h',oMove (.c V.list) .leaf [] h'=.val V.list h')/\zA0 none 3 40 (.c V.list) (.c (.sl (h.next+1) 0 1 (.known 1))) .leaf [] ((h.add (.cells (zAa (List.replicate n (nv 0))) n none false)).add (.cells (zAa [nv at_,iv fr,.sl h.next 0 n (.known n)]) 3 none false))=.val v' h1/\(∀h',oMove (.c v') .leaf [] h'=.val v' h')/\(∀h',oLen .sl (.c v') .leaf [] h'=.val (nv (s.objs.length+1)) h')/\cellsOf v'=some [v']/\h1.mem.get S=some (.cells c 4 none false)/\
  ∃lab',MacS hd (h1.set S (.cells (T.put (some v') c 1) 4 none false)) lab' M S K {V with list:=v',fl:=V.fl++[.sl h.next 0 n (.known n)]} {s with objs:=s.objs++[⟨at_,fr,List.replicate n 0⟩]}/\FrK lab h lab' (h1.set S (.cells (T.put (some v') c 1) 4 none false)):=by
 obtain⟨c,g,hlM,hi,hc⟩:=X.ps id;have a:ArrN h (λk=>lab k=.list) 3 V.list (zBo s.objs V.fl):=X.part .list id;have fa:=Arr.mk h (nv 0) hn;obtain⟨hB,eB⟩:∃hB,hB=(h.add (.cells (zAa (List.replicate n (nv 0))) n none false)).add (.cells (zAa [nv at_,iv fr,.sl h.next 0 n (.known n)]) 3 none false):=⟨_,rfl⟩;have nB:hB.next=h.next+2:=by rw[eB];rfl
 have mB:More h hB:=by rw[eB];exact(q2g _ _).trans (q2g _ _)
 have gB:hB.mem.get (h.next+1)=some (.cells (zAa [nv at_,iv fr,.sl h.next 0 n (.known n)]) 3 none false):=by rw[eB,q2a];exact q1b _ _ _
 have fB:Arr hB (λk=>k=h.next) (.sl h.next 0 n (.known n)) (List.replicate n (nv 0)):=by rw[eB];exact fa.keep (Stay.add (Stay.refl _ _) _) λ_ f _=>f
 rw[<-eB];clear eB fa;obtain⟨v',h1,ap,a',nx,hk⟩:=(a.to (h':=hB) (G:=λk=>lab k=.list) mB.next λk hk hlt=>⟨hk,mB.keep k hlt⟩).append (new:=[nv at_,iv fr,.sl h.next 0 n (.known n)]) (src:=.sl (h.next+1) 0 1 (.known 1)) (by':=40) (λk=>zFd (by decide) gB (zBh [nv at_,iv fr,.sl h.next 0 n (.known n)] _ _ λj hj=>by rw[q0I,zAe]) k) rfl (by omega) (by rw[zA6 X.fll];exact hl) (by omega);rw[nB] at nx hk a';have hk':∀k,k<h.next->lab k≠.list->h1.mem.get k=h.mem.get k:=λk hk1 hk2=>by rw[hk k (by omega) hk2,mB.keep k hk1]
 obtain⟨lab',elb⟩:∃lab':Nat->Lab,lab'=λk=>if k=h.next then .fld s.objs.length else labN lab .list (h.next+2) k:=⟨_,rfl⟩;have q1:lab' h.next=.fld s.objs.length:=by rw[elb];exact if_pos rfl
 have q2:∀k,k≠h.next->lab' k=labN lab .list (h.next+2) k:=λk hk=>by rw[elb];exact if_neg hk
 have krl:=zLr (lab:=lab) (r0:=.list) (n:=h.next+2) (h':=h1) (by omega) (by omega) hk';have kr:∀r,r≠.list->KeepR r h lab h1 lab':=λr hr=>⟨by omega,λk hkr hlt=>by rw[q2 k (by omega)];exact(krl r hr).2 k hkr hlt⟩;have hfl:(V.fl++[AV.sl h.next 0 n (.known n)]).length=(s.objs++[(⟨at_,fr,List.replicate n 0⟩:Obj)]).length:=by simp[X.fll]
 obtain⟨X1,f1⟩:=(X.weak (ex':=λr=>r=.sto) λr e=>e.elim).one (V':={V with list:=v',fl:=V.fl++[.sl h.next 0 n (.known n)]}) (s':={s with objs:=s.objs++[⟨at_,fr,List.replicate n 0⟩]}) (r0:=.list) (λe=>by cases e) kr (by omega) (λk hk=>by rw[q2 k (by omega)];exact zIl (h':=h1) (by omega) (by omega) X.new k hk) (λr hr x=>by
  cases r with
  | sto=>exact absurd rfl hr
  | list=>
   show ArrN _ _ _ _ (zBo (s.objs++[(⟨at_,fr,List.replicate n 0⟩:Obj)]) (V.fl++[AV.sl h.next 0 n (.known n)]));have e:zBo (s.objs++[(⟨at_,fr,List.replicate n 0⟩:Obj)]) (V.fl++[AV.sl h.next 0 n (.known n)])=zBo s.objs V.fl++[[nv at_,iv fr,.sl h.next 0 n (.known n)]]:=by
    unfold zBo;rw[List.zipWith_append X.fll.symm];rfl
   rw[e];exact a'.to (q0c _) λk ek _=>⟨by rw[ek,q2 _ (by omega)];exact zGx,rfl⟩
  | fld j=>
   intro h1' h2';by_cases ej:j<s.objs.length
   ·have e1:(V.fl++[AV.sl h.next 0 n (.known n)])[j]=V.fl[j]'(by rw[X.fll];exact ej):=List.getElem_append_left _;have e2:(s.objs++[(⟨at_,fr,List.replicate n 0⟩:Obj)])[j]=s.objs[j]:=List.getElem_append_left _;show Arr _ _ (V.fl++[AV.sl h.next 0 n (.known n)])[j] ((s.objs++[(⟨at_,fr,List.replicate n 0⟩:Obj)])[j].fields.map iv);rw[e1,e2];exact x (λe=>by cases e) (by rw[X.fll];exact ej) ej
   ·have h3:j<(s.objs++[(⟨at_,fr,List.replicate n 0⟩:Obj)]).length:=h2';obtain rfl:j=s.objs.length:=by simp at h3;omega
    show Arr _ _ (V.fl++[AV.sl h.next 0 n (.known n)])[s.objs.length] ((s.objs++[(⟨at_,fr,List.replicate n 0⟩:Obj)])[s.objs.length].fields.map iv);have e1:(V.fl++[AV.sl h.next 0 n (.known n)])[s.objs.length]'(by simp[X.fll])=AV.sl h.next 0 n (.known n):=by rw[List.getElem_append_right (by rw[X.fll];exact q0c _)];simp
    have e2:(s.objs++[(⟨at_,fr,List.replicate n 0⟩:Obj)])[s.objs.length]'(by simp)=⟨at_,fr,List.replicate n 0⟩:=by rw[List.getElem_append_right (q0c _)];simp
    rw[e1,e2];dsimp only;rw[List.map_replicate];exact fB.to (by omega) λk ek hlt=>⟨by rw[ek];exact q1,hk k (by omega) λe=>by rw[ek,X.new _ (q0c _)] at e;cases e⟩
  | _=>exact x λe=>by cases e) hfl X.inp X.iglob (λo ho z hz=>by
   rcases List.mem_append.mp ho with h | h
   ·exact X.ifld o h z hz
   ·obtain rfl:=List.mem_singleton.mp h;rw[(List.mem_replicate.mp hz).2];exact⟨by decide,by decide⟩) X.dep (by have:=X.sit;show V.rows.length<=(s.objs++[_]).length;rw[q0o];omega)
 have gM:=(kr .sto (λe=>by cases e)).2 S hlM hi;obtain⟨X2,f2⟩:=X1.setS (L:=stoL K V s) (gM.2.trans g) gM.1 (by omega) rfl hc 1 v' rfl;have hlen:(zBo s.objs V.fl++[[nv at_,iv fr,AV.sl h.next 0 n (.known n)]]).length=s.objs.length+1:=by rw[q0o,zA6 X.fll];rfl
 exact⟨c,v',h1,g,hi,hc 1 (by decide),λ_=>zAg a.mv,ap,λ_=>zAg a'.mv,λh'=>by rw[a'.len h',hlen],a'.cells,gM.2.trans g,_,X2,f1.trans f2⟩
theorem op_framed(X:MacS hd h lab M S K V s):∃c,h.mem.get S=some (.cells c 4 none false)/\S<h.next/\c.get 3=some (nv s.framed)/\
  MacS hd (h.set S (.cells (T.put (some (nv (s.framed+1))) c 3) 4 none false)) lab M S K V {s with framed:=s.framed+1}/\FrK lab h lab (h.set S (.cells (T.put (some (nv (s.framed+1))) c 3) 4 none false)):=by
 obtain⟨c,g,hlM,hi,hc⟩:=X.ps id;obtain⟨X2,f2⟩:=X.cellS (V':=V) (s':={s with framed:=s.framed+1}) g hc hlM hi 3 (nv (s.framed+1)) rfl (λr hr x=>by cases r<;>first | exact absurd rfl hr | exact x) X.fll X.inp X.iglob X.ifld X.dep X.sit;exact⟨c,g,hi,hc 3 (by decide),X2,f2⟩
end
end Go.Ev
