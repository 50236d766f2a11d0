/- ExX5 ExX6 ExX7 ExX8 ExX9 ExY1 ExY2 ExG ExQ ExQ2 ExM ExZ1 ExN1 ExN2 ExZ2 -/
import Derived.Test.YticonknioobdjaaGreatPJ
import Derived.Test.YticonknioobdjaaGreatPE
import Derived.Test.YticonknioobdjaaGreatPI
set_option linter.unusedSimpArgs false
set_option linter.unusedVariables false
set_option linter.unusedSectionVars false
set_option linter.defProp false
set_option maxRecDepth 100000
set_option maxHeartbeats 4000000
namespace Go.Ev
open Go
theorem ncg_hide{tab:Nat->Option AFunc}{n:Nat}{c:ACode}{loc:T AV}{d:List AV}{h0:AH}{Q:Res->Prop}(x:∀hB,hB=h0->NCg tab n c loc d hB Q):NCg tab n c loc d h0 Q:=x _ rfl
def PhO(K:Nat->Prop)(val:Nat->AV)(o o':Option AObj):Prop:=((∀i,¬K i)/\o'=o)\/∃c c' s,o=some (.cells c s none false)/\o'=some (.cells c' s none false)/\(∀i,K i->c'.get i=some (val i))/\∀i,¬K i->c'.get i=c.get i
structure PhW(f:FunD)(b:Nat)(from_:Int)(vals:List Int)(I:AI)(h h1:AH):Prop where
 next:h1.next=h.next+(listB f b).length+3
 keep:∀k,k<h.next->k≠I.I1->k≠I.I2->h1.mem.get k=h.mem.get k
 v1:PhO (phiK f b from_) (λi=>iv (zD1 f b from_ vals i)) (h.mem.get I.I1) (h1.mem.get I.I1)
 v2:PhO (phiK f b from_) (λ_=>.bool true) (h.mem.get I.I2) (h1.mem.get I.I2)
def phiB:ACode:=sq [o1 (.next k14),o2 (xt 0 u0) 15] (.seq (.cond k15 .skip (.exit 2)) (.block 3 (sq [o1 (.entry k14),ox 0,ox 1,mt 1 16,mt 1 17] (.ops [ml 1,o1 (nc u0),o1 (fa 3 u0),o1 (ld u0),ml 16,ml 1,o1 (nc u0),o1 (fa 4 u0),o1 (ld u0),ml 16,ml 17,o1 (ia 1 u7 u6),o1 (st 1 u0 u1),o1 (ia 1 u4 u3),o1 (st 1 u0 (.c (.bool true)))]))))
theorem PhO.cells{K:Nat->Prop}{val:Nat->AV}{c:T AV}{s:Nat}{o:Option AObj}(x:PhO K val (some (.cells c s none false)) o):∃c1,o=some (.cells c1 s none false)/\(∀i,K i->c1.get i=some (val i))/\∀i,¬K i->c1.get i=c.get i:=by
 rcases x with⟨h1,rfl⟩ | ⟨c0,c',s',e,e',h1,h2⟩
 ·exact⟨c,rfl,λi hi=>absurd hi (h1 i),λ_ _=>rfl⟩
 ·injection e with e;injection e with e1 e2 _ _;subst e1;subst e2;exact⟨c',e',h1,h2⟩
theorem PhO.put{K K':Nat->Prop}{val:Nat->AV}{c c1:T AV}{s y:Nat}(h1:∀i,K i->c1.get i=some (val i))(h2:∀i,¬K i->c1.get i=c.get i)(hK:∀i,K' i<->K i\/i=y):PhO K' val (some (.cells c s none false)) (some (.cells (T.put (some (val y)) c1 y) s none false)):=by
 refine .inr ⟨_,_,_,rfl,rfl,λi hi=>?_,λi hi=>?_⟩
 ·by_cases e:i=y
  ·subst e;exact q1b _ _ _
  ·rw[q1a _ _ _ _ (Ne.symm e)];exact h1 i (((hK i).mp hi).resolve_right e)
 ·have e:¬i=y:=λe=>hi ((hK i).mpr (.inr e));rw[q1a _ _ _ _ (Ne.symm e)];exact h2 i λhk=>hi ((hK i).mpr (.inl hk))
theorem PhO.iff{K K':Nat->Prop}{val:Nat->AV}{o o':Option AObj}(x:PhO K val o o')(hK:∀i,K' i<->K i):PhO K' val o o':=by
 rcases x with⟨h1,h2⟩ | ⟨c0,c',s',e,e',h1,h2⟩
 ·exact .inl ⟨λi hi=>h1 i ((hK i).mp hi),h2⟩
 ·exact .inr ⟨c0,c',s',e,e',λi hi=>h1 i ((hK i).mp hi),λi hi=>h2 i λhk=>hi ((hK i).mpr hk)⟩
def zEa(seen:List Nat)(es:List (Int×Int×Nat)):Nat:=(es.filter λe=>decide (e.2.2∉seen)).length
theorem zKc(n:Nat)(seen:List Nat):∀es,zEa (n::seen) es<=zEa seen es
 | []=>q0c _
 | e::es=>by
  have ih:=zKc n seen es;unfold zEa at ih ⊢;rw[List.filter_cons,List.filter_cons];by_cases h1:e.2.2∈seen
  ·rw[if_neg (by rw[decide_eq_true_eq];exact λh=>h (q0s _ h1)),if_neg (by rw[decide_eq_true_eq];exact λh=>h h1)];exact ih
  ·rw[if_pos (decide_eq_true h1)];split
   ·exact Nat.succ_le_succ ih
   ·exact Nat.le_succ_of_le ih
theorem zKb{n:Nat}{seen:List Nat}(hn:n∉seen):∀{es:List (Int×Int×Nat)},(∃e∈es,e.2.2=n)->zEa (n::seen) es<zEa seen es
 | [],h=>by obtain⟨e,h,_⟩:=h;cases h
 | e::es,h=>by
  have le:=zKc n seen es;unfold zEa at le ⊢;rw[List.filter_cons,List.filter_cons];by_cases he:e.2.2=n
  ·rw[if_neg (by rw[decide_eq_true_eq];exact λh=>h (by rw[he];exact q0H ..)),if_pos (decide_eq_true (by rw[he];exact hn))];exact Nat.lt_succ_of_le le
  ·have ih:zEa (n::seen) es<zEa seen es:=zKb hn (by
    obtain⟨e',h1,h2⟩:=h;rcases List.mem_cons.mp h1 with rfl | h1
    ·exact absurd h2 he
    ·exact⟨e',h1,h2⟩)
   unfold zEa at ih;by_cases h1:e.2.2∈seen
   ·rw[if_neg (by rw[decide_eq_true_eq];exact λh=>h (q0s _ h1)),if_neg (by rw[decide_eq_true_eq];exact λh=>h h1)];exact ih
   ·rw[if_pos (decide_eq_true h1),if_pos (decide_eq_true (show e.2.2∉n::seen from λh=>by
     rcases List.mem_cons.mp h with h | h
     ·exact he h
     ·exact h1 h))]
    exact Nat.succ_lt_succ ih
theorem mem_enc{es:List (Int×Int×Nat)}{k x:AV}{n:Nat}(h:(k,x,n)∈encE iv iv es):∃e∈es,k=iv e.1/\x=iv e.2.1/\n=e.2.2:=by
 obtain⟨e,he,e2⟩:=List.mem_map.mp h;injection e2 with a b;injection b with b c;exact⟨e,he,a.symm,b.symm,c.symm⟩
def KeyS(es:List (Int×Int×Nat))(seen:List Nat)(i:Nat):Prop:=∃e∈es,e.2.2∈seen/\e.1=(i:Int)
structure RoundI(f:FunD)(b:Nat)(from_:Int)(vals:List Int)(I:AI)(h:AH)(E:List (Int×Int×Nat)×Nat)(it:Nat)(seen:List Nat)(h8:AH):Prop where
 next:h8.next=h.next+(listB f b).length+3
 keep:∀k,k<h.next->k≠I.I1->k≠I.I2->h8.mem.get k=h.mem.get k
 itr:h8.mem.get it=some (.iter (some (h.next+1)) E.2 seen E.2)
 mp:h8.mem.get (h.next+1)=some (.map (encE iv iv E.1) E.2)
 v1:PhO (KeyS E.1 seen) (λi=>iv (zD1 f b from_ vals i)) (h.mem.get I.I1) (h8.mem.get I.I1)
 v2:PhO (KeyS E.1 seen) (λ_=>.bool true) (h.mem.get I.I2) (h8.mem.get I.I2)
theorem nodup_inj{es:List (Int×Int×Nat)}(nd:(es.map λe=>e.2.2).Nodup){e e':Int×Int×Nat}(h1:e∈es)(h2:e'∈es)(h:e.2.2=e'.2.2):e=e':=by
 induction es with
 | nil=>cases h1
 | cons x es ih=>
  rw[List.map_cons,List.nodup_cons] at nd;rcases List.mem_cons.mp h1 with k1 | k1<;>rcases List.mem_cons.mp h2 with k2 | k2
  ·rw[k1,k2]
  ·exact absurd (List.mem_map.mpr ⟨e',k2,by rw[<-h,k1]⟩) nd.1
  ·exact absurd (List.mem_map.mpr ⟨e,k1,by rw[h,k2]⟩) nd.1
  ·exact ih nd.2 k1 k2
section
variable{tab:Nat->Option AFunc}{hn:Nat}{h:AH}{lab:Nat->Lab}{I:AI}{a:ActD}{f:FunD}
theorem phis_round(A:ActS hn h lab I a f.ins.length){b:Nat}{from_:Int}{E:List (Int×Int×Nat)×Nat}(hE:EntOK f b from_ a.vals (listB f b) E)(hLB:InL f (listB f b)){it:Nat}(hit:h.next+1<it)(Q:Res->Prop)(hQ:∀l h8 seen,RoundI f b from_ a.vals I h E it seen h8->(∀e∈E.1,e.2.2∈seen)->Q (.exit 2 l [] h8)):∀(m:Nat) (seen:List Nat) (l:T AV) (h8:AH),zEa seen E.1<=m->RoundI f b from_ a.vals I h E it seen h8->l.get 1=some (.ptr I.A 0)->l.get 14=some (.ptr it 0)->NCg tab (m+10) (.loop phiB) l [] h8 Q:=by
 intro m;induction m using Nat.strongRecOn with
 | _ m ih=>
  intro seen l h8 hu R l1 l14;have nd:((encE iv iv E.1).map λe=>e.2.2).Nodup:=by unfold encE;rw[List.map_map];exact hE.nd
  refine ncg_loop rfl (zHn rfl (ncg_next ⟨it,h.next+1,E.2,E.2,E.2,seen,encE iv iv E.1,?_,R.itr,R.mp,?_,?_,λhall=>?_,λk x n hin hns=>?_⟩))
  ·show ev l [] (.l 14)=_;rw[evl,l14];rfl
  ·by_cases h0:E.1=[]
   ·exact .inr (.inl (by rw[h0];rfl))
   ·obtain⟨e,es,he⟩:=List.exists_cons_of_ne_nil h0;refine .inr (.inr ?_);have:=hE.lt e (by rw[he];exact q0H ..);rw[he];show bi (Nat.ble (e.2.2+1) E.2) true (older E.2 (encE iv iv es))=true;rw[bi_eq,if_pos (Nat.ble_eq.mpr this)]
  ·intro e he _;obtain⟨e',h1,h2⟩:=List.mem_map.mp he;have:=hE.lt e' h1;rw[<-h2];exact this
  ·rw[zGb];refine zEz rfl (wc_rn ?_);simp(disch:=omega)only[RL,↓reduceIte];exact hQ _ _ seen R λe he=>hall (iv e.1,iv e.2.1,e.2.2) (List.mem_map.mpr ⟨e,he,rfl⟩)
  ·rw[zGb];refine zEz rfl (wc_rn ?_);obtain⟨e,he,rfl,rfl,rfl⟩:=mem_enc hin;have hlt:=zKb hns ⟨e,he,rfl⟩;obtain⟨m,rfl⟩:∃m',m=m'+1:=⟨m-1,by omega⟩;obtain⟨hel,-,hev⟩:=hE.is e he;obtain⟨y,hy1,hy2⟩:=hLB _ hel;rw[hy1,q0n] at hev;obtain⟨h9,e9⟩:∃h9,h9=h8.set it (AObj.iter (some (h.next+1)) E.2 (e.2.2::seen) E.2):=⟨_,rfl⟩;rw[<-e9];have keep9:∀k,k≠it->h9.mem.get k=h8.mem.get k:=λk hk=>by rw[e9,q2c,q1a _ _ _ _ (Ne.symm hk)]
   have gi9:h9.mem.get it=some (AObj.iter (some (h.next+1)) E.2 (e.2.2::seen) E.2):=by rw[e9];exact q2d
   have gm9:=(keep9 _ (by omega)).trans R.mp;have n9:h9.next=h8.next:=by rw[e9,q2b]
   have hen:=entry_it gi9 gm9 nd hin;rw[hy1,hev] at hen;obtain⟨ca,ga,-,-,-,a3,a4,-⟩:=A.obj;obtain⟨vid,vsz,vc,vcap,ev1,ei,hvl,gv,hvc⟩:=A.vals.at' (i:=y) (by rw[A.vl];exact hy2);have hyv:y<a.vals.length:=by rw[A.vl];exact hy2
   have ei:vid=I.I1:=ei;subst ei;obtain⟨ds,hd',hA⟩:=A.done;obtain⟨did,dsz,dc,dcap,ev2,ei2,hdl,gd,hdc⟩:=hA.open (i:=y) (by omega);have ei2:did=I.I2:=ei2;subst ei2;have hyd:y<ds.length:=by omega
   have v1:=R.v1;have v2:=R.v2;rw[gv] at v1;rw[gd] at v2;obtain⟨c1,g1,p1,p2⟩:=v1.cells;obtain⟨c2,g2,q1,q2⟩:=v2.cells;have hlA:=A.lA.2;have ga9:h9.mem.get I.A=some (.cells ca 6 none false):=by rw[keep9 _ (by omega),R.keep _ hlA A.nA.1 A.nA.2.1];exact ga
   have g19:=(keep9 I.I1 (by omega)).trans g1;have g29:=(keep9 I.I2 (by omega)).trans g2;have nI:¬I.I1=I.I2:=A.ne.1;have nA1:¬I.I1=I.A:=λe=>A.nA.1 e.symm;obtain⟨w1,hw1⟩:∃w,c1.get y=some w:=by
    by_cases hk:KeyS E.1 seen y
    ·exact⟨_,p1 y hk⟩
    ·exact⟨_,(p2 y hk).trans hvc⟩
   obtain⟨w2,hw2⟩:∃w,c2.get y=some w:=by
    by_cases hk:KeyS E.1 seen y
    ·exact⟨_,q1 y hk⟩
    ·exact⟨_,(q2 y hk).trans (hdc.trans (q0a hyd))⟩
   rw[ev1] at a3;rw[ev2] at a4;have hKK:∀i,KeyS E.1 (e.2.2::seen) i<->KeyS E.1 seen i\/i=y:=by
    intro i;constructor
    ·rintro⟨e',h1,h2,h3⟩;rcases List.mem_cons.mp h2 with h2 | h2
     ·have:e'=e:=nodup_inj hE.nd h1 he h2;subst this;exact .inr (by omega)
     ·exact .inl ⟨e',h1,h2,h3⟩
    ·rintro(⟨e',h1,h2,h3⟩ | rfl)
     ·exact⟨e',h1,q0s _ h2,h3⟩
     ·exact⟨e,he,q0H ..,hy1⟩
   have dl:ds.length=f.ins.length:=hd';simp+decide(disch:=omega)only[RL,↓reduceIte,l1,l14,op_entry,hen,ga9,a3,a4,g19,g29,nI,hw1,hw2];show NCg tab (m+10) _ _ _ _ _;refine ih m (q0h m) (e.2.2::seen) _ _ (by omega) ⟨by rw[q2b,q2b,n9];exact R.next,λk hk k1 k2=>?_,?_,?_,?_,?_⟩ (by simp+decide(disch:=omega)only[RL,↓reduceIte,l1]) (by simp+decide(disch:=omega)only[RL,↓reduceIte,l14])
   ·rw[q2c,q1a _ _ _ _ (Ne.symm k2),q2c,q1a _ _ _ _ (Ne.symm k1),keep9 _ (by omega)];exact R.keep k hk k1 k2
   ·rw[q2c,q1a _ _ _ _ (by omega),q2c,q1a _ _ _ _ (by omega)];exact gi9
   ·rw[q2c,q1a _ _ _ _ (by omega),q2c,q1a _ _ _ _ (by omega)];exact gm9
   ·rw[q2c,q1a _ _ _ _ (Ne.symm nI),q2d,gv];exact PhO.put (val:=λi=>iv (zD1 f b from_ a.vals i)) p1 p2 hKK
   ·rw[q2d,gd];exact PhO.put (val:=λ_=>.bool true) q1 q2 hKK
end
section
variable{tab:Nat->Option AFunc}(H:PV tab){hd h:AH}{lab:Nat->Lab}{M S:Nat}{K:MK}{V:MV}{s:MSt}{p:ProgD}{I:AI}{a:ActD}{f:FunD}
include H in
theorem phis_ncg(P:OkP p)(D:DatK hd p K)(X:MacS hd h lab M S K V s)(A:ActS hd.next h lab I a f.ins.length)(hf:p.funs[a.fn]?=some f){b:Nat}(hb:b<f.blocks.length){from_:Int}(hfrom:I64 from_):NCg tab (((listB f b).foldl (entS f b from_ a.vals) ([],0)).1.length+20) af173.body (zAb [.ptr M 0,.ptr I.A 0,nv b,iv from_]) [] h (zGt af173.res λv h1=>v=.tup []/\PhW f b from_ a.vals I h h1):=by
 have i0:zAb [.ptr M 0,.ptr I.A 0,nv b,iv from_]=zAa [.ptr M 0,.ptr I.A 0,nv b,iv from_]:=rfl;have hF:=P.fn f (q0L hf);obtain⟨c,g,hl,hM,hc⟩:=X.pm id;have c2:c.get 2=some K.vf:=hc 2 (by decide);have c3:c.get 3=some K.va:=hc 3 (by decide);have mf:=D.s3.mv;have ma:=D.sa.mv;obtain⟨ca,ga,a0,-,-,a3,a4,-⟩:=A.obj;obtain⟨fid,fo,vp,vl,vi,vb,fix_,fN,-,-,fi4,fi5,-,-,s6,s7,-,s6d,-,-⟩:=zF4 D X.sub hf;have nM:¬h.next=M:=by omega
 have hlA:=A.lA.2;have nA:¬h.next=I.A:=by omega
 obtain⟨cF,eF⟩:∃cF,cF=T.put (some vb) (T.put (some vi) (T.put (some vl) (T.put (some (sv f.result)) (T.put (some vp) (T.put (some (sv f.name)) (zAa [sv [],AV.nils,sv [],AV.nils,AV.nils,AV.nils]) 0) 1) 2) 3) 4) 5:=⟨_,rfl⟩;have cF4:cF.get 4=some vi:=by rw[eF];rfl
 have cF5:cF.get 5=some vb:=by rw[eF];rfl
 refine zHn rfl (zEz rfl (wc_rn ?_));simp+decide(disch:=omega)only[RL,↓reduceIte,i0,g,c2,ga,a0,fix_,fN];refine ncg_hide λhA eA=>?_;rw[<-eF] at eA;have mA:More h hA:=by rw[eA];exact(q2g _ _).set (q0c _) _
 have nA':hA.next=h.next+1:=by rw[eA];rfl
 have gF:hA.mem.get h.next=some (.cells cF 6 none false):=by rw[eA,q2d]
 clear eA;have gA:=(mA.keep _ hM).trans g;have gaA:=(mA.keep _ hlA).trans ga;have saA:=(D.sa.sub X.sub λ_ _ r=>r).more mA λ_ _ r=>r;obtain⟨hk,ek⟩:=List.getElem?_eq_some_iff.mp hf;obtain⟨wi,wo,wE,wix,we,⟨w,rfl,rw_⟩,-,wlw⟩:=saA.at hk;rw[ek] at rw_;have wlw:oLoad (.c (.ptr wi wo)) .leaf [] hA=.val w hA:=wlw 0 _ rfl hA;have hbl:b<(ledS f).length:=by rw[ledS,zD8];exact hb
 have rwA:=(rw_.sub X.sub λ_ _ r=>r).more mA λ_ _ r=>r;obtain⟨ui,uo,uE,uix,ue,⟨u,rfl,ru⟩,-,ulw⟩:=rwA.at hbl;have ulw:oLoad (.c (.ptr ui uo)) .leaf [] hA=.val u hA:=ulw 0 _ rfl hA;have eu:(ledS f)[b]=ledB f b:=by unfold ledB;rw[q0e,q0a hbl];rfl
 rw[eu] at ru;have ruA:=(ru.sub X.sub λ_ _ r=>r).more mA λ_ _ r=>r;have mw:=rw_.mv;have mu:=ru.mv;have eix:∀{R E:AV->AH->Prop},GE tab 191 [u,iv from_] hA R E=R (.int .i64 (if from_∈ledB f b then(((ledB f b).idxOf from_:Nat):Int) else -1)) hA:=by
  rw[<-idxP_idx];exact ge_rw (indexN_gp H ruA rfl λE y hr=>⟨iv y,hr.1,λh'=>by simp(disch:=omega)only[RL,↓reduceIte]⟩)
 refine zHn rfl (zEz rfl (wc_rn ?_));simp+decide(disch:=omega)only[RL,↓reduceIte,gA,c3,gaA,a0,wix,wlw,uix,ulw,eix];refine zHn rfl (zEz rfl (wc_rn ?_));have mvm:∀h',oMove (.c (.mp (h.next+1))) .leaf [] h'=.val (.mp (h.next+1)) h':=λ_=>rfl;simp(disch:=omega)only[RL,op_mkMap,nA',mvm];refine ncg_hide λhB eB=>?_;have mB:More hA hB:=by rw[eB];exact q2g _ _
 have nB:hB.next=h.next+2:=by rw[eB,q2e,nA']
 have gm:hB.mem.get (h.next+1)=some (.map (encE iv iv []) 0):=by rw[eB,q2a,nA'];exact q1b _ _ _
 have gFB:=(mB.keep _ (by omega)).trans gF;have MB:=mA.trans mB;clear eB;have mb:=s7.mv;obtain⟨ib,ob,Eb,jb,eb,⟨vli,rfl,sl,q0,q1,q2,q3⟩,ldb,lwb⟩:=s7.at hb;have lwb0:∀(h':AH) [MoreC h h'],oLoad (.c (.ptr ib ob)) .leaf [] h'=.val vli h':=λh' _=>lwb 0 _ rfl h';haveI:MoreC h hB:=⟨MB⟩;have ml:=sl.mv;have ll:=sl.len;have hbl':=sl.bound;unfold maxLen at hbl';have eL:=zIn hb;have hLB:=eL▸hF.list b hb;refine zHn rfl (zEz rfl (wc_rn ?_));simp+decide(disch:=omega)only[RL,↓reduceIte,gFB,cF5,jb,lwb0,ll];obtain⟨q,eq⟩:∃q:Int,q=if from_∈ledB f b then(((ledB f b).idxOf from_:Nat):Int) else -1:=⟨_,rfl⟩;rw[<-eq];have hL0:f.blocks[b].list.length-0=(listB f b).length:=by rw[eL];rfl
 refine zAd (λm l d h5=>∃k,m=f.blocks[b].list.length-k/\k<=f.blocks[b].list.length/\d=[]/\More h h5/\h5.next=h.next+2+k/\h5.mem.get h.next=some (.cells cF 6 none false)/\h5.mem.get (h.next+1)=some (.map (encE iv iv ((f.blocks[b].list.take k).foldl (entS f b from_ a.vals) ([],0)).1) ((f.blocks[b].list.take k).foldl (entS f b from_ a.vals) ([],0)).2)/\l.get 1=some (.ptr I.A 0)/\l.get 4=some (.ptr h.next 0)/\l.get 5=some (.int .i64 (k:Int))/\l.get 6=some (.int .i64 (f.blocks[b].list.length:Int))/\l.get 8=some vli/\l.get 11=some (.int .i64 q)/\l.get 13=some (.mp (h.next+1))) ?_ (f.blocks[b].list.length-0) ⟨0,rfl,q0k _,rfl,MB,nB,gFB,gm,rfl,rfl,rfl,rfl,rfl,rfl,rfl⟩;rintro m l d h5 ⟨k,rfl,hk,rfl,M5,n5,gF5,gm5,l1,l4,l5,l6,l8,l11,l13⟩;haveI:MoreC h h5:=⟨M5⟩;by_cases hlt:k<f.blocks[b].list.length
 ·have slh:=(sl.sub X.sub λ_ _ r=>r).more M5 λ_ _ r=>r;obtain⟨id,o,E,ix,e1,⟨rfl,_⟩,ld,lw⟩:=slh.at hlt;obtain⟨y,hy1,hy2⟩:=hLB _ (q0l hlt);have lw:oLoad (.c (.ptr id o)) .leaf [] h5=.val (.int .i64 (y:Int)) h5:=by rw[<-hy1];exact lw 0 _ rfl h5
  have mi:=s6.mv;obtain⟨ii,oi,Ei,ji,ei,rx,ldi,lwi⟩:=s6.at hy2;obtain⟨vxx,rfl,sx,w1,w2,w3,w4⟩:=rx;have ldi0:∀(h':AH) [MoreC h h'],zAy 5 (.c (.ptr ii oi)) .leaf [] h'=.val (.agg [.int .i64 f.ins[y].op,sv f.ins[y].typ,vxx,.int .i64 f.ins[y].n,sv f.ins[y].name]) h':=λh' _=>ldi h';have hyx:f.ins[y]?=some f.ins[y]:=q0a hy2;have hz:(f.blocks[b].list[k]).toNat=y:=by rw[hy1];exact q0n _
  have htk:(f.blocks[b].list.take (k+1)).foldl (entS f b from_ a.vals) ([],0)=entS f b from_ a.vals ((f.blocks[b].list.take k).foldl (entS f b from_ a.vals) ([],0)) f.blocks[b].list[k]:=by
   rw[List.take_succ_eq_append_getElem hlt,List.foldl_append];rfl
  have okI:=hF.ins b hb _ (by rw[eL];exact q0l hlt) f.ins[y] (by rw[hz];exact hyx);have n0:¬h5.next=h.next:=by omega
  have n1:¬h5.next=h.next+1:=by omega
  obtain⟨cx,ecx⟩:∃cx,cx=T.put (some (sv f.ins[y].name)) (T.put (some (iv f.ins[y].n)) (T.put (some vxx) (T.put (some (sv f.ins[y].typ)) (T.put (some (iv f.ins[y].op)) (zAa [nv 0,sv [],.nils,nv 0,sv []]) 0) 1) 2) 3) 4:=⟨_,rfl⟩;obtain⟨h6,e6⟩:∃h6,(h5.add (.cells (zAa [nv 0,sv [],.nils,nv 0,sv []]) 5 none false)).set h5.next (.cells cx 5 none false)=h6:=⟨_,rfl⟩;have cx0:cx.get 0=some (iv f.ins[y].op):=by rw[ecx];rfl
  have cx2:cx.get 2=some vxx:=by rw[ecx];rfl
  have m6:More h5 h6:=by rw[<-e6];exact(q2g _ _).set (q0c _) _
  have n6:h6.next=h.next+2+(k+1):=by rw[<-e6,q2b,q2e,n5];omega
  have gb6:h6.mem.get h5.next=some (.cells cx 5 none false):=by rw[<-e6];exact q2d
  rw[ecx] at e6;have M6:=M5.trans m6;have gF6:=(m6.keep _ (by omega)).trans gF5;have gm6:=(m6.keep _ (by omega)).trans gm5;haveI:MoreC h h6:=⟨M6⟩;have mx:=sx.mv;by_cases c34:f.ins[y].op=((34:Nat):Int)
  ·rw[c34] at e6 cx0;by_cases hin:from_∈ledB f b
   ·rw[if_pos hin] at eq;have hj:=List.idxOf_lt_length_of_mem hin;obtain⟨j,ej⟩:∃j,j=(ledB f b).idxOf from_:=⟨_,rfl⟩;rw[<-ej] at eq hj;subst eq;have h0j:0<=j:=q0k _;have hja:j<f.ins[y].args.length:=by rw[okI.phi c34];exact hj
    obtain⟨pi,po,pE,pix,pe,⟨rfl,_⟩,-,plw⟩:=(sx.sub X.sub λ_ _ r=>r:SlV h 1 IntR vxx f.ins[y].args).at hja;obtain⟨t,ht1,ht2⟩:=okI.args _ (q0l hja);have plw:∀(h':AH) [MoreC h h'],oLoad (.c (.ptr pi po)) .leaf [] h'=.val (.int .i64 (t:Int)) h':=λh' _=>by rw[<-ht1];exact plw 0 _ rfl h'
    obtain⟨vid,vsz,vc,vcap,ev,-,hvl,gv,hvc⟩:=A.vals.at' (i:=t) (by rw[A.vl];exact ht2);have hty:t<a.vals.length:=by rw[A.vl];exact ht2
    have gv6:=(M6.keep _ hvl).trans gv;have ga6:=(M6.keep _ hlA).trans ga;have epv:zD1 f b from_ a.vals y=a.vals.getD t 0:=by
     unfold zD1;rw[hyx];show a.vals.getD (f.ins[y].args.getD ((ledB f b).idxOf from_) 0).toNat 0=_;rw[<-ej,q0e (l:=f.ins[y].args),q0a hja];show a.vals.getD (f.ins[y].args[j]).toNat 0=_;rw[ht1,q0n]
    have hphi:zE8 f b from_ f.blocks[b].list[k]:=⟨f.ins[y],by rw[hz];exact hyx,c34,hin⟩;have hent:entS f b from_ a.vals ((f.blocks[b].list.take k).foldl (entS f b from_ a.vals) ([],0)) f.blocks[b].list[k]=_:=if_pos hphi;rw[hz,epv,hy1] at hent;have hu:=upd_enc (kt:=.one .int) (ek:=iv) (ev':=iv) key_int gm6 (y:Int) (a.vals.getD t 0) rfl;have mvm':∀h',oMove (.c (.mp (h.next+1))) .leaf [] h'=.val (.mp (h.next+1)) h':=λ_=>rfl;rw[ev] at a3;simp+decide(disch:=omega)only[RL,↓reduceIte,l1,l4,l5,l6,l8,l11,l13,hlt,ix,lw,gF5,cF4,ji,ldi0,e6,gb6,cx0,cx2,c34,h0j,ga6,a3,pix,plw,gv6,hvc,op_mapUpd,hu,mvm'];exact⟨f.blocks[b].list.length-(k+1),by omega,k+1,rfl,hlt,M6.set (by omega) _,n6,gF6,by rw[htk,hy1,hent],rfl⟩
   ·have hnp:¬zE8 f b from_ f.blocks[b].list[k]:=λ⟨_,_,_,r⟩=>hin r;have hent:entS f b from_ a.vals ((f.blocks[b].list.take k).foldl (entS f b from_ a.vals) ([],0)) f.blocks[b].list[k]=_:=if_neg hnp;rw[if_neg hin] at eq;subst eq;have h0j:¬((0:Nat):Int)<=-1:=by decide
    simp+decide(disch:=omega)only[RL,↓reduceIte,l1,l4,l5,l6,l8,l11,l13,hlt,ix,lw,gF5,cF4,ji,ldi0,e6,gb6,cx0,c34,h0j];exact⟨f.blocks[b].list.length-(k+1),by omega,k+1,rfl,hlt,M6,n6,gF6,by rw[htk,hent];exact gm6,rfl⟩
  ·have hnp:¬zE8 f b from_ f.blocks[b].list[k]:=by
    rintro⟨x,hx,h34,_⟩;rw[hz,hyx] at hx;injection hx with hx;exact c34 (by rw[hx];exact h34)
   have hent:entS f b from_ a.vals ((f.blocks[b].list.take k).foldl (entS f b from_ a.vals) ([],0)) f.blocks[b].list[k]=_:=if_neg hnp;simp+decide(disch:=omega)only[RL,↓reduceIte,l1,l4,l5,l6,l8,l11,l13,hlt,ix,lw,gF5,cF4,ji,ldi0,e6,gb6,cx0,c34];exact⟨f.blocks[b].list.length-(k+1),by omega,k+1,rfl,hlt,M6,n6,gF6,by rw[htk,hent];exact gm6,rfl⟩
 ·obtain rfl:k=f.blocks[b].list.length:=by omega
  simp(disch:=omega)only[RL,↓reduceIte,l5,l6,hlt];rw[List.take_length,<-eL] at gm5;have hE:=ent_ok f b from_ a.vals (listB f b);generalize (listB f b).foldl (entS f b from_ a.vals) ([],0)=E at gm5 hE ⊢;have hr:=range_mp gm5;have hlL:(listB f b).length=f.blocks[b].list.length:=by rw[eL]
  refine zHn rfl (zEz rfl (wc_rn ?_));have mvm':∀h',oMove (.c (.mp (h.next+1))) .leaf [] h'=.val (.mp (h.next+1)) h':=λ_=>rfl;simp+decide(disch:=omega)only[RL,↓reduceIte,l13,mvm',op_range,hr];obtain⟨it,eit⟩:∃it,it=h5.next:=⟨_,rfl⟩;rw[<-eit];have hI1:=A.l1.2.1;have hI2:=A.l2.2.1;refine ncg_block rfl ?_;refine phis_round A hE (λz hz=>hLB z (by rw[<-eL];exact hz)) (it:=it) (by omega) (λr=>zGt af173.res (λv h1=>v=.tup []/\PhW f b from_ a.vals I h h1) (zCd 2 r)) (λl8 h8 seen R hall=>?_) (E.1.length+4) [] _ _ ?_ ⟨by rw[q2e];omega,λk hk k1 k2=>?_,by rw[q2a,eit];exact q1b _ _ _,by rw[q2a,q1a _ _ _ _ (by omega)];exact gm5,.inl ⟨λi hi=>(by obtain⟨e,_,h,_⟩:=hi;cases h),?_⟩,.inl ⟨λi hi=>(by obtain⟨e,_,h,_⟩:=hi;cases h),?_⟩⟩ (by simp+decide(disch:=omega)only[RL,↓reduceIte,l1]) (by simp(disch:=omega)only[RL,↓reduceIte])
  ·refine⟨_,zA5,rfl,R.next,R.keep,R.v1.iff λi=>?_,R.v2.iff λi=>?_⟩<;>exact⟨λ⟨z,hz,hzi,hp⟩=>by
    obtain⟨e,he,h1⟩:=hE.all z hz hp;obtain⟨y,hy1,_⟩:=hLB z (by rw[<-eL];exact hz);exact⟨e,he,hall e he,by rw[h1];omega⟩,λ⟨e,he,_,h1⟩=>by
    obtain⟨p,q,_⟩:=hE.is e he;exact⟨e.1,p,by omega,q⟩⟩
  ·exact Nat.le_add_right_of_le (List.length_filter_le _ _)
  ·rw[q2a,q1a _ _ _ _ (by omega)];exact M5.keep k hk
  ·rw[q2a,q1a _ _ _ _ (by omega)];exact M5.keep _ (by omega)
  ·rw[q2a,q1a _ _ _ _ (by omega)];exact M5.keep _ (by omega)
end
theorem PhO.two{K:Nat->Prop}{val:Nat->AV}{o o0 o1:Option AObj}(x:PhO K val o o0)(y:PhO K val o o1):(o0=none/\o1=none)\/∃a b,o0=some a/\o1=some b/\OEq a b:=by
 rcases x with⟨h1,rfl⟩ | ⟨c,c0,s,e,e0,h1,h2⟩<;>rcases y with⟨k1,rfl⟩ | ⟨c',c1,s',e',e1,k1,k2⟩
 ·cases o1 with
  | none=>exact .inl ⟨rfl,rfl⟩
  | some o=>exact .inr ⟨o,o,rfl,rfl,.inl rfl⟩
 ·exact .inr ⟨_,_,e',e1,.inr ⟨c',c1,s',none,false,rfl,rfl,λi=>(k2 i (h1 i)).symm⟩⟩
 ·exact .inr ⟨_,_,e0,e,.inr ⟨c0,c,s,none,false,rfl,rfl,λi=>h2 i (k1 i)⟩⟩
 ·rw[e] at e';injection e' with e';injection e' with e2 e3 _ _;subst e2;subst e3;refine .inr ⟨_,_,e0,e1,.inr ⟨c0,c1,s,none,false,rfl,rfl,λi=>?_⟩⟩;by_cases hk:K i
  ·rw[h1 i hk,k1 i hk]
  ·rw[h2 i hk,k2 i hk]
theorem PhO.oeq{K:Nat->Prop}{val:Nat->AV}{o:Option AObj}{a b:AObj}(x:PhO K val o (some a))(q:OEq a b)(same:some a=o->b=a):PhO K val o (some b):=by
 rcases x with⟨h1,h2⟩ | ⟨c,c0,s,e,e0,h1,h2⟩
 ·rw[same h2];exact .inl ⟨h1,h2⟩
 ·injection e0 with e0;subst e0;rcases q with rfl | ⟨c1,c2,s',t,r,e1,rfl,hq⟩
  ·exact .inr ⟨c,c0,s,e,rfl,h1,h2⟩
  ·injection e1 with e1 e2 e3 e4;subst e1;subst e2;subst e3;subst e4;exact .inr ⟨c,c2,s,e,rfl,λi hi=>(hq i).symm.trans (h1 i hi),λi hi=>(hq i).symm.trans (h2 i hi)⟩
theorem Arr.ph{h h2:AH}{i0:Nat}{v:AV}{cs cs':List AV}{K:Nat->Prop}{val:Nat->AV}(x:Arr h (λk=>k=i0) v cs)(y:PhO K val (h.mem.get i0) (h2.mem.get i0))(nx:h.next<=h2.next)(hl:cs'.length=cs.length)(h1:∀i,i<cs.length->K i->cs'[i]?=some (val i))(h0:∀i,i<cs.length->¬K i->cs'[i]?=cs[i]?):Arr h2 (λk=>k=i0) v cs':=by
 cases x with
 | nils=>rw[q0r hl];exact .nils
 | emp a b=>rw[q0r hl];exact .emp a (q0d b nx)
 | sl a b c d e f g=>
  rename_i id s cc cap;obtain rfl:id=i0:=b;rw[d] at y;obtain⟨c1,g1,p1,p2⟩:=y.cells;rw[<-hl];refine Arr.sl (λe'=>a (q0r (by rw[<-hl,e'];rfl))) rfl (q0d c nx) g1 (λi hi=>?_) (by rw[hl];exact f) (by rw[hl];exact g);rw[hl] at hi;by_cases hk:K i
  ·rw[p1 i hk,h1 i hi hk]
  ·rw[p2 i hk,h0 i hi hk];exact e i hi
theorem phiV_64{f:FunD}{b:Nat}{from_:Int}{vals:List Int}(h:∀z∈vals,I64 z):∀z∈phiV f b from_ vals,I64 z:=by
 intro z hz;obtain⟨i,hi,rfl⟩:=q0y hz;have hi':i<vals.length:=by rw[zHh] at hi;exact hi
 have e:(phiV f b from_ vals)[i]=(phiV f b from_ vals).getD i 0:=by rw[q0e,q0a hi];rfl
 rw[e,zI7 f b from_ vals i hi'];split
 ·unfold zD1;split
  ·exact zDb h
  ·exact⟨by decide,by decide⟩
 ·exact zDb h
theorem phis_ok{tab0 tab:Nat->Option AFunc}(H0:PV tab0)(e:tab 173=some (natF 4 (chG tab0 4 af173.body af173.res))):zIh tab:=by
 intro hd h lab M S K V s p I a f b from_ P D X A hf hb hfrom;refine ch_gp e rfl (phis_ncg H0 P D X A hf hb hfrom) (λh0 r0=>eqv_two (N:=h.next+(listB f b).length+3) A.l1.2.1 A.l2.2.1 (λh1 r=>⟨r.next,r.keep⟩) (λh0 h1 r0 r1 k hk=>?_) r0) (λh1 h2 W E=>?_)
 ·rcases hk with rfl | rfl
  ·exact r0.v1.two r1.v1
  ·exact r0.v2.two r1.v2
 have nx:h.next<=h2.next:=by rw[<-E.next,W.next];omega
 have one:∀{K:Nat->Prop} {val:Nat->AV} {k:Nat},k<h.next->PhO K val (h.mem.get k) (h1.mem.get k)->PhO K val (h.mem.get k) (h2.mem.get k):=by
  intro K val k hk x;rcases E.get k with⟨q,_⟩ | ⟨_,q1,q2⟩ | ⟨_,o1,o,q1,q2,q3,q4⟩
  ·omega
  ·rw[q2,<-q1];exact x
  ·rw[q1] at x;rw[q2];exact x.oeq q3 λe=>q4 (by rw[q1];exact e)
 have fr:∀k,k<h.next->k≠I.I1->k≠I.I2->h2.mem.get k=h.mem.get k:=by
  intro k hk k1 k2;have w:=W.keep k hk k1 k2;rcases E.get k with⟨q,_⟩ | ⟨_,q1,q2⟩ | ⟨_,o1,o,q1,q2,q3,q4⟩
  ·omega
  ·rw[q2,<-w,q1]
  ·rw[q2,q4 w,<-q1,w]
 have v1:=one A.l1.2.1 W.v1;have v2:=one A.l2.2.1 W.v2;have no1:∀{k:Nat} {r:Lab},r≠.no->lab k=r->k≠I.I1/\k≠I.I2:=λhr hk=>⟨λe=>hr (by rw[<-hk,e];exact A.l1.1),λe=>hr (by rw[<-hk,e];exact A.l2.1)⟩;obtain⟨ca,ga,hca⟩:=A.obj;obtain⟨ds,hds,hA⟩:=A.done;obtain⟨t,et⟩:∃t:Nat->Option AV,t=λi=>ds[i]?:=⟨_,rfl⟩;have hvl:=A.vl;refine⟨lab,V,rfl,X.keep (λr hr=>⟨nx,λk hk hlt=>⟨hk,fr k hlt (no1 hr hk).1 (no1 hr hk).2⟩⟩) (λk hk hl=>⟨hl,fr k (q0d hk X.sub.next) (λe=>by have:=A.l1.2.2;omega) (λe=>by have:=A.l2.2.2;omega)⟩) nx (λk hk=>X.new k (q0m nx hk)),?_,nx,λk hk hl=>⟨hl,λk1 k2 _=>fr k hk k1 k2⟩⟩;refine⟨⟨ca,(fr _ A.lA.2 A.nA.1 A.nA.2.1).trans ga,hca⟩,⟨A.lA.1,q0d A.lA.2 nx⟩,⟨A.l1.1,q0d A.l1.2.1 nx,A.l1.2.2⟩,⟨A.l2.1,q0d A.l2.2.1 nx,A.l2.2.2⟩,⟨A.l3.1,q0d A.l3.2.1 nx,A.l3.2.2⟩,A.nA,A.ne,?_,?_,?_,?_,?_,phiV_64 A.ival,A.isl,A.iar⟩
 ·refine A.vals.ph v1 nx (by rw[q0j,q0j];exact zHh) (λi hi hk=>?_) (λi hi hk=>?_)
  ·rw[q0j] at hi;have:=zI7 f b from_ a.vals i hi;rw[if_pos hk] at this;have hi2:i<(phiV f b from_ a.vals).length:=by rw[zHh];exact hi
   rw[q0e,q0a hi2] at this;rw[q0t,q0a hi2,<-this];rfl
  ·rw[q0j] at hi;have:=zI7 f b from_ a.vals i hi;rw[if_neg hk] at this;have hi2:i<(phiV f b from_ a.vals).length:=by rw[zHh];exact hi
   rw[q0e,q0a hi2,q0e,q0a hi] at this;have this:(phiV f b from_ a.vals)[i]=a.vals[i]:=this;rw[q0t,q0t,q0a hi2,q0a hi,this]
 ·classical
  refine⟨(List.range ds.length).map λi=>if phiK f b from_ i then .bool true else ds.getD i .bad,by rw[q0j,List.length_range];exact hds,hA.ph v2 nx (by rw[q0j,List.length_range]) (λi hi hk=>?_) (λi hi hk=>?_)⟩
  ·rw[q0t,List.getElem?_range hi];show some (if phiK f b from_ i then _ else _)=_;rw[if_pos hk]
  ·rw[q0t,List.getElem?_range hi];show some (if phiK f b from_ i then _ else _)=_;rw[if_neg hk,q0e,q0a hi];rfl
 ·exact A.slots.to nx λk e hl=>⟨e,fr k hl (by rw[e];exact A.ne.2.1.symm) (by rw[e];exact A.ne.2.2.symm)⟩
 ·exact A.args.to nx λk e hl=>⟨e,fr k hl e.2.1 e.2.2.1⟩
 ·show(phiV f b from_ a.vals).length=_;rw[zHh];exact hvl
def EndP(R:Rz Int)(e f:Nat)(s':MSt):Prop:=(∃z,R=.ok z s'/\e=1/\f=0)\/R=.stop e f s'
def WPost(B:Nat)(hd h:AH)(lab:Nat->Lab)(M S:Nat)(K:MK)(R:Rz Int)(h1:AH):Prop:=∃lab' V' s' e f,EndP R e f s'/\Sml B s'/\MacR (λr=>r=.mac) hd h1 lab' M S K V' s'/\ObjL h1 lab' .mac M (((macL K V' S s').set 9 (nv e)).set 10 (nv f))/\FrK lab h lab' h1
theorem op_dfr{x:Opd}{loc:T AV}{tmp:List AV}{h:AH}{f:Nat}{a b:List AV}(e:ev loc tmp x=.fn f a b):evOp (.dfr x) loc tmp h=.dfr (.fn f a b):=by
 show onFn (ev loc tmp x) (λf first caps=>OR.dfr (AV.fn f first caps))=_;rw[e];rfl
section
variable{tab:Nat->Option AFunc}(H:PV tab){hd h:AH}{lab:Nat->Lab}{M S:Nat}{K:MK}{V:MV}{s:MSt}{p:ProgD}
include H in
theorem tell_gp'{cM:T AV}{n:Nat}(g:h.mem.get M=some (.cells cM n none false))(c15:cM.get 15=some .nilf)(nM:¬h.next=M){a b c d e:AV}:GP tab 78 [.ptr M 0,a,b,c,d,e] h λ_ h1=>More h h1:=by
 have i0:zAb [.ptr M 0,a,b,c,d,e]=zAa [.ptr M 0,a,b,c,d,e]:=rfl;refine gpr H.t78 ?_;simp+decide only[RL,↓reduceIte,i0,g,c15,nM,moreT]
theorem MacR.setMx(X:MacR (λr=>r=.mac) hd h lab M S K V s)(hl:lab M=.mac)(o:AObj):MacR (λr=>r=.mac) hd (h.set M o) lab M S K V s/\FrK lab h lab (h.set M o):=
 X.one (r0:=.mac) (λe=>by cases e) (zF0 hl o) (by rw[q2b];exact q0c _) (λk hk=>X.new k (by rw[q2b] at hk;exact hk)) (λr hr x=>x hr) X.fll X.inp X.iglob X.ifld X.dep X.sit
theorem defer_ret{Kk:Mode->T AV->AH->Prop}{b:Nat}{cB c:T AV}{va:AV}(gb:h.mem.get b=some (.cells cB 1 none false))(cb:cB.get 0=some (.ptr M 0))(g:h.mem.get M=some (.cells c 16 none false))(c13:c.get 13=some va)(mva:∀h',oMove (.c va) .leaf [] h'=.val va h')(c15:c.get 15=some .nilf)(nM:¬h.next=M)(hK:∀l h2,More h h2->Kk .ret l h2)(H:PV tab):WD tab af77.body .ret (zAb [.ptr b 0]) h Kk:=by
 have i0:zAb [.ptr b 0]=zAa [.ptr b 0]:=rfl;refine zJ9 (zJ9 (wd_recov_ret ?_));have eqn:∀h',oEq true .ifc (.c .nili) (.c .nili) .leaf [] h'=.val (.bool false) h':=λ_=>rfl;have mvn:∀h',oMove (.c .nili) .leaf [] h'=.val .nili h':=λ_=>rfl;refine zJ9 (wd_ops (wc_rn ?_));simp only[RL,↓reduceIte,i0,eqn,mvn];refine wd_cond (q:=false) (by simp only[RL,↓reduceIte]) ?_;rw[if_neg (by decide)];refine wd_skip ?_;refine wd_ops (wc_rn ?_);simp only[RL,↓reduceIte,gb,cb,g,c13];refine(tell_gp' H g c15 nM).to λw h2 m=>?_;simp only[RL];exact hK _ _ m
theorem defer_pan{Kk:Mode->T AV->AH->Prop}{b e f:Nat}{cB c:T AV}{va w1 w2:AV}(gb:h.mem.get b=some (.cells cB 1 none false))(cb:cB.get 0=some (.ptr M 0))(g:h.mem.get M=some (.cells c 16 none false))(c9:c.get 9=some w1)(c10:c.get 10=some w2)(c13:c.get 13=some va)(mva:∀h',oMove (.c va) .leaf [] h'=.val va h')(c15:c.get 15=some .nilf)(nM:¬h.next=M)(nb:¬M=b)(hK:∀l h2 w,More ((h.set M (.cells (T.put (some (nv e)) c 9) 16 none false)).set M (.cells (T.put (some (nv f)) (T.put (some (nv e)) c 9) 10) 16 none false)) h2->Kk (.pan w true) l h2)(H:PV tab):WD tab af77.body (.pan (stopV e f) false) (zAb [.ptr b 0]) h Kk:=by
 have i0:zAb [.ptr b 0]=zAa [.ptr b 0]:=rfl;refine zJ9 (zJ9 (wd_recov_pan ?_));have eqn:∀h',oEq true .ifc (.c (stopV e f)) (.c .nili) .leaf [] h'=.val (.bool true) h':=λ_=>rfl;have mvn:∀h',oMove (.c (stopV e f)) .leaf [] h'=.val (stopV e f) h':=λ_=>rfl;have asn:∀z loc tmp h',evOp (.assert 146 false z (.t 0)) loc (stopV e f::tmp) h'=.val (.agg [nv e,nv f]) h':=λ_ _ _ _=>rfl;refine zJ9 (wd_ops (wc_rn ?_));simp only[RL,↓reduceIte,i0,eqn,mvn];refine wd_cond (q:=true) (by simp only[RL,↓reduceIte]) ?_;rw[if_pos rfl];refine wd_ops (wc_rn ?_);have f0:∀h',oField 0 1 false (.c (.agg [nv e,nv f])) .leaf [] h'=.val (nv e) h':=λ_=>rfl;have f1:∀h',oField 1 1 false (.c (.agg [nv e,nv f])) .leaf [] h'=.val (nv f) h':=λ_=>rfl;obtain⟨h5,e5⟩:∃h5,(h.set M (.cells (T.put (some (nv e)) c 9) 16 none false)).set M (.cells (T.put (some (nv f)) (T.put (some (nv e)) c 9) 10) 16 none false)=h5:=⟨_,rfl⟩;have g5:h5.mem.get M=some (.cells (T.put (some (nv f)) (T.put (some (nv e)) c 9) 10) 16 none false):=by rw[<-e5];exact q2d
 have gb5:h5.mem.get b=some (.cells cB 1 none false):=by rw[<-e5,q2c,q1a _ _ _ _ nb,q2c,q1a _ _ _ _ nb];exact gb
 have d13:(T.put (some (nv f)) (T.put (some (nv e)) c 9) 10).get 13=some va:=by rw[q1a _ _ _ _ (by decide),q1a _ _ _ _ (by decide)];exact c13
 have d15:(T.put (some (nv f)) (T.put (some (nv e)) c 9) 10).get 15=some .nilf:=by rw[q1a _ _ _ _ (by decide),q1a _ _ _ _ (by decide)];exact c15
 have n5:¬h5.next=M:=by rw[<-e5,q2b,q2b];exact nM
 rw[e5] at hK;simp+decide only[RL,↓reduceIte,gb,cb,asn,mvn,f0,f1,g,c9,c10,e5];refine wd_ops (wc_rn ?_);simp only[RL,↓reduceIte,gb5,cb,g5,d13];refine(tell_gp' H g5 d15 n5).to λw h2 m=>?_;simp only[RL];exact hK _ _ _ m
theorem progV_sub(D:DatK hd p K)(Sb:Sub hd h):ProgV h [K.vs,K.vg,K.vf] p:=⟨_,_,_,rfl,D.s1.sub Sb λ_ _ r=>r.sub Sb,D.s2.sub Sb λ_ _ r=>r,D.s3.sub Sb λ_ _ r=>r.sub Sb⟩
include H in
theorem whole_gp(Ph:zIh tab)(P:OkP p)(hL:∀z∈K.L,I64 z)(D:DatK hd p K)(X:MacS hd h lab M S K V s){B:Nat}(hB:B<100000)(Lm:Sml B s){k:Nat}{f:FunD}(hk:findF p tMain=some k)(hf:p.funs[k]?=some f)(hp:f.params=[])(hgl:s.glob.length=p.globals.length):GP tab 45 [.ptr M 0] h λ_ h1=>WPost (B+1) hd h lab M S K (runV p (doS tab) (λi=>K.L.getD i 0) (2*s.fuel+2) k [] s) h1:=by
 have i0:zAb [.ptr M 0]=zAa [.ptr M 0]:=rfl;refine GE.gp (ge_defer H.t45 rfl (wc_rn ?_)) (E:=λ_ _=>False) λ_ _=>id;simp only[RL,↓reduceIte,i0];obtain⟨hB',eB⟩:∃hB',h.add (.cells (.log 1 0 (some (.ptr M 0)) .leaf) 1 none false)=hB':=⟨_,rfl⟩;have mB:More h hB':=by rw[<-eB];exact q2g _ _
 have nB:hB'.next=h.next+1:=by rw[<-eB];rfl
 have gB:hB'.mem.get h.next=some (.cells (.log 1 0 (some (.ptr M 0)) .leaf) 1 none false):=by rw[<-eB,q2a];exact q1b _ _ _
 have XB:=X.more mB;obtain⟨c,g,hl,hM,hc⟩:=XB.pm id;have c0:c.get 0=some K.vs:=hc 0 (by decide);have c1:c.get 1=some K.vg:=hc 1 (by decide);have c2:c.get 2=some K.vf:=hc 2 (by decide);have odf:∀loc h',evOp (.dfr u0) loc [.fn 77 [] [.ptr h.next 0]] h'=.dfr (.fn 77 [] [.ptr h.next 0]):=λ_ _=>op_dfr rfl;have lp:zAy 3 (.c (.ptr M 0)) .leaf [] hB'=.val (.agg [K.vs,K.vg,K.vf]) hB':=zAp g (zBh [K.vs,K.vg,K.vf] _ _ λj hj=>by
  rw[q0I]
  match j,hj with
  | 0,_=>exact c0
  | 1,_=>exact c1
  | 2,_=>exact c2)
 simp only[RL,↓reduceIte,eB,gB,odf,stepE_dfr,lp];refine(zK9 H (progV_sub D XB.sub) (q2o _)).to λw h2 q=>?_;obtain⟨rfl,m2⟩:=q;have X2:=XB.more m2;have gB2:=(m2.keep _ (by omega:h.next<hB'.next)).trans gB;rw[hk];simp only[RL,↓reduceIte,gB2];have nl:∀{lab4:Nat->Lab} {h4:AH},FrK lab h2 lab4 h4->h4.mem.get h.next=some (.cells (.log 1 0 (some (.ptr M 0)) .leaf) 1 none false):=λF=>(F.2 _ (by have:=m2.next;omega) (X.new _ (q0c _))).2.trans gB2;have MB:=mB.trans m2;have nmb:¬M=h.next:=by
  intro e;have:=X.new _ (q0c h.next);rw[<-e,hl] at this;cases this
 refine(run_ok H Ph P hL (2*s.fuel+2) h2 lab V s B k f .nils [] D X2 hB Lm (q0c _) hf (by rw[hp];rfl) .nils (λz hz=>(by cases hz)) hgl X.dep).mono (λw h4 q=>?_) (λw h4 q=>?_)
 ·obtain⟨z,s',e,⟨q1,rfl⟩,q2,lab4,V4,d4,X4,f4⟩:=q;obtain⟨c4,g4,hl4,hM4,hc4⟩:=X4.pm id;have c9:c4.get 9=some (nv 0):=hc4 9 (by decide);obtain⟨h5,e5⟩:∃h5,h4.set M (.cells (T.put (some (nv 1)) c4 9) 16 none false)=h5:=⟨_,rfl⟩;have gb4:=nl f4;simp+decide only[RL,↓reduceIte,gb4,g4,c9,e5];obtain⟨X5,f5⟩:=(X4.weak (ex':=λr=>r=.mac) λr e=>e.elim).setMx hl4 (.cells (T.put (some (nv 1)) c4 9) 16 none false);have O5:=ObjL.set (L:=macL K V4 S s') hl4 hM4 hc4 9 (nv 1);have g5:h5.mem.get M=some (.cells (T.put (some (nv 1)) c4 9) 16 none false):=by rw[<-e5];exact q2d
  have gb5:h5.mem.get h.next=some (.cells (.log 1 0 (some (.ptr M 0)) .leaf) 1 none false):=by rw[<-e5,q2c,q1a _ _ _ _ nmb];exact gb4
  have n5:¬h5.next=M:=by rw[<-e5,q2b];omega
  have e5':h4.set M (.cells (T.put (some (nv 1)) c4 9) (macL K V4 S s').length none false)=h5:=e5;rw[e5] at X5 f5;rw[e5'] at O5;have aS:Stk h4 (λk=>lab4 k=.acts) V4.acts V4.depth:=X4.part .acts (λe=>e);refine⟨1,_,H.t77,rfl,defer_ret (va:=V4.acts) gb5 rfl g5 ((q1a _ _ _ _ (by decide)).trans (hc4 13 (by decide))) (λ_=>zAg aS.mv) ((q1a _ _ _ _ (by decide)).trans (hc4 15 (by decide))) n5 (λl h6 m6=>⟨rfl,_,zA5,lab4,V4,s',1,0,.inl ⟨z,e,rfl,rfl⟩,q2.1,X5.more m6,?_,((FrK.more MB).trans f4).trans (f5.trans (FrK.more m6))⟩) H⟩;exact O5.keepR ⟨m6.next,λk hk hl=>⟨hk,m6.keep k hl⟩⟩
 ·obtain⟨e',f',s',e,rfl,q2,lab4,V4,X4,f4⟩:=q;obtain⟨c4,g4,hl4,hM4,hc4⟩:=X4.pm id;have gb4:=nl f4;simp only[RL];have aS:Stk h4 (λk=>lab4 k=.acts) V4.acts V4.depth:=X4.part .acts (λe=>e);refine⟨1,_,H.t77,rfl,defer_pan (va:=V4.acts) gb4 rfl g4 (hc4 9 (by decide)) (hc4 10 (by decide)) (hc4 13 (by decide)) (λ_=>zAg aS.mv) (hc4 15 (by decide)) (by omega) nmb (λl h6 w m6=>⟨⟨_,rfl⟩,_,zA5,?_⟩) H⟩;obtain⟨X5,f5⟩:=(X4.weak (ex':=λr=>r=.mac) λr e=>e.elim).setMx hl4 (.cells (T.put (some (nv e')) c4 9) 16 none false);obtain⟨X7,f7⟩:=X5.setMx hl4 (.cells (T.put (some (nv f')) (T.put (some (nv e')) c4 9) 10) 16 none false);have O5:=ObjL.set (h:=h4.set M (.cells (T.put (some (nv e')) c4 9) 16 none false)) (L:=(macL K V4 S s').set 9 (nv e')) hl4 (by rw[q2b];exact hM4) (put_L hc4) 10 (nv f');exact⟨lab4,V4,s',e',f',.inr e,q2,X7.more m6,ObjL.keepR (h:=_) O5 ⟨m6.next,λk hk hl=>⟨hk,m6.keep k hl⟩⟩,((FrK.more MB).trans f4).trans ((f5.trans f7).trans (FrK.more m6))⟩
end
theorem SlV.src{α:Type}{h:AH}{es:Nat}{R:List AV->α->Prop}{v:AV}{xs:List α}(a:SlV h es R v xs)(hx:xs≠[]):∃new,(∀k,zAv es v h k=k xs.length new)/\new.length=xs.length*es/\∀i (hi:i<xs.length),∃E,E.length=es/\R E xs[i]/\∀j,j<es->new[i*es+j]?=E[j]?:=by
 rcases a with⟨rfl,_⟩ | ⟨id,off,cap,sz,c,p,ro,rfl,ck,g,hi,hb,ha⟩
 ·exact absurd rfl hx
 ·have hn:xs.length≠0:=λe=>hx (q0r e);have cell:∀i (hi:i<xs.length) j,j<es->∃w,c.get (off+(i*es+j))=some w:=by
   intro i hi j hj;obtain⟨E,e1,e2,e3⟩:=ha i hi;obtain⟨e4,e5⟩:=zCg e3;have:=e5 j hj;rw[Nat.add_assoc] at this;rw[this,q0a (by omega)];exact⟨_,rfl⟩
  obtain⟨new,en⟩:∃new,new=(List.range (xs.length*es)).map λj=>(c.get (off+j)).getD .bad:=⟨_,rfl⟩;have hl:new.length=xs.length*es:=by rw[en,q0j,List.length_range]
  have hg:∀i,i<xs.length->∀j,j<es->new[i*es+j]?=c.get (off+(i*es+j)):=by
   intro i hi j hj;obtain⟨w,hw⟩:=cell i hi j hj;have h2:(i+1)*es<=xs.length*es:=q0u _ hi;rw[Nat.succ_mul] at h2;rw[en,q0t,List.getElem?_range (by omega),hw];show some ((c.get (off+(i*es+j))).getD .bad)=_;rw[hw];rfl
  refine⟨new,zFd hn g ?_,hl,λi hi=>?_⟩
  ·rw[<-hl];refine zBh new c off λj hj=>?_;rw[hl] at hj;have hes:0<es:=Nat.pos_of_ne_zero λe=>by rw[e,Nat.mul_zero] at hj;omega
   have h1:j / es<xs.length:=Nat.div_lt_of_lt_mul (by rw[Nat.mul_comm];exact hj);have h2:=hg (j / es) h1 (j % es) (Nat.mod_lt _ hes);have h3:j / es*es+j % es=j:=by rw[Nat.mul_comm];exact Nat.div_add_mod j es
   rw[h3] at h2;exact h2.symm
  ·obtain⟨E,e1,e2,e3⟩:=ha i hi;refine⟨E,e1,e2,λj hj=>?_⟩;have:=(zCg e3).2 j hj;rw[hg i hi j hj,<-this,Nat.add_assoc]
def SlF{α:Type}(h:AH)(F:Nat->Prop)(es:Nat)(R:List AV->α->Prop)(v:AV)(xs:List α):Prop:=
 (xs=[]/\(v=.nils\/∃id off cap,v=.sl id off 0 (.known cap)))\/(xs≠[]/\SlV h es R v xs/\∃id off cap,v=.sl id off xs.length cap/\F id)
theorem SlF.sl{α:Type}{h:AH}{F:Nat->Prop}{es:Nat}{R:List AV->α->Prop}{v:AV}{xs:List α}(a:SlF h F es R v xs):SlV h es R v xs:=by
 rcases a with a | a
 ·exact .inl a
 ·exact a.2.1
theorem SlF.to{α:Type}{h h':AH}{F G:Nat->Prop}{es:Nat}{R:List AV->α->Prop}{v:AV}{xs:List α}(a:SlF h F es R v xs)(hn:h.next<=h'.next)(hk:∀k,F k->k<h.next->G k/\h'.mem.get k=h.mem.get k):SlF h' G es R v xs:=by
 rcases a with a | ⟨h0,a,id',off',cap',e,f⟩
 ·exact .inl a
 ·rcases a with⟨a,_⟩ | ⟨id,off,cap,sz,c,p,ro,rfl,ck,g,hi,hb,ha⟩
  ·exact absurd a h0
  ·injection e with e1 e2 e3 e4;subst e1;obtain⟨q1,q2⟩:=hk _ f hi;exact .inr ⟨h0,.inr ⟨id,off,cap,sz,c,p,ro,rfl,ck,q2.trans g,q0d hi hn,hb,ha⟩,id,off,cap,rfl,q1⟩
section
variable{tab:Nat->Option AFunc}{h:AH}(H:PV tab)
include H in
theorem cloneF_gp{v:AV}{xs:List FieldD}(a:SlV h 2 zDg v xs)(hx:xs.length<=100000):GP tab 37 [v] h λw h1=>SlF h1 (λk=>h.next<=k) 2 zDg w xs/\More h h1:=by
 have i0:zAb [v]=zAa [v]:=rfl;have mv:=a.mv;refine gpr H.t37 ?_;by_cases h0:xs=[]
 ·rcases a with⟨_,rfl | ⟨id,off,cap,rfl⟩⟩ | ⟨id,off,cap,sz,c,p,ro,rfl,ck,g,hi,hb,ha⟩
  ·have eq:∀h',oEq false .sl (.c .nils) (.c .nils) .leaf [] h'=.val (.bool true) h':=λ_=>rfl;simp only[RL,↓reduceIte,i0,mv,eq];exact⟨.inl ⟨h0,.inl rfl⟩,q2o _⟩
  ·have eq:∀h',oEq false .sl (.c (.sl id off 0 (.known cap))) (.c .nils) .leaf [] h'=.val (.bool false) h':=λ_=>rfl;have ap:∀id2 h',zA0 none 2 32 (.c (.sl id2 0 0 (.known 0))) (.c (.sl id off 0 (.known cap))) .leaf [] h'=.val (.sl id2 0 0 (.known 0)) h':=λ_ _=>rfl;simp only[RL,↓reduceIte,i0,mv,eq,ap];exact⟨.inl ⟨h0,.inr ⟨_,_,_,rfl⟩⟩,q2g _ _⟩
  ·subst h0;have eq:∀h',oEq false .sl (.c (.sl id off ([]:List FieldD).length cap)) (.c .nils) .leaf [] h'=.val (.bool false) h':=λ_=>rfl;have ap:∀id2 h',zA0 none 2 32 (.c (.sl id2 0 0 (.known 0))) (.c (.sl id off ([]:List FieldD).length cap)) .leaf [] h'=.val (.sl id2 0 0 (.known 0)) h':=λ_ _=>rfl;simp only[RL,↓reduceIte,i0,mv,eq,ap];exact⟨.inl ⟨rfl,.inr ⟨_,_,_,rfl⟩⟩,q2g _ _⟩
 ·have mB:More h (h.add (.cells (zAa []) 0 none false)):=q2g _ _;obtain⟨new,hs,hl,hc⟩:=(a.more mB λ_ _=>id).src h0;have hn:xs.length≠0:=λe=>h0 (q0r e);have ap:=zK6 (id:=h.next) (off:=0) (b:=32) hs hn (zBw (by omega) (by omega));have eq:∀h',oEq false .sl (.c v) (.c .nils) .leaf [] h'=.val (.bool false) h':=by
   rcases a with⟨e,_⟩ | ⟨id,off,cap,sz,c,p,ro,rfl,_⟩
   ·exact absurd e h0
   ·exact λ_=>rfl
  simp only[RL,↓reduceIte,i0,mv,eq,ap];have hb:=a.boundS;refine⟨.inr ⟨h0,.inr ⟨h.next+1,0,.rest 2,xs.length*2,zAa new,none,false,rfl,⟨rfl,by decide,by omega⟩,by rw[q2a,q2e];refine(q1b _ _ _).trans ?_;simp only[],q0h _,hb,λi hi=>?_⟩,_,_,_,rfl,q0w _⟩,mB.trans (q2g _ _)⟩;obtain⟨E,e1,e2,e3⟩:=hc i hi;refine⟨E,e1,e2,?_⟩;have:=zBh E (zAa new) (0+i*2) λj hj=>by rw[q0I,zAe];exact e3 j (by omega)
  rw[e1] at this;exact this
end
def StrRows(h:AH)(F:Nat->Prop)(rows:List (List AV))(xs:List zA9):Prop:=rows.length=xs.length/\∀i (h1:i<rows.length) (h2:i<xs.length),∃vf,rows[i]=[sv xs[i].name,vf]/\SlF h F 2 zDg vf xs[i].fields/\xs[i].name.length<=maxLen
theorem StrRows.to{h h':AH}{F G:Nat->Prop}{rows:List (List AV)}{xs:List zA9}(a:StrRows h F rows xs)(hn:h.next<=h'.next)(hk:∀k,F k->k<h.next->G k/\h'.mem.get k=h.mem.get k):StrRows h' G rows xs:=
 ⟨a.1,λi h1 h2=>let⟨vf,e,s,l⟩:=a.2 i h1 h2;⟨vf,e,s.to hn hk,l⟩⟩
theorem StrRows.push{h:AH}{F:Nat->Prop}{rows:List (List AV)}{xs:List zA9}{k:Nat}(hk:k<xs.length)(a:StrRows h F rows (xs.take k)){vf:AV}(s:SlF h F 2 zDg vf xs[k].fields)(l:xs[k].name.length<=maxLen):StrRows h F (rows++[[sv xs[k].name,vf]]) (xs.take (k+1)):=by
 have hl:(xs.take k).length=k:=by rw[q0v];omega
 have hr:rows.length=k:=a.1.trans hl;refine⟨by rw[q0o,hr,q0v];simp;omega,λi h1 h2=>?_⟩;rw[q0o,hr] at h1;simp only[List.length_singleton] at h1;rw[List.getElem_take];by_cases e:i<k
 ·obtain⟨vf',e',s',l'⟩:=a.2 i (by omega) (by omega);rw[List.getElem_take] at e' l';rw[List.getElem_append_left (by omega)];refine⟨vf',e',?_,l'⟩;rw[List.getElem_take] at s';exact s'
 ·obtain rfl:i=k:=by omega
  rw[List.getElem_append_right (by omega)];simp only[hr,Nat.sub_self,List.getElem_cons_zero];exact⟨vf,rfl,s,l⟩
theorem ArrN.same{h:AH}{F:Nat->Prop}{es:Nat}{v:AV}{xs:List (List AV)}(x:ArrN h F es v xs):Ev.same v v=true:=by
 cases x with
 | nils=>exact same_nils
 | sl=>exact zHc
section
variable{tab:Nat->Option AFunc}{h:AH}(H:PV tab)
include H in
theorem new_gp{v:AV}{xs:List zA9}(a:SlV h 2 (StructV h) v xs)(hc:checkS xs=0)(hx:xs.length<=100000)(hf:∀x∈xs,x.fields.length<=100000):GP tab 43 [v] h λw h1=>∃S vs c rows,w=.ptr S 0/\h.next<=S/\S<h1.next/\More h h1/\h1.mem.get S=some (.cells c 4 none false)/\c.get 0=some vs/\c.get 1=some .nils/\c.get 2=some .nils/\c.get 3=some (nv 0)/\ArrN h1 (λk=>h.next<=k/\k≠S) 2 vs rows/\StrRows h1 (λk=>h.next<=k/\k≠S) rows xs:=by
 have i0:zAb [v]=zAa [v]:=rfl;have mv:=a.mv;have ln:=a.len;refine gpr H.t43 ?_;simp+decide(disch:=omega)only[RL,↓reduceIte,i0,mv];refine(check_gp H (show StrsV h v xs from a)).to λw h1 q=>?_;obtain⟨m1,z,rfl⟩:=q;rw[hc];simp+decide(disch:=omega)only[RL,↓reduceIte,mv,ln];have mB:More h (h1.add (.cells (zAa [.nils,.nils,.nils,nv 0]) 4 none false)):=m1.trans (q2g _ _);refine zAd (λm l d h3=>∃k w rows c W,m=xs.length-k/\k<=xs.length/\d=[]/\More h h3/\h1.next<h3.next/\h3.mem.get h1.next=some (.cells c 4 none false)/\c.get 0=some w/\c.get 1=some .nils/\c.get 2=some .nils/\c.get 3=some (nv 0)/\ArrN h3 W 2 w rows/\(∀j,W j->h.next<=j/\j≠h1.next)/\StrRows h3 (λj=>h.next<=j/\j≠h1.next/\¬W j) rows (xs.take k)/\l.get 3=some (.int .i64 (k:Int))/\l.get 4=some (.int .i64 (xs.length:Int))/\l.get 6=some v/\l.get 7=some (.ptr h1.next 0)) ?_ (xs.length-0) ⟨0,.nils,[],_,λ_=>False,rfl,q0k _,rfl,mB,q0h _,by rw[q2a];exact q1b _ _ _,rfl,rfl,rfl,rfl,.nils,λ_ h=>h.elim,⟨rfl,λi h1=>absurd h1 (Nat.not_lt_zero _)⟩,rfl,rfl,rfl,rfl⟩;rintro m l d h3 ⟨k,w,rows,c,W,rfl,hk,rfl,M3,n3,g3,c0,c1,c2,c3,aw,hW,sr,l3,l4,l6,l7⟩;haveI:MoreC h h3:=⟨M3⟩;by_cases hlt:k<xs.length
 ·obtain⟨id,o,E,ix,e1,⟨vf0,rfl,sf,hname⟩,ld,lw⟩:=a.at hlt;have ld:∀(h':AH) [MoreC h h'],zAy 2 (.c (.ptr id o)) .leaf [] h'=.val (.agg [sv xs[k].name,vf0]) h':=ld;obtain⟨cb,ecb⟩:∃cb,cb=T.put (some vf0) (T.put (some (sv xs[k].name)) (zAa [sv [],.nils]) 0) 1:=⟨_,rfl⟩;obtain⟨h4,e4⟩:∃h4,(h3.add (.cells (zAa [sv [],.nils]) 2 none false)).set h3.next (.cells cb 2 none false)=h4:=⟨_,rfl⟩;have cb0:cb.get 0=some (sv xs[k].name):=by rw[ecb];rfl
  have cb1:cb.get 1=some vf0:=by rw[ecb];rfl
  have m4:More h3 h4:=by rw[<-e4];exact(q2g _ _).set (q0c _) _
  have n4:h4.next=h3.next+1:=by rw[<-e4];rfl
  have gb4:h4.mem.get h3.next=some (.cells cb 2 none false):=by rw[<-e4];exact q2d
  rw[ecb] at e4;have g4:=(m4.keep _ n3).trans g3;have mw:=aw.mv;have mf:=sf.mv;have mww:∀h',oMove (.c w) .leaf [] h'=.val w h':=λ_=>zAg mw;simp+decide(disch:=omega)only[RL,↓reduceIte,l3,l4,l6,l7,hlt,ix,ld,e4,gb4,cb0,cb1,g4,c0];have M4:=M3.trans m4;refine(cloneF_gp H (sf.more M4 λ_ _ r=>r) (hf _ (q0l hlt))).to λvf h5 q=>?_;obtain⟨s5,m5⟩:=q;have g5:=(m5.keep _ (by omega:h1.next<h4.next)).trans g4;have gb5:=(m5.keep _ (by omega:h3.next<h4.next)).trans gb4;have M5:=M4.trans m5;have cvf:cellsOf vf=some [vf]:=by
   rcases s5 with⟨_,rfl | ⟨_,_,_,rfl⟩⟩ | ⟨_,_,_,_,_,rfl,_⟩<;>rfl
  have sw:=aw.same;have m45:=m4.trans m5;obtain⟨hR,eR⟩:∃hR,h5.add (.cells (zAa [sv xs[k].name,vf]) 2 none false)=hR:=⟨_,rfl⟩;have mR:More h5 hR:=by rw[<-eR];exact q2g _ _
  have nR:hR.next=h5.next+1:=by rw[<-eR];rfl
  have gR:hR.mem.get h5.next=some (.cells (zAa [sv xs[k].name,vf]) 2 none false):=by rw[<-eR,q2a];exact q1b _ _ _
  have awR:=aw.to (h':=hR) (G:=λj=>W j/\j<h3.next) (m45.trans mR).next λj hj hlt=>⟨⟨hj,hlt⟩,(m45.trans mR).keep j hlt⟩;have hlr:rows.length=k:=sr.1.trans (by rw[q0v];omega);obtain⟨w',h6,ap,aw',nx6,kp6⟩:=awR.append (by':=40) (src:=.sl h5.next 0 1 (.known 1)) (new:=[sv xs[k].name,vf]) (λkk=>zFd (by decide) gR (zBh [sv xs[k].name,vf] _ _ λj hj=>by rw[q0I,zAe]) kk) rfl (by decide) (by omega) (by decide);have n5:=m5.next;have nS5:¬h5.next=h1.next:=by omega
  have nWS:¬(W h1.next/\h1.next<h3.next):=λe=>(hW _ e.1).2 rfl;have g6:h6.mem.get h1.next=some (.cells c 4 none false):=by rw[kp6 _ (by omega) nWS,mR.keep _ (by omega)];exact g5
  have mw':∀h',oMove (.c w') .leaf [] h'=.val w' h':=λ_=>zAg aw'.mv;have cw':=aw'.cells;simp+decide(disch:=omega)only[RL,↓reduceIte,g5,gb5,c0,cb0,sw,cvf,eR,ap,g6,cw',l3];have nR6:h6.next=hR.next+1:=nx6;have old:∀j,j<h3.next->¬W j->j≠h1.next->(h6.set h1.next (.cells (T.put (some w') c 0) 4 none false)).mem.get j=h3.mem.get j:=λj hj hw hs=>by
   rw[q2c,q1a _ _ _ _ (Ne.symm hs),kp6 j (by omega) (λe=>hw e.1),(m45.trans mR).keep j hj]
  have hge:=m1.next;refine⟨xs.length-(k+1),by omega,k+1,w',rows++[[sv xs[k].name,vf]],T.put (some w') c 0,λj=>j=hR.next,rfl,hlt,⟨by rw[q2b];have:=M3.next;omega,λj hj=>?_⟩,by omega,rfl,by rw[q1b],by rw[q1a _ _ _ _ (by decide)];exact c1,by rw[q1a _ _ _ _ (by decide)];exact c2,by rw[q1a _ _ _ _ (by decide)];exact c3,aw'.to (q0c _) λj hj _=>⟨hj,by rw[q2c,q1a _ _ _ _ (by omega)]⟩,λj hj=>by omega,StrRows.push hlt (sr.to (by rw[q2b];omega) λj hj hlt'=>⟨⟨hj.1,hj.2.1,by omega⟩,old j hlt' hj.2.2 hj.2.1⟩) (s5.to (by rw[q2b];omega) λj hj hlt'=>⟨⟨by have:=M3.next;omega,by omega,by omega⟩,by rw[q2c,q1a _ _ _ _ (by omega),kp6 j (by omega) (λe=>by omega),mR.keep j hlt']⟩) hname,rfl,l4,l6,l7⟩;rw[old j (q0d hj M3.next) (λe=>by have:=(hW j e).1;omega) (by omega)];exact M3.keep j hj
 ·obtain rfl:k=xs.length:=by omega
  rw[List.take_length] at sr;simp(disch:=omega)only[RL,↓reduceIte,l3,l4,l7,hlt];exact⟨_,w,c,rows,rfl,m1.next,n3,M3,g3,c0,c1,c2,c3,aw.to (q0c _) λj hj _=>⟨hW j hj,rfl⟩,sr.to (q0c _) λj hj _=>⟨⟨hj.1,hj.2.1⟩,rfl⟩⟩
end
end Go.Ev
namespace Go.Ev
open Go
open Classical in
theorem T_some{α:Type}(t:T α)(q:Nat->Prop):∀n:Nat,∃t':T α,∀k,t'.get k=if k<n/\q k then t.get k else none
 | 0=>⟨.leaf,λk=>by rw[if_neg (λh=>absurd h.1 (Nat.not_lt_zero _))];rfl⟩
 | n+1=>by
  obtain⟨t',h⟩:=T_some t q n;refine⟨T.put (if q n then t.get n else none) t' n,λk=>?_⟩;by_cases e:n=k
  ·subst e;rw[q1b];by_cases hq:q n
   ·rw[if_pos hq,if_pos ⟨q0h _,hq⟩]
   ·rw[if_neg hq,if_neg λh=>hq h.2]
  ·rw[q1a _ _ _ _ e,h];by_cases hk:k<n/\q k
   ·rw[if_pos hk,if_pos ⟨Nat.lt_succ_of_lt hk.1,hk.2⟩]
   ·rw[if_neg hk,if_neg λh=>hk ⟨by omega,h.2⟩]
structure Bnd(p:ProgD):Prop where
 grt:Grt p
 structs:p.structs.length<=100000
 fields:∀x∈p.structs,x.fields.length<=100000
 slots:∀f∈p.funs,f.slots.length<=100000
 params:∀f∈p.funs,f.params.length<=100000
theorem Bnd.ok{p:ProgD}(b:Bnd p)(h:zCz p=true):OkP p:=⟨(zLa h).1,b.grt,b.fields,b.slots,b.params⟩
theorem ArrN.slV{α:Type}{h:AH}{F:Nat->Prop}{es:Nat}{R:List AV->α->Prop}{v:AV}{rows:List (List AV)}{xs:List α}(a:ArrN h F es v rows)(he:1<=es)(hl:rows.length=xs.length)(hb:xs.length<=1000000)(hR:∀i (h1:i<rows.length) (h2:i<xs.length),R rows[i] xs[i]):SlV h es R v xs:=by
 cases a with
 | nils=>exact .inl ⟨q0r hl.symm,.inl rfl⟩
 | sl a b c d e=>
  refine .inr ⟨_,0,.rest es,rows.length*es,_,none,false,by rw[hl],⟨rfl,he,by rw[q0I,hl];exact q0c _⟩,d,c,q0m hb (by decide),λi hi=>?_⟩;obtain⟨e1,e2⟩:=e i (by omega);refine⟨_,e1,hR i (by omega) hi,?_⟩;have:=zBh rows[i] _ (0+i*es) λj hj=>by rw[q0I];exact e2 j (by omega)
  rw[e1] at this;exact this
theorem RowsA.sa{h:AH}{P:Nat->Prop}{f:FunD}{rid:Nat}{us:List AV}(hb:f.blocks.length<=1000)(ra:RowsA h P rid us (ledS f)):SlV h 1 (λE xs=>∃w,E=[w]/\SlV h 1 IntR w xs) (.sl rid 0 f.blocks.length (.known f.blocks.length)) (ledS f):=zI1 hb ra
section
variable{tab:Nat->Option AFunc}{h0 h:AH}(H:PV tab)
include H in
theorem made_gp'{ex:Lab->Prop}(he:¬ex .sto)(he2:¬ex .list){hd h:AH}{lab:Nat->Lab}{M S:Nat}{K:MK}{V:MV}{s:MSt}(X:MacR ex hd h lab M S K V s)(ho:s.objs.length<1000000)(hfr:s.framed<=s.objs.length){b:Bool}:GP tab 46 [.ptr S 0,.bool b] h λv h1=>v=nv (if b then s.framed else s.objs.length-s.framed)/\h1=h:=by
 have i0:zAb [.ptr S 0,.bool b]=zAa [.ptr S 0,.bool b]:=rfl;obtain⟨c,g,hl,hiS,hc⟩:=X.ps he;have c1:c.get 1=some V.list:=hc 1 (by decide);have c3:c.get 3=some (nv s.framed):=hc 3 (by decide);have a:ArrN h (λk=>lab k=.list) 3 V.list (zBo s.objs V.fl):=X.part .list he2;have mv:∀h',oMove (.c V.list) .leaf [] h'=.val V.list h':=λ_=>zAg a.mv;have ln:∀h',oLen .sl (.c V.list) .leaf [] h'=.val (nv s.objs.length) h':=λh'=>by rw[a.len h',zA6 X.fll]
 refine gpr H.t46 ?_;cases b
 ·simp+decide(disch:=omega)only[RL,↓reduceIte,i0,g,c1,c3,ln]
 ·simp+decide only[RL,↓reduceIte,i0,g,c1,c3,ln]
def KeepZ(h:AH)(Z:Nat->Prop)(h1:AH):Prop:=h.next<=h1.next/\∀j,j<h.next->¬Z j->h1.mem.get j=h.mem.get j
theorem KeepZ.of{h h1:AH}{Z:Nat->Prop}(m:More h h1):KeepZ h Z h1:=⟨m.next,λj hj _=>m.keep j hj⟩
def RunP(h:AH)(Z:Nat->Prop)(r:ResD)(v:AV)(h1:AH):Prop:=∃vo,v=.tup [.agg [vo,nv r.fin,nv r.fault,nv r.steps,nv r.made],nv r.framed,nv 0]/\Arr h1 (λk=>h.next<=k\/Z k) vo (r.out.map iv)/\KeepZ h Z h1
def noRes(e:Nat):AV:=.tup [.agg [.nils,nv 0,nv 0,nv 0,nv 0],nv 0,nv e]
open Classical in
include H in
theorem watch_gp(Ph:zIh tab){E:List AV}{p:ProgD}(r:ProgV h0 E p)(m0:More h0 h)(b:Bnd p){own:Bool}{Z:Nat->Prop}(hZ:∀j,Z j->h0.next<=j){vin:AV}{L:List Int}(hL:∀z∈L,I64 z)(ik:own=false->InpK h0 vin L)(io:own=true->InpO h (λk=>Z k/\k<h.next) vin L){fuel:Int}(h64:I64 fuel)(hfu:fuel<=99998) :
  GP tab 25 [.agg E,vin,iv fuel,.nilf] h λv h1=>if zCz p=true then(if fuel<0 then v=noRes 9/\KeepZ h Z h1 else RunP h Z (execV p (doS tab) (λi=>L.getD i 0) fuel.toNat) v h1) else v=noRes 1/\KeepZ h Z h1:=by
 have R:=r;obtain⟨vs,vg,vf,rfl,s1,s2,s3⟩:=r;have i0:zAb [.agg [vs,vg,vf],vin,iv fuel,.nilf]=zAa [.agg [vs,vg,vf],vin,iv fuel,.nilf]:=rfl;have mvi:∀h',oMove (.c vin) .leaf [] h'=.val vin h':=λh'=>by
  cases ho:own with
  | false=>exact zAg (ik ho).mv
  | true=>exact zAg (io ho).mv
 refine gpr H.t25 ?_;obtain⟨hA,eA⟩:∃hA,(h.add (.cells (zAa [vs,vg,vf]) 3 none false)).add (.cells (zAa [.nils,nv 0,nv 0,nv 0,nv 0]) 5 none false)=hA:=⟨_,rfl⟩;have mA:More h hA:=by rw[<-eA];exact(q2g _ _).trans (q2g _ _)
 have nA:hA.next=h.next+2:=by rw[<-eA];rfl
 have gA:hA.mem.get h.next=some (.cells (zAa [vs,vg,vf]) 3 none false):=by rw[<-eA,q2a,q1a _ _ _ _ (by rw[q2e];omega),q2a,q1b]
 have gO:hA.mem.get (h.next+1)=some (.cells (zAa [.nils,nv 0,nv 0,nv 0,nv 0]) 5 none false):=by rw[<-eA,q2a];exact q1b _ _ _
 have lp:∀(h':AH) [MoreC hA h'],zAy 3 (.c (.ptr h.next 0)) .leaf [] h'=.val (.agg [vs,vg,vf]) h':=λh' _=>zAp (kp gA (by omega)) rfl;have MA:=m0.trans mA;have l30:loadL (zAa [vs,vg,vf]) 3 0=some [vs,vg,vf]:=rfl;have l50:loadL (T.put (some (nv 0)) (T.put (some (nv 0)) (T.put (some (nv 0)) (T.put (some (nv 0)) (T.put (some .nils) (zAa [.nils,nv 0,nv 0,nv 0,nv 0]) 0) 1) 2) 3) 4) 5 0=some [.nils,nv 0,nv 0,nv 0,nv 0]:=rfl;have hge:h0.next<=h.next+1:=Nat.le_succ_of_le m0.next;simp+decide(disch:=omega)only[RL,↓reduceIte,i0,eA,lp];refine(valid_gp H (R.more MA) b.grt).to λw h2 q=>?_;obtain⟨rfl,m2⟩:=q;have M2:=MA.trans m2;haveI:MoreC hA h2:=⟨m2⟩;have g2:=(m2.keep _ (by omega:h.next<hA.next)).trans gA;have gO2:=(m2.keep _ (by omega:h.next+1<hA.next)).trans gO;cases hv:zCz p with
 | false=>
  simp+decide(disch:=omega)only[RL,↓reduceIte,gO2,l50];exact⟨rfl,KeepZ.of ((mA.trans m2).set (q0w _) _)⟩
 | true=>
  by_cases hneg:fuel<((0:Nat):Int)
  ·simp+decide(disch:=omega)only[RL,↓reduceIte,hneg,gO2,l50];rw[if_pos (show fuel<0 from hneg)];exact⟨rfl,KeepZ.of ((mA.trans m2).set (q0w _) _)⟩
  ·have hbig:¬((1048576:Nat):Int)<fuel:=by omega
   obtain⟨n,rfl⟩:∃n:Nat,fuel=n:=⟨fuel.toNat,by omega⟩;have ok:=b.ok hv;obtain⟨-,km,fm,hk,hf,hpar,hfl,hgl,hch⟩:=zLa hv;have mg:=s2.mv;have lg:=s2.len;have ms:=s1.mv;have mf:=s3.mv;have mks:∀h',zB0 [.int .i64 ((0:Nat):Int)] 8 (.c (.int .i64 (p.globals.length:Int))) (.c (.int .i64 (p.globals.length:Int))) .leaf [] h'=_:=λh'=>zD6 (by omega) (by omega);obtain⟨hG,eG⟩:∃hG,h2.add (.cells (zAa (List.replicate p.globals.length (nv 0))) p.globals.length none false)=hG:=⟨_,rfl⟩;have mG:More h2 hG:=by rw[<-eG];exact q2g _ _
   have nG:hG.next=h2.next+1:=by rw[<-eG];rfl
   have aG:Arr hG (λk=>k=h2.next) (.sl h2.next 0 p.globals.length (.known p.globals.length)) (List.replicate p.globals.length (nv 0)):=by rw[<-eG];exact Arr.mk _ _ (by omega)
   have n2:=m2.next;have gG:=(mG.keep _ (by omega:h.next<h2.next)).trans g2;have gOG:=(mG.keep _ (by omega:h.next+1<h2.next)).trans gO2;simp+decide(disch:=omega)only[RL,↓reduceIte,hneg,hbig,g2,l30,lg,mvi,zBz,mks,eG,gG];refine(new_gp H (s1.more (M2.trans mG) λ_ _ r=>r.more (M2.trans mG)) hch b.structs b.fields).to λw h3 q=>?_;obtain⟨S,vst,cS,rows,rfl,hS,hS3,m3,gS,cS0,cS1,cS2,cS3,aw,sr⟩:=q;have g3:=(m3.keep _ (by omega:h.next<hG.next)).trans gG;have sm1:=s2.same;have sm2:=s1.same;have sm3:=s3.same;have cvi:cellsOf vin=some [vin]:=by
    cases ho:own with
    | false=>exact(ik ho).cells
    | true=>exact(io ho).cells
   simp+decide(disch:=omega)only[RL,↓reduceIte,g3,l30,lg,sm1,sm2,sm3,cvi];have M3:=(M2.trans mG).trans m3;obtain⟨L0,eL0⟩:∃L0,L0=[vs,vg,vf,.nils,.sl h2.next 0 p.globals.length (.known p.globals.length),.ptr S 0,vin,nv n,.nils,nv 0,nv 0,nv 0,nv 0,.nils,.nils,.nilf]:=⟨_,rfl⟩;obtain⟨hM,eM⟩:∃hM,h3.add (.cells (zAa L0) 16 none false)=hM:=⟨_,rfl⟩;have mM:More h3 hM:=by rw[<-eM];exact q2g _ _
   have nM:hM.next=h3.next+1:=by rw[<-eM];rfl
   have gM:hM.mem.get h3.next=some (.cells (zAa L0) 16 none false):=by rw[<-eM,q2a];exact q1b _ _ _
   rw[eL0] at eM;have n3:=m3.next;have gB3:=(mM.keep _ (by omega:h.next<h3.next)).trans g3;have lf:=s3.len;simp(disch:=omega)only[RL,eM,lf];refine zAd (λm l d h5=>∃k w ws c W,m=p.funs.length-k/\k<=p.funs.length/\d=[]/\hM.next<=h5.next/\(∀j,j<hM.next->j≠h3.next->h5.mem.get j=hM.mem.get j)/\h5.mem.get h3.next=some (.cells c 16 none false)/\c.get 3=some w/\(∀j,j<16->j≠3->c.get j=L0[j]?)/\ArrN h5 W 1 w (ws.map λw=>[w])/\(∀j,W j->hM.next<=j)/\ws.length=k/\(∀i (h1:i<ws.length) (h2:i<p.funs.length),∃rid us,ws[i]=.sl rid 0 p.funs[i].blocks.length (.known p.funs[i].blocks.length)/\RowsA h5 (λj=>hM.next<=j/\¬W j) rid us (ledS p.funs[i]))/\l.get 8=some (.int .i64 (k:Int))/\l.get 9=some (.int .i64 (p.funs.length:Int))/\l.get 11=some vf/\l.get 12=some (.ptr h3.next 0)/\l.get 6=some (.ptr (h.next+1) 0)) ?_ (p.funs.length-0) ⟨0,.nils,[],_,λ_=>False,rfl,q0k _,rfl,q0c _,λ_ _ _=>rfl,gM,by rw[eL0];rfl,λj _ _=>zAe _ _,.nils,λ_ h=>h.elim,rfl,λi h1=>absurd h1 (Nat.not_lt_zero _),rfl,rfl,rfl,rfl,rfl⟩;rintro m l d h5 ⟨k,w,ws,c,W,rfl,hkk,rfl,nx5,kp5,g5,c3,cj,aw5,hW,hwl,hws,l8,l9,l11,l12,l6⟩;have M5:More h0 h5:=⟨by have:=M3.next;omega,λj hj=>by have:=M3.next;rw[kp5 j (by omega) (by omega),mM.keep j (by omega)];exact M3.keep j hj⟩
   haveI:MoreC h0 h5:=⟨M5⟩;by_cases hlt:k<p.funs.length
   ·obtain⟨id,o,E,ix,e1,rf,ld,-⟩:=s3.at hlt;have rf0:=rf;obtain⟨vp,vl,vi,vb,rfl,-⟩:=rf;obtain⟨cb,ecb⟩:∃cb,cb=T.put (some vb) (T.put (some vi) (T.put (some vl) (T.put (some (sv p.funs[k].result)) (T.put (some vp) (T.put (some (sv p.funs[k].name)) (zAa [sv [],AV.nils,sv [],AV.nils,AV.nils,AV.nils]) 0) 1) 2) 3) 4) 5:=⟨_,rfl⟩;obtain⟨h6,e6⟩:∃h6,(h5.add (.cells (zAa [sv [],.nils,sv [],.nils,.nils,.nils]) 6 none false)).set h5.next (.cells cb 6 none false)=h6:=⟨_,rfl⟩;have l60:loadL cb 6 0=some [sv p.funs[k].name,vp,sv p.funs[k].result,vl,vi,vb]:=by rw[ecb];rfl
    have m6:More h5 h6:=by rw[<-e6];exact(q2g _ _).set (q0c _) _
    have n6:h6.next=h5.next+1:=by rw[<-e6];rfl
    have gb6:h6.mem.get h5.next=some (.cells cb 6 none false):=by rw[<-e6];exact q2d
    rw[ecb] at e6;have g6:=(m6.keep _ (by omega:h3.next<h5.next)).trans g5;have mww:∀h',oMove (.c w) .leaf [] h'=.val w h':=λ_=>zAg aw5.mv;have M6:=M5.trans m6;simp+decide(disch:=omega)only[RL,↓reduceIte,l8,l9,l11,l12,hlt,ix,ld,e6,gb6,l60,g6,c3];refine(zJ6 H (rf0.more M6) (b.grt _ (q0l hlt)).1).to λu h7 q=>?_;obtain⟨⟨rid,us,rfl,ra⟩,m7⟩:=q;have n7:=m7.next;have g7:=(m7.keep _ (by omega:h3.next<h6.next)).trans g6;have m57:=m6.trans m7;obtain⟨u,eu⟩:∃u,u=AV.sl rid 0 p.funs[k].blocks.length (.known p.funs[k].blocks.length):=⟨_,rfl⟩;have cu:cellsOf u=some [u]:=by rw[eu];rfl
    rw[<-eu];obtain⟨hR,eR⟩:∃hR,h7.add (.cells (zAa [u]) 1 none false)=hR:=⟨_,rfl⟩;have mR:More h7 hR:=by rw[<-eR];exact q2g _ _
    have nR:hR.next=h7.next+1:=by rw[<-eR];rfl
    have gR:hR.mem.get h7.next=some (.cells (zAa [u]) 1 none false):=by rw[<-eR,q2a];exact q1b _ _ _
    have awR:=aw5.to (h':=hR) (G:=λj=>W j/\j<h5.next) (m57.trans mR).next λj hj hlt=>⟨⟨hj,hlt⟩,(m57.trans mR).keep j hlt⟩;obtain⟨w',h8,ap,aw',nx8,kp8⟩:=awR.append (by':=24) (src:=.sl h7.next 0 1 (.known 1)) (new:=[u]) (λkk=>zFd (by decide) gR (zBh [u] _ _ λj hj=>by rw[q0I,zAe]) kk) rfl (by decide) (by rw[q0j];omega) (by decide);have nM7:¬h7.next=h3.next:=by omega
    have nWM:¬(W h3.next/\h3.next<h5.next):=λe=>by have:=hW _ e.1;omega
    have g8:h8.mem.get h3.next=some (.cells c 16 none false):=by rw[kp8 _ (by omega) nWM,mR.keep _ (by omega)];exact g7
    have mw':∀h',oMove (.c w') .leaf [] h'=.val w' h':=λ_=>zAg aw'.mv;have cw':=aw'.cells;have sw:=aw5.same;simp+decide(disch:=omega)only[RL,↓reduceIte,g7,c3,sw,cu,eR,ap,g8,cw',l8];have nx8':h8.next=hR.next+1:=nx8;have old:∀j,j<h5.next->¬W j->j≠h3.next->(h8.set h3.next (.cells (T.put (some w') c 3) 16 none false)).mem.get j=h5.mem.get j:=λj hj hw hs=>by
     rw[q2c,q1a _ _ _ _ (Ne.symm hs),kp8 j (by omega) (λe=>hw e.1),(m57.trans mR).keep j hj]
    refine⟨p.funs.length-(k+1),by omega,k+1,w',ws++[u],T.put (some w') c 3,λj=>j=hR.next,rfl,hlt,by omega,λj hj hne=>?_,rfl,q1b _ _ _,λj hj hne=>by rw[q1a _ _ _ _ (Ne.symm hne)];exact cj j hj hne,?_,λj hj=>by omega,by rw[q0o,hwl];rfl,λi h1 h2=>?_,rfl,l9,l11,l12,l6⟩
    ·rw[if_neg (Ne.symm hne),kp8 j (by omega) (λe=>by have:=hW j e.1;omega),(m57.trans mR).keep j (by omega)];exact kp5 j hj hne
    ·rw[q0O];exact aw'.to (q0c _) λj hj _=>⟨hj,by rw[q2c,q1a _ _ _ _ (by omega)]⟩
    ·rw[q0o,hwl] at h1;simp only[List.length_singleton] at h1;by_cases e:i<k
     ·obtain⟨rid',us',e',ra'⟩:=hws i (by omega) h2;refine⟨rid',us',by rw[List.getElem_append_left (by omega)];exact e',ra'.keep ⟨by rw[q2b];omega,λj hj hlt'=>old j hlt' hj.2 (by omega)⟩ λj hj hlt'=>⟨hj.1,by omega⟩⟩
     ·obtain rfl:i=k:=by omega
      refine⟨rid,us,?_,ra.keep ⟨by rw[q2b];omega,λj hj hlt'=>?_⟩ λj hj hlt'=>⟨by omega,by omega⟩⟩
      ·rw[List.getElem_append_right (by omega)];simp only[hwl,Nat.sub_self,List.getElem_cons_zero];exact eu
      ·rw[q2c,q1a _ _ _ _ (by omega),kp8 j (by omega) (λe=>by omega),mR.keep j hlt']
   ·obtain rfl:k=p.funs.length:=by omega
    simp(disch:=omega)only[RL,↓reduceIte,l8,l9,l12,hlt];obtain⟨lab,elb⟩:∃lab:Nat->Lab,lab=λj=>if j=h3.next then .mac else if j=S then .sto else if j=h2.next then .glob else if Z j/\j<h.next then .inp else .no:=⟨_,rfl⟩;have hn0:=m0.next;have lno:∀j,j≠h3.next->j≠S->j≠h2.next->¬(Z j/\j<h.next)->lab j=.no:=λj a b c d=>by rw[elb];dsimp only;rw[if_neg a,if_neg b,if_neg c,if_neg d]
    have lM:lab h3.next=.mac:=by rw[elb];exact if_pos rfl
    have lS:lab S=.sto:=by rw[elb];dsimp only;rw[if_neg (by omega),if_pos rfl]
    have lG:lab h2.next=.glob:=by rw[elb];dsimp only;rw[if_neg (by omega),if_neg (by omega),if_pos rfl]
    have lI:∀j,Z j->j<h.next->lab j=.inp:=λj a b=>by rw[elb];dsimp only;rw[if_neg (by omega),if_neg (by omega),if_neg (by omega),if_pos ⟨a,b⟩]
    have lnew:∀j,h5.next<=j->lab j=.no:=λj hj=>lno j (by omega) (by omega) (by omega) (λe=>by have:=e.2;omega);have lold:∀j,j<h0.next->lab j=.no:=λj hj=>lno j (by omega) (by omega) (by omega) (λe=>by have:=hZ j e.1;omega);obtain⟨t,ht⟩:=T_some h5.mem (λj=>lab j=.no) h5.next;obtain⟨hd,ehd⟩:∃hd:AH,hd=⟨t,h5.next⟩:=⟨_,rfl⟩;have dn:hd.next=h5.next:=by rw[ehd]
    have dg:∀j,j<h5.next->lab j=.no->hd.mem.get j=h5.mem.get j:=λj a b=>by rw[ehd];show t.get j=_;rw[ht,if_pos ⟨a,b⟩]
    have dg':∀j o,hd.mem.get j=some o->j<h5.next/\lab j=.no/\h5.mem.get j=some o:=λj o e=>by
     rw[ehd] at e;have e:t.get j=some o:=e;rw[ht] at e;split at e
     ·rename_i hh;exact⟨hh.1,hh.2,e⟩
     ·cases e
    have Md:More h0 hd:=⟨by rw[dn];exact M5.next,λj hj=>by rw[dg j (by omega) (lold j hj)];exact M5.keep j hj⟩;have h35:∀j,j<h3.next->h5.mem.get j=h3.mem.get j:=λj hj=>by rw[kp5 j (by omega) (by omega),mM.keep j hj]
    have st0:SlV hd 2 (StructV hd) vst p.structs:=by
     have aw2:=aw.to (h':=hd) (G:=λ_=>True) (by omega) λj hj hlt=>⟨trivial,by rw[dg j (by omega) (lno j (by omega) hj.2 (by omega) (λe=>by have:=e.2;omega)),h35 j hlt]⟩;have sr2:=sr.to (h':=hd) (G:=λ_=>True) (by omega) λj hj hlt=>⟨trivial,by rw[dg j (by omega) (lno j (by omega) hj.2 (by omega) (λe=>by have:=e.2;omega)),h35 j hlt]⟩;have hbs:=b.structs;exact aw2.slV (by decide) sr2.1 (by omega) λi h1 h2=>by
      obtain⟨vf',e',s',l'⟩:=sr2.2 i h1 h2;rw[e'];exact⟨vf',rfl,s'.sl,l'⟩
    have sa0:SlV hd 1 (λE (f:FunD)=>∃w,E=[w]/\SlV hd 1 (λE xs=>∃w,E=[w]/\SlV hd 1 IntR w xs) w (ledS f)) w p.funs:=by
     have aw2:=aw5.to (h':=hd) (G:=λ_=>True) (by omega) λj hj hlt=>⟨trivial,dg j hlt (lno j (by have:=hW j hj;omega) (by have:=hW j hj;omega) (by have:=hW j hj;omega) (λe=>by have:=e.2;have:=hW j hj;omega))⟩;refine aw2.slV (by decide) (by rw[q0j];exact hwl) (by omega) λi h1 h2=>?_;rw[q0j] at h1;obtain⟨rid,us,e',ra⟩:=hws i h1 h2;rw[List.getElem_map];refine⟨_,rfl,?_⟩;rw[e'];exact RowsA.sa (b.grt _ (q0l h2)).1 (ra.keep (Q:=λ_=>True) ⟨by omega,λj hj hlt=>dg j hlt (lno j (by omega) (by omega) (by omega) (λe=>by have:=e.2;omega))⟩ λ_ _ _=>trivial)
    obtain⟨K,eK⟩:∃K:MK,K=⟨vs,vg,vf,w,vst,L,own⟩:=⟨_,rfl⟩;obtain⟨V,eV⟩:∃V:MV,V=⟨.sl h2.next 0 p.globals.length (.known p.globals.length),vin,.nils,.nils,.nils,.nils,.nils,[],0,[]⟩:=⟨_,rfl⟩;have D:DatK hd p K:=by rw[eK];exact⟨s1.more Md λ_ _ r=>r.more Md,s2.more Md λ_ _ r=>r,s3.more Md λ_ _ r=>r.more Md,sa0,st0⟩
    have h53:∀j,j<h.next->h5.mem.get j=h.mem.get j:=λj hj=>by
       rw[h35 j (by omega),m3.keep j (by omega),mG.keep j (by omega),m2.keep j (by omega),mA.keep j hj]
    have X:MacS hd h5 lab h3.next S K V (start p n):=by
     refine⟨⟨by omega,λj o e=>(dg' j o e).2.2⟩,λj o e=>⟨(dg' j o e).2.1,by have:=(dg' j o e).1;omega⟩,lnew,λr _=>?_,by rw[eV];rfl,λho=>?_,λz hz=>?_,λo ho=>(by cases ho),by rw[eV];exact q0c _,by rw[eV];exact q0c _⟩
     ·rw[eV,eK];cases r with
      | no=>trivial
      | mac=>
       refine⟨c,g5,lM,by omega,λj hj=>?_⟩;have hj:j<16:=hj;by_cases e3:j=3
       ·subst e3;exact c3
       ·rw[cj j hj e3,eL0]
        match j,hj,e3 with
        | 0,_,_=>rfl
        | 1,_,_=>rfl
        | 2,_,_=>rfl
        | 3,_,e=>exact absurd rfl e
        | 4,_,_=>rfl
        | 5,_,_=>rfl
        | 6,_,_=>rfl
        | 7,_,_=>rfl
        | 8,_,_=>rfl
        | 9,_,_=>rfl
        | 10,_,_=>rfl
        | 11,_,_=>rfl
        | 12,_,_=>rfl
        | 13,_,_=>rfl
        | 14,_,_=>rfl
        | 15,_,_=>rfl
        | j+16,hh,_=>exact absurd hh (by omega)
      | sto=>
       refine⟨cS,(h35 S hS3).trans gS,lS,by omega,λj hj=>?_⟩;have hj:j<4:=hj
       match j,hj with
       | 0,_=>exact cS0
       | 1,_=>exact cS1
       | 2,_=>exact cS2
       | 3,_=>exact cS3
      | glob=>
       show Arr _ _ _ ((List.replicate p.globals.length 0).map iv);rw[List.map_replicate];exact aG.to (by omega) λj e hlt=>⟨by rw[e];exact lG,by rw[h35 j (by omega),m3.keep j hlt]⟩
      | out=>exact .nils
      | frames=>exact .nils
      | list=>exact .nils
      | fld i=>exact λh1=>absurd h1 (Nat.not_lt_zero _)
      | acts=>exact .nils
      | sites=>exact .nils
      | inp=>exact λho=>(io ho).to (by omega) λj hj hlt=>⟨lI j hj.1 hj.2,h53 j hlt⟩
     ·rw[eK] at ho;rw[eV,eK];rcases ik ho with x | ⟨id,off,cap,e,hl',hx⟩
      ·exact .inl x
      ·exact .inr ⟨id,off,cap,e,hl',λhne=>let⟨c,sz,pp,ro,g,hi,hc⟩:=hx hne;⟨c,sz,pp,ro,(Md.keep id hi).trans g,q0d hi Md.next,hc⟩⟩
     ·have hz:z∈List.replicate p.globals.length (0:Int):=hz;rw[(List.mem_replicate.mp hz).2];exact⟨by decide,by decide⟩
    have KL:K.L=L:=by rw[eK]
    have Lm:Sml n (start p n):=⟨by show 0+n<=n;omega,by show 0+n<=n;omega,by show 0+n<=n;omega,by show 0+n<=100000;omega,q0c _⟩;refine(whole_gp H Ph ok (by rw[KL];exact hL) D X (by omega) Lm hk hf hpar q0q).to λw6 h6 q=>?_;obtain⟨lab6,V6,s6,e,f,EP,L6,X6,⟨c6,g6,lM6,hM6,hc6⟩,F6⟩:=q;have ML:(((macL K V6 S s6).set 9 (nv e)).set 10 (nv f)).length=16:=rfl;rw[ML] at g6 hc6;have d5:c6.get 5=some (.ptr S 0):=hc6 5 (by decide);have d8:c6.get 8=some V6.out:=hc6 8 (by decide);have d9:c6.get 9=some (nv e):=hc6 9 (by decide);have d10:c6.get 10=some (nv f):=hc6 10 (by decide);have d11:c6.get 11=some (nv s6.steps):=hc6 11 (by decide);have d12:c6.get 12=some (nv 0):=hc6 12 (by decide);have lo:lab (h.next+1)=.no:=lno _ (by omega) (by omega) (by omega) (λe=>by have:=e.2;omega);obtain⟨lo6,go6⟩:=F6.2 (h.next+1) (by omega) lo;have goM:h5.mem.get (h.next+1)=some (.cells (zAa [.nils,nv 0,nv 0,nv 0,nv 0]) 5 none false):=by
     rw[h35 _ (by omega),m3.keep _ (by omega)];exact gOG
    rw[goM] at go6;have hob:=L6.objs;have hfm:=L6.framed;have nMo:¬h3.next=h.next+1:=by omega
    simp(disch:=omega)only[RL,↓reduceIte,g6,d5,l12];refine(made_gp' H (λe=>by cases e) (λe=>by cases e) X6 (by omega) hfm).to λw7 h7 q=>?_;obtain⟨rfl,rfl⟩:=q;rw[if_neg (by decide)];obtain⟨hZ,eZ⟩:∃hZ,h7.set h3.next (.cells (T.put (some (nv (s6.objs.length-s6.framed))) c6 12) 16 none false)=hZ:=⟨_,rfl⟩;have gZ:hZ.mem.get h3.next=some (.cells (T.put (some (nv (s6.objs.length-s6.framed))) c6 12) 16 none false):=by rw[<-eZ];exact q2d
    obtain⟨XZ,fZ⟩:=X6.setMx lM6 (.cells (T.put (some (nv (s6.objs.length-s6.framed))) c6 12) 16 none false);rw[eZ] at XZ fZ;have z5:(T.put (some (nv (s6.objs.length-s6.framed))) c6 12).get 5=some (.ptr S 0):=(q1a _ _ _ _ (by decide)).trans d5;have l58:loadL (T.put (some (nv (s6.objs.length-s6.framed))) c6 12) 5 8=some [V6.out,nv e,nv f,nv s6.steps,nv (s6.objs.length-s6.framed)]:=zBh [V6.out,nv e,nv f,nv s6.steps,nv (s6.objs.length-s6.framed)] _ 8 λj hj=>by
     match j,hj with
     | 0,_=>exact(q1a _ _ _ _ (by decide)).trans d8
     | 1,_=>exact(q1a _ _ _ _ (by decide)).trans d9
     | 2,_=>exact(q1a _ _ _ _ (by decide)).trans d10
     | 3,_=>exact(q1a _ _ _ _ (by decide)).trans d11
     | 4,_=>exact q1b _ _ _
    simp+decide(disch:=omega)only[RL,↓reduceIte,g6,d12,eZ,gZ,z5,l58,l12];refine(made_gp' H (λe=>by cases e) (λe=>by cases e) XZ (by omega) hfm).to λw8 h8 q=>?_;obtain⟨rfl,rfl⟩:=q;rw[if_pos rfl];have goZ:h8.mem.get (h.next+1)=some (.cells (zAa [.nils,nv 0,nv 0,nv 0,nv 0]) 5 none false):=by rw[<-eZ,q2c,q1a _ _ _ _ nMo];exact go6
    have aO:Arr h8 (λk=>lab6 k=.out) V6.out (s6.out.map iv):=XZ.part .out (λe=>by cases e);have sO:=aO.same;have sA:same (.agg [V6.out,nv e,nv f,nv s6.steps,nv (s6.objs.length-s6.framed)]) (.agg [V6.out,nv e,nv f,nv s6.steps,nv (s6.objs.length-s6.framed)])=true:=by
     show bi (same V6.out V6.out) (bi (same (nv e) (nv e)) (bi (same (nv f) (nv f)) (bi (same (nv s6.steps) (nv s6.steps)) (bi (same (nv (s6.objs.length-s6.framed)) (nv (s6.objs.length-s6.framed))) true false) false) false) false) false=true;rw[sO,zGp,zGp,zGp,zGp];rfl
    have l50':loadL (T.put (some (nv (s6.objs.length-s6.framed))) (T.put (some (nv s6.steps)) (T.put (some (nv f)) (T.put (some (nv e)) (T.put (some V6.out) (zAa [.nils,nv 0,nv 0,nv 0,nv 0]) 0) 1) 2) 3) 4) 5 0=some [V6.out,nv e,nv f,nv s6.steps,nv (s6.objs.length-s6.framed)]:=rfl;simp+decide(disch:=omega)only[RL,↓reduceIte,gZ,l58,sA,goZ,l6,l50'];rw[if_neg (show ¬(n:Int)<0 from hneg),q0n];rw[KL] at EP;have er:execV p (doS tab) (λi=>L.getD i 0) n=⟨s6.out,e,f,s6.steps,s6.objs.length-s6.framed,s6.framed⟩:=by
     unfold execV;rw[hk];show resV (runV p (doS tab) (λi=>L.getD i 0) (2*n+2) km [] (start p n))=_;rcases EP with⟨z,e1,rfl,rfl⟩ | e1
     ·have e1:runV p (doS tab) (λi=>L.getD i 0) (2*n+2) km [] (start p n)=_:=e1;rw[e1];rfl
     ·have e1:runV p (doS tab) (λi=>L.getD i 0) (2*n+2) km [] (start p n)=_:=e1;rw[e1];rfl
    rw[er];have FF:=F6.trans fZ;refine⟨V6.out,rfl,aO.to (by rw[q2b];exact q0c _) λj hj hlt=>⟨?_,?_⟩,by rw[q2b];have:=FF.1;omega,λj hj hz=>?_⟩
    ·by_cases hl':h.next<=j
     ·exact .inl hl'
     ·by_cases hz:Z j
      ·exact .inr hz
      ·have:=(FF.2 j (by omega) (lno j (by omega) (by omega) (by omega) λe=>hz e.1)).1;rw[hj] at this;cases this
    ·rw[q2c,q1a _ _ _ _ (λe=>by rw[<-e,lo6] at hj;cases hj)]
    ·rw[q2c,q1a _ _ _ _ (by omega),(FF.2 j (by omega) (lno j (by omega) (by omega) (by omega) λe=>hz e.1)).2];exact h53 j hj
include H in
theorem exec_gp(Ph:zIh tab){E:List AV}{p:ProgD}(r:ProgV h0 E p)(m0:More h0 h)(b:Bnd p){own:Bool}{Z:Nat->Prop}(hZ:∀j,Z j->h0.next<=j){vin:AV}{L:List Int}(hL:∀z∈L,I64 z)(ik:own=false->InpK h0 vin L)(io:own=true->InpO h (λk=>Z k/\k<h.next) vin L){fuel:Int}(h64:I64 fuel)(hfu:fuel<=99998) :
  GP tab 11 [.agg E,vin,iv fuel] h λv h1=>if zCz p=true then(if fuel<0 then v=noRes 9/\KeepZ h Z h1 else RunP h Z (execV p (doS tab) (λi=>L.getD i 0) fuel.toNat) v h1) else v=noRes 1/\KeepZ h Z h1:=by
 have R:=r;obtain⟨vs,vg,vf,rfl,s1,s2,s3⟩:=r;have i0:zAb [.agg [vs,vg,vf],vin,iv fuel]=zAa [.agg [vs,vg,vf],vin,iv fuel]:=rfl;have mvi:∀h',oMove (.c vin) .leaf [] h'=.val vin h':=λh'=>by
  cases ho:own with
  | false=>exact zAg (ik ho).mv
  | true=>exact zAg (io ho).mv
 refine gpr H.t11 ?_;obtain⟨hA,eA⟩:∃hA,(h.add (.cells (zAa [vs,vg,vf]) 3 none false)).add (.cells (zAa [.nils,nv 0,nv 0,nv 0,nv 0]) 5 none false)=hA:=⟨_,rfl⟩;have mA:More h hA:=by rw[<-eA];exact(q2g _ _).trans (q2g _ _)
 have nA:hA.next=h.next+2:=by rw[<-eA];rfl
 have gA:hA.mem.get h.next=some (.cells (zAa [vs,vg,vf]) 3 none false):=by rw[<-eA,q2a,q1a _ _ _ _ (by rw[q2e];omega),q2a,q1b]
 have gO:hA.mem.get (h.next+1)=some (.cells (zAa [.nils,nv 0,nv 0,nv 0,nv 0]) 5 none false):=by rw[<-eA,q2a];exact q1b _ _ _
 have l30:loadL (zAa [vs,vg,vf]) 3 0=some [vs,vg,vf]:=rfl;simp+decide only[RL,↓reduceIte,i0,eA,gA,l30,mvi];have hge:=m0.next;refine(watch_gp H Ph R (m0.trans mA) b (Z:=λj=>Z j/\j<h.next) (λj e=>hZ j e.1) hL ik (λho=>(io ho).to mA.next λk hk hlt=>⟨⟨hk,q0d hlt mA.next⟩,mA.keep k hlt⟩) h64 hfu).to λv h1 q=>?_;have kz:∀{o:AObj},KeepZ hA (λj=>Z j/\j<h.next) h1->h1.mem.get (h.next+1)=some (.cells (zAa [.nils,nv 0,nv 0,nv 0,nv 0]) 5 none false)/\KeepZ h Z (h1.set (h.next+1) o):=λk=>⟨(k.2 _ (by omega) (λe=>by have:=e.2;omega)).trans gO,by rw[q2b];have:=k.1;omega,λj hj hz=>by rw[q2c,q1a _ _ _ _ (by omega),k.2 j (by omega) (λe=>hz e.1)];exact mA.keep j hj⟩;have go:∀{vo:AV} {a b c d:Nat},loadL (T.put (some (nv d)) (T.put (some (nv c)) (T.put (some (nv b)) (T.put (some (nv a)) (T.put (some vo) (zAa [.nils,nv 0,nv 0,nv 0,nv 0]) 0) 1) 2) 3) 4) 5 0=some [vo,nv a,nv b,nv c,nv d]:=rfl;by_cases hv:zCz p=true
 ·rw[if_pos hv] at q;by_cases hneg:fuel<0
  ·rw[if_pos hneg] at q;obtain⟨rfl,k⟩:=q;obtain⟨g1,k1⟩:=kz k;unfold noRes;simp+decide only[RL,↓reduceIte,g1,go];rw[if_pos hv,if_pos hneg];exact k1
  ·rw[if_neg hneg] at q;obtain⟨vo,rfl,ao,k⟩:=q;obtain⟨g1,k1⟩:=kz k;simp+decide only[RL,↓reduceIte,g1,go];rw[if_pos hv,if_neg hneg];refine⟨vo,rfl,ao.to (by rw[q2b];exact q0c _) λj hj hlt=>⟨?_,?_⟩,k1⟩
   ·rcases hj with hj | hj
    ·exact .inl (by omega)
    ·exact .inr hj.1
   ·rw[q2c,q1a _ _ _ _ (λe=>by
     rcases hj with hj | hj
     ·omega
     ·have:=hj.2;omega)]
 ·rw[if_neg hv] at q;obtain⟨rfl,k⟩:=q;obtain⟨g1,k1⟩:=kz k;unfold noRes;simp+decide only[RL,↓reduceIte,g1,go];rw[if_neg hv];exact k1
end
end Go.Ev
namespace Go.Ev
open Go
section
variable{tab:Nat->Option AFunc}{h:AH}(H:PV tab)
def IntE(cs:List AV)(z:Int):Prop:=cs=[.int .i64 z]
include H in
theorem equalI_gp{v u:AV}{xs ys:List Int}(a:SlV h 1 IntE v xs)(b:SlV h 1 IntE u ys):GP tab 29 [v,u] h λw h1=>w=.bool (decide (xs=ys))/\h1=h:=by
 have i0:zAb [v,u]=zAa [v,u]:=rfl;have ma:=a.mv;have mb:=b.mv;have la:=a.len;have lb:=b.len;have ba:=a.bound;unfold maxLen at ba;refine gpr H.t29 ?_;by_cases hl:xs.length=ys.length
 ·rw[hl] at la;simp+decide(disch:=omega)only[RL,↓reduceIte,i0,ma,mb,la,lb];refine zAd (λm l d h1=>∃k,m=ys.length-k/\k<=ys.length/\d=[]/\h1=h/\(∀i (h1:i<xs.length) (h2:i<ys.length),i<k->xs[i]=ys[i])/\l.get 0=some v/\l.get 1=some u/\l.get 3=some (.int .i64 (k:Int))/\l.get 4=some (.int .i64 (ys.length:Int))) ?_ (ys.length-0) ⟨0,rfl,q0k _,rfl,rfl,λi _ _ h=>absurd h (Nat.not_lt_zero _),rfl,rfl,rfl,rfl⟩;rintro m l d h1 ⟨k,rfl,hk,rfl,rfl,hall,l0,l1,l3,l4⟩;by_cases hlt:k<ys.length
  ·obtain⟨i1,o1,E1,x1,e1,rfl,-,w1⟩:=a.at (show k<xs.length by omega);obtain⟨i2,o2,E2,x2,e2,rfl,-,w2⟩:=b.at hlt;have w1:oLoad (.c (.ptr i1 o1)) .leaf [] h1=.val (iv (xs[k]'(by omega))) h1:=w1 0 _ rfl h1;have w2:oLoad (.c (.ptr i2 o2)) .leaf [] h1=.val (iv ys[k]) h1:=w2 0 _ rfl h1;by_cases hq:xs[k]'(by omega)=ys[k]
   ·rw[hq] at w1;simp+decide(disch:=omega)only[RL,↓reduceIte,l0,l1,l3,l4,hlt,ma,mb,x1,x2,w1,w2];refine⟨ys.length-(k+1),by omega,k+1,rfl,hlt,λi h2 h3 h4=>?_,rfl⟩;by_cases e:i=k
    ·subst e;exact hq
    ·exact hall i h2 h3 (by omega)
   ·have e:decide (xs=ys)=false:=decide_eq_false λe=>hq (by subst e;rfl);rw[e];simp+decide(disch:=omega)only[RL,↓reduceIte,l0,l1,l3,l4,hlt,ma,mb,x1,x2,w1,w2,hq]
  ·have e:decide (xs=ys)=true:=decide_eq_true (List.ext_getElem hl λi h1 h2=>hall i h1 h2 (by omega));rw[e];simp+decide(disch:=omega)only[RL,↓reduceIte,l3,l4,hlt]
 ·have e:decide (xs=ys)=false:=decide_eq_false λe=>hl (by rw[e]);have hl2:¬((xs.length:Nat):Int)=((ys.length:Nat):Int):=by omega
  rw[e];simp+decide(disch:=omega)only[RL,↓reduceIte,i0,ma,mb,la,lb,hl2]
include H in
theorem sameR_gp{v u:AV}{xs ys:List Int}{e1 f1 s1 m1 e2 f2 s2 m2:Nat}(a:SlV h 1 IntE v xs)(b:SlV h 1 IntE u ys):GP tab 13 [.agg [v,nv e1,nv f1,nv s1,nv m1],.agg [u,nv e2,nv f2,nv s2,nv m2]] h λw h1=>w=.bool (decide (xs=ys/\e1=e2/\f1=f2))/\More h h1:=by
 have i0:zAb [.agg [v,nv e1,nv f1,nv s1,nv m1],.agg [u,nv e2,nv f2,nv s2,nv m2]]=zAa [.agg [v,nv e1,nv f1,nv s1,nv m1],.agg [u,nv e2,nv f2,nv s2,nv m2]]:=rfl;have ma:=a.mv;have mb:=b.mv;refine gpr H.t13 ?_;obtain⟨hA,eA⟩:∃hA,(h.add (.cells (zAa [v,nv e1,nv f1,nv s1,nv m1]) 5 none false)).add (.cells (zAa [u,nv e2,nv f2,nv s2,nv m2]) 5 none false)=hA:=⟨_,rfl⟩;have mA:More h hA:=by rw[<-eA];exact(q2g _ _).trans (q2g _ _)
 have g1:hA.mem.get h.next=some (.cells (zAa [v,nv e1,nv f1,nv s1,nv m1]) 5 none false):=by rw[<-eA,q2a,q1a _ _ _ _ (by rw[q2e];omega),q2a,q1b]
 have g2:hA.mem.get (h.next+1)=some (.cells (zAa [u,nv e2,nv f2,nv s2,nv m2]) 5 none false):=by rw[<-eA,q2a];exact q1b _ _ _
 have eq:∀{R E:AV->AH->Prop},GE tab 29 [v,u] hA R E=R (.bool (decide (xs=ys))) hA:=ge_rw (equalI_gp H (a.more mA λ_ _=>id) (b.more mA λ_ _=>id));by_cases q1:xs=ys
 ·by_cases q2:e1=e2
  ·subst q2;by_cases q3:f1=f2
   ·subst q3;simp+decide only[RL,↓reduceIte,i0,eA,g1,g2,eq,q1,and_self];exact mA
   ·have q3':¬((f1:Nat):Int)=((f2:Nat):Int):=by omega
    simp+decide only[RL,↓reduceIte,i0,eA,g1,g2,eq,q1,q3,q3',and_false];exact mA
  ·have q2':¬((e1:Nat):Int)=((e2:Nat):Int):=by omega
   simp+decide only[RL,↓reduceIte,i0,eA,g1,g2,eq,q1,q2,q2',and_false,false_and];exact mA
 ·simp+decide only[RL,↓reduceIte,i0,eA,g1,g2,eq,q1,false_and];exact mA
end
section
variable{tab:Nat->Option AFunc}{h:AH}(H:PV tab)
include H in
theorem great13_gp{E:List AV}{p:ProgD}(r:ProgV h E p):GP tab 10 [.agg E] h λw h1=>(∃b,w=.bool b/\(b=false->Bnd p))/\More h h1:=by
 obtain⟨vs,vg,vf,rfl,s1,s2,s3⟩:=r;have i0:zAb [.agg [vs,vg,vf]]=zAa [.agg [vs,vg,vf]]:=rfl;have l1:=s1.len;have l2:=s2.len;have l3:=s3.len;have b1:=s1.boundS;have b3:=s3.boundS;unfold zBq at b1 b3;refine gpr H.t10 ?_;obtain⟨hA,eA⟩:∃hA,h.add (.cells (zAa [vs,vg,vf]) 3 none false)=hA:=⟨_,rfl⟩;have mA:More h hA:=by rw[<-eA];exact q2g _ _
 have nA:hA.next=h.next+1:=by rw[<-eA];rfl
 have gA:hA.mem.get h.next=some (.cells (zAa [vs,vg,vf]) 3 none false):=by rw[<-eA,q2a];exact q1b _ _ _
 have yes:∀h',More h h'->(∃b,AV.bool true=.bool b/\(b=false->Bnd p))/\More h h':=λh' m=>⟨⟨true,rfl,λe=>by cases e⟩,m⟩;by_cases c1:((16:Nat):Int)<(p.structs.length:Int)
 ·simp+decide(disch:=omega)only[RL,↓reduceIte,i0,eA,gA,l1,c1];exact yes _ mA
 by_cases c2:((20:Nat):Int)<(p.globals.length:Int)
 ·simp+decide(disch:=omega)only[RL,↓reduceIte,i0,eA,gA,l1,l2,c1,c2];exact yes _ mA
 by_cases c3:((30:Nat):Int)<(p.funs.length:Int)
 ·simp+decide(disch:=omega)only[RL,↓reduceIte,i0,eA,gA,l1,l2,l3,c1,c2,c3];exact yes _ mA
 simp+decide(disch:=omega)only[RL,↓reduceIte,i0,eA,gA,l1,l2,l3,c1,c2,c3];refine zAd (λm l d h1=>∃k,m=p.structs.length-k/\k<=p.structs.length/\d=[]/\h1=hA/\(∀i (h1:i<p.structs.length),i<k->p.structs[i].fields.length<=12)/\l.get 1=some (.ptr h.next 0)/\l.get 3=some (.int .i64 (k:Int))/\l.get 12=some (.int .i64 ((0:Nat):Int))) ?_ (p.structs.length-0) ⟨0,rfl,q0k _,rfl,rfl,λi _ h=>absurd h (Nat.not_lt_zero _),rfl,rfl,rfl⟩;rintro m l d h1 ⟨k,rfl,hk,rfl,rfl,hall,q1,q3,q12⟩;by_cases hlt:k<p.structs.length
 ·obtain⟨id,o,E,ix,e1,⟨vF,rfl,sF,-⟩,ld,w⟩:=s1.at hlt;have lF:=sF.len;haveI:MoreC h h1:=⟨mA⟩;have w1:=w 1 vF rfl h1;have bF:=sF.boundS;unfold zBq at bF;by_cases c4:((12:Nat):Int)<(p.structs[k].fields.length:Int)
  ·simp+decide(disch:=omega)only[RL,↓reduceIte,q1,q3,q12,gA,l1,hlt,ix,w1,lF,c4];exact yes _ mA
  ·simp+decide(disch:=omega)only[RL,↓reduceIte,q1,q3,q12,gA,l1,hlt,ix,w1,lF,c4];exact⟨p.structs.length-(k+1),by omega,k+1,rfl,hlt,λi h2 h3=>by
    by_cases e:i=k
    ·subst e;omega
    ·exact hall i h2 (by omega),rfl⟩
 ·simp+decide(disch:=omega)only[RL,↓reduceIte,q1,q3,gA,l1,hlt];have hF:∀x∈p.structs,x.fields.length<=100000:=λx hx=>by
   obtain⟨i,hi,rfl⟩:=q0y hx;have:=hall i hi (by omega);omega
  refine zAd (λm l d h2=>∃k n,m=p.funs.length-k/\k<=p.funs.length/\d=[]/\More h1 h2/\(∀i (hi:i<p.funs.length),i<k->GrtF p.funs[i]/\p.funs[i].slots.length<=100000/\p.funs[i].params.length<=100000\/1500<n)/\n<=k*92886742311813120/\l.get 1=some (.ptr h.next 0)/\l.get 6=some (.int .i64 ((k:Nat):Int))/\l.get 12=some (.int .i64 ((n:Nat):Int))) ?_ (p.funs.length-0) ⟨0,0,rfl,q0k _,rfl,q2o _,λi _ h=>absurd h (Nat.not_lt_zero _),by omega,by simp+decide(disch:=omega)only[RL,↓reduceIte,q1],by simp(disch:=omega)only[RL,↓reduceIte],by simp+decide(disch:=omega)only[RL,↓reduceIte,q12]⟩;rintro m l d h2 ⟨k,n,rfl,hk,rfl,m2,hall2,hn,q1,q6,q12⟩;have M2:=mA.trans m2;have g2:=(m2.keep _ (by omega:h.next<h1.next)).trans gA;by_cases hlt2:k<p.funs.length
  ·obtain⟨id,o,E,ix,e1,⟨vp,vl,vi,vb,rfl,t1,t2,t3,t4,-,-⟩,ld,-⟩:=s3.at hlt2;haveI:MoreC h h2:=⟨M2⟩;have ld:=ld h2;have u1:=t1.len;have u2:=t2.len;have u3:=t3.len;have u4:=t4.len;have v1:=t1.boundS;have v2:=t2.boundS;have v3:=t3.boundS;have v4:=t4.boundS;unfold zBq at v1 v2 v3 v4;generalize hx:p.funs[k]=x at *;obtain⟨cb,ecb⟩:∃cb,cb=T.put (some vb) (T.put (some vi) (T.put (some vl) (T.put (some (sv x.result)) (T.put (some vp) (T.put (some (sv x.name)) (zAa [sv [],AV.nils,sv [],AV.nils,AV.nils,AV.nils]) 0) 1) 2) 3) 4) 5:=⟨_,rfl⟩;obtain⟨h6,e6⟩:∃h6,(h2.add (.cells (zAa [sv [],.nils,sv [],.nils,.nils,.nils]) 6 none false)).set h2.next (.cells cb 6 none false)=h6:=⟨_,rfl⟩;have m6:More h2 h6:=by rw[<-e6];exact(q2g _ _).set (q0c _) _
   have n6:h6.next=h2.next+1:=by rw[<-e6];rfl
   have g6:h6.mem.get h2.next=some (.cells cb 6 none false):=by rw[<-e6];exact q2d
   have k1:cb.get 1=some vp:=by rw[ecb];rfl
   have k3:cb.get 3=some vl:=by rw[ecb];rfl
   have k4:cb.get 4=some vi:=by rw[ecb];rfl
   have k5:cb.get 5=some vb:=by rw[ecb];rfl
   rw[ecb] at e6;have M6:=M2.trans m6;have g26:=(m6.keep _ (by have:=M2.next;have:=m2.next;omega:h.next<h2.next)).trans g2;by_cases c5:((10:Nat):Int)<(x.params.length:Int)
   ·simp+decide(disch:=omega)only[RL,↓reduceIte,q1,q6,q12,g2,l3,hlt2,ix,ld,e6,g6,k1,u1,c5];exact yes _ M6
   by_cases c6:((100:Nat):Int)<(x.slots.length:Int)
   ·simp+decide(disch:=omega)only[RL,↓reduceIte,q1,q6,q12,g2,l3,hlt2,ix,ld,e6,g6,k1,k3,u1,u2,c5,c6];exact yes _ M6
   by_cases c7:((600:Nat):Int)<(x.ins.length:Int)
   ·simp+decide(disch:=omega)only[RL,↓reduceIte,q1,q6,q12,g2,l3,hlt2,ix,ld,e6,g6,k1,k3,k4,u1,u2,u3,c5,c6,c7];exact yes _ M6
   by_cases c8:((60:Nat):Int)<(x.blocks.length:Int)
   ·simp+decide(disch:=omega)only[RL,↓reduceIte,q1,q6,q12,g2,l3,hlt2,ix,ld,e6,g6,k1,k3,k4,k5,u1,u2,u3,u4,c5,c6,c7,c8];exact yes _ M6
   simp+decide(disch:=omega)only[RL,↓reduceIte,q1,q6,q12,g2,l3,hlt2,ix,ld,e6,g6,k1,k3,k4,k5,u1,u2,u3,u4,c5,c6,c7,c8];refine zAd (λm l d h7=>∃j n',m=x.ins.length-j/\j<=x.ins.length/\d=[]/\h7=h6/\n<=n'/\n'<=n+j*140737488351232/\(∀i (hi:i<x.ins.length),i<j->x.ins[i].args.length<=n')/\l.get 1=some (.ptr h.next 0)/\l.get 8=some (.ptr h2.next 0)/\l.get 6=some (.int .i64 ((k:Nat):Int))/\l.get 12=some (.int .i64 ((n':Nat):Int))/\l.get 10=some (.int .i64 ((j:Nat):Int))) ?_ (x.ins.length-0) ⟨0,n,rfl,q0k _,rfl,rfl,q0c _,q0c _,λi _ h=>absurd h (Nat.not_lt_zero _),by simp+decide(disch:=omega)only[RL,↓reduceIte,q1],by simp(disch:=omega)only[RL,↓reduceIte],by simp+decide(disch:=omega)only[RL,↓reduceIte,q6],by simp+decide(disch:=omega)only[RL,↓reduceIte,q12],by simp(disch:=omega)only[RL,↓reduceIte]⟩;rintro m l d h7 ⟨j,n',rfl,hj,rfl,rfl,hn1,hn2,hargs,q1,q8,q6,q12,q10⟩;by_cases hlt3:j<x.ins.length
   ·obtain⟨id,o,E,ix,e1,⟨va,rfl,sa,-⟩,ld,w⟩:=t3.at hlt3;have la:=sa.len;have ba:=sa.boundS;unfold zBq at ba;haveI:MoreC h2 h7:=⟨m6⟩;haveI:MoreC h h7:=⟨M6⟩;have w2:=w 2 va rfl h7;simp+decide(disch:=omega)only[RL,↓reduceIte,q1,q6,q8,q10,q12,g6,k4,u3,hlt3,ix,w2,la];exact⟨x.ins.length-(j+1),by omega,j+1,n'+x.ins[j].args.length,rfl,hlt3,by omega,by omega,λi h2 h3=>by
     by_cases e:i=j
     ·subst e;omega
     ·have:=hargs i h2 (by omega);omega,rfl,rfl⟩
   ·simp+decide(disch:=omega)only[RL,↓reduceIte,q8,q10,q12,g6,k4,u3,hlt3];refine zAd (λm l d h8=>∃j n2,m=x.blocks.length-j/\j<=x.blocks.length/\d=[]/\h8=h7/\n'<=n2/\n2<=n'+j*140737488351232/\l.get 1=some (.ptr h.next 0)/\l.get 8=some (.ptr h2.next 0)/\l.get 6=some (.int .i64 ((k:Nat):Int))/\l.get 12=some (.int .i64 ((n2:Nat):Int))/\l.get 13=some (.int .i64 ((j:Nat):Int))) ?_ (x.blocks.length-0) ⟨0,n',rfl,q0k _,rfl,rfl,q0c _,q0c _,by simp+decide(disch:=omega)only[RL,↓reduceIte,q1],by simp+decide(disch:=omega)only[RL,↓reduceIte,q8],by simp+decide(disch:=omega)only[RL,↓reduceIte,q6],by simp(disch:=omega)only[RL,↓reduceIte,q12],by simp(disch:=omega)only[RL,↓reduceIte]⟩;rintro m l d h8 ⟨jb,n2,rfl,hjb,rfl,rfl,hn3,hn4,q1,q8,q6,q12,q13⟩;by_cases hlt4:jb<x.blocks.length
    ·obtain⟨id,o,E,ix,e1,⟨va,rfl,sa,-⟩,ld,w⟩:=t4.at hlt4;have la:=sa.len;have ba:=sa.boundS;unfold zBq at ba;haveI:MoreC h2 h8:=⟨m6⟩;haveI:MoreC h h8:=⟨M6⟩;have w2:oLoad (.c (.ptr id o)) .leaf [] h8=.val va h8:=w 0 va rfl h8;simp+decide(disch:=omega)only[RL,↓reduceIte,q1,q6,q8,q12,q13,g6,k5,u4,hlt4,ix,w2,la];exact⟨x.blocks.length-(jb+1),by omega,jb+1,n2+x.blocks[jb].list.length,rfl,hlt4,by omega,by omega,rfl,rfl⟩
    ·simp+decide(disch:=omega)only[RL,↓reduceIte,q1,q6,q8,q12,q13,g6,k5,u4,hlt4];refine⟨p.funs.length-(k+1),by omega,k+1,n2,rfl,hlt2,m2.trans m6,λi h3 h4=>?_,by omega,rfl,rfl⟩;by_cases e:i=k
     ·subst e;by_cases hbig:1500<n2
      ·exact .inr hbig
      ·left;rw[hx];refine⟨⟨by omega,by omega,λy hy=>?_⟩,by omega,by omega⟩;obtain⟨a,ha,rfl⟩:=q0y hy;have:=hargs a ha (by omega);omega
     ·rcases hall2 i h3 (by omega) with q | q
      ·exact .inl q
      ·exact .inr (by omega)
  ·simp+decide(disch:=omega)only[RL,↓reduceIte,q1,q6,q12,g2,l3,hlt2];refine⟨⟨_,rfl,λe=>?_⟩,M2⟩;have e:¬1500<n:=of_decide_eq_false e;have ha:∀f∈p.funs,GrtF f/\f.slots.length<=100000/\f.params.length<=100000:=λf hf=>by
    obtain⟨i,hi,rfl⟩:=q0y hf;rcases hall2 i hi (by omega) with q | q
    ·exact q
    ·omega
   exact⟨λf hf=>(ha f hf).1,by omega,hF,λf hf=>(ha f hf).2.1,λf hf=>(ha f hf).2.2⟩
end
def upF(s:MSt):MSt:={s with fuel:=s.fuel+1}
def Rz.st{α:Type}:Rz α->MSt
 | .ok _ s=>s
 | .stop _ _ s=>s
def Rz.upF{α:Type}:Rz α->Rz α
 | .ok a s=>.ok a (Go.Ev.upF s)
 | .stop e f s=>.stop e f (Go.Ev.upF s)
structure GrM(s t:MSt):Prop where
 out:s.out <+: t.out
 made:s.objs.length+t.framed<=t.objs.length+s.framed
 framed:s.framed<=t.framed
 sum:t.steps+t.fuel=s.steps+s.fuel
 fuel:t.fuel<=s.fuel
theorem GrM.refl(s:MSt):GrM s s:=⟨q0R _,q0c _,q0c _,rfl,q0c _⟩
theorem GrM.trans{s t u:MSt}(a:GrM s t)(b:GrM t u):GrM s u:=⟨a.out.trans b.out,by have:=a.made;have:=b.made;omega,q0m a.framed b.framed,b.sum.trans a.sum,q0m b.fuel a.fuel⟩
structure LastM(t u:MSt):Prop where
 out:t.out <+: u.out
 one:u.out.length<=t.out.length+1
 made:t.objs.length+u.framed<=u.objs.length+t.framed
 framed:t.framed<=u.framed
 steps:u.steps=t.steps+1
 fuel:u.fuel=0
structure ZerM(s t:MSt):Prop where
 out:t.out=s.out
 objs:t.objs=s.objs
 framed:t.framed=s.framed
 steps:t.steps=s.steps
 fuel:t.fuel=s.fuel
theorem ZerM.refl(s:MSt):ZerM s s:=⟨rfl,rfl,rfl,rfl,rfl⟩
theorem LastM.zer{s t u:MSt}(a:LastM s t)(b:ZerM t u):LastM s u:=⟨b.out▸a.out,b.out▸a.one,by rw[b.objs,b.framed];exact a.made,by rw[b.framed];exact a.framed,b.steps.trans a.steps,b.fuel.trans a.fuel⟩
def RelM{α:Type}(s:MSt)(r r':Rz α):Prop:=match r with
 | .ok a t=>GrM s t/\r'=.ok a (upF t)
 | .stop e f t=>GrM s t/\(e≠3/\r'=.stop e f (upF t)\/e=3/\f=0/\t.fuel=0/\LastM t r'.st)
theorem RelM.bind{α β:Type}{s:MSt}{x x':Rz α}{k k':α->MSt->Rz β}(h:RelM s x x')(hk:∀a t,x=.ok a t->RelM t (k a t) (k' a (upF t)))(hz:∀a u,u.fuel=0->ZerM u (k' a u).st):RelM s (x.bind k) (x'.bind k'):=by
 cases x with
 | ok a t=>
  obtain⟨g,rfl⟩:=h;have:=hk a t rfl;show RelM s (k a t) (k' a (upF t));unfold RelM at this ⊢;cases e:k a t with
  | ok b u=>rw[e] at this;exact⟨g.trans this.1,this.2⟩
  | stop c d u=>rw[e] at this;exact⟨g.trans this.1,this.2⟩
 | stop e f t=>
  obtain⟨g,h⟩:=h;refine⟨g,?_⟩;rcases h with⟨h,rfl⟩ | ⟨h1,h2,h3,h4⟩
  ·exact .inl ⟨h,rfl⟩
  ·refine .inr ⟨h1,h2,h3,?_⟩;cases x' with
   | ok a u=>exact h4.zer (hz a u h4.fuel)
   | stop a b u=>exact h4
structure UniM{α:Type}(F:MSt->Rz α)(s:MSt):Prop where
 up:F (upF s)=(F s).upF
 out:s.out <+: (F s).st.out
 one:(F s).st.out.length<=s.out.length+1
 made:s.objs.length+(F s).st.framed<=(F s).st.objs.length+s.framed
 framed:s.framed<=(F s).st.framed
 steps:(F s).st.steps=s.steps
 fuel:(F s).st.fuel=s.fuel
 no3:∀e f t,F s=.stop e f t->e≠3
theorem UniM.rel{α:Type}{F:MSt->Rz α}{s:MSt}(u:UniM F s):RelM s (F s) (F (upF s)):=by
 have h:=u.up;obtain⟨-,u1,-,u3,u4,u5,u6,u7⟩:=u;rw[h];cases e:F s with
 | ok a t=>rw[e] at u1 u3 u4 u5 u6;exact⟨⟨u1,u3,u4,by show t.steps+t.fuel=_;have u5:t.steps=_:=u5;have u6:t.fuel=_:=u6;omega,Nat.le_of_eq u6⟩,rfl⟩
 | stop a b t=>rw[e] at u1 u3 u4 u5 u6;exact⟨⟨u1,u3,u4,by show t.steps+t.fuel=_;have u5:t.steps=_:=u5;have u6:t.fuel=_:=u6;omega,Nat.le_of_eq u6⟩,.inl ⟨u7 _ _ _ e,rfl⟩⟩
theorem UniM.ok{α:Type}{a:MSt->α}{s:MSt}(h:a (upF s)=a s):UniM (λs=>.ok (a s) s) s:=⟨by show Rz.ok _ _=Rz.ok _ _;rw[h],q0R _,q0w _,q0c _,q0c _,rfl,rfl,λ_ _ _ h=>by cases h⟩
theorem zIy{α:Type}{e:MSt->Nat}{k:MSt->Rz α}{s:MSt}(he:e (upF s)=e s)(h:e s=0->UniM k s):UniM (λs=>zAz (e s) s k) s:=by
 by_cases h0:e s=0
 ·have h:=h h0;have f1:zAz (e s) s k=k s:=by unfold zAz;rw[if_pos h0]
  have f2:zAz (e (upF s)) (upF s) k=k (upF s):=by unfold zAz;rw[if_pos (he.trans h0)]
  exact⟨by rw[f1,f2];exact h.up,by rw[f1];exact h.out,by rw[f1];exact h.one,by rw[f1];exact h.made,by rw[f1];exact h.framed,by rw[f1];exact h.steps,by rw[f1];exact h.fuel,λa b c g=>h.no3 a b c (f1.symm.trans g)⟩
 ·by_cases h14:e s=14
  ·have f1:zAz (e s) s k=.stop 4 14 s:=by unfold zAz;rw[if_neg h0,if_pos h14]
   have f2:zAz (e (upF s)) (upF s) k=.stop 4 14 (upF s):=by unfold zAz;rw[he,if_neg h0,if_pos h14]
   exact⟨by rw[f1,f2];rfl,by rw[f1];exact q0R _,by rw[f1];exact q0w _,by rw[f1];exact q0c _,by rw[f1];exact q0c _,by rw[f1];rfl,by rw[f1];rfl,λa b c g=>by rw[f1] at g;cases g;decide⟩
  ·have f1:zAz (e s) s k=.stop 2 (e s) s:=by unfold zAz;rw[if_neg h0,if_neg h14]
   have f2:zAz (e (upF s)) (upF s) k=.stop 2 (e s) (upF s):=by unfold zAz;rw[he,if_neg h0,if_neg h14]
   exact⟨by rw[f1,f2];rfl,by rw[f1];exact q0R _,by rw[f1];exact q0w _,by rw[f1];exact q0c _,by rw[f1];exact q0c _,by rw[f1];rfl,by rw[f1];rfl,λa b c g=>by rw[f1] at g;cases g;decide⟩
theorem setO_len(l:List Obj)(i k:Nat)(v:Int):(setO l i k v).length=l.length:=by unfold setO;split<;>simp
theorem makeS_up(p:ProgD)(s:MSt)(name:Str)(fr:Int):makeS p (upF s) name fr=((makeS p s name fr).1,(makeS p s name fr).2.1,upF (makeS p s name fr).2.2):=by
 unfold makeS;have:openS (upF s) fr=openS s fr:=rfl;rw[this];cases findS p.structs name with
 | none=>rfl
 | some a=>
  dsimp only;by_cases h1:fr≠0/\openS s fr=false
  ·rw[if_pos h1,if_pos h1]
  ·rw[if_neg h1,if_neg h1];by_cases h2:s.objs.length=131072
   ·rw[if_pos h2,if_pos (show(upF s).objs.length=131072 from h2)]
   ·rw[if_neg h2,if_neg (show ¬(upF s).objs.length=131072 from h2)];rfl
theorem makeS_gr(p:ProgD)(s:MSt)(name:Str)(fr:Int):let t:=(makeS p s name fr).2.2;t.out=s.out/\s.objs.length+t.framed<=t.objs.length+s.framed/\s.framed<=t.framed/\t.steps=s.steps/\t.fuel=s.fuel:=by
 unfold makeS;cases findS p.structs name with
 | none=>exact⟨rfl,q0c _,q0c _,rfl,rfl⟩
 | some a=>
  dsimp only;by_cases h1:fr≠0/\openS s fr=false
  ·rw[if_pos h1];exact⟨rfl,q0c _,q0c _,rfl,rfl⟩
  ·rw[if_neg h1];by_cases h2:s.objs.length=131072
   ·rw[if_pos h2];exact⟨rfl,q0c _,q0c _,rfl,rfl⟩
   ·rw[if_neg h2];refine⟨rfl,?_,?_,rfl,rfl⟩
    ·simp only[q0o,List.length_singleton];split<;>omega
    ·dsimp only;split<;>omega
section
variable{p:ProgD}{nd:Int->Int->Int->Int×Nat}{rd:Nat->Int}
theorem uni_st{α:Type}{a:α}{g:MSt->MSt}{s:MSt}(h1:g (upF s)=upF (g s))(h2:s.out <+: (g s).out)(h3:(g s).out.length<=s.out.length+1)(h4:(g s).objs.length=s.objs.length)(h5:(g s).framed=s.framed)(h6:(g s).steps=s.steps)(h7:(g s).fuel=s.fuel):UniM (λs=>.ok a (g s)) s:=⟨by show Rz.ok _ _=Rz.ok _ _;rw[h1],h2,h3,Nat.le_of_eq (by show s.objs.length+(g s).framed=(g s).objs.length+s.framed;rw[h4,h5]),Nat.le_of_eq h5.symm,h6,h7,λ_ _ _ h=>by cases h⟩
theorem uni_ins{call:Nat->List Int->MSt->Rz Int}{f:FunD}{a:ActD}{x:InsD}(h31:x.op≠31)(s:MSt):UniM (insV p nd rd call f a x) s:=by
 show UniM (λs=>insV p nd rd call f a x s) s;unfold insV;dsimp only;by_cases c1:x.op<=18
 ·simp only[if_pos c1];exact zIy rfl λ_=>UniM.ok rfl
 simp only[if_neg c1,if_neg h31];by_cases c3:x.op=32
 ·simp only[if_pos c3];exact uni_st rfl (List.prefix_append _ _) (by simp) rfl rfl rfl rfl
 simp only[if_neg c3];by_cases c4:x.op=25
 ·simp only[if_pos c4];exact zIy rfl λ_=>UniM.ok rfl
 simp only[if_neg c4];by_cases c5:0<(x.args.map λi=>a.vals.getD i.toNat 0).length
 ·simp only[if_pos c5];by_cases c6:x.op=28
  ·simp only[if_pos c6];exact UniM.ok rfl
  simp only[if_neg c6];by_cases c7:x.op=26
  ·simp only[if_pos c7];exact zIy rfl λ_=>uni_st rfl (q0R _) (q0w _) (setO_len _ _ _ _) rfl rfl rfl
  simp only[if_neg c7];by_cases c8:x.op=30
  ·simp only[if_pos c8];exact uni_st rfl (q0R _) (q0w _) rfl rfl rfl rfl
  simp only[if_neg c8];exact UniM.ok rfl
 simp only[if_neg c5];by_cases c6:x.op=20
 ·simp only[if_pos c6];exact UniM.ok rfl
 simp only[if_neg c6];by_cases c7:x.op=21\/x.op=22
 ·simp only[if_pos c7];exact UniM.ok rfl
 simp only[if_neg c7];by_cases c8:x.op=24
 ·simp only[if_pos c8];obtain⟨m1,m2,m3,m4,m5⟩:=makeS_gr p s x.name ((a.frame:Int)*x.n);have mu:=makeS_up p s x.name ((a.frame:Int)*x.n);cases hr:makeS p s x.name ((a.frame:Int)*x.n) with
  | mk o q=>
   obtain⟨e,t⟩:=q;rw[hr] at mu m1 m2 m3 m4 m5;dsimp only at mu m1 m2 m3 m4 m5;have F1:∀(k:Int->MSt->Rz (Int×ActD)),zAz e t (λs=>k o s)=(if e=0 then k o t else if e=14 then .stop 4 14 t else .stop 2 e t):=λk=>rfl;refine⟨?_,?_,?_,?_,?_,?_,?_,?_⟩<;>(try rw[mu])<;>rw[hr]<;>dsimp only<;>unfold zAz
   ·split
    ·rfl
    ·split<;>rfl
   all_goals split
   all_goals first | (show s.out <+: t.out;rw[m1];exact q0R _) | (show t.out.length<=_;rw[m1];exact q0w _) | exact m2 | exact m3 | exact m4 | exact m5 | skip
   all_goals try split
   all_goals first | (show s.out <+: t.out;rw[m1];exact q0R _) | (show t.out.length<=_;rw[m1];exact q0w _) | exact m2 | exact m3 | exact m4 | exact m5 | (intro _ _ _ h;cases h;done) | (intro _ _ _ h;cases h;decide)
 simp only[if_neg c8];by_cases c9:x.op=27
 ·simp only[if_pos c9];exact UniM.ok rfl
 simp only[if_neg c9];by_cases c10:x.op=29
 ·simp only[if_pos c10];exact UniM.ok rfl
 simp only[if_neg c10];by_cases c11:x.op=33
 ·simp only[if_pos c11];exact⟨rfl,q0R _,q0w _,q0c _,q0c _,rfl,rfl,λ_ _ _ h=>by cases h⟩
 simp only[if_neg c11];exact UniM.ok rfl
theorem zLu{call:Nat->List Int->MSt->Rz Int}{f:FunD}{a:ActD}{x:InsD}(h31:x.op=31)(s:MSt):insV p nd rd call f a x s=(call x.n.toNat (x.args.map λi=>a.vals.getD i.toNat 0) s).bind λv s=>.ok (v,a) s:=by
 unfold insV;dsimp only;rw[if_neg (by omega),if_pos h31]
theorem rel_ins{call call':Nat->List Int->MSt->Rz Int}{f:FunD}{a:ActD}{x:InsD}{s:MSt}(hc:x.op=31->∀args,RelM s (call x.n.toNat args s) (call' x.n.toNat args (upF s))):RelM s (insV p nd rd call f a x s) (insV p nd rd call' f a x (upF s)):=by
 by_cases h31:x.op=31
 ·rw[zLu h31,zLu h31];exact(hc h31 _).bind (λb t _=>⟨GrM.refl _,rfl⟩) λb u hu=>ZerM.refl _
 ·have e:insV p nd rd call' f a x=insV p nd rd call f a x:=by
   funext t;unfold insV;dsimp only;rw[if_neg h31,if_neg h31]
  rw[e];exact(uni_ins h31 s).rel
theorem last_ins{call:Nat->List Int->MSt->Rz Int}{f:FunD}{a:ActD}{x:InsD}{s:MSt}(h0:s.fuel=0)(hc:x.op=31->∀args u,u.fuel=0->ZerM u (call x.n.toNat args u).st):LastM s (insV p nd rd call f a x {s with steps:=s.steps+1}).st:=by
 by_cases h31:x.op=31
 ·rw[zLu h31];have:=hc h31 (x.args.map λi=>a.vals.getD i.toNat 0) {s with steps:=s.steps+1} h0;have z:ZerM {s with steps:=s.steps+1} ((call x.n.toNat (x.args.map λi=>a.vals.getD i.toNat 0) {s with steps:=s.steps+1}).bind λv s=>Rz.ok (v,a) s).st:=by
   cases e:call x.n.toNat (x.args.map λi=>a.vals.getD i.toNat 0) {s with steps:=s.steps+1} with
   | ok b t=>rw[e] at this;exact this
   | stop b c t=>rw[e] at this;exact this
  exact LastM.zer (t:={s with steps:=s.steps+1}) ⟨q0R _,q0w _,q0c _,q0c _,rfl,h0⟩ z
 ·have u:=uni_ins (p:=p) (nd:=nd) (rd:=rd) (call:=call) (f:=f) (a:=a) h31 {s with steps:=s.steps+1};exact⟨u.out,u.one,u.made,u.framed,u.steps,u.fuel.trans h0⟩
theorem zLh{call:Nat->List Int->MSt->Rz Int}{f:FunD}:∀(l:List Int) (a:ActD) (s:MSt),s.fuel=0->rowV p nd rd call f l a s=.ok a s\/rowV p nd rd call f l a s=.stop 3 0 s
 | [],a,s,_=>.inl (by rw[rowV])
 | z::l,a,s,h=>by
  rw[rowV];cases f.ins[z.toNat]? with
  | none=>exact .inl rfl
  | some x=>
   dsimp only;by_cases h34:x.op=34
   ·rw[if_pos h34];exact zLh l a s h
   ·rw[if_neg h34];right;unfold zA3;rw[if_pos h];rfl
theorem zJ2:∀(n:Nat) (f:FunD) (a:ActD) (b:Nat) (fr:Int) (s:MSt),s.fuel=0->zBn p nd rd n f a b fr s=.stop 3 0 s
 | 0,f,a,b,fr,s,_=>by rw[zBn]
 | n+1,f,a,b,fr,s,h=>by
  rw[zBn];rcases zLh (p:=p) (nd:=nd) (rd:=rd) (call:=runV p nd rd n) (f:=f) (listB f b) {a with vals:=phiV f b fr a.vals} s h with e | e
  ·rw[e];show(zA3 s).bind _=_;unfold zA3;rw[if_pos h];rfl
  ·rw[e];rfl
theorem run_zero(n fn:Nat)(args:List Int)(s:MSt)(h:s.fuel=0):∃t,runV p nd rd n fn args s=.stop 3 0 t/\ZerM s t:=by
 cases n with
 | zero=>exact⟨s,by rw[runV],ZerM.refl _⟩
 | succ n=>
  rw[runV];cases p.funs[fn]? with
  | none=>exact⟨s,rfl,ZerM.refl _⟩
  | some f=>exact⟨_,zJ2 n f _ 0 (-1) _ h,rfl,rfl,rfl,rfl,rfl⟩
theorem rel_row{call call':Nat->List Int->MSt->Rz Int}{f:FunD}{N:Nat}(hz:∀fn args u,u.fuel=0->ZerM u (call' fn args u).st):∀(l:List Int),(∀z∈l,∀x,f.ins[z.toNat]?=some x->x.op=31->∀args (s:MSt),s.fuel+1<=N->RelM s (call x.n.toNat args s) (call' x.n.toNat args (upF s)))->∀(a:ActD) (s:MSt),s.fuel<=N->RelM s (rowV p nd rd call f l a s) (rowV p nd rd call' f l a (upF s))
 | [],_,a,s,_=>by rw[rowV,rowV];exact⟨GrM.refl _,rfl⟩
 | z::l,hc,a,s,hN=>by
  have ih:=λa s=>rel_row hz l (λz hz=>hc z (q0s _ hz)) a s;have hc:=hc z q0H;rw[rowV,rowV];cases hx:f.ins[z.toNat]? with
  | none=>exact⟨GrM.refl _,rfl⟩
  | some x=>
   dsimp only;by_cases h34:x.op=34
   ·rw[if_pos h34,if_pos h34];exact ih a s hN
   ·rw[if_neg h34,if_neg h34];have zr:∀(r:Int×ActD) (u:MSt),u.fuel=0->ZerM u (rowV p nd rd call' f l {r.2 with vals:=r.2.vals.set z.toNat r.1} u).st:=λr u hu=>by
     rcases zLh (p:=p) (nd:=nd) (rd:=rd) (call:=call') (f:=f) l {r.2 with vals:=r.2.vals.set z.toNat r.1} u hu with e | e<;>rw[e]<;>exact ZerM.refl _
    have su:zA3 (upF s)=.ok () {s with steps:=s.steps+1}:=by unfold zA3;rw[if_neg (by show ¬s.fuel+1=0;omega)];rfl
    rw[su];show RelM s _ ((insV p nd rd call' f a x {s with steps:=s.steps+1}).bind _);by_cases h0:s.fuel=0
    ·have s0:zA3 s=.stop 3 0 s:=by unfold zA3;rw[if_pos h0]
     rw[s0];refine⟨GrM.refl _,.inr ⟨rfl,rfl,h0,?_⟩⟩;have:=last_ins (p:=p) (nd:=nd) (rd:=rd) (call:=call') (f:=f) (a:=a) (x:=x) h0 (λ_ args u hu=>hz _ args u hu);cases e:insV p nd rd call' f a x {s with steps:=s.steps+1} with
     | ok r u=>rw[e] at this;exact LastM.zer this (zr r u this.fuel)
     | stop b c u=>rw[e] at this;exact this
    ·obtain⟨k,hk⟩:=Nat.exists_eq_succ_of_ne_zero h0;have s1:zA3 s=.ok () {s with fuel:=k,steps:=s.steps+1}:=by unfold zA3;rw[if_neg h0,hk];rfl
     rw[s1];have e:({s with steps:=s.steps+1}:MSt)=upF {s with fuel:=k,steps:=s.steps+1}:=by unfold upF;dsimp only;rw[<-Nat.succ_eq_add_one k,<-hk]
     rw[e];have g:GrM s {s with fuel:=k,steps:=s.steps+1}:=⟨q0R _,q0c _,q0c _,by show s.steps+1+k=_;omega,by show k<=_;omega⟩;have q:=(rel_ins (p:=p) (nd:=nd) (rd:=rd) (call:=call) (call':=call') (f:=f) (a:=a) (x:=x) (s:={s with fuel:=k,steps:=s.steps+1}) (λh args=>hc x hx h args _ (by show k+1<=N;omega))).bind (k:=λr s=>rowV p nd rd call f l {r.2 with vals:=r.2.vals.set z.toNat r.1} s) (k':=λr s=>rowV p nd rd call' f l {r.2 with vals:=r.2.vals.set z.toNat r.1} s) (λr t et=>ih _ t (by
      have q:=rel_ins (p:=p) (nd:=nd) (rd:=rd) (call:=call) (call':=call') (f:=f) (a:=a) (x:=x) (s:={s with fuel:=k,steps:=s.steps+1}) (λh args=>hc x hx h args _ (by show k+1<=N;omega));rw[et] at q;have:=q.1.fuel;have this:t.fuel<=k:=this;omega)) zr
     show RelM s ((insV p nd rd call f a x _).bind _) _;cases e2:(insV p nd rd call f a x {s with fuel:=k,steps:=s.steps+1}).bind λr s=>rowV p nd rd call f l {r.2 with vals:=r.2.vals.set z.toNat r.1} s with
     | ok b t=>rw[e2] at q;exact⟨g.trans q.1,q.2⟩
     | stop b c t=>rw[e2] at q;exact⟨g.trans q.1,q.2⟩
theorem run_z(n fn:Nat)(args:List Int)(u:MSt)(h:u.fuel=0):ZerM u (runV p nd rd n fn args u).st:=by
 obtain⟨t,e,z⟩:=run_zero (p:=p) (nd:=nd) (rd:=rd) n fn args u h;rw[e];exact z
theorem blocks_z(n:Nat)(f:FunD)(a:ActD)(b:Nat)(fr:Int)(u:MSt)(h:u.fuel=0):ZerM u (zBn p nd rd n f a b fr u).st:=by
 rw[zJ2 n f a b fr u h];exact ZerM.refl _
theorem up_back(a:ActD)(s:MSt):backS a (upF s)=upF (backS a s):=by
 unfold backS;have:openS (upF s) a.frame=openS s a.frame:=rfl;rw[this];split<;>rfl
theorem gr_back(a:ActD)(s:MSt):GrM s (backS a s):=by
 unfold backS;split<;>exact⟨q0R _,q0c _,q0c _,rfl,q0c _⟩
theorem zer_back(a:ActD)(s:MSt):ZerM s (backS a s):=by
 unfold backS;split<;>exact⟨rfl,rfl,rfl,rfl,rfl⟩
theorem rel_all(P:∀f∈p.funs,OkF p f):∀n:Nat,(∀(n' fn:Nat) (args:List Int) (s:MSt),fn<p.funs.length->2*s.fuel+2<=n->2*s.fuel+4<=n'->RelM s (runV p nd rd n fn args s) (runV p nd rd n' fn args (upF s)))/\(∀(n':Nat) (f:FunD) (a:ActD) (b:Nat) (fr:Int) (s:MSt),f∈p.funs->b<f.blocks.length->2*s.fuel+1<=n->2*s.fuel+3<=n'->RelM s (zBn p nd rd n f a b fr s) (zBn p nd rd n' f a b fr (upF s))):=by
 intro n;induction n with
 | zero=>exact⟨λ_ _ _ _ _ h=>by omega,λ_ _ _ _ _ _ _ _ h=>by omega⟩
 | succ n ih=>
  constructor
  ·intro n' fn args s hfn h1 h2;obtain⟨m,rfl⟩:∃m,n'=m+1:=⟨n'-1,by omega⟩;rw[runV,runV,q0a hfn];have hm:=q0l hfn;have:=ih.2 m p.funs[fn] ⟨fn,s.frames.length+1,args,List.replicate p.funs[fn].ins.length 0,List.replicate p.funs[fn].slots.length 0⟩ 0 (-1) {s with frames:=s.frames++[true]} hm (P _ hm).pos (by show 2*s.fuel+1<=n;omega) (by show 2*s.fuel+3<=m;omega);dsimp only;show RelM s _ (zBn p nd rd m p.funs[fn] ⟨fn,s.frames.length+1,args,List.replicate p.funs[fn].ins.length 0,List.replicate p.funs[fn].slots.length 0⟩ 0 (-1) (upF {s with frames:=s.frames++[true]}));generalize zBn p nd rd n p.funs[fn] _ 0 (-1) {s with frames:=s.frames++[true]}=r at this ⊢;cases r with
   | ok b t=>exact⟨⟨this.1.out,this.1.made,this.1.framed,this.1.sum,this.1.fuel⟩,this.2⟩
   | stop b c t=>exact⟨⟨this.1.out,this.1.made,this.1.framed,this.1.sum,this.1.fuel⟩,this.2⟩
  ·intro n' f a b fr s hf hb h1 h2;obtain⟨m,rfl⟩:∃m,n'=m+1:=⟨n'-1,by omega⟩;rw[zBn,zBn];have O:=P f hf;have hrow:=rel_row (p:=p) (nd:=nd) (rd:=rd) (call:=runV p nd rd n) (call':=runV p nd rd m) (f:=f) (N:=s.fuel) (run_z m) (listB f b) (λz hz x hx h31 args t ht=>by
    obtain⟨k,g,e1,e2,-⟩:=(O.ins b hb z hz x hx).call h31;exact ih.1 m x.n.toNat args t (by rw[e1];exact(List.getElem?_eq_some_iff.mp e2).1) (by omega) (by omega)) {a with vals:=phiV f b fr a.vals} s (q0c _)
   refine hrow.bind (λa t et=>?_) (λa u hu=>?_)
   ·have gt:GrM s t:=by rw[et] at hrow;exact hrow.1
    have hle:=gt.fuel;have su:zA3 (upF t)=.ok () {t with steps:=t.steps+1}:=by unfold zA3;rw[if_neg (by show ¬t.fuel+1=0;omega)];rfl
    rw[su];have hy:=O.blk b _ (q0a hb);rw[q0a hb];dsimp only;by_cases h0:t.fuel=0
    ·have s0:zA3 t=.stop 3 0 t:=by unfold zA3;rw[if_pos h0]
     rw[s0];refine⟨GrM.refl _,.inr ⟨rfl,rfl,h0,?_⟩⟩;have l1:LastM t {t with steps:=t.steps+1}:=⟨q0R _,q0w _,q0c _,q0c _,rfl,h0⟩;refine l1.zer ?_;show ZerM {t with steps:=t.steps+1} (Rz.st (match jumpV f.blocks[b] a with
      | (some c,_)=>zBn p nd rd m f a c b {t with steps:=t.steps+1}
      | (none,v)=>.ok v (backS a {t with steps:=t.steps+1})))
     rcases jumpV f.blocks[b] a with⟨_ | c,v⟩
     ·exact zer_back _ _
     ·exact blocks_z m f a c b _ h0
    ·obtain⟨k,hk⟩:=Nat.exists_eq_succ_of_ne_zero h0;have s1:zA3 t=.ok () {t with fuel:=k,steps:=t.steps+1}:=by unfold zA3;rw[if_neg h0,hk];rfl
     rw[s1];have e:({t with steps:=t.steps+1}:MSt)=upF {t with fuel:=k,steps:=t.steps+1}:=by unfold upF;dsimp only;rw[<-Nat.succ_eq_add_one k,<-hk]
     rw[e];have g:GrM t {t with fuel:=k,steps:=t.steps+1}:=⟨q0R _,q0c _,q0c _,by show t.steps+1+k=_;omega,by show k<=_;omega⟩;have tr:∀{r r':Rz Int},RelM {t with fuel:=k,steps:=t.steps+1} r r'->RelM t r r':=λ{r r'} q=>by
      cases r with
      | ok b u=>exact⟨g.trans q.1,q.2⟩
      | stop b c u=>exact⟨g.trans q.1,q.2⟩
     refine tr ?_;show RelM _ (match jumpV f.blocks[b] a with
      | (some c,_)=>zBn p nd rd n f a c b {t with fuel:=k,steps:=t.steps+1}
      | (none,v)=>.ok v (backS a {t with fuel:=k,steps:=t.steps+1})) (match jumpV f.blocks[b] a with
      | (some c,_)=>zBn p nd rd m f a c b (upF {t with fuel:=k,steps:=t.steps+1})
      | (none,v)=>.ok v (backS a (upF {t with fuel:=k,steps:=t.steps+1})))
     cases hj:jumpV f.blocks[b] a with
     | mk c v=>
      cases c with
      | none=>exact⟨gr_back _ _,by rw[up_back]⟩
      | some c=>
       refine ih.2 m f a c b _ hf ?_ (by show 2*k+1<=n;omega) (by show 2*k+3<=m;omega);unfold jumpV at hj;split at hj
       ·rename_i h;cases hj;obtain⟨q,e1,e2⟩:=hy.to0 (by rcases h with h | h;exact .inl h;exact .inr h.1);rw[e1];exact e2
       ·split at hj
        ·rename_i h;cases hj;obtain⟨q,e1,e2⟩:=hy.to1 h;rw[e1];exact e2
        ·split at hj<;>cases hj
   ·have s0:zA3 u=.stop 3 0 u:=by unfold zA3;rw[if_pos hu]
    rw[s0];exact ZerM.refl _
theorem exec_up(P:∀f∈p.funs,OkF p f){km:Nat}{fm:FunD}(hk:findF p tMain=some km)(hf:p.funs[km]?=some fm)(F:Nat):((execV p nd rd F).fin≠3/\(execV p nd rd F).steps<=F/\execV p nd rd (F+1)=execV p nd rd F)\/((execV p nd rd F).fin=3/\(execV p nd rd F).fault=0/\(execV p nd rd F).steps=F/\(execV p nd rd F).out <+: (execV p nd rd (F+1)).out/\(execV p nd rd (F+1)).out.length<=(execV p nd rd F).out.length+1/\(execV p nd rd F).made<=(execV p nd rd (F+1)).made/\(execV p nd rd F).framed<=(execV p nd rd (F+1)).framed/\(execV p nd rd (F+1)).steps=F+1):=by
 have q:=(rel_all (nd:=nd) (rd:=rd) P (2*F+2)).1 (2*(F+1)+2) km [] (start p F) (List.getElem?_eq_some_iff.mp hf).1 (q0c _) (q0c _);unfold execV;rw[hk,q0F];rw[show upF (start p F)=start p (F+1) from rfl] at q;cases e:runV p nd rd (2*F+2) km [] (start p F) with
 | ok v t=>
  rw[e] at q;obtain⟨g,e2⟩:=q;rw[e2];have:=g.sum;have this:t.steps+t.fuel=0+F:=this;exact .inl ⟨(show(1:Nat)≠3 by decide),by show t.steps<=F;omega,rfl⟩
 | stop a b t=>
  rw[e] at q;obtain⟨g,q⟩:=q;have:=g.sum;have this:t.steps+t.fuel=0+F:=this;rcases q with⟨h3,e2⟩ | ⟨rfl,rfl,h0,l⟩
  ·rw[e2];exact .inl ⟨h3,by show t.steps<=F;omega,rfl⟩
  ·right;have st:∀r:Rz Int,(resV r).out=r.st.out/\(resV r).made=r.st.objs.length-r.st.framed/\(resV r).framed=r.st.framed/\(resV r).steps=r.st.steps:=λr=>by cases r<;>exact⟨rfl,rfl,rfl,rfl⟩
   obtain⟨s1,s2,s3,s4⟩:=st (runV p nd rd (2*(F+1)+2) km [] (start p (F+1)));rw[s1,s2,s3,s4];have l3:=l.made;have l4:=l.framed;refine⟨rfl,rfl,?_,l.out,l.one,?_,l.framed,?_⟩
   ·show t.steps=F;omega
   ·show t.objs.length-t.framed<=_;omega
   ·rw[l.steps];omega
theorem exec_zero{km:Nat}(hk:findF p tMain=some km):(execV p nd rd 0).fin=3/\(execV p nd rd 0).out=[]/\(execV p nd rd 0).steps=0:=by
 unfold execV;rw[hk,q0F];obtain⟨t,e,z⟩:=run_zero (p:=p) (nd:=nd) (rd:=rd) (2*0+2) km [] (start p 0) rfl;rw[e];exact⟨rfl,z.out,z.steps⟩
end
structure Ladder(R:Nat->ResD):Prop where
 up:∀F,((R F).fin≠3/\(R F).steps<=F/\R (F+1)=R F)\/((R F).fin=3/\(R F).fault=0/\(R F).steps=F/\(R F).out <+: (R (F+1)).out/\(R (F+1)).out.length<=(R F).out.length+1/\(R F).made<=(R (F+1)).made/\(R F).framed<=(R (F+1)).framed/\(R (F+1)).steps=F+1)
 zero:(R 0).fin=3/\(R 0).out=[]/\(R 0).steps=0
theorem ladder{p:ProgD}{nd:Int->Int->Int->Int×Nat}{rd:Nat->Int}(h:zCz p=true):Ladder (execV p nd rd):=by
 obtain⟨P,km,fm,hk,hf,-⟩:=zLa h;exact⟨exec_up P hk hf,exec_zero hk⟩
section
variable{R:Nat->ResD}(L:Ladder R)
include L
theorem Ladder.same{F:Nat}(h:(R F).fin≠3):∀k,R (F+k)=R F
 | 0=>rfl
 | k+1=>by
  have ih:=Ladder.same h k;rcases L.up (F+k) with⟨-,-,e⟩ | ⟨e,-⟩
  ·exact e.trans ih
  ·rw[ih] at e;exact absurd e h
theorem Ladder.pre(F:Nat):∀k,(R F).out <+: (R (F+k)).out/\(R F).made<=(R (F+k)).made/\(R F).framed<=(R (F+k)).framed
 | 0=>⟨q0R _,q0c _,q0c _⟩
 | k+1=>by
  obtain⟨h1,h2,h3⟩:=Ladder.pre F k;rcases L.up (F+k) with⟨-,-,e⟩ | ⟨-,-,-,e1,-,e2,e3,-⟩
  ·rw[show F+(k+1)=F+k+1 from rfl,e];exact⟨h1,h2,h3⟩
  ·exact⟨h1.trans e1,q0m h2 e2,q0m h3 e3⟩
theorem Ladder.le{F G:Nat}(h:F<=G):(R F).out <+: (R G).out/\(R F).made<=(R G).made/\(R F).framed<=(R G).framed:=by
 obtain⟨k,rfl⟩:=Nat.exists_eq_add_of_le h;exact L.pre F k
theorem Ladder.one(F:Nat):(R (F+1)).out.length<=(R F).out.length+1:=by
 rcases L.up F with⟨-,-,e⟩ | ⟨-,-,-,-,e,-⟩
 ·rw[e];exact q0w _
 ·exact e
theorem Ladder.len:∀F,(R F).out.length<=F
 | 0=>by rw[L.zero.2.1];exact q0c _
 | F+1=>by
  have h1:=Ladder.len F;have h2:=L.one F;omega
theorem Ladder.steps(F:Nat):(R F).steps<=F/\((R F).fin=3->(R F).steps=F):=by
 rcases L.up F with⟨h,e,-⟩ | ⟨-,-,e,-⟩
 ·exact⟨e,λh3=>absurd h3 h⟩
 ·exact⟨Nat.le_of_eq e,λ_=>e⟩
theorem Ladder.down{F:Nat}(h:(R F).fin≠3):∀k,(R F).steps+k<=F->R (F-k)=R F
 | 0,_=>rfl
 | k+1,hk=>by
  have ih:=Ladder.down h k (by omega);have e:F-k=F-(k+1)+1:=by omega
  rcases L.up (F-(k+1)) with⟨-,-,q⟩ | ⟨-,-,-,-,-,-,-,q⟩
  ·rw[<-q,<-e];exact ih
  ·rw[<-e,ih] at q;omega
theorem Ladder.back{F:Nat}(h:(R F).fin≠3):R (R F).steps=R F/\0<(R F).steps/\(R ((R F).steps-1)).fin=3:=by
 have hs:=(L.steps F).1;have e:R (R F).steps=R F:=by
  have:=L.down h (F-(R F).steps) (by omega)
  rwa [show F-(F-(R F).steps)=(R F).steps by omega] at this
 have hp:0<(R F).steps:=Nat.pos_of_ne_zero λh0=>by
  rw[h0] at e;rw[<-e] at h;exact h L.zero.1
 refine⟨e,hp,?_⟩;rcases L.up ((R F).steps-1) with⟨-,q,q2⟩ | ⟨q,-⟩
 ·rw[show(R F).steps-1+1=(R F).steps by omega,e] at q2;rw[<-q2] at q;omega
 ·exact q
theorem Ladder.at_(F:Nat):R (R F).steps=R F:=by
 by_cases h:(R F).fin=3
 ·rw[(L.steps F).2 h]
 ·exact(L.back h).1
theorem Ladder.uniq{i m n:Nat}(h1:(R m).out.length=i+1)(h2:(R n).out.length=i+1)(h3:(R (m-1)).out.length=i)(h4:(R (n-1)).out.length=i):m=n:=by
 rcases Nat.lt_trichotomy m n with q | q | q
 ·have:=(L.le (show m<=n-1 by omega)).1.length_le;omega
 ·exact q
 ·have:=(L.le (show n<=m-1 by omega)).1.length_le;omega
end
theorem modU{n:Nat}(hn:0<n)(z:Int):∃k:Nat,k<n/\Int.tmod (IntKind.u64.wrap z) ((n:Nat):Int)=(k:Int):=by
 have h0:0<=IntKind.u64.wrap z:=by
  show 0<=z % _;exact Int.emod_nonneg _ (by decide)
 obtain⟨m,hm⟩:=Int.eq_ofNat_of_zero_le h0;refine⟨m % n,Nat.mod_lt _ hn,?_⟩;rw[hm];rfl
theorem SlD.inp{h:AH}{v:AV}{xs:List Int}(x:SlD h 1 IntR v xs):InpK h v xs/\∀z∈xs,I64 z:=by
 cases x with
 | nils=>exact⟨.inl ⟨rfl,rfl⟩,λz h=>by cases h⟩
 | emp=>exact⟨.inr ⟨_,_,_,rfl,q0c _,λh=>absurd rfl h⟩,λz h=>by cases h⟩
 | sl E a b c d e=>
  refine⟨.inr ⟨_,_,_,rfl,a,λ_=>⟨_,_,_,_,c,d,λi hi=>?_⟩⟩,λz hz=>?_⟩
  ·obtain⟨e1,e2,e3,-⟩:=e i hi;have:=e2 0 (by decide);rw[e3,Nat.mul_one] at this;exact this
  ·obtain⟨i,hi,rfl⟩:=q0y hz;exact(e i hi).2.2.2
theorem Arr.slE{h:AH}{F:Nat->Prop}{v:AV}{xs:List Int}(a:Arr h F v (xs.map iv)):SlV h 1 IntE v xs:=a.slG λ_ _=>rfl
section
variable{tab:Nat->Option AFunc}{h0 h:AH}(H:PV tab)
theorem InpK.mv0{h:AH}{v:AV}{xs:List Int}(x:InpK h v xs):∀h',oMove (.c v) .leaf [] h'=.val v h':=λ_=>zAg x.mv
end
theorem InpK.src{h:AH}{v:AV}{xs:List Int}(x:InpK h v xs)(k:Nat->List AV->OR):zAv 1 v h k=k xs.length (xs.map iv):=by
 rcases x with⟨rfl,rfl⟩ | ⟨id,off,cap,rfl,hl,hc⟩
 ·rfl
 ·by_cases e:xs=[]
  ·subst e;rfl
  ·obtain⟨c,sz,p,ro,g,hi,hx⟩:=hc e;refine zFd (by intro h;exact e (q0r h)) g ?_ k;have:xs.length*1=(xs.map iv).length:=by rw[q0j,Nat.mul_one]
   rw[this];exact zBh _ _ _ λj hj=>by
    rw[q0j] at hj;rw[hx j hj,q0t,q0a hj];rfl
theorem InpK.more{h h':AH}{v:AV}{xs:List Int}(x:InpK h v xs)(m:More h h'):InpK h' v xs:=by
 rcases x with x | ⟨id,off,cap,e,hl',hx⟩
 ·exact .inl x
 ·exact .inr ⟨id,off,cap,e,hl',λhne=>let⟨c,sz,pp,ro,g,hi,hc⟩:=hx hne;⟨c,sz,pp,ro,(m.keep id hi).trans g,q0d hi m.next,hc⟩⟩
theorem getD_zeros(L:List Int)(m i:Nat):(L++List.replicate m (0:Int)).getD i 0=L.getD i 0:=by
 rw[q0e,q0e];by_cases h:i<L.length
 ·rw[List.getElem?_append_left h]
 ·rw[List.getElem?_append_right (by omega),q0i (l:=L) (by omega),q0z];split<;>rfl
theorem op_appendZ{z:List AV}{b:Nat}{s n:Opd}{loc:T AV}{tmp:List AV}{h:AH}:evOp (.appendZ z b s n) loc tmp h=zGu z b (.c (ev loc tmp s)) (.c (ev loc tmp n)) .leaf [] h:=rfl
theorem zLv{h:AH}{F:Nat->Prop}{id:Nat}{c:T AV}{xs:List Int}(hne:xs≠[])(hF:F id)(hid:id<h.next)(g:h.mem.get id=some (.cells c (xs.length*1) none false))(hc:∀i (hi:i<xs.length),c.get i=some (iv xs[i])):InpO h F (.sl id 0 xs.length (.rest 1)) xs:=
 .inr ⟨hne,id,0,c,xs.length*1,rfl,hF,hid,g,by omega,λi hi=>by rw[q0I];exact hc i hi⟩
theorem more_row{h:AH}{vin:AV}{L:List Int}(ik:InpK h vin L)(hL:L.length<=100){m:Nat}(hm:m<50):∃v1 h2,(∀h1,h1=h.add (.cells (zAa []) 0 none false)->zA0 none 1 8 (.c (.sl h.next 0 0 (.known 0))) (.c vin) .leaf [] h1=.val v1 h2)/\v1.mv=true/\∃v2 h3,zGu [nv 0] 8 (.c v1) (.c (.int .i64 (m:Int))) .leaf [] h2=.val v2 h3/\v2.mv=true/\More h h3/\((∃id,v2=.sl id 0 0 (.known 0)/\L++List.replicate m 0=[])\/InpO h3 (λk=>h.next<=k/\k<h3.next) v2 (L++List.replicate m 0)):=by
 have K1:InpK (h.add (.cells (zAa []) 0 none false)) vin L:=ik.more (q2g _ _);have lrz:∀k,lrep [nv 0] k=(List.replicate k (0:Int)).map iv:=λk=>by
  rw[zE0,List.map_replicate];induction k with
  | zero=>rfl
  | succ k ih=>rw[List.replicate_succ,List.replicate_succ,List.flatten_cons,ih];rfl
 have rm:∀k,k<=1000->room k 8=true:=λk hk=>by
  unfold room;rw[bi_eq,if_pos (Nat.ble_eq.mpr (show k<=1099511627776 by omega))];exact Nat.ble_eq.mpr (by show(2*k+512)*8<=1099511627776;omega)
 have step1:∀v h1,zAv 1 vin h1=(λk=>k L.length (L.map iv))->zA0 none 1 8 (.c (.sl v 0 0 (.known 0))) (.c vin) .leaf [] h1=oApp none 1 8 L.length (L.map iv) (.sl v 0 0 (.known 0)) h1:=λv h1 e=>by
  show zAv 1 vin h1 _=_;rw[e];rfl
 have stepZ:∀v h2,zGu [nv 0] 8 (.c v) (.c (.int .i64 (m:Int))) .leaf [] h2=oApp none 1 8 m (lrep [nv 0] m) v h2:=λv h2=>by
  show bi (room m 8) _ _=_;rw[bi_eq,if_pos (rm m (by omega))];rfl
 have app0:∀(v:Nat) (k:Nat) (new:List AV) (h1:AH),k<=1000->oApp none 1 8 k new (.sl v 0 0 (.known 0)) h1=if k=0 then .val (.sl v 0 0 (.known 0)) h1 else .val (.sl h1.next 0 k (.rest 1)) (h1.add (.cells (zAa new) (k*1) none false)):=λv k new h1 hk=>by
  show bi (Nat.beq k 0) _ (bi (Nat.beq 0 0) (bi (room k 8) _ _) _)=_;rw[bi_eq,bi_eq,if_pos (q0K _),bi_eq,if_pos (rm k hk)];by_cases e:k=0
  ·rw[if_pos e,if_pos (by rw[e];rfl)]
  ·rw[if_neg e,if_neg (λq=>e (q0f q))];rfl
 have S1:zAv 1 vin (h.add (.cells (zAa []) 0 none false))=λk=>k L.length (L.map iv):=by
  funext k;exact K1.src k
 have hA1:=q2g h (.cells (zAa []) 0 none false);by_cases e:L=[]
 ·subst e;refine⟨.sl h.next 0 0 (.known 0),h.add (.cells (zAa []) 0 none false),λh1 e1=>?_,rfl,?_⟩
  ·subst e1;rw[step1 _ _ S1,app0 _ _ _ _ (by decide)];exact if_pos rfl
  ·rw[stepZ,app0 _ _ _ _ (by omega)];by_cases e0:m=0
   ·rw[if_pos e0];exact⟨_,_,rfl,rfl,hA1,.inl ⟨_,rfl,by rw[e0];rfl⟩⟩
   ·rw[if_neg e0];refine⟨_,_,rfl,rfl,hA1.trans (q2g _ _),.inr ?_⟩;have:=zLv (h:=(h.add (.cells (zAa []) 0 none false)).add (.cells (zAa (lrep [nv 0] m)) (m*1) none false)) (F:=λk=>h.next<=k/\k<((h.add (.cells (zAa []) 0 none false)).add (.cells (zAa (lrep [nv 0] m)) (m*1) none false)).next) (id:=h.next+1) (c:=zAa (lrep [nv 0] m)) (xs:=List.replicate m (0:Int)) (λq=>e0 (by simpa using congrArg List.length q)) ⟨by omega,q0h _⟩ (q0h _) (by rw[q2a,q0q];exact q1b _ _ _) λi hi=>by
     rw[zAe,lrz,q0t,q0a hi];rfl
    rw[q0q] at this;exact this
 ·have hl0:¬L.length=0:=λq=>e (q0r q);obtain⟨hB,eB⟩:∃hB,(h.add (.cells (zAa []) 0 none false)).add (.cells (zAa (L.map iv)) (L.length*1) none false)=hB:=⟨_,rfl⟩;have nB:hB.next=h.next+2:=by rw[<-eB];rfl
  have mB:More h hB:=by rw[<-eB];exact hA1.trans (q2g _ _)
  have gB:hB.mem.get (h.next+1)=some (.cells (zAa (L.map iv)) (L.length*1) none false):=by rw[<-eB,q2a];exact q1b _ _ _
  refine⟨.sl (h.next+1) 0 L.length (.rest 1),hB,λh1 e1=>?_,rfl,?_⟩
  ·subst e1;rw[step1 _ _ S1,app0 _ _ _ _ (by omega),if_neg hl0,eB];rfl
  ·rw[stepZ];by_cases e0:m=0
   ·subst e0;refine⟨.sl (h.next+1) 0 L.length (.rest 1),hB,rfl,rfl,mB,.inr ?_⟩;rw[List.replicate_zero,List.append_nil];exact zLv e ⟨by omega,by omega⟩ (by omega) gB λi hi=>by
     rw[zAe,q0t,q0a hi];rfl
   ·have hne:L++List.replicate m (0:Int)≠[]:=λq=>e (List.append_eq_nil_iff.mp q).1;obtain⟨c,ec⟩:∃c,putL (lrep [nv 0] m) (zAa (L.map iv)) (L.length*1)=c:=⟨_,rfl⟩;have key:oApp none 1 8 m (lrep [nv 0] m) (.sl (h.next+1) 0 L.length (.rest 1)) hB=.val (.sl hB.next 0 (L.length+m) (.rest 1)) ((hB.kill (h.next+1)).add (.cells c ((L.length+m)*1) none false)):=by
     show bi (Nat.beq m 0) _ (zAq (AH.get hB (h.next+1)) _)=_;rw[bi_eq,if_neg (λq=>e0 (q0f q)),q2f,gB];show bi (Nat.ble (Nat.add 0 (Nat.mul (Nat.add L.length m) 1)) (L.length*1)) (obind (zBr (lrep [nv 0] m) (zAa (L.map iv)) (Nat.add 0 (Nat.mul L.length 1))) (F 51) λc'=>OR.val (AV.sl (h.next+1) 0 (Nat.add L.length m) (.rest 1)) (AH.set hB (h.next+1) (AObj.cells c' (L.length*1) none false))) (bi (room (Nat.add L.length m) 8) (AH.new (AH.kill hB (h.next+1)) (AObj.cells (putL (lrep [nv 0] m) (zAa (L.map iv)) (Nat.mul L.length 1)) (Nat.mul (Nat.add L.length m) 1) (tgm none none) false) λid h=>OR.val (AV.sl id 0 (Nat.add L.length m) (ACap.rest 1)) h) (F 52))=_;rw[bi_eq,if_neg (λq=>by have:=q0g q;have:0+(L.length+m)*1<=L.length*1:=this;omega),bi_eq,if_pos (show room (Nat.add L.length m) 8=true from rm (L.length+m) (by omega))];rw[<-ec];rfl
    rw[key];have kn:(hB.kill (h.next+1)).next=hB.next:=rfl;refine⟨_,_,rfl,rfl,⟨by show h.next<=hB.next+1;omega,λj hj=>?_⟩,.inr ?_⟩
    ·rw[q2a,kn,q1a _ _ _ _ (by omega)];show(T.put none hB.mem (h.next+1)).get j=_;rw[q1a _ _ _ _ (by omega)];exact mB.keep j hj
    ·have hlen:(L++List.replicate m (0:Int)).length=L.length+m:=by rw[q0o,q0q]
     have:=zLv (h:=(hB.kill (h.next+1)).add (.cells c ((L.length+m)*1) none false)) (F:=λk=>h.next<=k/\k<((hB.kill (h.next+1)).add (.cells c ((L.length+m)*1) none false)).next) (id:=hB.next) (c:=c) hne ⟨by omega,q0h _⟩ (q0h _) (by rw[q2a,kn,hlen];exact q1b _ _ _) λi hi=>by
      rw[<-ec,zB9,lrz,q0j,q0q,Nat.mul_one];by_cases h1:i<L.length
      ·rw[if_neg (by omega),zAe,q0t,q0a h1,List.getElem_append_left h1];rfl
      ·rw[if_pos (by omega),q0t,List.getElem_append_right (by omega),q0z,if_pos (by omega),List.getElem_replicate];rfl
     rw[hlen] at this;exact this
section
variable{tab:Nat->Option AFunc}{h0 h:AH}(H:PV tab)
end
def PtOK(R:Nat->ResD)(i m:Nat):Prop:=0<m/\(R m).out.length=i+1/\(R (m-1)).out.length=i
structure Pts(R:Nat->ResD)(n:Nat)(xs:List (Int×Nat)):Prop where
 len:xs.length=(R n).out.length
 val:xs.map Prod.fst=(R n).out
 ok:∀i (hi:i<xs.length),PtOK R i xs[i].2/\xs[i].2<=(R n).steps
theorem InpK.box{h:AH}{v:AV}{xs:List Int}(x:InpK h v xs):∀h',oBox (.c v) .leaf [] h'=.val (.ptr h'.next 0) (h'.add (.cells (cell1 v) 1 none false)):=λh'=>by
 rcases x with⟨rfl,rfl⟩ | ⟨id,off,cap,rfl,_⟩<;>rfl
section
variable{tab:Nat->Option AFunc}{h0 h:AH}(H:PV tab)
def RunsOK(tab:Nat->Option AFunc)(h0:AH)(E:List AV)(vin:AV)(R:Nat->ResD):Prop:=∀(h:AH) (_:More h0 h) (n:Nat),n<=99998->GP tab 11 [.agg E,vin,.int .i64 (n:Int)] h λv h1=>∃vo,v=.tup [.agg [vo,nv (R n).fin,nv (R n).fault,nv (R n).steps,nv (R n).made],nv (R n).framed,nv 0]/\Arr h1 (λk=>h.next<=k) vo ((R n).out.map iv)/\More h h1
include H in
theorem runsOK(Ph:zIh tab){E:List AV}{p:ProgD}(r:ProgV h0 E p)(b:Bnd p)(hv:zCz p=true){vin:AV}{L:List Int}(hL:∀z∈L,I64 z)(ik:InpK h0 vin L):RunsOK tab h0 E vin (execV p (doS tab) (λi=>L.getD i 0)):=λh m0 n hn=>by
 refine(exec_gp H Ph r m0 b (own:=false) (Z:=λ_=>False) (λ_ h=>h.elim) hL (λ_=>ik) (λh=>by cases h) (fuel:=(n:Int)) ⟨by omega,by omega⟩ (by omega)).mono λv h1 q=>?_;rw[if_pos hv,if_neg (by omega),q0n] at q;obtain⟨vo,e,a,k⟩:=q;exact⟨vo,e,a.to (q0c _) λj hj _=>⟨hj.resolve_right id,rfl⟩,k.1,λj hj=>k.2 j hj id⟩
end
section
variable{tab:Nat->Option AFunc}{h0 h:AH}(H:PV tab)
include H in
theorem execZeros_gp(Y:tab 9=some yesF)(Ph:zIh tab){E:List AV}{p:ProgD}(r:ProgV h E p){vin:AV}{L:List Int}(hL:∀z∈L,I64 z)(ik:InpK h vin L){fuel zeros:Int}:GP tab 4 [.agg E,vin,.int .i64 fuel,.int .i64 zeros] h λw _=>w=.bool true:=by
 have i0:∀{a},zAb [.agg a,vin,.int .i64 fuel,.int .i64 zeros]=zAa [.agg a,vin,.int .i64 fuel,.int .i64 zeros]:=rfl;obtain⟨vs,vg,vf,rfl,s1,s2,s3⟩:=id r;have mvi:=ik.mv0;have li:=ik.len;refine gpr H.t4 ?_;obtain⟨hA,eA⟩:∃hA,h.add (.cells (zAa [vs,vg,vf]) 3 none false)=hA:=⟨_,rfl⟩;have mA:More h hA:=by rw[<-eA];exact q2g _ _
 have nA:hA.next=h.next+1:=by rw[<-eA];rfl
 have gA:hA.mem.get h.next=some (.cells (zAa [vs,vg,vf]) 3 none false):=by rw[<-eA,q2a];exact q1b _ _ _
 have lp:∀(h':AH) [MoreC hA h'],zAy 3 (.c (.ptr h.next 0)) .leaf [] h'=.val (.agg [vs,vg,vf]) h':=λh' _=>zAp (kp gA (by omega)) rfl;simp+decide only[RL,i0,eA];refine(gp_yes (Q:=λv h1=>v=.bool true/\h1=hA) Y ⟨rfl,rfl⟩).to λw h1 q=>?_;obtain⟨rfl,rfl⟩:=q;simp+decide only[RL,↓reduceIte,lp];refine(great13_gp H (r.more mA)).to λw h2 q=>?_;obtain⟨⟨b,rfl,hb⟩,m2⟩:=q;haveI:MoreC h1 h2:=⟨m2⟩;cases b with
 | true=>simp+decide only[RL,↓reduceIte]
 | false=>
 have B:=hb rfl;by_cases c1:((100:Nat):Int)<(L.length:Int)
 ·simp+decide only[RL,↓reduceIte,mvi,li,c1]
 by_cases c2:fuel<((0:Nat):Int)
 ·simp+decide only[RL,↓reduceIte,mvi,li,c1,c2]
 by_cases c3:((2048:Nat):Int)<fuel
 ·simp+decide only[RL,↓reduceIte,mvi,li,c1,c2,c3]
 simp+decide only[RL,↓reduceIte,mvi,li,c1,c2,c3,lp];have M2:=mA.trans m2;refine(valid_gp H (r.more M2) B.grt).to λw h3 q=>?_;obtain⟨rfl,m3⟩:=q;haveI:MoreC h1 h3:=⟨m2.trans m3⟩;have M3:=M2.trans m3;cases hv:zCz p with
 | false=>simp+decide only[RL,↓reduceIte]
 | true=>
 obtain⟨n,rfl⟩:∃n:Nat,fuel=n:=⟨fuel.toNat,by omega⟩;obtain⟨R,eR⟩:∃R,execV p (doS tab) (λi=>L.getD i 0)=R:=⟨_,rfl⟩;have La:Ladder R:=by rw[<-eR];exact ladder hv
 obtain⟨k,hk,ek⟩:=modU (show 0<50 by decide) zeros;have er:∀h',oBin .rem (.c (.int .u64 (IntKind.u64.wrap zeros))) (.c (.int .u64 ((50:Nat):Int))) .leaf [] h'=.val (.int .u64 (k:Int)) h':=λh'=>by rw[bin_rem (by decide),ek]
 have wk:IntKind.i64.wrap (k:Int)=(k:Int):=zFt (by omega);obtain⟨v1,h4,ap,mv1,v2,h5,az,mv2,m5,alt⟩:=more_row (ik.more M3) (show L.length<=100 by omega) hk;have ap:=ap _ rfl;have mv1:∀h',oMove (.c v1) .leaf [] h'=.val v1 h':=λ_=>zAg mv1;have mv2:∀h',oMove (.c v2) .leaf [] h'=.val v2 h':=λ_=>zAg mv2;have M5:=M3.trans m5;haveI:MoreC h1 h5:=⟨(m2.trans m3).trans m5⟩;have run:=runsOK H Ph r B hv hL ik;rw[eR] at run;simp+decide only[RL,↓reduceIte,mvi,lp,ap,er,wk,op_appendZ,az,mv2];refine(run _ M5 _ (by omega)).to λw h6 q=>?_;obtain⟨vo1,rfl,a1,m6⟩:=q;obtain⟨c1,ec1⟩:∃cb,cb=T.put (some (nv (R n).made)) (T.put (some (nv (R n).steps)) (T.put (some (nv (R n).fault)) (T.put (some (nv (R n).fin)) (T.put (some vo1) (zAa [.nils,nv 0,nv 0,nv 0,nv 0]) 0) 1) 2) 3) 4:=⟨_,rfl⟩;obtain⟨h7,e7⟩:∃hh,(h6.add (.cells (zAa [.nils,nv 0,nv 0,nv 0,nv 0]) 5 none false)).set h6.next (.cells c1 5 none false)=hh:=⟨_,rfl⟩;have m7:More h6 h7:=by rw[<-e7];exact(q2g _ _).set (q0c _) _
 have n7:h7.next=h6.next+1:=by rw[<-e7];rfl
 have g7:h7.mem.get h6.next=some (.cells c1 5 none false):=by rw[<-e7];exact q2d
 have k10:c1.get 0=some vo1:=by rw[ec1];rfl
 have k11:c1.get 1=some (nv (R n).fin):=by rw[ec1];rfl
 have k13:c1.get 3=some (nv (R n).steps):=by rw[ec1];rfl
 have k14:c1.get 4=some (nv (R n).made):=by rw[ec1];rfl
 have k15:loadL c1 5 0=some [vo1,nv (R n).fin,nv (R n).fault,nv (R n).steps,nv (R n).made]:=by rw[ec1];rfl
 rw[ec1] at e7;have M7:=(M5.trans m6).trans m7;haveI:MoreC h1 h7:=⟨((m2.trans m3).trans m5).trans (m6.trans m7)⟩;have nx5:=m5.next;have nx6:=m6.next;have run2:GP tab 11 [.agg [vs,vg,vf],v2,.int .i64 (n:Int)] h7 λv h8=>∃vo,v=.tup [.agg [vo,nv (R n).fin,nv (R n).fault,nv (R n).steps,nv (R n).made],nv (R n).framed,nv 0]/\Arr h8 (λj=>h3.next<=j) vo ((R n).out.map iv)/\h7.next<=h8.next/\∀j,j<h7.next->¬(h3.next<=j/\j<h5.next)->h8.mem.get j=h7.mem.get j:=by
  rcases alt with⟨id,rfl,e⟩ | io
  ·have eL:L=[]:=(List.append_eq_nil_iff.mp e).1;have:=runsOK H Ph (r.more M7) B hv (vin:=.sl id 0 0 (.known 0)) (L:=[]) (λz hz=>by cases hz) (.inr ⟨id,0,0,rfl,q0c _,λh=>absurd rfl h⟩) h7 (q2o _) n (by omega);rw[eL] at eR;rw[eR] at this;refine this.mono λv h8 q=>?_;obtain⟨vo,e1,a,m⟩:=q;exact⟨vo,e1,a.to (q0c _) λj hj _=>⟨by omega,rfl⟩,m.next,λj hj _=>m.keep j hj⟩
  ·have io7:InpO h7 (λj=>(h3.next<=j/\j<h5.next)/\j<h7.next) v2 (L++List.replicate k 0):=io.to (by omega) λj hj hlt=>⟨⟨hj,by omega⟩,(m6.trans m7).keep j hlt⟩;have h64:∀z∈L++List.replicate k 0,I64 z:=λz hz=>by
    rcases List.mem_append.mp hz with hz | hz
    ·exact hL z hz
    ·rw[(List.mem_replicate.mp hz).2];exact⟨by decide,by decide⟩
   refine(exec_gp H Ph (r.more M3) ((m5.trans m6).trans m7) B (own:=true) (Z:=λj=>h3.next<=j/\j<h5.next) (λj hj=>hj.1) h64 (λh=>by cases h) (λ_=>io7) (fuel:=(n:Int)) ⟨by omega,by omega⟩ (by omega)).mono λv h8 q=>?_;rw[if_pos hv,if_neg (by omega),q0n,show(λi=>(L++List.replicate k (0:Int)).getD i 0)=λi=>L.getD i 0 from funext λi=>getD_zeros L k i,eR] at q;obtain⟨vo,e1,a,kz⟩:=q;exact⟨vo,e1,a.to (q0c _) λj hj _=>⟨by rcases hj with hj | hj<;>omega,rfl⟩,kz.1,kz.2⟩
 simp+decide only[RL,↓reduceIte,mv2,lp,e7];refine run2.to λw h8 q=>?_;obtain⟨vo2,rfl,a2,nx8,kp8⟩:=q;obtain⟨c2,ec2⟩:∃cb,cb=T.put (some (nv (R n).made)) (T.put (some (nv (R n).steps)) (T.put (some (nv (R n).fault)) (T.put (some (nv (R n).fin)) (T.put (some vo2) (zAa [.nils,nv 0,nv 0,nv 0,nv 0]) 0) 1) 2) 3) 4:=⟨_,rfl⟩;obtain⟨h9,e9⟩:∃hh,(h8.add (.cells (zAa [.nils,nv 0,nv 0,nv 0,nv 0]) 5 none false)).set h8.next (.cells c2 5 none false)=hh:=⟨_,rfl⟩;have m9:More h8 h9:=by rw[<-e9];exact(q2g _ _).set (q0c _) _
 have n9:h9.next=h8.next+1:=by rw[<-e9];rfl
 have g9:h9.mem.get h8.next=some (.cells c2 5 none false):=by rw[<-e9];exact q2d
 have k20:c2.get 0=some vo2:=by rw[ec2];rfl
 have k21:c2.get 1=some (nv (R n).fin):=by rw[ec2];rfl
 have k23:c2.get 3=some (nv (R n).steps):=by rw[ec2];rfl
 have k24:c2.get 4=some (nv (R n).made):=by rw[ec2];rfl
 have k25:loadL c2 5 0=some [vo2,nv (R n).fin,nv (R n).fault,nv (R n).steps,nv (R n).made]:=by rw[ec2];rfl
 rw[ec2] at e9;have b1:SlV h9 1 IntE vo1 (R n).out:=(a1.to (h':=h9) (G:=λ_=>True) (by omega) λj hj hlt=>⟨trivial,by rw[m9.keep j (by omega),kp8 j (by omega) (by omega),m7.keep j hlt]⟩).slE;have b2:=(a2.slE).more (R':=IntE) m9 λ_ _ q=>q;have g79:h9.mem.get h6.next=some (.cells c1 5 none false):=by rw[m9.keep _ (by omega),kp8 _ (by omega) (by omega)];exact g7
 simp+decide only[RL,↓reduceIte,e9,g9,g79,k15,k25];refine(sameR_gp H b1 b2).to λw h10 q=>?_;obtain⟨rfl,m10⟩:=q;rw[decide_eq_true (show _/\_/\_ from⟨rfl,rfl,rfl⟩)];have g7a:=(m10.keep _ (by omega:h6.next<h9.next)).trans g79;have g9a:=(m10.keep _ (by omega:h8.next<h9.next)).trans g9;simp+decide only[RL,↓reduceIte,g7a,g9a,k13,k14,k23,k24]
end
end Go.Ev
