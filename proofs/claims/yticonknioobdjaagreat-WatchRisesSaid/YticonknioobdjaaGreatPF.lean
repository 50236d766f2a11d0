/- EvC EvCh EvNs -/
import Derived.Test.YticonknioobdjaaGreatPE
import Derived.Test.YticonknioobdjaaGreatPD
set_option linter.unusedSimpArgs false
set_option linter.unusedVariables false
set_option linter.unusedSectionVars false
set_option linter.defProp false
set_option maxRecDepth 100000
set_option maxHeartbeats 4000000
namespace Go.Ev
open Go
variable[Glob]
section
variable{P:Program}
def isNext:AOp->Bool
 | .next _=>true
 | _=>false
theorem cOp_next{cx:Operand->Option Opd}{kill:Bool}{op:Op}{x:Opd}(h:cOp P cx kill op=some (.next x)):∃it,op=.next it false/\cx it=some x:=by
 have key:∀ao,cOp P cx kill op=some ao->isNext ao=true->∃it,op=.next it false/\(cx it).map AOp.next=some ao:=by
  intro ao h hn;unfold cOp at h;split at h
  all_goals (try (exact⟨_,rfl,h⟩))
  all_goals exfalso
  all_goals repeat' (first
   | (cases h;done)
   | (injection h with h;subst h;cases hn;done)
   | (obtain⟨_,_,rfl⟩:=mapS h;cases hn;done)
   | (obtain⟨_,_,h⟩:=bindS h)
   | split at h)
 obtain⟨it,e,hm⟩:=key _ h rfl;obtain⟨y,hy,e2⟩:=mapS hm;injection e2 with e2;subst e2;exact⟨it,e,hy⟩
theorem run_choose{w:World}{k:Nat}(hk:0<k):∃c w2,(choose (.mapNext k)).run P w=.ok c w2/\c<k/\w2.heap=w.heap/\Same w w2:=by
 by_cases h:k<=1
 ·refine⟨0,w,?_,hk,rfl,.refl w⟩;simp[choose,Sem.run,Question.forced,h]
 ·refine⟨_,{w with drawn:=w.drawn+1},?_,Nat.mod_lt (w.tape w.drawn (.mapNext k)) hk,rfl,⟨rfl,rfl,rfl⟩⟩;simp[choose,Sem.run,Question.forced,h,Question.cut]
theorem ERs.mem{ρ:Rho}:∀{l:List (AV×AV×Nat)} {l':List MapEntry},ERs ρ l l'->∀e∈l',∃a x n,(a,x,n)∈l/\VR ρ a e.key/\VR ρ x e.val/\e.born=n
 | _,_,.nil,e,h=>by cases h
 | _,_,.cons a b c r,e,h=>by
  rcases List.mem_cons.mp h with rfl | h
  ·exact⟨_,_,_,q0H ..,a,b,c⟩
  ·obtain⟨a,x,n,h1,h2⟩:=r.mem e h;exact⟨a,x,n,q0s _ h1,h2⟩
theorem ERs.back{ρ:Rho}:∀{l:List (AV×AV×Nat)} {l':List MapEntry},ERs ρ l l'->∀p∈l,∃e∈l',e.born=p.2.2
 | _,_,.nil,e,h=>by cases h
 | _,_,.cons a b c r,e,h=>by
  rcases List.mem_cons.mp h with rfl | h
  ·exact⟨_,q0H ..,c⟩
  ·obtain⟨e,h1,h2⟩:=r.back e h;exact⟨e,q0s _ h1,h2⟩
theorem older_run'{ρ:Rho}{last:Nat}{es:List (AV×AV×Nat)}{es':Array MapEntry}{seen:List Nat}(he:ERs ρ es es'.toList)(ok:seen=[]\/es=[]\/older last es=true):(!seen.reverse.toArray.isEmpty&&!es'.isEmpty&&es'.all (λx=>decide (x.born>=last)))=false:=by
 rcases ok with rfl | rfl | h
 ·simp
 ·have:=ERs_nil he;have he0:es'=#[]:=by apply Array.ext';simpa using this
  rw[he0];simp
 ·have:=zJd he h;have h2:es'.all (λx=>decide (x.born>=last))=false:=by rw[<-Array.all_toList];exact this
  rw[h2,q0N]
theorem next_any{ρ:Rho}{h:AH}{w:World}{ty:TypeId}{vi:Value}{id m since last clock:Nat}{seen:List Nat}{es:List (AV×AV×Nat)}(W:WR ρ h w)(hi:VR ρ (.ptr id 0) vi)(g1:h.mem.get id=some (.iter (some m) since seen last))(g2:h.mem.get m=some (.map es clock))
  (ok:seen=[]\/es=[]\/older last es=true) (old:∀e∈es,e.2.2∉seen->e.2.2<since) :
  ∃v v' w' h',(Instr.next vi false ty).run P w=.ok v' w'/\VR ρ v v'/\WR ρ h' w'/\Step ρ h w ρ h' w'/\((v=.tup [.bool false]/\h'=h/\∀e∈es,e.2.2∈seen)\/∃a x n,(a,x,n)∈es/\n∉seen/\v=.tup [.bool true,a,x]/\h'=h.set id (.iter (some m) since (n::seen) clock)):=by
 cases hi with
 | ptr hrho hp=>
  obtain⟨y,hy,hyr⟩:=W.obj g1 hrho;subst hp;cases hyr with
  | iter hm hseen=>
   rename_i ib isz seen2 blk sblk;subst hseen;obtain⟨es',hb,he,_⟩:=W.getMap g2 hm;have htest:=older_run' he ok;have hnew:(es'.filter λe=>!seen.reverse.toArray.contains e.born).filter (λe=>decide (e.born>=since))=#[]:=by
    apply Array.ext';simp only[Array.toList_filter,List.filter_filter,List.filter_eq_nil_iff,q0C,decide_eq_true_eq,Bool.not_eq_true',not_and];intro e hm he2;obtain⟨a,x,n,h1,_,_,h4⟩:=he.mem e hm;simp only[List.contains_toArray,List.contains_eq_mem,decide_eq_false_iff_not];intro hns;have:=old _ h1 (by rw[<-h4];simpa using hns);simp only at this;omega
   have hold:(es'.filter λe=>!seen.reverse.toArray.contains e.born).filter (λe=>decide (e.born<since))=es'.filter λe=>!seen.reverse.toArray.contains e.born:=by
    apply Array.ext';simp only[Array.toList_filter,List.filter_filter];apply List.filter_congr;intro e hm;obtain⟨a,x,n,h1,_,_,h4⟩:=he.mem e hm;cases hc:seen.reverse.toArray.contains e.born with
    | true=>simp
    | false=>
     have:e.born<since:=by
      have:=old _ h1 (by rw[<-h4];simpa using hc);simp only at this;omega
     simp[this]
   have hy':=zDv (P:=P) hy (λ_ _ _=>Obj.noConfusion);rcases Nat.eq_zero_or_pos (es'.filter λe=>!seen.reverse.toArray.contains e.born).size with hz | hpos
   ·have hl:(es'.filter λe=>!seen.reverse.toArray.contains e.born)=#[]:=Array.size_eq_zero_iff.mp hz;refine⟨.tup [.bool false],.tuple #[.bool false],w,h,?_,.tup (.cons (.bool _) .nil) rfl,W,.refl _ _ _,.inl ⟨rfl,rfl,λe hme=>?_⟩⟩
    ·simp only[Instr.next,Sem.run_bind,hy',Result.andThen_ok,MapKept.run_getObj_map hb,htest,q0G,if_false,hl];simp[choose,Sem.run,Question.forced]
    ·obtain⟨e2,h1,h2⟩:=he.back e hme;have:e2∉(es'.filter λe=>!seen.reverse.toArray.contains e.born).toList:=by rw[hl];simp
     rw[<-h2];simp only[Array.toList_filter,List.mem_filter,not_and] at this;have:=this h1;simpa using this
   ·obtain⟨c,w2,hr,hc,hh,hs⟩:=run_choose (P:=P) (w:=w) hpos;generalize hL:(es'.filter λe=>!seen.reverse.toArray.contains e.born)=L at *;have hEm:∀e,e∈L->e∈es'.toList/\e.born∉seen:=by
     intro e hm2;rw[<-hL] at hm2;simpa using hm2
    obtain⟨hE1,hE2⟩:=hEm _ (Array.getElem_mem hc);obtain⟨a,x,n,h1,h2,h3,h4⟩:=he.mem _ hE1;have hn:n∉seen:=by rw[<-h4];exact hE2
    have W2:=W.of_heap hh;have S2:Step ρ h w ρ h w2:=Step.of_heap hh hs;have hy2:w2.heap[ib]?=some (.mapIter (some blk) since seen.reverse.toArray last):=by rw[hh];exact hy
    have hset:=W2.set (o':=.iter (some m) since (n::seen) clock) (x:=.mapIter (some blk) since (seen.reverse.toArray.push L[c].born) clock) (w':={w2 with heap:=w2.heap.setIfInBounds ib (.mapIter (some blk) since (seen.reverse.toArray.push L[c].born) clock)}) g1 rfl hrho rfl (.iter hm (by simp[h4])) (MapKept.heap_set hy2).1 (λk hk=>(MapKept.heap_set hy2).2 k hk) (by simp) ⟨rfl,rfl,rfl⟩;refine⟨.tup [.bool true,a,x],.tuple #[.bool true,L[c].key,L[c].val],_,h.set id (.iter (some m) since (n::seen) clock),?_,.tup (.cons (.bool _) (.cons h2 (.cons h3 .nil))) rfl,hset.1,S2.trans hset.2,.inr ⟨a,x,n,h1,hn,rfl,rfl⟩⟩;have hne:L.isEmpty=false:=by simpa[Array.isEmpty_iff] using λe=>by rw[e] at hpos;simp at hpos
    have hcand:((if L.isEmpty=true then #[none] else #[])++(L++#[]).map some:Array (Option MapEntry))=L.map some:=by rw[hne];simp
    simp only[Instr.next,Sem.run_bind,hy',Result.andThen_ok,MapKept.run_getObj_map hb,htest,q0G,if_false,hL,hold,hnew];simp only[hcand,Array.size_map,hr,Result.andThen_ok];have hget:(L.map some)[c]?=some (some L[c]):=by simp[hc]
    simp only[hget];have hy2':w2.heap[ib]?=some (.mapIter (some blk) since seen.reverse.toArray last):=hy2;simp[setObj,Sem.run,hy2']
end
def NextN(o:Opd)(j:Nat)(loc:T AV)(d:List AV)(h:AH)(Q:Res->Prop):Prop:=
 ∃id m since last clock seen es,ev loc [] o=.ptr id 0/\h.mem.get id=some (.iter (some m) since seen last)/\h.mem.get m=some (.map es clock)/\(seen=[]\/es=[]\/older last es=true)/\(∀e∈es,e.2.2∉seen->e.2.2<since)/\
  ((∀e∈es,e.2.2∈seen)->Q (.norm (T.put (some (.bool false)) loc j) d h))/\∀a x n,(a,x,n)∈es->n∉seen->Q (.norm (T.put (some (.bool true)) loc j) d (h.set id (.iter (some m) since (n::seen) clock)))
def NCf(tab:Nat->Option AFunc):Nat->ACode->T AV->List AV->AH->(Res->Prop)->Prop
 | 0,_,_,_,_,_=>False
 | n+1,c,loc,d,h,Q=>(∃r,Does tab c loc d h r/\Q r)\/match c with
  | .seq a b=>NCf tab n a loc d h (zC4 (λl d h=>NCf tab n b l d h Q) Q)
  | .cond o a b=>∃q,ev loc [] o=.bool q/\(q=true->NCf tab n a loc d h Q)/\(q=false->NCf tab n b loc d h Q)
  | .block id a=>NCf tab n a loc d h λr=>Q (zCc id r)
  | .loop a=>NCf tab n a loc d h (zC4 (λl d h=>NCf tab n (.loop a) l d h Q) Q)
  | .ops [⟨.next o,none,none,[]⟩,⟨.extract 0 (.t 0),none,some j,[]⟩]=>NextN o j loc d h Q
  | _=>False
def zCp:Code->Bool
 | .region _ ops draw=>!draw||ops.all λo=>match o.op with | .next ..=>false | _=>true
 | .seq a b | .cond _ a b=>zCp a&&zCp b
 | .block _ a | .loop a=>zCp a
 | _=>true
section
variable{P:Program}{tab:Nat->Option AFunc}
def QN(ρ:Rho)(h:AH)(w:World)(m:List Nat)(n:Nat)(Q:Res->Prop)(e:Exit)(a:Act)(w':World):Prop:=∃r,Q r/\QRes ρ h w m n r e a w'
theorem QN.trans{ρ0 ρ:Rho}{h0 h:AH}{w0 w:World}{m:List Nat}{n:Nat}{Q:Res->Prop}{e:Exit}{a':Act}{w':World}(S:Step ρ0 h0 w0 ρ h w)(p:QN ρ h w m n Q e a' w'):QN ρ0 h0 w0 m n Q e a' w':=by
 obtain⟨r,q,x⟩:=p;exact⟨r,q,x.trans S⟩
def NCode(P:Program)(tab:Nat->Option AFunc)(n:Nat):Prop:=∀(m:List Nat) (N:Nat) (c:Code) (c':ACode),cCode P m c=some c'->dstOk N c=true->zCp c=true->∀(loc:T AV) (d:List AV) (h:AH) (Q:Res->Prop),NCf tab n c' loc d h Q->
 ∀(ρ:Rho) (a:Act) (w:World),LocR ρ m loc a->WR ρ h w->DefsR ρ d a.defers->N<=a.tmps.size->c.wp P (QN ρ h w m a.tmps.size Q) a w
def NLoop(P:Program)(tab:Nat->Option AFunc)(n:Nat):Prop:=∀(m:List Nat) (N:Nat) (c:Code) (c':ACode),cCode P m c=some c'->dstOk N c=true->zCp c=true->∀(loc:T AV) (d:List AV) (h:AH) (Q:Res->Prop),NCf tab n (.loop c') loc d h Q->
 ∀(ρ:Rho) (a:Act) (w:World),LocR ρ m loc a->WR ρ h w->DefsR ρ d a.defers->N<=a.tmps.size->wpL P c (QN ρ h w m a.tmps.size Q) a w
theorem thenN{ρ:Rho}{h:AH}{w:World}{m:List Nat}{n:Nat}{Q:Res->Prop}{K:T AV->List AV->AH->Prop}{G:Act->World->Prop}(hn:∀loc d h' a' w',K loc d h'->Post ρ h w m n loc d h' a' w'->G a' w') :
  ∀e a' w',QN ρ h w m n (zC4 K Q) e a' w'->Exit.then G (QN ρ h w m n Q) e a' w':=by
 rintro e a' w' ⟨r,q,x⟩;cases r with
 | norm loc d h'=>cases e<;>first | exact x.elim | exact hn _ _ _ _ _ q x
 | exit id loc d h'=>cases e<;>first | exact x.elim | exact⟨_,q,x⟩
 | ret loc d h'=>cases e<;>first | exact x.elim | exact⟨_,q,x⟩
 | pan v loc d h'=>cases e<;>first | exact x.elim | exact⟨_,q,x⟩
 | fail l=>cases e<;>exact x.elim
theorem zH6{Q Q':Exit->Act->World->Prop}(hq:∀e a w,Q e a w->Q' e a w)(x:LetsOut Q):LetsOut Q':=let⟨a,w,q⟩:=x;⟨a,w,hq _ _ _ q⟩
theorem oper_monoQ{o:Oper}{a:Act}{w:World}{K K':Act->World->Prop}{Q Q':Exit->Act->World->Prop}(hk:∀a w,K a w->K' a w)(hq:∀e a w,Q e a w->Q' e a w)(hh:o.wp P a w K Q):o.wp P a w K' Q':=by
 unfold Oper.wp at *;generalize (execOp a.eval o).run P w=r at *;cases r with
 | ok n w'=>
  cases n<;>simp only[Oper.upon] at hh ⊢ <;>
   first
    | exact hk _ _ hh
    | exact Calls.mono hh (λe w'' he=>by cases e<;>first | exact hk _ _ he | exact hq _ _ _ he | exact zH6 hq he)
    | exact Rows.mono hh (λ_ _ he=>hk _ _ he)
 | halt x w'=>cases x<;>simp only[Oper.upon] at hh ⊢<;>first | exact hq _ _ _ hh | exact hh
theorem zEs{ops:Array Oper}{Q Q':Exit->Act->World->Prop}(hq:∀e a w,Q e a w->Q' e a w):∀(l:List Nat) (a:Act) (w:World),wpOps P ops Q l a w->wpOps P ops Q' l a w
 | [],a,w,h=>hq _ _ _ h
 | i::l,a,w,h=>by
  unfold wpOps at h ⊢;cases ho:ops[i]? with
  | none=>rw[ho] at h;exact zEs hq l a w h
  | some o=>
   rw[ho] at h;simp only at h ⊢;split
   ·rename_i hw;rw[if_pos hw] at h;rcases h with h | ⟨h1,h2⟩
    ·exact .inl (oper_monoQ (λa w=>zEs hq l a w) hq h)
    ·exact .inr ⟨h1,zH6 hq h2⟩
   ·rename_i hw;rw[if_neg hw] at h;exact zEs hq l _ w h
theorem next_region{m:List Nat}{N id:Nat}{ops:Array Oper}{o:Opd}{j:Nat}{loc:T AV}{d:List AV}{h:AH}{Q:Res->Prop}(htab:TabOK P tab)(hm:P.follows .mixedOrders=true)(hc:zIf P m ops ops.toList []=some [⟨.next o,none,none,[]⟩,⟨.extract 0 (.t 0),none,some j,[]⟩])
  (hd:∀o∈ops,∀x,o.dst=some x->x<N) (hx:NextN o j loc d h Q) {ρ:Rho} {a:Act} {w:World} (L:LocR ρ m loc a) (W:WR ρ h w) (D:DefsR ρ d a.defers) (hN:N<=a.tmps.size) :
  (Code.region id ops false).wp P (QN ρ h w m a.tmps.size Q) a w:=by
 obtain⟨ii,mm,since,last,clock,seen,es,e0,g1,g2,ok,old,hend,hone⟩:=hx;cases hl:ops.toList with
 | nil=>rw[hl] at hc;cases hc
 | cons o0 rest=>
  rw[hl] at hc;obtain⟨ao,hao,hc⟩:=bindS hc;obtain⟨aos',haos,hc⟩:=bindS hc;injection hc with hc;injection hc with hc1 hc2;subst hc1;subst hc2;obtain⟨op,hop,hao⟩:=bindS hao;obtain⟨g,hg,hao⟩:=bindS hao;injection hao with hao;injection hao with e1 e2 e3 e4;subst e1;subst e2;obtain⟨it,hit,hcx⟩:=cOp_next hop;have hk:ops[0]?=some o0:=by
   have:ops.toList[0]?=some o0:=by rw[hl];rfl
   simpa using this
  have hmem:o0∈ops:=Array.mem_of_getElem? hk;have hdo:∀x,o0.dst=some x->x<a.tmps.size:=λx hx=>q0d (hd o0 hmem x hx) hN;have X:=zHk (ρ:=ρ) (tmp:=[]) (ts:=[]) L zHb;refine wp_region ?_;have hrange:List.range ops.size=0::List.range' 1 rest.length:=by
   have:ops.size=rest.length+1:=by rw[<-Array.length_toList,hl];rfl
   rw[this,List.range_eq_range',List.range'_succ]
  rw[hrange];unfold wpOps;rw[hk];simp only;rw[if_pos (zFs (loc:=loc) (tmp:=[]) hg (λgi want dd y _ _ h3=>X _ _ h3) rfl)];left;have hv:VR ρ (.ptr ii 0) (a.eval it):=by have:=X _ _ hcx;rw[e0] at this;exact this
  obtain⟨v,v',w',h',hrun,hvr,W',S',hres⟩:=next_any (P:=P) (ty:=o0.type) W hv g1 g2 ok old;have hexec:(execOp a.eval o0).run P w=.ok (.value v') w':=by
   unfold execOp;rw[hit];exact zAf hrun
  unfold Oper.wp;rw[hexec];show wpOps P ops _ (List.range' 1 rest.length) (a.put o0.dst v') w';have hdf:(a.put o0.dst v').defers=a.defers:=by cases o0.dst<;>rfl
  have hL:=LocR.put hdo hvr (L.mono S'.le);rw[e3] at hL;have hT:TmpR ρ [o0.dst] [v] (a.put o0.dst v'):=TmpR.put hdo hvr zHb;have hcall:zHa P (zAv tab (evC tab 0)):=call_ok htab (all_ok hm htab 0).1;have fin:∀b h2,(∃l,v=.tup (.bool b::l))->h'=h2->Q (.norm (T.put (some (.bool b)) loc j) d h2)->wpOps P ops (QN ρ h w m a.tmps.size Q) (List.range' 1 rest.length) (a.put o0.dst v') w':=by
   intro b h2 hb hh hq;subst hh;have ho:evOps (zAv tab (evC tab 0)) [⟨.extract 0 (.t 0),none,some j,[]⟩] loc [⟨.extract 0 (.t 0),none,some j,[]⟩] loc [v] d h'=.norm (T.put (some (.bool b)) loc j) d h':=by
    obtain⟨l,hb⟩:=hb;rw[hb];rfl
   have key:=zGt (P:=P) (m:=m) (ops:=ops) (call:=zAv tab (evC tab 0)) (whole:=[⟨.extract 0 (.t 0),none,some j,[]⟩]) (loc0:=loc) (ρ0:=ρ) (h0:=h) (w0:=w) (n:=a.tmps.size) hcall (λo ho x hx=>q0d (hd o ho x hx) hN)
    rest 1 [o0.dst] _ loc [v] d h' ρ (a.put o0.dst v') w' _ (by rw[hl];rfl) haos ho trivial hL hT W' (by rw[hdf];exact D) S' (by rw[zEv]) (λo ho k hk=>List.mem_filterMap.2 ⟨o,ho,hk⟩) (λ_ _=>rfl)
   exact zEs (λe a2 w2 q=>⟨_,hq,q⟩) _ _ _ key
  rcases hres with⟨rfl,rfl,hall⟩ | ⟨k,x,n,hin,hns,rfl,rfl⟩
  ·exact fin false h' ⟨_,rfl⟩ rfl (hend hall)
  ·exact fin true _ ⟨_,rfl⟩ rfl (hone _ _ _ hin hns)
theorem zDr{m:List Nat}{ops:Array Oper}{draw:Bool}{c:ACode}(h:zD1 P m ops draw=some c):(∃l,c=.ops l)\/∃o,c=.recov o:=by
 unfold zD1 at h;split at h
 ·obtain⟨ord,_,h⟩:=bindS h;split at h
  ·obtain⟨aos,_,h⟩:=bindS h;injection h with h;exact .inl ⟨_,h.symm⟩
  ·cases h
 ·split at h
  ·obtain⟨s,_,h⟩:=bindS h;split at h
   ·cases h
   ·injection h with h;exact .inr ⟨_,h.symm⟩
  ·obtain⟨aos,_,h⟩:=bindS h;injection h with h;exact .inl ⟨_,h.symm⟩
theorem draw_calm{m:List Nat}{ops:Array Oper}{o:Opd}{l:List AOper}(h:zD1 P m ops true=some (.ops (⟨.next o,none,none,[]⟩::l)))(hc:(ops.all λo=>match o.op with | .next ..=>false | _=>true)=true):False:=by
 have h:(do let ord <-order ops (ancs ops) ops.size [];if zK3 ops (ancs ops) ord then(do some (ACode.ops (<-cDraw P m ops (ancs ops) ord [] []))) else none)=some (ACode.ops (⟨.next o,none,none,[]⟩::l)):=h;obtain⟨ord,_,h⟩:=bindS h;split at h
 ·obtain⟨aos,haos,h⟩:=bindS h;injection h with h;injection h with h;subst h;cases ord with
  | nil=>cases haos
  | cons j0 ord=>
   obtain⟨o0,ho0,haos⟩:=bindS haos;have key:∀re,(do let a <-cOper P m ops false [] o0 re;let r <-cDraw P m ops (ancs ops) ord [j0] [o0.dst];some (a::r))=some (⟨.next o,none,none,[]⟩::l)->False:=by
    intro re haos;obtain⟨ao,hao,haos⟩:=bindS haos;obtain⟨aos',_,haos⟩:=bindS haos;injection haos with haos;injection haos with e1 e2;subst e1;obtain⟨op,hop,hao⟩:=bindS hao;obtain⟨g,hg,hao⟩:=bindS hao;injection hao with hao;injection hao with e1 _ _ _;subst e1;obtain⟨it,hit,_⟩:=cOp_next hop;have:=Array.all_eq_true_iff_forall_mem.1 hc o0 (Array.mem_of_getElem? ho0);rw[hit] at this;cases this
   by_cases h3:clsO o0.op=3
   ·have haos:(if clsO o0.op=3 then(do let re <-zIe P m ops (ancs ops) [] [] j0;let a <-cOper P m ops false [] o0 re;let r <-cDraw P m ops (ancs ops) ord [j0] [o0.dst];some (a::r)) else(do let a <-cOper P m ops false [] o0 [];let r <-cDraw P m ops (ancs ops) ord [j0] [o0.dst];some (a::r)))=some (⟨.next o,none,none,[]⟩::l):=haos;rw[if_pos h3] at haos;obtain⟨re,_,haos⟩:=bindS haos;exact key re haos
   ·have haos:(if clsO o0.op=3 then(do let re <-zIe P m ops (ancs ops) [] [] j0;let a <-cOper P m ops false [] o0 re;let r <-cDraw P m ops (ancs ops) ord [j0] [o0.dst];some (a::r)) else(do let a <-cOper P m ops false [] o0 [];let r <-cDraw P m ops (ancs ops) ord [j0] [o0.dst];some (a::r)))=some (⟨.next o,none,none,[]⟩::l):=haos;rw[if_neg h3] at haos;exact key [] haos
 ·cases h
theorem ncode_step(hm:P.follows .mixedOrders=true)(htab:TabOK P tab){n:Nat}(A:NCode P tab n)(B:NLoop P tab n):NCode P tab (n+1)/\NLoop P tab (n+1):=by
 have det:∀{m:List Nat} {N:Nat} {c:Code} {c':ACode} {loc:T AV} {d:List AV} {h:AH} {Q:Res->Prop},cCode P m c=some c'->dstOk N c=true->(∃r,Does tab c' loc d h r/\Q r)->∀{ρ:Rho} {a:Act} {w:World},LocR ρ m loc a->WR ρ h w->DefsR ρ d a.defers->N<=a.tmps.size->c.wp P (QN ρ h w m a.tmps.size Q) a w:=by
  intro m N c c' loc d h Q hc hd ⟨r,hr,hq⟩ ρ a w L W D hN;obtain⟨k,hk⟩:=hr.at;exact wp_mono ((all_ok hm htab k).1 m N c c' hc hd loc d h r (hk k (q0c _)) hr.1 ρ a w L W D hN) λe a' w' q=>⟨r,hq,q⟩
 have loopOK:NLoop P tab (n+1):=by
  intro m N c c' hc hd hcalm loc d h Q hx ρ a w L W D hN;rcases hx with⟨r,hr,hq⟩ | hx
  ·obtain⟨k,hk⟩:=hr.at;intro b kk cs;obtain⟨e,a',w',q,rr⟩:=(all_ok hm htab k).2 m N c c' hc hd loc d h r (hk k (q0c _)) hr.1 ρ a w L W D hN b kk cs;exact⟨e,a',w',⟨r,hq,q⟩,rr⟩
  ·refine wpL_of (wp_mono (A m N c c' hc hd hcalm loc d h _ hx ρ a w L W D hN) (thenN λloc2 d2 h2 a2 w2 hk p=>?_));obtain⟨ρ2,L2,D2,W2,S2,N2⟩:=p;have:=B m N c c' hc hd hcalm _ _ _ Q hk ρ2 a2 w2 L2 W2 D2 (by omega);intro b k cs;obtain⟨e,a',w',q,rr⟩:=this b k cs;refine⟨e,a',w',?_,rr⟩;rw[N2] at q;exact q.trans S2
 refine⟨?_,loopOK⟩;intro m N c c' hc hd hcalm loc d h Q hx ρ a w L W D hN;have hx0:=hx;rcases hx with hx | hx
 ·exact det hc hd hx L W D hN
 cases c with
 | skip=>cases hc;exact hx.elim
 | ret=>cases hc;exact hx.elim
 | exit id=>cases hc;exact hx.elim
 | seq x y=>
  obtain⟨x',hx',hc⟩:=bindS hc;obtain⟨y',hy',hc⟩:=bindS hc;cases hc;have hd:(dstOk N x&&dstOk N y)=true:=hd;have hcalm:(zCp x&&zCp y)=true:=hcalm;rw[q0C] at hd hcalm;refine wp_seq (wp_mono (A m N x x' hx' hd.1 hcalm.1 loc d h _ hx ρ a w L W D hN) (thenN λloc2 d2 h2 a2 w2 hk p=>?_));obtain⟨ρ2,L2,D2,W2,S2,N2⟩:=p;have:=A m N y y' hy' hd.2 hcalm.2 _ _ _ Q hk ρ2 a2 w2 L2 W2 D2 (by omega);rw[N2] at this;exact wp_mono this λe a' w' q=>q.trans S2
 | cond cc x y=>
  obtain⟨o,ho,hc⟩:=bindS hc;obtain⟨x',hx',hc⟩:=bindS hc;obtain⟨y',hy',hc⟩:=bindS hc;cases hc;have hd:(dstOk N x&&dstOk N y)=true:=hd;have hcalm:(zCp x&&zCp y)=true:=hcalm;rw[q0C] at hd hcalm;obtain⟨q,hq,h1,h2⟩:=hx;have hv:=zHk (ρ:=ρ) (tmp:=[]) (ts:=[]) L zHb _ _ ho;rw[hq] at hv;generalize hae:a.eval cc=u at hv;cases hv;refine wp_cond hae ?_;cases q with
  | true=>exact A m N x x' hx' hd.1 hcalm.1 loc d h Q (h1 rfl) ρ a w L W D hN
  | false=>exact A m N y y' hy' hd.2 hcalm.2 loc d h Q (h2 rfl) ρ a w L W D hN
 | block id x=>
  obtain⟨x',hx',hc⟩:=bindS hc;cases hc;refine wp_block ?_;refine wp_mono (A m N x x' hx' hd hcalm loc d h _ hx ρ a w L W D hN) λe a' w' q=>?_;obtain⟨r,hq,q⟩:=q;cases r with
  | norm l1 d1 hh1=>cases e<;>first | exact q.elim | exact⟨_,hq,q⟩
  | ret l1 d1 hh1=>cases e<;>first | exact q.elim | exact⟨_,hq,q⟩
  | pan v l1 d1 hh1=>cases e<;>first | exact q.elim | exact⟨_,hq,q⟩
  | fail l=>cases e<;>exact q.elim
  | exit id' l1 d1 hh1=>
   cases e<;>try exact q.elim
   rename_i id2;obtain⟨e1,p⟩:=q;subst e1;show if id'=id then _ else _;have hat:zCc id (.exit id' l1 d1 hh1)=if id=id' then .norm l1 d1 hh1 else .exit id' l1 d1 hh1:=by
    simp only[zCc]
   rw[hat] at hq;by_cases hid:id'=id
   ·subst hid;rw[if_pos rfl] at hq;rw[if_pos rfl];exact⟨_,hq,p⟩
   ·rw[if_neg (λe=>hid e.symm)] at hq;rw[if_neg hid];exact⟨_,hq,rfl,p⟩
 | loop x=>
  obtain⟨x',hx',hc⟩:=bindS hc;cases hc;exact wp_of_wpL (loopOK m N x x' hx' hd hcalm loc d h Q hx0 ρ a w L W D hN)
 | region id ops draw=>
  have hdst:∀o∈ops,∀x,o.dst=some x->x<N:=by
   intro o ho x hx;have hd:(ops.all λo=>match o.dst with | some d=>decide (d<N) | none=>true)=true:=hd;have:=Array.all_eq_true_iff_forall_mem.1 hd o ho;rw[hx] at this;exact of_decide_eq_true this
  have hc:(match zD1 P m ops draw with | some c=>some c | none=>some zKf)=some c':=hc;cases hcr:zD1 P m ops draw with
  | none=>rw[hcr] at hc;cases hc;exact hx.elim
  | some c1=>
  rw[hcr] at hc;cases hc;split at hx
  ·rcases zDr hcr with⟨l,e⟩ | ⟨o,e⟩<;>cases e
  ·rcases zDr hcr with⟨l,e⟩ | ⟨o,e⟩<;>cases e
  ·rcases zDr hcr with⟨l,e⟩ | ⟨o,e⟩<;>cases e
  ·rcases zDr hcr with⟨l,e⟩ | ⟨o,e⟩<;>cases e
  ·rename_i o j;cases draw with
   | false=>
    have hc:(if(ops.toList.any λo=>zFr o.op) then(do let r <-zEj ops.toList;if(zAj m r.1).isSome then none else some (ACode.recov (zAj m r.2))) else(do some (ACode.ops (<-zIf P m ops ops.toList []))))=some (ACode.ops [⟨.next o,none,none,[]⟩,⟨.extract 0 (.t 0),none,some j,[]⟩]):=hcr;split at hc
    ·obtain⟨s,hs,hc⟩:=bindS hc;split at hc<;>cases hc
    ·obtain⟨aos,haos,hc⟩:=bindS hc;injection hc with hc;cases hc;exact next_region htab hm haos hdst hx L W D hN
   | true=>exact(draw_calm hcr hcalm).elim
  ·exact hx.elim
 | _=>cases hc;exact hx.elim
theorem ncode_all(hm:P.follows .mixedOrders=true)(htab:TabOK P tab):∀n,NCode P tab n/\NLoop P tab n
 | 0=>⟨λm N c c' hc hd hcalm loc d h Q hx=>hx.elim,λm N c c' hc hd hcalm loc d h Q hx=>hx.elim⟩
 | n+1=>let⟨A,B⟩:=ncode_all hm htab n;ncode_step hm htab A B
def zGv(rs:List ARes)(R:AV->AH->Prop):Res->Prop
 | .norm l [] h=>∃vs,results rs l h=some vs/\R (one vs) h
 | .ret l [] h=>∃vs,results rs l h=some vs/\R (one vs) h
 | _=>False
def calmF(P:Program)(f:Nat):Bool:=match P.funcs[f]? with | some fn=>(match fn.body with | some c=>zCp c | none=>false) | none=>false
theorem ncall_ok(hm:P.follows .mixedOrders=true)(htab:TabOK P tab){f n k:Nat}{body:ACode}{rs:List ARes}(hcf:cFunc P f=some (.mk n body rs))(hcalm:calmF P f=true){args:List AV}(hlen:args.length=n){h:AH}{R:AV->AH->Prop}
  (hx:NCf tab k body (zAb args) [] h (zGv rs R)) {ρ:Rho} {w:World} {args':List Value} (ha:VRs ρ args args') (W:WR ρ h w) :
  Calls P f args'.toArray w λe w'=>∃v h',R v h'/\RC ρ h w (.ret v h') e w':=by
 obtain⟨fn,c,hfn,hbody,hdst,hcb,hna,hcode,hres⟩:=zH0 hcf;have hna:n=fn.params.size+fn.nfree:=hna;have hcalm':zCp c=true:=by unfold calmF at hcalm;rw[hfn] at hcalm;simp only[hbody] at hcalm;exact hcalm
 have L1:=zHs (fn:=fn) (c:=c) (ρ:=ρ) (args':=args') (by omega) ha;refine calls_of_wp_defers hfn hbody ?_;refine wp_mono ((ncode_all hm htab k).1 (slots fn c) fn.ntmps c body hcode hdst hcalm' (zAb args) [] h _ hx ρ (zEl fn args') w L1 W .nil (zCw _ _)) λe a' w' q=>?_;obtain⟨r,hq,q⟩:=q;have fin:∀l d h1,Post ρ h w (slots fn c) (zEl fn args').tmps.size l d h1 a' w'->(∃vs,results rs l h1=some vs/\R (one vs) h1)->d=[]->Leaves P fn a'.tmps (λe w'=>∃v h',R v h'/\RC ρ h w (.ret v h') e w') a'.defers .returning w':=by
  intro l d h1 hp hv hd;subst hd;obtain⟨vs,hvs,hr⟩:=hv;obtain⟨ρ1,q1,q2,q3,q4,q5⟩:=hp;obtain⟨v,hrun,hvr⟩:=zKk q1 q3 hres hvs;rw[defs_nil q2];exact⟨v,hrun,_,_,hr,ρ1,v,rfl,hvr,q3,q4⟩
 cases r with
 | norm l d h1=>
  cases d with
  | cons _ _=>exact hq.elim
  | nil=>cases e<;>first | exact q.elim | exact fin l [] h1 q hq rfl
 | ret l d h1=>
  cases d with
  | cons _ _=>exact hq.elim
  | nil=>cases e<;>first | exact q.elim | exact fin l [] h1 q hq rfl
 | exit _ _ d _=>cases d<;>exact hq.elim
 | pan _ _ d _=>cases d<;>exact hq.elim
 | fail _=>exact hq.elim
end
variable[Glob]
def zDb:ACode->Bool
 | .seq a b=>zDb a||zDb b
 | .cond _ a b=>zDb a||zDb b
 | .block _ a=>zDb a
 | .loop a=>zDb a
 | .ops [⟨.next _,none,none,[]⟩,⟨.extract 0 (.t 0),none,some _,[]⟩]=>true
 | _=>false
def NCg(tab:Nat->Option AFunc):Nat->ACode->T AV->List AV->AH->(Res->Prop)->Prop
 | 0,_,_,_,_,_=>False
 | n+1,c,loc,d,h,Q=>(zDb c=false/\WC tab c loc d h Q)\/(zDb c=true/\match c with
  | .seq a b=>NCg tab n a loc d h (zC4 (λl d h=>NCg tab n b l d h Q) Q)
  | .cond o a b=>∃q,ev loc [] o=.bool q/\(q=true->NCg tab n a loc d h Q)/\(q=false->NCg tab n b loc d h Q)
  | .block id a=>NCg tab n a loc d h λr=>Q (zCc id r)
  | .loop a=>NCg tab n a loc d h (zC4 (λl d h=>NCg tab n (.loop a) l d h Q) Q)
  | .ops [⟨.next o,none,none,[]⟩,⟨.extract 0 (.t 0),none,some j,[]⟩]=>NextN o j loc d h Q
  | _=>False)
section
variable{tab:Nat->Option AFunc}{n:Nat}{loc:T AV}{d:List AV}{h:AH}{Q:Res->Prop}{a b c:ACode}
theorem zE1(hc:zDb c=false)(x:WC tab c loc d h Q):NCg tab (n+1) c loc d h Q:=.inl ⟨hc,x⟩
theorem zHn(hc:zDb (.seq a b)=true)(x:NCg tab n a loc d h (zC4 (λl d h=>NCg tab n b l d h Q) Q)):NCg tab (n+1) (.seq a b) loc d h Q:=.inr ⟨hc,x⟩
theorem ncg_block{id:Nat}(hc:zDb a=true)(x:NCg tab n a loc d h λr=>Q (zCc id r)):NCg tab (n+1) (.block id a) loc d h Q:=.inr ⟨hc,x⟩
theorem ncg_loop(hc:zDb a=true)(x:NCg tab n a loc d h (zC4 (λl d h=>NCg tab n (.loop a) l d h Q) Q)):NCg tab (n+1) (.loop a) loc d h Q:=.inr ⟨hc,x⟩
theorem ncg_next{o:Opd}{j:Nat}(x:NextN o j loc d h Q):NCg tab (n+1) (.ops [⟨.next o,none,none,[]⟩,⟨.extract 0 (.t 0),none,some j,[]⟩]) loc d h Q:=.inr ⟨rfl,x⟩
theorem NextN.mono{o:Opd}{j:Nat}{Q':Res->Prop}(x:NextN o j loc d h Q)(hq:∀r,Q r->Q' r):NextN o j loc d h Q':=by
 obtain⟨id,m,since,last,clock,seen,es,e0,g1,g2,ok,old,hend,hone⟩:=x;exact⟨id,m,since,last,clock,seen,es,e0,g1,g2,ok,old,λhh=>hq _ (hend hh),λa x n h1 h2=>hq _ (hone a x n h1 h2)⟩
theorem zCs{K K':T AV->List AV->AH->Prop}{Q Q':Res->Prop}(hk:∀l d h,K l d h->K' l d h)(hq:∀r,Q r->Q' r):∀r,zC4 K Q r->zC4 K' Q' r:=λr x=>by
 cases r with
 | norm l d h=>exact hk _ _ _ x
 | _=>exact hq _ x
theorem zD6:∀(n:Nat) (c:ACode) (loc:T AV) (d:List AV) (h:AH) (Q Q':Res->Prop),(∀r,Q r->Q' r)->NCg tab n c loc d h Q->NCg tab n c loc d h Q'
 | 0,_,_,_,_,_,_,_,x=>x.elim
 | n+1,c,loc,d,h,Q,Q',hq,x=>by
  rcases x with⟨hc,x⟩ | ⟨hc,x⟩
  ·exact .inl ⟨hc,x.mono hq⟩
  refine .inr ⟨hc,?_⟩;split at x
  ·exact zD6 n _ _ _ _ _ _ (zCs (λl d h=>zD6 n _ _ _ _ _ _ hq) hq) x
  ·obtain⟨q,h0,h1,h2⟩:=x;exact⟨q,h0,λe=>zD6 n _ _ _ _ _ _ hq (h1 e),λe=>zD6 n _ _ _ _ _ _ hq (h2 e)⟩
  ·exact zD6 n _ _ _ _ _ _ (λr=>hq _) x
  ·exact zD6 n _ _ _ _ _ _ (zCs (λl d h=>zD6 n _ _ _ _ _ _ hq) hq) x
  ·exact NextN.mono x hq
  ·exact x.elim
theorem zDo:∀(n:Nat) (c:ACode) (loc:T AV) (d:List AV) (h:AH) (Q Q':Res->Prop),(∀r,Q r->Q' r)->NCf tab n c loc d h Q->NCf tab n c loc d h Q'
 | 0,_,_,_,_,_,_,_,x=>x.elim
 | n+1,c,loc,d,h,Q,Q',hq,x=>by
  rcases x with⟨r,x,y⟩ | x
  ·exact .inl ⟨r,x,hq r y⟩
  refine .inr ?_;split at x
  ·exact zDo n _ _ _ _ _ _ (zCs (λl d h=>zDo n _ _ _ _ _ _ hq) hq) x
  ·obtain⟨q,h0,h1,h2⟩:=x;exact⟨q,h0,λe=>zDo n _ _ _ _ _ _ hq (h1 e),λe=>zDo n _ _ _ _ _ _ hq (h2 e)⟩
  ·exact zDo n _ _ _ _ _ _ (λr=>hq _) x
  ·exact zDo n _ _ _ _ _ _ (zCs (λl d h=>zDo n _ _ _ _ _ _ hq) hq) x
  ·exact NextN.mono x hq
  ·exact x.elim
theorem ncg_f:∀(n:Nat) (c:ACode) (loc:T AV) (d:List AV) (h:AH) (Q:Res->Prop),NCg tab n c loc d h Q->NCf tab n c loc d h Q
 | 0,_,_,_,_,_,x=>x.elim
 | n+1,c,loc,d,h,Q,x=>by
  rcases x with⟨hc,x⟩ | ⟨hc,x⟩
  ·exact .inl x
  refine .inr ?_;split at x
  ·exact zDo n _ _ _ _ _ _ (zCs (λl d h=>ncg_f n _ _ _ _ _) λr x=>x) (ncg_f n _ _ _ _ _ x)
  ·obtain⟨q,h0,h1,h2⟩:=x;exact⟨q,h0,λe=>ncg_f n _ _ _ _ _ (h1 e),λe=>ncg_f n _ _ _ _ _ (h2 e)⟩
  ·exact ncg_f n _ _ _ _ _ x
  ·exact zDo n _ _ _ _ _ _ (zCs (λl d h=>ncg_f n _ _ _ _ _) λr x=>x) (ncg_f n _ _ _ _ _ x)
  ·exact x
  ·exact x.elim
theorem zDn:∀(n m:Nat) (c:ACode) (loc:T AV) (d:List AV) (h:AH) (Q Q':Res->Prop),NCg tab n c loc d h Q->NCg tab m c loc d h Q'->∃r,Q r/\Q' r
 | 0,_,_,_,_,_,_,_,x,_=>x.elim
 | _+1,0,_,_,_,_,_,_,_,y=>y.elim
 | n+1,m+1,c,loc,d,h,Q,Q',x,y=>by
  have two:∀{a:ACode} {K K':T AV->List AV->AH->Prop} {R:Prop},(∃r,zC4 K Q r/\zC4 K' Q' r)->(∀l d h,K l d h->K' l d h->∃r,Q r/\Q' r)->∃r,Q r/\Q' r:=by
   rintro a K K' R ⟨r,h1,h2⟩ hk;cases r with
   | norm l d h=>exact hk _ _ _ h1 h2
   | _=>exact⟨_,h1,h2⟩
  rcases x with⟨hc,r,x,q⟩ | ⟨hc,x⟩<;>rcases y with⟨hc',r',y,q'⟩ | ⟨hc',y⟩
  ·exact⟨r,q,by rw[Does.fn x y];exact q'⟩
  ·rw[hc] at hc';cases hc'
  ·rw[hc] at hc';cases hc'
  split at x
  ·exact two (a:=.skip) (R:=True) (zDn n m _ _ _ _ _ _ x y) λl d h k1 k2=>zDn n m _ _ _ _ _ _ k1 k2
  ·obtain⟨q,h0,h1,h2⟩:=x;obtain⟨q',h0',h1',h2'⟩:=y;rw[h0] at h0';injection h0' with e;subst e;cases q with
   | true=>exact zDn n m _ _ _ _ _ _ (h1 rfl) (h1' rfl)
   | false=>exact zDn n m _ _ _ _ _ _ (h2 rfl) (h2' rfl)
  ·obtain⟨r,h1,h2⟩:=zDn n m _ _ _ _ _ _ x y;exact⟨_,h1,h2⟩
  ·exact two (a:=.skip) (R:=True) (zDn n m _ _ _ _ _ _ x y) λl d h k1 k2=>zDn n m _ _ _ _ _ _ k1 k2
  ·obtain⟨id,m,since,last,clock,seen,es,e0,g1,g2,ok,old,hend,hone⟩:=x;obtain⟨id',m',since',last',clock',seen',es',e0',g1',g2',ok',old',hend',hone'⟩:=y;rw[e0] at e0';injection e0' with e _;subst e;rw[g1] at g1';injection g1' with e;injection e with e1 e2 e3 e4;injection e1 with e1;subst e1;subst e2;subst e3;subst e4;rw[g2] at g2';injection g2' with e;injection e with e1 e2;subst e1;subst e2;by_cases hall:∀e∈es,e.2.2∈seen
   ·exact⟨_,hend hall,hend' hall⟩
   ·simp only[Classical.not_forall] at hall;obtain⟨⟨a,x,n⟩,h1,h2⟩:=hall;exact⟨_,hone a x n h1 h2,hone' a x n h1 h2⟩
  ·exact x.elim
end
def OEq(a b:AObj):Prop:=a=b\/∃c c' s t r,a=.cells c s t r/\b=.cells c' s t r/\∀i,c.get i=c'.get i
theorem OEq.ro{a b:AObj}(x:OEq a b):a.ro=b.ro:=by
 rcases x with rfl | ⟨c,c',s,t,r,rfl,rfl,_⟩<;>rfl
theorem ObjR.oeq{ρ:Rho}{a b:AObj}{x:Obj}{o s:Nat}(e:OEq a b)(k:ObjR ρ a x o s):ObjR ρ b x o s:=by
 rcases e with rfl | ⟨c,c',sz,t,r,rfl,rfl,hc⟩
 ·exact k
 ·cases k with
  | cells a b c d f=>exact .cells a b (λi x hx=>c i x (by rw[hc];exact hx)) d f
structure Eqv(h h1 h2:AH):Prop where
 next:h1.next=h2.next
 get:∀id,(h.next<=id/\h2.mem.get id=h.mem.get id)\/(id<h.next/\h1.mem.get id=none/\h2.mem.get id=none)\/(id<h.next/\∃o1 o,h1.mem.get id=some o1/\h2.mem.get id=some o/\OEq o1 o/\(h1.mem.get id=h.mem.get id->o=o1))
theorem rc_eqv{ρ:Rho}{h h1 h2:AH}{w w':World}{v:AV}{e:Ending}(W:WR ρ h w)(E:Eqv h h1 h2)(x:RC ρ h w (.ret v h1) e w'):RC ρ h w (.ret v h2) e w':=by
 obtain⟨ρ',v',e,hv,W',S⟩:=x;have back:∀{id o},h2.mem.get id=some o->∃o1,h1.mem.get id=some o1/\OEq o1 o:=by
  intro id o g;rcases E.get id with⟨a,b⟩ | ⟨a,b,c⟩ | ⟨a,o1,o',b,c,q,_⟩
  ·rw[b,W.fresh a] at g;cases g
  ·rw[c] at g;cases g
  ·rw[c] at g;injection g with g;subst g;exact⟨o1,b,q⟩
 have own:∀{k},Owned ρ' h2 k->Owned ρ' h1 k:=by
  rintro k ⟨id,o,p,s,g,r,m⟩;obtain⟨o1,g1,q⟩:=back g;exact⟨id,o1,p,s,g1,by rw[q.ro];exact r,m⟩
 refine⟨ρ',v',e,hv,⟨⟨λg m=>?_,λg1 g2 hne m1 m2=>?_,λm=>by rw[<-E.next];exact W'.dom m,λ{id} hi=>?_⟩,λk hk=>?_⟩,⟨S.le,λhk o=>S.own hk (own o),S.frame,S.size,S.os,S.tape,S.output,by rw[<-E.next];exact S.next,λ{id} hi hn=>?_,S.new⟩⟩
 ·obtain⟨o1,g1,q⟩:=back g;obtain⟨x,hx,k⟩:=W'.obj g1 m;exact⟨x,hx,k.oeq q⟩
 ·obtain⟨a1,b1,q1⟩:=back g1;obtain⟨a2,b2,q2⟩:=back g2;have:=W'.inj b1 b2 hne m1 m2;rw[q1.ro,q2.ro] at this;exact this
 ·have hb:h.next<=id:=q0m S.next (by rw[E.next];exact hi);rcases E.get id with⟨a,b⟩ | ⟨a,_⟩ | ⟨a,_⟩
  ·rw[b,W.fresh a]
  ·omega
  ·omega
 ·obtain⟨a,b,c⟩:=W'.gl k hk;exact⟨a,b,λo=>c (own o)⟩
 ·have k1:=S.keep hi hn;rcases E.get id with⟨a,b⟩ | ⟨a,b,c⟩ | ⟨a,o1,o,b,c,q,f⟩
  ·omega
  ·rw[c,<-b,k1]
  ·rw[c,f k1,<-b,k1]
def ChOK(tab:Nat->Option AFunc)(body:ACode)(rs:List ARes)(args:List AV)(h h2:AH):Prop:=∃k,NCg tab k body (zAb args) [] h (zGv rs λv h1=>v=.tup []/\Eqv h h1 h2)
open Classical in
noncomputable def chG(tab:Nat->Option AFunc)(n:Nat)(body:ACode)(rs:List ARes):List AV->AH->Option (AV×AH):=λargs h=>
 if e:args.length=n/\∃h2,ChOK tab body rs args h h2 then some (.tup [],Classical.choose e.2) else none
theorem ch_nat{P:Program}{tab:Nat->Option AFunc}(hm:P.follows .mixedOrders=true)(htab:TabOK P tab){f n:Nat}{body:ACode}{rs:List ARes}(hcf:cFunc P f=some (.mk n body rs))(hcalm:calmF P f=true)(hcall:zBc P f=true):NatOK P f (chG tab n body rs):=by
 refine⟨hcall,λargs h v h' e ρ w args' ha W=>?_⟩;unfold chG at e;split at e
 ·rename_i ex;injection e with e;injection e with e1 e2;obtain⟨k,x⟩:=Classical.choose_spec ex.2;rw[e2] at x;refine(ncall_ok hm htab hcf hcalm ex.1 (ncg_f _ _ _ _ _ _ x) ha W).mono λe w' q=>?_;obtain⟨v1,h1,⟨rfl,E⟩,rc⟩:=q;rw[<-e1];exact rc_eqv W E rc
 ·cases e
theorem onEndN_mono{rs:List ARes}{R R':AV->AH->Prop}(hr:∀v h,R v h->R' v h):∀r,zGv rs R r->zGv rs R' r:=λr x=>by
 cases r with
 | norm l d h=>
  cases d with
  | nil=>obtain⟨vs,a,b⟩:=x;exact⟨vs,a,hr _ _ b⟩
  | cons=>exact x.elim
 | ret l d h=>
  cases d with
  | nil=>obtain⟨vs,a,b⟩:=x;exact⟨vs,a,hr _ _ b⟩
  | cons=>exact x.elim
 | exit _ _ d _=>cases d<;>exact x.elim
 | pan _ _ d _=>cases d<;>exact x.elim
 | fail _=>exact x.elim
theorem zJc{rs:List ARes}{R R':AV->AH->Prop}{r:Res}(x:zGv rs R r)(y:zGv rs R' r):∃v h,R v h/\R' v h:=by
 cases r with
 | norm l d h=>
  cases d with
  | nil=>
   obtain⟨vs,a,b⟩:=x;obtain⟨vs',a',b'⟩:=y;rw[a] at a';injection a' with e;subst e;exact⟨_,_,b,b'⟩
  | cons=>exact x.elim
 | ret l d h=>
  cases d with
  | nil=>
   obtain⟨vs,a,b⟩:=x;obtain⟨vs',a',b'⟩:=y;rw[a] at a';injection a' with e;subst e;exact⟨_,_,b,b'⟩
  | cons=>exact x.elim
 | exit _ _ d _=>cases d<;>exact x.elim
 | pan _ _ d _=>cases d<;>exact x.elim
 | fail _=>exact x.elim
theorem nat_gp{tab:Nat->Option AFunc}{h:AH}{f n:Nat}{g:List AV->AH->Option (AV×AH)}{args:List AV}{v:AV}{h':AH}(ht:tab f=some (natF n g))(hn:args.length=n)(e:g args h=some (v,h')):GP tab f args h λw h1=>w=v/\h1=h':=by
 refine GE.gp (ge_of (n:=n) ht hn (wc_opse ?_)) (E:=λ_ _=>False) λ_ _ hh=>hh;rw[PE_cons,zGk,zJo];have hargs:evs (zAb args) [] (zCd n 0)=args:=by
  show evs (zAa args) [] (zCd n 0)=args;rw[zJw n 0 args (by omega),<-hn];simp
 have hev:evOp (.nat g (zCd n 0)) (zAb args) [] h=.val v h':=by
  show obind (g (evs (zAb args) [] (zCd n 0)) h) (F 67) (λr=>Prod.rec (motive:=λ_=>OR) (λv h=>OR.val v h) r)=_;rw[hargs,e];rfl
 rw[hev,stepE_val];refine⟨rfl,?_⟩;rw[PE_nil];refine⟨_,zEy zA5,?_⟩;rw[zHl,evl,zGe,q1b];exact⟨rfl,rfl⟩
theorem ch_gp{tab0 tab:Nat->Option AFunc}{f n k:Nat}{body:ACode}{rs:List ARes}{args:List AV}{h:AH}{R:AH->Prop}{Q:AV->AH->Prop}(ht:tab f=some (natF n (chG tab0 n body rs)))(hn:args.length=n)(x:NCg tab0 k body (zAb args) [] h (zGv rs λv h1=>v=.tup []/\R h1))(ex:∀h0,R h0->∃h2,∀h1,R h1->Eqv h h1 h2)(hq:∀h1 h2,R h1->Eqv h h1 h2->Q (.tup []) h2):GP tab f args h Q:=by
 obtain⟨r,r1,r2⟩:=zDn _ _ _ _ _ _ _ _ x x;obtain⟨_,h0,⟨_,q0⟩,_⟩:=zJc r1 r2;obtain⟨h2,hh2⟩:=ex h0 q0;have e:args.length=n/\∃h2,ChOK tab0 body rs args h h2:=⟨hn,h2,k,zD6 _ _ _ _ _ _ _ (onEndN_mono λv h1 q=>⟨q.1,hh2 h1 q.2⟩) x⟩;have eg:chG tab0 n body rs args h=some (.tup [],Classical.choose e.2):=by unfold chG;rw[dif_pos e]
 refine(nat_gp ht hn eg).mono λv h1 q=>?_;obtain⟨rfl,rfl⟩:=q;obtain⟨k',y⟩:=Classical.choose_spec e.2;obtain⟨r,r1,r2⟩:=zDn _ _ _ _ _ _ _ _ x y;obtain⟨v,h1,⟨_,q1⟩,_,q2⟩:=zJc r1 r2;exact hq h1 _ q1 q2
theorem OEq.symm{a b:AObj}(x:OEq a b):OEq b a:=by
 rcases x with rfl | ⟨c,c',s,t,r,rfl,rfl,h⟩
 ·exact .inl rfl
 ·exact .inr ⟨c',c,s,t,r,rfl,rfl,λi=>(h i).symm⟩
theorem OEq.trans{a b c:AObj}(x:OEq a b)(y:OEq b c):OEq a c:=by
 rcases x with rfl | ⟨c1,c2,s,t,r,rfl,rfl,h⟩
 ·exact y
 ·rcases y with rfl | ⟨c3,c4,s',t',r',e,rfl,h'⟩
  ·exact .inr ⟨c1,c2,s,t,r,rfl,rfl,h⟩
  ·injection e with e1 e2 e3 e4;subst e1;subst e2;subst e3;subst e4;exact .inr ⟨c1,c4,s,t,r,rfl,rfl,λi=>(h i).trans (h' i)⟩
open Classical in
theorem eqv_two{h:AH}{I1 I2 N:Nat}{R:AH->Prop}(i1:I1<h.next)(i2:I2<h.next)(hR:∀h1,R h1->h1.next=N/\∀k,k<h.next->k≠I1->k≠I2->h1.mem.get k=h.mem.get k)(two:∀h0 h1,R h0->R h1->∀k,k=I1\/k=I2->(h0.mem.get k=none/\h1.mem.get k=none)\/∃a b,h0.mem.get k=some a/\h1.mem.get k=some b/\OEq a b){h0:AH}(r0:R h0):∃h2,∀h1,R h1->Eqv h h1 h2:=by
 obtain⟨pick,ep⟩:∃pick:Nat->Option AObj,pick=λk=>if(∃a b,h.mem.get k=some a/\h0.mem.get k=some b/\OEq a b) then h.mem.get k else h0.mem.get k:=⟨_,rfl⟩;have ep:∀k,pick k=if(∃a b,h.mem.get k=some a/\h0.mem.get k=some b/\OEq a b) then h.mem.get k else h0.mem.get k:=λk=>by rw[ep]
 refine⟨⟨T.put (pick I2) (T.put (pick I1) h.mem I1) I2,N⟩,λh1 r1=>⟨(hR h1 r1).1,λid=>?_⟩⟩;show(_/\(T.put (pick I2) (T.put (pick I1) h.mem I1) I2).get id=_)\/(_/\_/\(T.put (pick I2) (T.put (pick I1) h.mem I1) I2).get id=none)\/(_/\∃o1 o,_/\(T.put (pick I2) (T.put (pick I1) h.mem I1) I2).get id=some o/\_);by_cases hid:id=I1\/id=I2
 ·have e:(T.put (pick I2) (T.put (pick I1) h.mem I1) I2).get id=pick id:=by
   by_cases e2:id=I2
   ·rw[e2,q1b]
   ·rw[q1a _ _ _ _ (Ne.symm e2),hid.resolve_right e2,q1b]
  have hlt:id<h.next:=by rcases hid with e | e<;>omega
  rw[e,ep];refine .inr ?_;rcases two h0 h1 r0 r1 id hid with⟨a,b⟩ | ⟨b,o1,hb,h1o,q⟩
  ·refine .inl ⟨hlt,b,?_⟩;rw[if_neg (λ⟨_,y,_,hy,_⟩=>by rw[a] at hy;cases hy)];exact a
  ·refine .inr ⟨hlt,?_⟩;by_cases hp:∃a b,h.mem.get id=some a/\h0.mem.get id=some b/\OEq a b
   ·obtain⟨a,b',h3,h4,h5⟩:=hp;rw[hb] at h4;injection h4 with h4;subst h4;exact⟨o1,a,h1o,by rw[if_pos ⟨a,b,h3,hb,h5⟩];exact h3,q.symm.trans h5.symm,λe=>by rw[h1o,h3] at e;injection e with e;exact e.symm⟩
   ·refine⟨o1,b,h1o,by rw[if_neg hp];exact hb,q.symm,λe=>?_⟩;rw[h1o] at e;exact absurd ⟨o1,b,e.symm,hb,q.symm⟩ hp
 ·have e:(T.put (pick I2) (T.put (pick I1) h.mem I1) I2).get id=h.mem.get id:=by
   rw[q1a _ _ _ _ (λe=>hid (.inr e.symm)),q1a _ _ _ _ (λe=>hid (.inl e.symm))]
  rw[e];by_cases hlt:id<h.next
  ·refine .inr ?_;have k:=(hR h1 r1).2 id hlt (λe=>hid (.inl e)) (λe=>hid (.inr e));rw[k];cases hg:h.mem.get id with
   | none=>exact .inl ⟨hlt,rfl,rfl⟩
   | some o=>exact .inr ⟨hlt,o,o,rfl,rfl,.inl rfl,λ_=>rfl⟩
  ·exact .inl ⟨Nat.le_of_not_lt hlt,rfl⟩
theorem WR.agrees[Glob]{ρ:Rho}{h:AH}{w:World}(W:WR ρ h w):∀k,k<Glob.n->k<w.heap.size/\w.heap[k]?=Glob.g k:=λk hk=>⟨(W.gl k hk).1,(W.gl k hk).2.1⟩
theorem nat_true[Glob]{P:Program}{tab:Nat->Option AFunc}(hm:P.follows .mixedOrders=true)(htab:TabOK P tab){n f:Nat}(hc:zBc P f=true)(h:isTrue (evF tab n f [] (AH.mk T.leaf 0))=true):NatOK P f (rowsG [([],.bool true)]):=by
 refine⟨hc,λargs h0 v h0' hg ρ w args' ha W=>?_⟩;have hg:obind (zJs args [([],.bool true)]) Option.none (λv=>some (v,h0))=some (v,h0'):=hg;cases hf:zJs args [([],.bool true)] with
 | none=>rw[hf] at hg;cases hg
 | some u=>
  rw[hf] at hg;have hg:some (u,h0)=some (v,h0'):=hg;injection hg with hg;injection hg with g1 g2;subst g1;subst g2;obtain⟨rw',hm',h1,h2⟩:=zIc hf;simp only[List.mem_singleton] at hm';subst hm';subst h1;subst h2;cases ha;obtain⟨h',hr⟩:=isTrue_eq h;refine Calls.mono (evF_ok hm htab hr trivial .nil (WR.start W.agrees)) λe w' he=>?_;obtain⟨ρ',v',rfl,hv,W',S'⟩:=he;cases hv;refine RC.below W (.bool _) ⟨S'.os,S'.tape,S'.output,S'.size,λk hk=>S'.frame hk ?_⟩;rintro⟨id,o,p,s,g1,g2,_⟩;rw[T.get_leaf] at g1;cases g1
def T.inB{α:Type}(ks:List Nat):T α->(Nat->Nat)->Bool
 | .leaf,_=>true
 | .log _ _ _ _,_=>false
 | .node v l r,g=>(v.isNone||ks.contains (g 0))&&(T.inB ks l (λj=>g (2*j+1))&&T.inB ks r λj=>g (2*j+2))
theorem T.inB_get{α:Type}{ks:List Nat}:∀{t:T α} {g:Nat->Nat},T.inB ks t g=true->∀{k:Nat} {a:α},t.get k=some a->g k∈ks:=by
 intro t;induction t with
 | leaf=>intro g _ k a e;rw[T.get_leaf] at e;cases e
 | log=>intro g h;cases h
 | node v l r il ir=>
  intro g h k a e;simp only[T.inB,q0C,Bool.or_eq_true] at h;cases k with
  | zero=>
   have e:v=some a:=e;rcases h.1 with h1 | h1
   ·rw[e] at h1;cases h1
   ·simpa using h1
  | succ k=>
   rw[T.get_succ] at e;split at e
   ·rename_i hk;have:=il h.2.1 e;have h2:2*(k / 2)+1=k+1:=by omega
    simp only[h2] at this;exact this
   ·rename_i hk;have:=ir h.2.2 e;have h2:2*(k / 2)+2=k+1:=by omega
    simp only[h2] at this;exact this
theorem tab_keys{P:Program}{t:T AFunc}{ks:List Nat}(h1:T.inB ks t id=true)(h2:ks.map (cFunc P)=ks.map t.get):∀f af,t.get f=some af->cFunc P f=some af:=λf af e=>(List.map_inj_left.mp h2 f (T.inB_get h1 e)).trans e
end Go.Ev
