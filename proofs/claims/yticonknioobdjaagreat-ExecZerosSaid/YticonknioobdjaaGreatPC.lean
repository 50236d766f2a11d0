/- EvO11 EvO11b EvO12 EvO7z EvO13 EvO14 EvT EvT2 EvT3 EvT4 EvU1 EvU2 EvU3 EvU4 -/
import Derived.Test.YticonknioobdjaaGreatPB
import Derived.Laws.IdiomRangeMap
import Derived.Orders
set_option linter.unusedSimpArgs false
set_option linter.unusedVariables false
set_option linter.unusedSectionVars false
set_option linter.defProp false
set_option maxRecDepth 100000
set_option maxHeartbeats 4000000
namespace Go.Ev
open Go
variable[Glob]
section
variable{P:Program}{ρ:Rho}{h:AH}{w:World}{loc:T AV}{tmp:List AV}
theorem WR.getMap{id b o s:Nat}{es:List (AV×AV×Nat)}{clock:Nat}(W:WR ρ h w)(hg:h.mem.get id=some (.map es clock))(hr:ρ id=some (b,o,s)) :
  ∃es',w.heap[b]?=some (.map es' clock)/\ERs ρ es es'.toList/\o=0:=by
 obtain⟨x,hx,hr'⟩:=W.obj hg hr;cases hr' with
 | map he=>exact⟨_,hx,he,rfl⟩
theorem ERs_nil{es':List MapEntry}(he:ERs ρ [] es'):es'=[]:=by cases he;rfl
variable{x m k:Opd}{vm vk vx:Value}{t kty et ty:TypeId}
theorem s_lookup{kt:KT}{ok:Bool}{z:Value}{za:AV}(W:WR ρ h w)(hu:P.underlying t=some (.map kty et))(hkt:keyT P kty=some kt)(hz:zBf P et=some z)(hza:cvVal z=some za)
  (hm:VR ρ (ev loc tmp m) vm) (hk:VR ρ (ev loc tmp k) vk):Good P ρ h w (vv (Instr.lookup t vm vk ok)) (zEc kt za ok m k loc tmp h):=by
 unfold zEc;cases em:ev loc tmp m with
 | mp id=>
  refine zCl q2h λes clock hg=>zAl q2h λq hq=>zAl q2h λr hr=>?_;rw[em] at hm;cases hm with
  | mp hrho=>
   rename_i blk sblk;rw[q2f] at hg;obtain⟨es',hb,he,_⟩:=W.getMap hg hrho;obtain⟨o,hf,hfd⟩:=zJt (P:=P) hkt hk he hr w;cases r with
   | none=>
    have hfd:o=none:=hfd;subst hfd;have hrun:(Instr.lookup t (.map (some blk)) vk ok).run P w=.ok (if ok then .tuple #[z,.bool false] else z) w:=by
     simp[Instr.lookup,run_underlying hu,MapKept.run_getObj_map hb,zB7 hkt hk hq,hf,zAu hz]
    cases ok
    ·exact .same W (zAf hrun) (zB6 hza)
    ·exact .same W (zAf hrun) (.tup (.cons (zB6 hza) (.cons (.bool _) .nil)) rfl)
   | some v=>
    obtain⟨j,e,rfl,_,hv⟩:=hfd;have hrun:(Instr.lookup t (.map (some blk)) vk ok).run P w=.ok (if ok then .tuple #[e.val,.bool true] else e.val) w:=by
     simp[Instr.lookup,run_underlying hu,MapKept.run_getObj_map hb,zB7 hkt hk hq,hf]
    cases ok
    ·exact .same W (zAf hrun) hv
    ·exact .same W (zAf hrun) (.tup (.cons hv (.cons (.bool _) .nil)) rfl)
 | nilm=>
  refine zAl q2h λq hq=>?_;rw[em] at hm;cases hm;obtain⟨o,hf,hfd⟩:=zJt (P:=P) hkt hk (ERs.nil) (kt:=kt) (r:=none) rfl w;have hfd:o=none:=hfd;subst hfd;have hrun:(Instr.lookup t (.map none) vk ok).run P w=.ok (if ok then .tuple #[z,.bool false] else z) w:=by
   simp[Instr.lookup,run_underlying hu,zB7 hkt hk hq,hf,zAu hz]
  cases ok
  ·exact .same W (zAf hrun) (zB6 hza)
  ·exact .same W (zAf hrun) (.tup (.cons (zB6 hza) (.cons (.bool _) .nil)) rfl)
 | _=>trivial
theorem zI5{kt:KT}{k x a v:AV}{n clock:Nat}{es:List (AV×AV×Nat)}{l:List (AV×AV×Nat)}{b:Bool}(h:putE kt k x clock ((a,v,n)::es)=some (l,b)) :
  ∃q,keyEq kt k a=some q/\(q=true/\l=(k,x,n)::es/\b=false\/q=false/\∃l1,putE kt k x clock es=some (l1,b)/\l=(a,v,n)::l1):=by
 have h:obind (keyEq kt k a) none (λq=>bi q (some ((k,x,n)::es,false)) (obind (putE kt k x clock es) none λp=>Prod.rec (motive:=λ_=>Option (List (AV×AV×Nat)×Bool)) (λl b=>some ((a,v,n)::l,b)) p))=some (l,b):=h;cases hk:keyEq kt k a with
 | none=>rw[hk] at h;cases h
 | some q=>
  rw[hk] at h;cases q
  ·refine⟨false,rfl,.inr ⟨rfl,?_⟩⟩;have h:obind (putE kt k x clock es) none (λp=>Prod.rec (motive:=λ_=>Option (List (AV×AV×Nat)×Bool)) (λl b=>some ((a,v,n)::l,b)) p)=some (l,b):=h;cases hp:putE kt k x clock es with
   | none=>rw[hp] at h;cases h
   | some p=>
    rw[hp] at h;obtain⟨l1,b1⟩:=p;injection h with h;injection h with h1 h2;subst h1;subst h2;exact⟨l1,rfl,rfl⟩
  ·injection h with h;injection h with h1 h2;exact⟨true,rfl,.inl ⟨rfl,h1.symm,h2.symm⟩⟩
theorem zJ4{k:SK}{a b:AV}{u v:Value}(ha:VR ρ a u)(hb:VR ρ b v)(hq:eqS k a b=some true)(n:Nat):Instr.sameBits n v u=true:=by
 cases k with
 | bool=>
  have hq1:eqB1 a b=some true:=hq;clear hq;cases a<;>try (cases hq1;done)
  cases b<;>try (cases hq1;done)
  rename_i p p';cases ha;cases hb;injection hq1 with hq;cases p<;>cases p'<;>first | (cases hq;done) | (cases n<;>rfl)
 | int=>
  have hq1:eqI1 a b=some true:=hq;clear hq;cases a<;>try (cases hq1;done)
  cases b<;>try (cases hq1;done)
  rename_i k m k' n';have hq2:bi (eqK k k') (some (eqI m n')) none=some true:=hq1;clear hq1;rw[bi_eq] at hq2;split at hq2
  ·rename_i hkk;have:=zHw hkk;subst this;cases ha;cases hb;injection hq2 with hq2;rw[zEm] at hq2;have:=of_decide_eq_true hq2;subst this;cases n<;>simp[Instr.sameBits]
  ·cases hq2
 | str=>
  have hq1:eqS1 a b=some true:=hq;clear hq;cases a<;>try (cases hq1;done)
  cases b<;>try (cases hq1;done)
  rename_i l s l' s';have hq2:some (bi (Nat.beq l l') (Nat.beq s s') false)=some true:=hq1;clear hq1;injection hq2 with hq2;have h1:=ha;have h2:=hb;cases ha;cases hb;rw[str_eq h1 h2,<-zF8] at hq2;rw[MapKept.bytes_beq] at hq2;subst hq2;cases n<;>simp[Instr.sameBits,MapKept.bytes_beq]
theorem bits_list(n:Nat):∀{ks:List SK} {l l':List AV} {xs ys:List Value},VCs ρ l xs->VCs ρ l' ys->eqL ks l l'=some true->xs.length=ys.length/\((ys.zip xs).all λ(x,y)=>Instr.sameBits n x y)=true
 | [],l,l',xs,ys,h1,h2,hq=>by
  obtain⟨rfl,rfl,_⟩:=zJy hq;cases h1;cases h2;simp
 | k::ks,l,l',xs,ys,h1,h2,hq=>by
  obtain⟨a,r,b,r',q1,q2,rfl,rfl,e1,e2,e3⟩:=zIv hq;have hqq:q1=true/\q2=true:=by simpa using e3.symm
  obtain⟨rfl,rfl⟩:=hqq;cases h1 with
  | cons _ p1 p2=>
  cases h2 with
  | cons _ p3 p4=>
   obtain⟨i1,i2⟩:=bits_list n p2 p4 e2;exact⟨by simp[i1],by simp only[List.zip_cons_cons,List.all_cons,zJ4 p1 p3 e1,i2,Bool.and_self]⟩
theorem key_bits{kt:KT}{a b:AV}{u v:Value}(ha:VR ρ a u)(hb:VR ρ b v)(hq:keyEq kt a b=some true):Instr.sameBits 10000 v u=true:=by
 cases kt with
 | one k=>exact zJ4 ha hb hq _
 | agg ks=>
  have hq:eqAgg ks (AH.mk T.leaf 0) a b=some true:=hq;obtain⟨l,l',rfl,rfl,hq⟩:=zF3 hq;cases ha with
  | agg a1 a2=>
  cases hb with
  | agg b1 b2=>
   subst a2;subst b2;obtain⟨i1,i2⟩:=bits_list (ρ:=ρ) 9999 a1 b1 hq;show Instr.sameBits (9999+1) _ _=true;simp only[Instr.sameBits];simp only[List.size_toArray,i1,beq_self_eq_true,q0E];exact i2
inductive First(kt:KT)(k:AV):List (AV×AV×Nat)->Nat->Prop
 | here {a v:AV} {n:Nat} {es:List (AV×AV×Nat)}:keyEq kt k a=some true->First kt k ((a,v,n)::es) 0
 | there {a v:AV} {n j:Nat} {es:List (AV×AV×Nat)}:keyEq kt k a=some false->First kt k es j->First kt k ((a,v,n)::es) (j+1)
inductive AllNo(kt:KT)(k:AV):List (AV×AV×Nat)->Prop
 | nil:AllNo kt k []
 | cons {a v:AV} {n:Nat} {es:List (AV×AV×Nat)}:keyEq kt k a=some false->AllNo kt k es->AllNo kt k ((a,v,n)::es)
theorem asking_no{kt:KT}{k:AV}{u:Value}(hkt:keyT P t=some kt)(hk:VR ρ k u)(w:World){d:TypeDesc}(hd:∀{a b:AV} {u v:Value} {q:Bool},VR ρ a u->VR ρ b v->keyEq kt a b=some q->Instr.sameNow d u v=none\/Instr.sameNow d u v=some q) :
  ∀{es:List (AV×AV×Nat)} {es':List MapEntry} (i:Nat),AllNo kt k es->ERs ρ es es'->(Instr.findAsking t u es' i).run P w=.ok none w/\(Instr.findNow d u es' i=none\/Instr.findNow d u es' i=some none)
 | _,_,i,.nil,.nil=>⟨rfl,.inr rfl⟩
 | _,_,i,.cons hq hr,.cons (e:=e) hkey hval hborn hrest=>by
  have hrun:=zGy hkt hk hkey hq w;obtain⟨h1,h2⟩:=asking_no hkt hk w hd (i+1) hr hrest;refine⟨by simp[Instr.findAsking,hrun,h1],?_⟩;rcases hd hk hkey hq with hn | hn
  ·left;simp[Instr.findNow,hn]
  ·rcases h2 with h2 | h2
   ·left;simp[Instr.findNow,hn,h2]
   ·right;simp[Instr.findNow,hn,h2]
theorem zIg{kt:KT}{k:AV}{u:Value}(hkt:keyT P t=some kt)(hk:VR ρ k u)(w:World){d:TypeDesc}(hd:∀{a b:AV} {u v:Value} {q:Bool},VR ρ a u->VR ρ b v->keyEq kt a b=some q->Instr.sameNow d u v=none\/Instr.sameNow d u v=some q) :
  ∀{es:List (AV×AV×Nat)} {es':List MapEntry} (i:Nat) {j:Nat},First kt k es j->ERs ρ es es'->∃e,es'[j]?=some e/\Instr.sameBits 10000 e.key u=true/\(Instr.findAsking t u es' i).run P w=.ok (some (i+j,e.val)) w/\(Instr.findNow d u es' i=none\/Instr.findNow d u es' i=some (some (i+j,e.val)))
 | _,_,i,_,.here hq,.cons (e:=e) hkey hval hborn hrest=>by
  have hrun:=zGy hkt hk hkey hq w;refine⟨e,rfl,key_bits hk hkey hq,by simp[Instr.findAsking,hrun],?_⟩;rcases hd hk hkey hq with hn | hn
  ·left;simp[Instr.findNow,hn]
  ·right;simp[Instr.findNow,hn]
 | _,_,i,_,.there (j:=j) hq hr,.cons (e:=e) hkey hval hborn hrest=>by
  have hrun:=zGy hkt hk hkey hq w;obtain⟨e',h0,hb,h1,h2⟩:=zIg hkt hk w hd (i+1) hr hrest;have hij:i+1+j=i+(j+1):=by omega
  rw[hij] at h1 h2;refine⟨e',by simpa using h0,hb,by simp[Instr.findAsking,hrun,h1],?_⟩;rcases hd hk hkey hq with hn | hn
  ·left;simp[Instr.findNow,hn]
  ·rcases h2 with h2 | h2
   ·left;simp[Instr.findNow,hn,h2]
   ·right;simp[Instr.findNow,hn,h2]
theorem zHu{kt:KT}{k:AV}{u:Value}(hkt:keyT P t=some kt)(hk:VR ρ k u)(w:World){es:List (AV×AV×Nat)}{es':List MapEntry}(hn:AllNo kt k es)(he:ERs ρ es es'):(Instr.findKey t u es').run P w=.ok none w:=by
 obtain⟨d,hd,hd2⟩:=key_now (ρ:=ρ) hkt;obtain⟨h1,h2⟩:=asking_no hkt hk w hd2 0 hn he;rcases h2 with h2 | h2
 ·simp[Instr.findKey,run_underlying hd,h2,h1]
 ·simp[Instr.findKey,run_underlying hd,h2]
theorem zE5{kt:KT}{k:AV}{u:Value}(hkt:keyT P t=some kt)(hk:VR ρ k u)(w:World){es:List (AV×AV×Nat)}{es':List MapEntry}{j:Nat}(hn:First kt k es j)(he:ERs ρ es es') :
  ∃e,es'[j]?=some e/\Instr.sameBits 10000 e.key u=true/\(Instr.findKey t u es').run P w=.ok (some (j,e.val)) w:=by
 obtain⟨d,hd,hd2⟩:=key_now (ρ:=ρ) hkt;obtain⟨e,h0,hb,h1,h2⟩:=zIg hkt hk w hd2 0 hn he;rw[q0I] at h1 h2;refine⟨e,h0,hb,?_⟩;rcases h2 with h2 | h2
 ·simp[Instr.findKey,run_underlying hd,h2,h1]
 ·simp[Instr.findKey,run_underlying hd,h2]
theorem ERs.modify{kt:KT}{k x:AV}{u v:Value}(hk:VR ρ k u)(hx:VR ρ x v):∀{es:List (AV×AV×Nat)} {es':List MapEntry} {j:Nat} {l:List (AV×AV×Nat)},First kt k es j->ERs ρ es es'->(∃c b,putE kt k x c es=some (l,b))->
  ERs ρ l (es'.modify j λe=>{e with key:=u,val:=v})
 | _,_,_,l,.here hq,.cons (e:=e) hkey hval hborn hrest,⟨c,b,h⟩=>by
  obtain⟨q,h1,h2⟩:=zI5 h;rw[hq] at h1;injection h1 with h1;subst h1;rcases h2 with⟨_,rfl,_⟩ | ⟨h2,_⟩
  ·exact .cons hk hx hborn hrest
  ·cases h2
 | _,_,_,l,.there hq hr,.cons (e:=e) hkey hval hborn hrest,⟨c,b,h⟩=>by
  obtain⟨q,h1,h2⟩:=zI5 h;rw[hq] at h1;injection h1 with h1;subst h1;rcases h2 with⟨h2,_⟩ | ⟨_,l1,h3,rfl⟩
  ·cases h2
  ·simp only[List.modify_succ_cons];exact .cons hkey hval hborn (ERs.modify hk hx hr hrest ⟨c,b,h3⟩)
theorem zI4{kt:KT}{k x:AV}{clock:Nat}:∀{es l:List (AV×AV×Nat)} {b:Bool},putE kt k x clock es=some (l,b)->(b=true/\AllNo kt k es/\l=es++[(k,x,clock)])\/(b=false/\∃j,First kt k es j)
 | [],l,b,h=>by injection h with h;injection h with h1 h2;exact .inl ⟨h2.symm,.nil,h1.symm⟩
 | (a,v,n)::es,l,b,h=>by
  obtain⟨q,h1,h2⟩:=zI5 h;rcases h2 with⟨rfl,_,rfl⟩ | ⟨rfl,l1,h3,rfl⟩
  ·exact .inr ⟨rfl,0,.here h1⟩
  ·rcases zI4 h3 with⟨h4,h5,h6⟩ | ⟨h4,j,h5⟩
   ·exact .inl ⟨h4,.cons h1 h5,by rw[h6];rfl⟩
   ·exact .inr ⟨h4,j+1,.there h1 h5⟩
theorem ERs.append:∀{es es2:List (AV×AV×Nat)} {l l2:List MapEntry},ERs ρ es l->ERs ρ es2 l2->ERs ρ (es++es2) (l++l2)
 | _,_,_,_,.nil,h=>h
 | _,_,_,_,.cons a b c r,h=>.cons a b c (ERs.append r h)
theorem WR.setMap{id b s clock clock2:Nat}{es es2:List (AV×AV×Nat)}{es' es2':Array MapEntry}(W:WR ρ h w)(hg:h.mem.get id=some (.map es clock))(hr:ρ id=some (b,0,s))(hb:w.heap[b]?=some (.map es' clock))
  (he:ERs ρ es2 es2'.toList):WR ρ (h.set id (.map es2 clock2)) {w with heap:=w.heap.setIfInBounds b (.map es2' clock2)}/\Step ρ h w ρ (h.set id (.map es2 clock2)) {w with heap:=w.heap.setIfInBounds b (.map es2' clock2)}:=
 W.set hg rfl hr rfl (.map he) (MapKept.heap_set hb).1 (λk hk=>(MapKept.heap_set hb).2 k hk) (by simp) ⟨rfl,rfl,rfl⟩
theorem zH4{x:Opd}{h:AH}{G:OR->Prop}(hF:∀n,G (.fail n)){k:AV->AH->OR}(hk:G (k (ev loc tmp x) h)) :
  G (OR.rec (motive:=λ_=>OR) k (λ_ _=>F 56) (λ_=>F 56) (λ_=>F 56) OR.fail (oMove x loc tmp h)):=by
 unfold oMove;cases e:ev loc tmp x<;>first | (rw[e] at hk;exact hk) | exact hF _
theorem s_mapUpd{kt:KT}(W:WR ρ h w)(hu:P.underlying t=some (.map kty et))(hkt:keyT P kty=some kt)(hm:VR ρ (ev loc tmp m) vm)(hk:VR ρ (ev loc tmp k) vk)(hx:VR ρ (ev loc tmp x) vx) :
  Good P ρ h w (uu (Instr.mapUpdate t vm vk vx)) (zJe kt m k x loc tmp h):=by
 unfold zJe;refine lift_mp q2h λid em=>zCl q2h λes clock hg=>zAl q2h λq hq=>zH4 q2h (zAl q2h λp hp=>?_);obtain⟨l,b⟩:=p;rw[em] at hm;rw[q2f] at hg;cases hm with
 | mp hrho=>
  obtain⟨es',hb,he,_⟩:=W.getMap hg hrho;rcases zI4 hp with⟨rfl,hn,rfl⟩ | ⟨rfl,j,hf⟩
  ·have hrun:=zHu (P:=P) hkt hk w hn he;have he2:ERs ρ (es++[(ev loc tmp k,ev loc tmp x,clock)]) (es'.push {key:=vk,val:=vx,born:=clock}).toList:=by
    rw[Array.toList_push];exact he.append (.cons hk hx rfl .nil)
   obtain⟨W',S'⟩:=W.setMap (clock2:=clock+1) hg hrho hb he2;refine⟨ρ,undef,_,.inr ⟨uu_run ?_,rfl⟩,.tup .nil rfl,W',S'⟩;simp[Instr.mapUpdate,run_underlying hu,MapKept.run_getObj_map hb,zB7 hkt hk hq,hrun,MapKept.run_setObj_map _ hb]
  ·obtain⟨e,h1,h2,hrun⟩:=zE5 (P:=P) hkt hk w hf he;have he2:ERs ρ l (es'.modify j λe=>{e with key:=vk,val:=vx}).toList:=by
    rw[Array.toList_modify];exact ERs.modify hk hx hf he ⟨_,_,hp⟩
   obtain⟨W',S'⟩:=W.setMap (clock2:=clock) hg hrho hb he2;refine⟨ρ,undef,_,.inr ⟨uu_run ?_,rfl⟩,.tup .nil rfl,W',S'⟩;have h1':es'[j]?=some e:=by simpa using h1
   simp[Instr.mapUpdate,run_underlying hu,MapKept.run_getObj_map hb,zB7 hkt hk hq,hrun,MapKept.run_setObj_map _ hb,h1',Instr.keyThatStays,h2]
theorem delE_some{kt:KT}{k:AV}:∀{es l:List (AV×AV×Nat)},delE kt k es=some l->(AllNo kt k es/\l=es)\/∃j,First kt k es j/\l=es.eraseIdx j
 | [],l,h=>by injection h with h;exact .inl ⟨.nil,h.symm⟩
 | (a,v,n)::es,l,h=>by
  have h:obind (keyEq kt k a) none (λq=>bi q (some es) (obind (delE kt k es) none λl=>some ((a,v,n)::l)))=some l:=h;cases hk:keyEq kt k a with
  | none=>rw[hk] at h;cases h
  | some q=>
   rw[hk] at h;cases q
   ·have h:obind (delE kt k es) none (λl=>some ((a,v,n)::l))=some l:=h;cases hd:delE kt k es with
    | none=>rw[hd] at h;cases h
    | some l1=>
     rw[hd] at h;injection h with h;subst h;rcases delE_some hd with⟨h1,rfl⟩ | ⟨j,h1,rfl⟩
     ·exact .inl ⟨.cons hk h1,rfl⟩
     ·exact .inr ⟨j+1,.there hk h1,rfl⟩
   ·injection h with h;exact .inr ⟨0,.here hk,h.symm⟩
theorem ERs.erase:∀{es:List (AV×AV×Nat)} {l:List MapEntry} (j:Nat),ERs ρ es l->ERs ρ (es.eraseIdx j) (l.eraseIdx j)
 | _,_,_,.nil=>.nil
 | _,_,0,.cons a b c r=>r
 | _,_,j+1,.cons a b c r=>.cons a b c (ERs.erase j r)
theorem s_delete{kt:KT}{ats:Array TypeId}(W:WR ρ h w)(h0:ats[0]?=some t)(hu:P.underlying t=some (.map kty et))(hkt:keyT P kty=some kt)(hm:VR ρ (ev loc tmp m) vm)(hk:VR ρ (ev loc tmp k) vk) :
  Good P ρ h w (vv (Builtin.delete_ ats ty #[vm,vk])) (oDelete kt m k loc tmp h):=by
 unfold oDelete;refine zAl q2h λq hq=>?_;cases em:ev loc tmp m with
 | mp id=>
  refine zCl q2h λes clock hg=>zAl q2h λl hl=>?_;rw[em] at hm;rw[q2f] at hg;cases hm with
  | mp hrho=>
   obtain⟨es',hb,he,_⟩:=W.getMap hg hrho;rcases delE_some hl with⟨hn,rfl⟩ | ⟨j,hf,rfl⟩
   ·have hrun:=zHu (P:=P) hkt hk w hn he;obtain⟨W',S'⟩:=W.setMap (clock2:=clock) hg hrho hb he;refine⟨ρ,.tuple #[],_,.inl (zAf ?_),.tup .nil rfl,W',S'⟩;simp[Builtin.delete_,h0,run_underlying hu,MapKept.run_getObj_map hb,zB7 hkt hk hq,hrun,MapKept.run_setObj_map _ hb]
   ·obtain⟨e,h1,h2,hrun⟩:=zE5 (P:=P) hkt hk w hf he;have he2:ERs ρ (es.eraseIdx j) (es'.eraseIdxIfInBounds j).toList:=by
     have hlt:j<es'.size:=by
      rcases q0x j es'.size with h | h
      ·exact h
      ·rw[q0i (by simpa using h)] at h1;cases h1
     unfold Array.eraseIdxIfInBounds;rw[dif_pos hlt,Array.toList_eraseIdx];exact he.erase j
    obtain⟨W',S'⟩:=W.setMap (clock2:=clock) hg hrho hb he2;refine⟨ρ,.tuple #[],_,.inl (zAf ?_),.tup .nil rfl,W',S'⟩;simp[Builtin.delete_,h0,run_underlying hu,MapKept.run_getObj_map hb,zB7 hkt hk hq,hrun,MapKept.run_setObj_map _ hb]
 | nilm=>
  rw[em] at hm;cases hm;exact .same W (zAf (by simp[Builtin.delete_,h0,run_underlying hu,zB7 hkt hk hq])) (.tup .nil rfl)
 | _=>trivial
theorem s_range(W:WR ρ h w)(hu:P.underlying t=some (.map kty et))(hx:VR ρ (ev loc tmp x) vx):Good P ρ h w (vv (Instr.range t vx)) (oRange x loc tmp h):=by
 unfold oRange;cases ex:ev loc tmp x with
 | mp id=>
  refine zCl q2h λes clock hg=>?_;rw[ex] at hx;rw[q2f] at hg;rw[q2k];cases hx with
  | mp hrho=>
   rename_i blk sb;obtain⟨es',hb,he,_⟩:=W.getMap hg hrho;obtain⟨W',S'⟩:=W.alloc (x:=.mapIter (some blk) clock #[] clock) (o:=.iter (some id) clock [] clock) (s:=0) (w':=w.alloc (.mapIter (some blk) clock #[] clock)) (.iter hrho rfl) rfl ⟨rfl,rfl,rfl⟩;exact⟨_,_,_,.inl (zAf (run_range_map w t kty et blk es' clock hu hb)),.ptr (q2i _ _ _) rfl,W',S'⟩
 | nilm=>
  rw[ex] at hx;cases hx;show Good P ρ h w _ (AH.new h (AObj.iter Option.none 0 [] 0) λit h=>OR.val (AV.ptr it 0) h);rw[q2k];obtain⟨W',S'⟩:=W.alloc (x:=.mapIter none 0 #[] 0) (o:=.iter none 0 [] 0) (s:=0) (w':=w.alloc (.mapIter none 0 #[] 0)) .iterN rfl ⟨rfl,rfl,rfl⟩;exact⟨_,_,_,.inl (zAf (run_range_nilMap w t kty et hu)),.ptr (q2i _ _ _) rfl,W',S'⟩
 | _=>trivial
theorem lift_iter{G:OR->Prop}(hF:∀n,G (.fail n)){o:Option AObj}{k:Option Nat->Nat->List Nat->Nat->OR}(hk:∀a b c d,o=some (.iter a b c d)->G (k a b c d)):G (onIter o k):=by
 cases o with
 | none=>exact hF _
 | some o=>cases o<;>first | exact hk _ _ _ _ rfl | exact hF _
theorem nmem_eq(n:Nat)(l:List Nat):nmem n l=l.contains n:=by
 induction l with
 | nil=>rfl
 | cons m l ih=>
  show bi (Nat.beq n m) true (nmem n l)=_;rw[ih,bi_eq,List.contains_cons];by_cases hnm:n=m
  ·subst hnm;simp
  ·have:Nat.beq n m=false:=by cases e:Nat.beq n m with | false=>rfl | true=>exact absurd (q0f e) hnm
   rw[this];have h2:(n == m)=false:=by simpa using hnm
   simp[h2]
theorem zLo{since:Nat}{seen:List Nat}:∀{es:List (AV×AV×Nat)} {es':List MapEntry} {r:Option (AV×AV×Nat)},ERs ρ es es'->left since seen es=some r->
  match r with
  | none=>es'.filter (λe=>!seen.contains e.born)=[]
  | some (a,v,n)=>∃e,es'.filter (λe=>!seen.contains e.born)=[e]/\VR ρ a e.key/\VR ρ v e.val/\e.born=n/\n<since
 | _,_,r,.nil,h=>by injection h with h;subst h;rfl
 | _,_,r,.cons (k:=a) (x:=v) (n:=n) (e:=e) (l:=es) hkey hval hborn hrest,h=>by
  have h:bi (nmem n seen) (left since seen es) (bi (Nat.ble (n+1) since) (obind (left since seen es) none λr=>Option.rec (motive:=λ_=>Option (Option (AV×AV×Nat))) (some (some (a,v,n))) (λ_=>none) r) none)=some r:=h;rw[nmem_eq] at h;rw[List.filter_cons,hborn];cases hc:seen.contains n with
  | true=>
   rw[hc] at h;simp only[q0B,q0G,if_false];exact zLo hrest h
  | false=>
   rw[hc] at h;have h:bi (Nat.ble (n+1) since) (obind (left since seen es) none λr=>Option.rec (motive:=λ_=>Option (Option (AV×AV×Nat))) (some (some (a,v,n))) (λ_=>none) r) none=some r:=h;rw[bi_eq] at h;split at h
   ·rename_i hlt;cases hl:left since seen es with
    | none=>rw[hl] at h;cases h
    | some r1=>
     rw[hl] at h;cases r1 with
     | some _=>cases h
     | none=>
      injection h with h;subst h;have:=zLo hrest hl;have this:_=[]:=this;simp only[q0A,if_true];refine⟨e,by rw[this],hkey,hval,hborn,?_⟩;have:=q0g hlt;omega
   ·cases h
theorem zJd{last:Nat}:∀{es:List (AV×AV×Nat)} {es':List MapEntry},ERs ρ es es'->older last es=true->(es'.all λe=>decide (e.born>=last))=false
 | _,_,.nil,h=>by cases h
 | _,_,.cons (n:=n) (e:=e) (l:=es) hkey hval hborn hrest,h=>by
  have h:bi (Nat.ble (n+1) last) true (older last es)=true:=h;rw[bi_eq] at h;split at h
  ·rename_i hlt;have:=q0g hlt;simp only[List.all_cons,Bool.and_eq_false_iff];left;simp;omega
  ·simp only[List.all_cons,zJd hrest h,q0N]
theorem guard_iter{G:OR->Prop}(hF:∀n,G (.fail n)){seen:List Nat}{es:List (AV×AV×Nat)}{last:Nat}{go:OR}(h1:seen=[]->G go)(h2:es=[]->G go)(h3:older last es=true->G go) :
  G (List.rec (motive:=λ_=>OR) go (λ_ _ _=>List.rec (motive:=λ_=>OR) go (λ_ _ _=>bi (older last es) go (F 62)) es) seen):=by
 cases seen with
 | nil=>exact h1 rfl
 | cons a b=>
  cases es with
  | nil=>exact h2 rfl
  | cons c d=>exact zAh hF h3
theorem s_next{it:Opd}{vi:Value}(W:WR ρ h w)(hi:VR ρ (ev loc tmp it) vi):Good P ρ h w (vv (Instr.next vi false ty)) (oNext it loc tmp h):=by
 unfold oNext;refine zD7 q2h λid off ei=>zAh q2h λhoff=>lift_iter q2h λm since seen last hg=>?_;have hoff:off=0:=q0f hoff;subst hoff;rw[ei] at hi;rw[q2f] at hg;cases hi with
 | ptr hrho hp=>
  obtain⟨y,hy,hyr⟩:=W.obj hg hrho;subst hp;cases hyr with
  | iterN=>
   refine .same W (zAf ?_) (.tup (.cons (.bool _) .nil) rfl);simp[Instr.next,zDt hy]
  | iter hm hseen=>
   rename_i ib isz mid seen2 blk sblk;subst hseen;refine zCl q2h λes clock hgm=>?_;rw[q2f] at hgm;obtain⟨es',hb,he,_⟩:=W.getMap hgm hm
   have key:∀(htest:(!seen.reverse.toArray.isEmpty&&!es'.isEmpty&&es'.all (λx=>decide (x.born>=last)))=false),
     Good P ρ h w (vv (Instr.next (.pointer (some ⟨ib,0+0,none⟩)) false ty)) (obind (left since seen es) (F 63) λr=>Option.rec (motive:=λ_=>OR) (OR.val (AV.tup [AV.bool false]) h)
      (λe=>onEnt e λa v n=>OR.val (AV.tup [AV.bool true,a,v]) (AH.set h id (AObj.iter (some mid) since (n::seen) clock))) r):=by
    intro htest;refine zAl q2h λr hr=>?_;have hl:=zLo he hr;have hseen:∀n,seen.reverse.toArray.contains n=seen.contains n:=λn=>by simp
    have hfil:(es'.filter λe=>!seen.reverse.toArray.contains e.born)=(es'.toList.filter λe=>!seen.contains e.born).toArray:=by
     apply Array.ext';simp
    cases r with
    | none=>
     have hl:es'.toList.filter (λe=>!seen.contains e.born)=[]:=hl;refine .same W (zAf ?_) (.tup (.cons (.bool _) .nil) rfl);simp only[Instr.next,Sem.run_bind,zDt hy (λ_ _ _=>Obj.noConfusion),Result.andThen_ok,MapKept.run_getObj_map hb,htest,q0G,if_false,hfil,hl];simp[choose,Sem.run,Question.forced]
    | some e3=>
     obtain⟨a,v,n⟩:=e3;obtain⟨e,hl,hka,hva,hbn,hlt⟩:=hl;have hset:=W.set (o':=.iter (some mid) since (n::seen) clock) (x:=.mapIter (some blk) since (seen.reverse.toArray.push e.born) clock) (w':={w with heap:=w.heap.setIfInBounds ib (.mapIter (some blk) since (seen.reverse.toArray.push e.born) clock)}) hg rfl hrho rfl (.iter hm (by simp[hbn])) (MapKept.heap_set hy).1 (λk hk=>(MapKept.heap_set hy).2 k hk) (by simp) ⟨rfl,rfl,rfl⟩;refine⟨ρ,.tuple #[.bool true,e.key,e.val],_,.inl (zAf ?_),.tup (.cons (.bool _) (.cons hka (.cons hva .nil))) rfl,hset.1,hset.2⟩;have hlt':e.born<since:=by omega
     simp only[Instr.next,Sem.run_bind,zDt hy (λ_ _ _=>Obj.noConfusion),Result.andThen_ok,MapKept.run_getObj_map hb,htest,q0G,if_false,hfil,hl];simp[choose,Sem.run,Question.forced,hlt',setObj,hy]
   refine guard_iter q2h (λh=>key ?_) (λh=>key ?_) (λh=>key ?_)
   ·subst h;simp
   ·subst h;have:=ERs_nil he;have he0:es'=#[]:=by apply Array.ext';simpa using this
    rw[he0];simp
   ·have:=zJd he h;have h2:es'.all (λx=>decide (x.born>=last))=false:=by rw[<-Array.all_toList];exact this
    rw[h2,q0N]
theorem findB_run{n:Nat}:∀{es:List (AV×AV×Nat)} {es':List MapEntry} {v:AV},ERs ρ es es'->findB n es=some v->∃e,es'.find? (·.born == n)=some e/\VR ρ v (.tuple #[e.key,e.val])
 | _,_,v,.nil,h=>by cases h
 | _,_,v,.cons (k:=a) (x:=x) (n:=m) (e:=e) (l:=es) hkey hval hborn hrest,h=>by
  have h:bi (Nat.beq n m) (some (AV.tup [a,x])) (findB n es)=some v:=h;rw[bi_eq] at h;split at h
  ·rename_i hnm;have:=q0f hnm;injection h with h;subst h;exact⟨e,by rw[List.find?_cons];simp[hborn,this],.tup (.cons hkey (.cons hval .nil)) rfl⟩
  ·rename_i hnm;obtain⟨e',h1,h2⟩:=findB_run hrest h;refine⟨e',?_,h2⟩;rw[List.find?_cons];have:(e.born == n)=false:=by
    rw[hborn];cases hh:(m == n) with
    | false=>rfl
    | true=>exact absurd (by rw[eq_of_beq hh];exact q0K _) hnm
   rw[this];exact h1
theorem s_entry{it:Opd}{vi:Value}(W:WR ρ h w)(hi:VR ρ (ev loc tmp it) vi):Good P ρ h w (vv (Instr.entry vi)) (oEntry it loc tmp h):=by
 unfold oEntry;refine zD7 q2h λid off ei=>zAh q2h λhoff=>lift_iter q2h λm since seen last hg=>?_;have hoff:off=0:=q0f hoff;subst hoff;rw[ei] at hi;rw[q2f] at hg;cases hi with
 | ptr hrho hp=>
  obtain⟨y,hy,hyr⟩:=W.obj hg hrho;subst hp;cases hyr with
  | iterN=>trivial
  | iter hm hseen=>
   rename_i ib isz mid seen2 blk sblk;subst hseen;cases seen with
   | nil=>trivial
   | cons n r=>
    refine zCl q2h λes clock hgm=>zAh q2h λhc=>zAl q2h λv hv=>?_;have hc:clock=last:=q0f hc;subst hc;rw[q2f] at hgm;obtain⟨es',hb,he,_⟩:=W.getMap hgm hm;obtain⟨e,h1,h2⟩:=findB_run he hv;refine .same W (zAf ?_) h2;rw[Array.find?_toList] at h1;have hy':=zDt (P:=P) hy (λ_ _ _=>Obj.noConfusion);simp only[Instr.entry,Sem.run_bind,hy',Result.andThen_ok];have hback:(n::r).reverse.toArray.back?=some n:=by simp
    simp only[hback,Sem.run_bind,MapKept.run_getObj_map hb,Result.andThen_ok,bne_self_eq_false,q0G,if_false,h1,Sem.run_pure]
end
variable[Glob]
section
variable{P:Program}{ρ:Rho}{h:AH}{w:World}{loc:T AV}{tmp:List AV}{t kty et:TypeId}{m k:Opd}{vm vk vx:Value}
theorem isU8_eq{e:TypeId}(h:isU8 P e=true):P.underlying e=some (.int .u8):=by
 unfold isU8 at h;split at h
 ·assumption
 ·cases h
theorem findN_cons{kt:KT}{k a v:AV}{n:Nat}{es:List (AV×AV×Nat)}:findN kt k ((a,v,n)::es)=obind (keyEq kt k a) none (λq=>bi q (some (some (v,n))) (findN kt k es)):=rfl
theorem zKv{kt:KT}{k v:AV}{n:Nat}:∀{es:List (AV×AV×Nat)},findN kt k es=some (some (v,n))->∃j a,First kt k es j/\es[j]?=some (a,v,n)
 | [],h=>by cases h
 | (a,v',n')::es,h=>by
  rw[findN_cons] at h;cases hk:keyEq kt k a with
  | none=>rw[hk] at h;cases h
  | some q=>
   rw[hk] at h;cases q with
   | true=>injection h with h;injection h with h;injection h with h1 h2;subst h1;subst h2;exact⟨0,a,.here hk,rfl⟩
   | false=>obtain⟨j,a',h1,h2⟩:=zKv (es:=es) h;exact⟨j+1,a',.there hk h1,by simpa using h2⟩
theorem First.inj{kt:KT}{k:AV}:∀{es:List (AV×AV×Nat)} {i j:Nat},First kt k es i->First kt k es j->i=j
 | _,_,_,.here _,.here _=>rfl
 | _,_,_,.here h,.there h' _=>by rw[h] at h';cases h'
 | _,_,_,.there h _,.here h'=>by rw[h] at h';cases h'
 | _,_,_,.there _ a,.there _ b=>by rw[First.inj a b]
theorem ERs.get:∀{es:List (AV×AV×Nat)} {l:List MapEntry} {j:Nat} {a v:AV} {n:Nat},ERs ρ es l->es[j]?=some (a,v,n)->∃e,l[j]?=some e/\VR ρ v e.val/\e.born=n
 | _,_,j,_,_,_,.nil,h=>by simp at h
 | _,_,0,_,_,_,.cons (e:=e) _ hv hb _,h=>by simp at h;obtain⟨h1,h2,h3⟩:=h;subst h2;subst h3;exact⟨e,by simp,hv,hb⟩
 | _,_,j+1,_,_,_,.cons _ _ _ hr,h=>by simp at h;obtain⟨e,h1,h2⟩:=ERs.get hr h;exact⟨e,by simpa using h1,h2⟩
theorem modify_at{α:Type}{f g:α->α}:∀{l:List α} {j:Nat} {x:α},l[j]?=some x->f x=g x->l.modify j f=l.modify j g
 | [],_,_,h,_=>by simp at h
 | a::l,0,x,h,e=>by simp at h;subst h;simp[e]
 | a::l,j+1,x,h,e=>by simp at h;simp[modify_at h e]
theorem s_mapEntry{kt:KT}{zv:Value}{z:AV}(W:WR ρ h w)(hu:P.underlying t=some (.map kty et))(hkt:keyT P kty=some kt)(hz:zBf P et=some zv)(hzc:cvVal zv=some z)(hm:VR ρ (ev loc tmp m) vm)(hk:VR ρ (ev loc tmp k) vk) :
  Good P ρ h w (vv (Instr.mapEntry t vm vk)) (zJf kt z m k loc tmp h):=by
 unfold zJf;refine lift_mp q2h λid em=>zCl q2h λes clock hg=>zAl q2h λq hq=>zAl q2h λr hr=>?_;rw[em] at hm;rw[q2f] at hg;cases hm with
 | mp hrho=>
  obtain⟨es',hb,he,_⟩:=W.getMap hg hrho;cases r with
  | none=>
   refine zAl q2h λp hp=>?_;obtain⟨l,b⟩:=p;cases b with
   | false=>exact q2h _
   | true=>
    rcases zI4 hp with⟨_,hn,rfl⟩ | ⟨h0,_⟩
    ·have hrun:=zHu (P:=P) hkt hk w hn he;have he2:ERs ρ (es++[(ev loc tmp k,z,clock)]) (es'.push {key:=vk,val:=zv,born:=clock}).toList:=by
      rw[Array.toList_push];exact he.append (.cons hk (zB6 hzc) rfl .nil)
     obtain⟨W',S'⟩:=W.setMap (clock2:=clock+1) hg hrho hb he2;refine⟨ρ,_,_,.inl (zAf (v:=.tuple #[zv,.int .i64 (clock:Int)]) ?_),.tup (.cons (zB6 hzc) (.cons (.int _ _) .nil)) rfl,W',S'⟩;simp[Instr.mapEntry,run_underlying hu,MapKept.run_getObj_map hb,zB7 hkt hk hq,hrun,MapKept.run_setObj_map _ hb,zAu hz,goInt]
    ·cases h0
  | some vn=>
   obtain⟨v,n⟩:=vn;refine zAl q2h λp hp=>?_;obtain⟨l,b⟩:=p;cases b with
   | true=>exact q2h _
   | false=>
    obtain⟨j,a,hf,hj⟩:=zKv hr;obtain⟨e,h1,h2,hrun⟩:=zE5 (P:=P) hkt hk w hf he;obtain⟨e2,h1b,hv,hborn⟩:=he.get hj;rw[h1] at h1b;injection h1b with h1b;subst h1b;have he2:ERs ρ l (es'.modify j λe=>{e with key:=vk}).toList:=by
     rw[Array.toList_modify,modify_at (g:=λx:MapEntry=>{x with key:=vk,val:=e.val}) h1 rfl];exact ERs.modify hk hv hf he ⟨_,_,hp⟩
    obtain⟨W',S'⟩:=W.setMap (clock2:=clock) hg hrho hb he2;refine⟨ρ,_,_,.inl (zAf (v:=.tuple #[e.val,.int .i64 (n:Int)]) ?_),.tup (.cons hv (.cons (.int _ _) .nil)) rfl,W',S'⟩;have h1':es'[j]?=some e:=by simpa using h1
    simp[Instr.mapEntry,run_underlying hu,MapKept.run_getObj_map hb,zB7 hkt hk hq,hrun,MapKept.run_setObj_map _ hb,h1',Instr.keyThatStays,h2,goInt,hborn]
theorem setB_cons{n b:Nat}{x a v:AV}{es:List (AV×AV×Nat)}:setB n x ((a,v,b)::es)=bi (Nat.beq b n) (some ((a,x,b)::es)) (obind (setB n x es) none λl=>some ((a,v,b)::l)):=rfl
theorem setB_some{n:Nat}{x:AV}{v:Value}(hx:VR ρ x v):∀{es l:List (AV×AV×Nat)} {es':List MapEntry},setB n x es=some l->ERs ρ es es'->∃j,es'.findIdx? (λe=>(e.born:Int) == (n:Int))=some j/\ERs ρ l (es'.modify j λe=>{e with val:=v})
 | [],_,_,h,_=>by cases h
 | (a,u,b)::es,l,_,h,.cons (e:=e) (l':=es') hk hv hb hr=>by
  rw[setB_cons,bi_eq] at h;split at h
  ·rename_i hq;have hq:=q0f hq;injection h with h;subst h;refine⟨0,?_,?_⟩
   ·rw[List.findIdx?_cons,if_pos (by rw[hb,hq];simp)]
   ·simp only[List.modify_zero_cons];exact .cons hk hx hb hr
  ·rename_i hq;cases hs:setB n x es with
   | none=>rw[hs] at h;cases h
   | some l1=>
    rw[hs] at h;injection h with h;subst h;obtain⟨j,h1,h2⟩:=setB_some hx hs hr;refine⟨j+1,?_,?_⟩
    ·rw[List.findIdx?_cons,if_neg,h1];rfl;intro hc;have:e.born=n:=by have:=eq_of_beq hc;omega
     rw[<-this,hb] at hq;exact hq (q0K _)
    ·simp only[List.modify_succ_cons];exact .cons hk hv hb h2
variable{s x:Opd}{vs:Value}
theorem s_entryStore(W:WR ρ h w)(hm:VR ρ (ev loc tmp m) vm)(hs:VR ρ (ev loc tmp s) vs)(hx:VR ρ (ev loc tmp x) vx):Good P ρ h w (uu (Instr.entryStore t vm vs vx)) (zGd m s x loc tmp h):=by
 unfold zGd;refine lift_mp q2h λid em=>zCl q2h λes clock hg=>zBb q2h λkk n en=>zCk q2h λn' hn=>zH4 q2h (zAl q2h λl hl=>?_);subst hn;rw[em] at hm;rw[en] at hs;rw[q2f] at hg;cases hs;cases hm with
 | mp hrho=>
  obtain⟨es',hb,he,_⟩:=W.getMap hg hrho;obtain⟨j,h1,h2⟩:=setB_some hx hl he;have he2:ERs ρ l (es'.modify j λe=>{e with val:=vx}).toList:=by rw[Array.toList_modify];exact h2
  obtain⟨W',S'⟩:=W.setMap (clock2:=clock) hg hrho hb he2;refine⟨ρ,undef,_,.inr ⟨uu_run ?_,rfl⟩,.tup .nil rfl,W',S'⟩;have h1':es'.findIdx? (λe=>(e.born:Int) == (n':Int))=some j:=by rw[<-h1];cases es';exact List.findIdx?_toArray _ _
  simp[Instr.entryStore,MapKept.run_getObj_map hb,MapKept.run_setObj_map _ hb,asInt,asIntOf,h1']
def zCa(s:ByteArray)(cap:Nat):Array Value:=(s.data.map λb=>Value.int .u8 b.toNat)++Array.replicate (cap-s.size) (Value.int .u8 0)
theorem modify_push{α:Type}(a:Array α)(x:α)(f:α->α):(a.push x).modify a.size f=a.push (f x):=by
 apply Array.ext';rw[Array.toList_modify,Array.toList_push,Array.toList_push,show a.size=a.toList.length from(Array.length_toList).symm];induction a.toList with
 | nil=>rfl
 | cons y l ih=>simp[ih]
theorem s_bytesOf{a b e:TypeId}{v:Value}(W:WR ρ h w)(h1:P.underlying a=some .string)(h2:P.underlying b=some (.slice e))(h3:P.underlying e=some (.int .u8))(hv:VR ρ (ev loc tmp x) v):Good P ρ h w (vv (convert a b v)) (zLl x loc tmp h):=by
 unfold zLl;refine zFz q2h λl q ex=>?_;rw[ex] at hv;cases hv with
 | str s e1 e2=>
  rw[q2k];have hlen:l=s.size:=by rw[e1,zEt]
  have hrel:=zD0 (ρ:=ρ) s.data.toList;rw[<-e1,<-e2] at hrel;have hforced:(Question.appendCap s.size 0 e).forced=false:=rfl;obtain⟨cap,hcap⟩:∃cap,(Question.appendCap s.size 0 e).cut (w.tape w.drawn (Question.appendCap s.size 0 e))=cap:=⟨_,rfl⟩;have hle:s.size<=cap:=by rw[<-hcap];simp[Question.cut]
  have hsz:(zCa s cap).size=cap:=by
   simp[zCa];have:s.data.size=s.size:=rfl;omega
  have hobj:ObjR ρ (.cells (zAa (zCh l q)) l none true) (.cells (zCa s cap) e (cap,cap+1)) 0 cap:=by
   refine .cells (by rw[hsz];omega) (by omega) (λi a ha=>?_) (λh=>by cases h) (λ_ h=>by cases h);rw[zAe] at ha;obtain⟨v,hv,hr,hc⟩:=hrel.get ha;have hi:i<s.size:=by
    rcases q0x i s.data.toList.length with hlt | hge
    ·rw[zEt] at hlt;exact hlt
    ·rw[q0i (by simpa using hge)] at hv;cases hv
   refine⟨by omega,hc,v,?_,hr⟩;unfold zCa;rw[q0I,Array.getElem?_append_left (by simp;exact hi),<-hv];simp
  obtain⟨W',S'⟩:=W.alloc hobj (w':={w with drawn:=w.drawn+1,heap:=w.heap.push (.cells (zCa s cap) e (cap,cap+1))}) rfl ⟨rfl,rfl,rfl⟩;refine⟨_,.slice (some ⟨w.heap.size,0,none⟩) s.size cap,_,.inl (zAf ?_),?_,W',S'⟩
  ·simp[convert,run_underlying h1,run_underlying h2,run_underlying h3,Conv.stringToBytes,hforced,hcap,zAx,markStringish];have e1:(w.drew.alloc (.cells (zCa s cap) e)).shape? w.heap.size=some (e,cap):=by
    show(match(w.heap.push (Obj.cells (zCa s cap) e))[w.heap.size]? with | some (.cells c elem _)=>some (elem,c.size) | _=>none)=_;rw[Array.getElem?_push_size];show some (e,(zCa s cap).size)=_;rw[hsz]
   change ((Sem.run P (match(w.drew.alloc (.cells (zCa s cap) e)).shape? w.heap.size with
     | some (_,n)=>freeze {block:=w.heap.size,off:=n} 1
     | _=>pure ()) (w.drew.alloc (.cells (zCa s cap) e))).andThen λ_ w'=>Result.ok (Value.slice (some {block:=w.heap.size,off:=0}) s.size cap) w')=_
   rw[e1];show Result.ok _ ((w.drew.alloc (.cells (zCa s cap) e)).freeze {block:=w.heap.size,off:=cap} 1)=_;congr 1;show({w.drew with heap:=(w.heap.push (.cells (zCa s cap) e)).modify w.heap.size _}:World)=_;rw[modify_push];rfl
  ·rw[hlen];exact .sl (q2i _ _ _) rfl (.rest (by show 0+cap*1=cap;omega) hle)
end
variable[Glob]
section
variable{P:Program}{ρ:Rho}{h:AH}{w:World}{loc:T AV}{tmp:List AV}{cx:Operand->Option Opd}{a:Operand->Value}
def OpdsR(ρ:Rho)(loc:T AV)(tmp:List AV)(cx:Operand->Option Opd)(a:Operand->Value):Prop:=∀x y,cx x=some y->VR ρ (ev loc tmp y) (a x)
theorem bindS{α β:Type}{o:Option α}{f:α->Option β}{b:β}(h:(o >>= f)=some b):∃x,o=some x/\f x=some b:=by
 cases o with
 | none=>cases h
 | some x=>exact⟨x,rfl,h⟩
theorem mapS{α β:Type}{o:Option α}{f:α->β}{b:β}(h:o.map f=some b):∃x,o=some x/\f x=b:=by
 cases o with
 | none=>cases h
 | some x=>injection h with h;exact⟨x,rfl,h⟩
theorem zJw(hx:OpdsR ρ loc tmp cx a):∀{l:List Operand} {r:List Opd},l.mapM cx=some r->VRs ρ (evs loc tmp r) (l.map a)
 | [],r,h=>by simp at h;subst h;exact .nil
 | x::l,r,h=>by
  rw[List.mapM_cons] at h;obtain⟨y,hy,h⟩:=bindS h;obtain⟨ys,hys,h⟩:=bindS h;injection h with h;subst h;exact .cons (hx _ _ hy) (zJw hx hys)
theorem zFf{f:Nat×Operand->Option Part}{place:Nat->Option (Nat×Nat)}(hx:OpdsR ρ loc tmp cx a)(hf:∀i x p,f (i,x)=some p->place i=some (p.off,p.size)/\cx x=some p.x) :
  ∀{l:List (Nat×Operand)} {r:List Part},l.mapM f=some r->PRs ρ loc tmp place r (l.map λ(i,x)=>(i,a x))
 | [],r,h=>by simp at h;subst h;exact .nil
 | (i,x)::l,r,h=>by
  rw[List.mapM_cons] at h;obtain⟨y,hy,h⟩:=bindS h;obtain⟨ys,hys,h⟩:=bindS h;injection h with h;subst h;obtain⟨h1,h2⟩:=hf i x y hy;exact .cons h1 (hx _ _ h2) (zFf hx hf hys)
theorem places_run{fs:List Field}(h:∀f∈fs,(zAm P f.type).isSome=true)(w:World) :
  (fs.mapM λf=>do pure (f.offset,<-sizeOf f.type):Sem (List (Nat×Nat))).run P w=.ok (fs.map λf=>(f.offset,(zAm P f.type).getD 0)) w:=by
 induction fs with
 | nil=>simp
 | cons f fs ih=>
  have h1:=h f (by simp);obtain⟨n,hn⟩:=Option.isSome_iff_exists.1 h1;rw[List.mapM_cons];simp only[Sem.run_bind,zAj hn,Result.andThen_ok,Sem.run_pure,ih (λg hg=>h g (by simp[hg]))];simp[hn]
theorem zI9{o:Option Operand}{r:Option Opd}(hx:OpdsR ρ loc tmp cx a)(h:(match o with | none=>some none | some y=>(cx y).map some)=some r):OptR ρ loc tmp r (o.map a):=by
 cases o with
 | none=>injection h with h;subst h;trivial
 | some y=>
  obtain⟨z,hz,e⟩:=mapS h;subst e;exact hx _ _ hz
theorem zL7{l:Array Operand}{x:Operand}(h:l.toList=[x]):l=#[x]:=by apply Array.ext';simpa using h
theorem zG8{l:Array Operand}{x y:Operand}(h:l.toList=[x,y]):l=#[x,y]:=by apply Array.ext';simpa using h
theorem good_eq{kill:Bool}{op:BinOp}{t u:TypeId}{x y:Operand}{c:Bool}{ao:AOp}{neg:Bool}(W:WR ρ h w)(hx:OpdsR ρ loc tmp cx a)(ha:∀v,a (.const v)=v)(hop:op=if neg then .neq else .eql)
  {et:EqT} (het:eqT P t x y=some et) {x' y':Opd} (h1:cx x=some x') (h2:cx y=some y') :
  Good P ρ h w (vv (do eqGuard op t x y (a x) (a y);binOp op t (a x) (a y))) (oEq neg et x' y' loc tmp h):=by
 have r1:=hx _ _ h1;have r2:=hx _ _ h2;unfold eqT at het;split at het
 ·rename_i hu;injection het with het;subst het;exact s_eqBool W hop hu r1 r2
 ·injection het with het;subst het;exact s_eqNum W hop r1 r2
 ·injection het with het;subst het;exact s_eqNum W hop r1 r2
 ·rename_i e hu;split at het
  ·rename_i n hn;injection het with het;subst het;exact s_eqPtr W hop hu hn r1 r2
  ·cases het
 ·rename_i hu;injection het with het;subst het;exact s_eqSl W hop hu r1 r2
 ·rename_i hu;injection het with het;subst het;exact s_eqMap W hop hu r1 r2
 ·rename_i hu;injection het with het;subst het;exact s_eqFn W hop hu r1 r2
 ·rename_i hu;split at het
  ·rename_i hn;injection het with het;subst het;refine s_eqIfc W hop hu ?_ r1 r2;rcases Bool.or_eq_true _ _▸hn with hn | hn
   ·left;cases x<;>first | rfl | cases hn
   ·right;cases y<;>first | rfl | cases hn
  ·cases het
 ·rename_i hu;split at het
  ·cases het
  ·rename_i hm;obtain⟨ks,hks,e⟩:=mapS het;subst e;exact s_eqAgg W hop (by simp[tyAgg,hu]) (by simpa using hm) hks r1 r2
 ·rename_i hu;split at het
  ·cases het
  ·rename_i hm;obtain⟨ks,hks,e⟩:=mapS het;subst e;exact s_eqAgg W hop (by simp[tyAgg,hu]) (by simpa using hm) hks r1 r2
 ·cases het
theorem zKu{f:Nat}{s:Sem Next}{args:List AV}{args':List Value}(hs:∀w,zBc P f=true->s.run P w=.ok (.enter f args'.toArray) w)(hr:VRs ρ args args'):Good P ρ h w s (.enter f args):=
 λhc=>⟨args',hs w hc,hr⟩
theorem zFe{f:Nat}{args:Array Value}(hc:zBc P f=true)(w:World):(callFunc f args).run P w=.ok (.enter f args) w:=by
 unfold zBc at hc;split at hc
 ·rename_i fn hf;rw[q0C] at hc;have h1:fn.name≠ "runtime.NumGoroutine" :=by
   intro e;rw[e] at hc;exact absurd hc.1 (by decide)
  have h2:fn.body≠none:=by
   intro e;rw[e] at hc;exact absurd hc.2 (by decide)
  simp[callFunc,hf,h1,h2]
 ·cases hc
theorem good_callV{x:Operand}{args:Array Operand}{ats:Array TypeId}{ty:TypeId}{f:Opd}{l:List Opd}(W:WR ρ h w)(hf:VR ρ (ev loc tmp f) (a x))(hl:VRs ρ (evs loc tmp l) (args.toList.map a)) :
  Good P ρ h w (do let d <-resolve a {callee:=.value x,args,argTypes:=ats} ty;invoke d.target d.args) (oCallV f l loc tmp h):=by
 refine lift_fn q2h λg first caps e=>?_
 rw[e] at hf;rw[zCt,zCt];generalize hax:a x=u at hf;cases hf with
 | fn h1 h2 e1 e2=>
  rename_i a' c' xx yy;refine zKu (args':=a'++(args.toList.map a++c')) (λw hc=>?_) (h1.append (hl.append h2));subst e1;subst e2;simp only[resolve,Deferred.ofValue,hax,Sem.run_bind,Sem.run_pure,Result.andThen_ok,invoke,zFe hc];congr 2;apply Array.ext';simp
theorem good_callF{f:Nat}{args:Array Operand}{ats:Array TypeId}{ty:TypeId}{l:List Opd}(hfn:a (.func f)=.func (.func f) #[] #[])(hl:VRs ρ (evs loc tmp l) (args.toList.map a)) :
  Good P ρ h w (do let d <-resolve a {callee:=.value (.func f),args,argTypes:=ats} ty;invoke d.target d.args) (oCallF f l loc tmp h):=by
 refine zKu (λw hc=>?_) hl;simp only[resolve,Deferred.ofValue,hfn,Sem.run_bind,Sem.run_pure,Result.andThen_ok,invoke,zFe hc];congr 2;apply Array.ext';simp
theorem good_dfr{x:Operand}{ats:Array TypeId}{args:Array Operand}{ty:TypeId}{f:Opd}(h0:args.isEmpty=true)(hf:VR ρ (ev loc tmp f) (a x)) :
  Good P ρ h w (do pure (.defer (<-resolve a {callee:=.value x,args,argTypes:=ats} ty))) (oDfr f loc tmp h):=by
 refine lift_fn q2h λg first caps e=>?_
 rw[e] at hf;have h0:args=#[]:=by simpa using h0
 subst h0;generalize hax:a x=u at hf;cases hf with
 | fn h1 h2 e1 e2=>
  subst e1;subst e2;refine⟨{target:=.fn (.func g) _,args:=_},by simp[resolve,Deferred.ofValue,hax];exact⟨rfl,rfl⟩,g,_,_,_,_,rfl,?_,h1,h2⟩;simp
end
variable[Glob]
variable{P:Program}{ρ:Rho}{h:AH}{w:World}{loc:T AV}{tmp:List AV}
structure AppZ(P:Program)(ats:Array TypeId)(e:TypeId)(es b:Nat)(zv:Value):Prop where
 ex:∃sT xT k,ats[0]?=some sT/\ats[1]?=some xT/\P.underlying sT=some (.slice e)/\P.underlying xT=some (.int k)
 size:zAm P e=some es
 bytes:zC5 P e=some b
 zero:zBf P e=some zv
 zsize:zv.cells.size=es
theorem appendZ_ok{ats:Array TypeId}{e ty:TypeId}{es b m:Nat}{zv:Value}{z:List AV}(A:AppZ P ats e es b zv)(hz0:VCs ρ z zv.cells.toList)(hroom:room m b=true):ApOK P ρ w e es b zv.cells (λvs=>Builtin.append_ ats ty #[vs,.int .i64 (m:Int)]) m (lrep z m) (Builtin.zeroCells zv.cells m).toList:=by
 have hzl:z.length=es:=by have:=hz0.length;have:=A.zsize;simp at *;omega
 obtain⟨sT,xT,k,h0,h1,hu,hx⟩:=A.ex;obtain⟨i,hi,hib⟩:∃i,P.info? e=some i/\i.bytes=b:=by
  have hb:=A.bytes;unfold zC5 at hb;cases hi:P.info? e with
  | none=>rw[hi] at hb;cases hb
  | some i=>rw[hi] at hb;injection hb with hb;exact⟨i,rfl,hb⟩
 have hti:∀w1:World,(typeInfo e).run P w1=.ok i w1:=λw1=>by simp[typeInfo,hi]
 have hbb:=hroom;unfold room at hbb;rw[bi_eq] at hbb;have hmm:m<=1099511627776/\(2*m+512)*i.bytes<=1099511627776:=by
  split at hbb
  ·rename_i hq;rw[hib];exact⟨q0g hq,q0g hbb⟩
  ·cases hbb
 have hmb2:m*i.bytes<=1099511627776:=q0m (q0u _ (by omega)) hmm.2;have w1:IntKind.i64.wrap (m:Int)=m:=zC3 (by omega);have hbig:¬(281474976710656<(m:Int)*(i.bytes:Int)):=by
  rw[<-Int.natCast_mul];omega
 have hn1:¬((m:Int)<0):=by omega
 have hzs:=A.zsize;have hlen:(Builtin.zeroCells zv.cells m).toList.length=m*es:=by simp[Builtin.zeroCells,hzs]
 have hemp:m*es=0->(Builtin.zeroCells zv.cells m)=#[]:=λh=>by
  apply Array.ext';rw[q0r (hlen.trans h)]
 refine⟨by rw[zE0,zDn,hzl],by rw[zE0];exact zDs (n:=m) hz0,hzs,λa sLen sCap w' hneed hst=>?_,λhm0=>?_,λbase sLen sCap old hneed hr hold=>?_⟩
 ·by_cases hme:m*es=0
  ·rw[hemp hme] at hst;simp[Builtin.append_,h0,h1,run_underlying hu,run_underlying hx,zAj A.size,asInt,zA4,w1,hn1,hti,hbig,hneed,hme,hst]
  ·have hm:m≠0:=λe=>hme (by rw[e,Nat.zero_mul]);have hes:es≠0:=λe=>hme (by rw[e,Nat.mul_zero]);simp[Builtin.append_,h0,h1,run_underlying hu,run_underlying hx,zAj A.size,asInt,zA4,w1,hn1,hti,hbig,hneed,hm,hes,hme,zAu A.zero,hst]
 ·subst hm0;have w0:IntKind.i64.wrap 0=0:=by decide
  simp[Builtin.append_,h0,h1,run_underlying hu,run_underlying hx,zAj A.size,asInt,zA4,w0,hti]
 ·obtain⟨r1,r2⟩:=room_spec hr hneed;have hle:¬(sLen+m<=sCap):=by omega
  have hforced:(Question.appendCap (sLen+m) sCap e).forced=false:=rfl;refine⟨(Question.appendCap (sLen+m) sCap e).cut (w.tape w.drawn (Question.appendCap (sLen+m) sCap e)),by simp[Question.cut],?_⟩;generalize hcap:(Question.appendCap (sLen+m) sCap e).cut (w.tape w.drawn (Question.appendCap (sLen+m) sCap e))=newCap;have r1':¬(281474976710656<Builtin.nextslicecap (sLen+m) sCap*i.bytes):=by rw[hib];simpa using r1
  have hmax2:¬(9223372036854775807<(sLen:Int)+(m:Int)):=by omega
  have hmax3:IntKind.i64.max=9223372036854775807:=by decide
  have ho:=hold w.drew rfl;by_cases hme:m*es=0
  ·rw[hemp hme];simp[Builtin.append_,h0,h1,run_underlying hu,run_underlying hx,zAj A.size,asInt,zA4,w1,hn1,hti,hbig,hle,hmax2,hmax3,r1',hforced,hcap,ho,hme,zAu A.zero,zAx];exact congrArg (λc=>({w with drawn:=w.drawn+1,heap:=w.heap.push (.cells c e)}:World)) (by apply Array.ext';simp)
  ·have hm:m≠0:=λe=>hme (by rw[e,Nat.zero_mul]);have hes:es≠0:=λe=>hme (by rw[e,Nat.mul_zero]);simp[Builtin.append_,h0,h1,run_underlying hu,run_underlying hx,zAj A.size,asInt,zA4,w1,hn1,hti,hbig,hle,hm,hes,hme,hmax2,hmax3,r1',hforced,hcap,ho,zAu A.zero,zAx];exact congrArg (λc=>({w with drawn:=w.drawn+1,heap:=w.heap.push (.cells c e)}:World)) (by apply Array.ext';simp)
theorem s_appendZ{ats:Array TypeId}{s x:Opd}{e ty:TypeId}{es b:Nat}{z:List AV}{zv vs vx:Value}(W:WR ρ h w)(A:AppZ P ats e es b zv)(hzc:zBe zv=some z)(hs:VR ρ (ev loc tmp s) vs)(hx:VR ρ (ev loc tmp x) vx) :
  Good P ρ h w (vv (Builtin.append_ ats ty #[vs,vx])) (zGu z b s x loc tmp h):=by
 have hz0:=zA7 (ρ:=ρ) hzc;have hzl:z.length=es:=by have:=hz0.length;have:=A.zsize;simp at *;omega
 refine zBb q2h λk q e1=>zAh q2h λhk=>zCk q2h λm hm=>zAh q2h λhroom=>?_;rw[e1] at hx;cases hx;subst hm;have hk:k=.i64:=by cases k<;>first | rfl | cases hk
 subst hk;rw[zBd,hzl];exact s_app W (appendZ_ok (ty:=ty) A hz0 hroom) (λ_ h=>by cases h) hs
variable[Glob]
section
variable{P:Program}{ρ:Rho}{h:AH}{w:World}{loc:T AV}{tmp:List AV}{cx:Operand->Option Opd}{a:Operand->Value}
theorem zFb{t:TypeId}{z:List AV}{zv:Value}(h1:zBf P t=some zv)(h2:zBe zv=some z):zv.cells.size=z.length:=by
 have:=(zA7 (ρ:=λ_=>none) h2).length;simpa using this.symm
theorem good_builtin{kill:Bool}{b:Builtin}{args:Array Operand}{ats:Array TypeId}{ty:TypeId}{ao:AOp}(W:WR ρ h w)(hx:OpdsR ρ loc tmp cx a)(hk:∀v,a (.const v)=v)
  (hc:cOp P cx kill (.call {callee:=.builtin b,args,argTypes:=ats})=some ao) {d:Option Tmp} {ps:String} {af:Array Edge} {g:Option (Nat×Bool)} :
  Good P ρ h w (execOp a {dst:=d,op:=.call {callee:=.builtin b,args,argTypes:=ats},type:=ty,pos:=ps,after:=af,guard:=g}) (evOp ao loc tmp h):=by
 have hres:∀s:Sem Next,(∀cs,builtin b ats ty cs (args.map a)=s)->Good P ρ h w s (evOp ao loc tmp h)->
   Good P ρ h w (execOp a {dst:=d,op:=.call {callee:=.builtin b,args,argTypes:=ats},type:=ty,pos:=ps,after:=af,guard:=g}) (evOp ao loc tmp h):=by
  intro s hs hg;have:execOp a {dst:=d,op:=.call {callee:=.builtin b,args,argTypes:=ats},type:=ty,pos:=ps,after:=af,guard:=g}=s:=by
   simp only[execOp,resolve,pure_bind,invoke];exact hs _
  rw[this];exact hg
 unfold cOp at hc;simp only at hc;split at hc
 ·
  rename_i x hargs;obtain rfl:=zL7 hargs;split at hc
  ·rename_i hu;obtain⟨t,ht,hu⟩:=Option.bind_eq_some_iff.1 hu;obtain⟨y,hy,rfl⟩:=mapS hc;exact hres (vv (Builtin.len_ ats ty #[a x])) (λ_=>by simp only[List.map_toArray,List.map_cons,List.map_nil];rfl) (s_lenS W ht hu (hx _ _ hy))
  ·rename_i hu;obtain⟨t,ht,hu⟩:=Option.bind_eq_some_iff.1 hu;obtain⟨y,hy,rfl⟩:=mapS hc;exact hres (vv (Builtin.len_ ats ty #[a x])) (λ_=>by simp only[List.map_toArray,List.map_cons,List.map_nil];rfl) (s_lenV W ht hu (hx _ _ hy))
  ·rename_i hu;obtain⟨t,ht,hu⟩:=Option.bind_eq_some_iff.1 hu;obtain⟨y,hy,rfl⟩:=mapS hc;exact hres (vv (Builtin.len_ ats ty #[a x])) (λ_=>by simp only[List.map_toArray,List.map_cons,List.map_nil];rfl) (s_lenM W ht hu (hx _ _ hy))
  ·rename_i n e hu;obtain⟨t,ht,hu⟩:=Option.bind_eq_some_iff.1 hu;cases hc;refine hres (vv (Builtin.len_ ats ty #[a x])) (λ_=>by simp only[List.map_toArray,List.map_cons,List.map_nil];rfl) (.same W (v':=.int .i64 n) (zAf ?_) (.int _ _));simp[Builtin.len_,ht,run_underlying hu,goInt]
  ·cases hc
 ·rename_i x hargs;obtain rfl:=zL7 hargs;split at hc
  ·rename_i hu;obtain⟨t,ht,hu⟩:=Option.bind_eq_some_iff.1 hu;obtain⟨y,hy,rfl⟩:=mapS hc;exact hres (vv (Builtin.cap_ ats ty #[a x])) (λ_=>by simp only[List.map_toArray,List.map_cons,List.map_nil];rfl) (s_cap W ht hu (hx _ _ hy))
  ·cases hc
 ·rename_i s x hargs;obtain rfl:=zG8 hargs;split at hc
  ·rename_i h0 h1;obtain⟨t0,ht0,h0⟩:=Option.bind_eq_some_iff.1 h0;obtain⟨t1,ht1,h1⟩:=Option.bind_eq_some_iff.1 h1;obtain⟨zv,hzv,hc⟩:=bindS hc;obtain⟨z,hz,hc⟩:=bindS hc;split at hc
   ·rename_i hsz;obtain⟨bt,hbt,hc⟩:=bindS hc;obtain⟨s',hs',hc⟩:=bindS hc;obtain⟨x',hx',hc⟩:=bindS hc;cases hc;exact hres (vv (Builtin.append_ ats ty #[a s,a x])) (λ_=>by simp only[List.map_toArray,List.map_cons,List.map_nil];rfl) (s_append W ⟨⟨_,_,ht0,ht1,h0,.inl ⟨_,h1⟩⟩,hsz,hbt,⟨zv,hzv,rfl⟩,zFb hzv hz⟩ (λ_ h=>by cases h) (hx _ _ hs') (hx _ _ hx'))
   ·cases hc
  ·rename_i h0 h1;obtain⟨t0,ht0,h0⟩:=Option.bind_eq_some_iff.1 h0;obtain⟨t1,ht1,h1⟩:=Option.bind_eq_some_iff.1 h1;obtain⟨zv,hzv,hc⟩:=bindS hc;obtain⟨z,hz,hc⟩:=bindS hc;split at hc
   ·rename_i hsz;obtain⟨bt,hbt,hc⟩:=bindS hc;obtain⟨s',hs',hc⟩:=bindS hc;obtain⟨x',hx',hc⟩:=bindS hc;cases hc;exact hres (vv (Builtin.append_ ats ty #[a s,a x])) (λ_=>by simp only[List.map_toArray,List.map_cons,List.map_nil];rfl) (s_append W ⟨⟨_,_,ht0,ht1,h0,.inr h1⟩,hsz.1,hbt,⟨zv,hzv,rfl⟩,zFb hzv hz⟩ (λ_ h=>by cases h) (hx _ _ hs') (hx _ _ hx'))
   ·cases hc
  ·rename_i h0 h1;obtain⟨t0,ht0,h0⟩:=Option.bind_eq_some_iff.1 h0;obtain⟨t1,ht1,h1⟩:=Option.bind_eq_some_iff.1 h1;obtain⟨zv,hzv,hc⟩:=bindS hc;obtain⟨z,hz,hc⟩:=bindS hc;split at hc
   ·rename_i hsz;obtain⟨bt,hbt,hc⟩:=bindS hc;obtain⟨s',hs',hc⟩:=bindS hc;obtain⟨x',hx',hc⟩:=bindS hc;cases hc;exact hres (vv (Builtin.append_ ats ty #[a s,a x])) (λ_=>by simp only[List.map_toArray,List.map_cons,List.map_nil];rfl) (s_appendZ W ⟨⟨_,_,_,ht0,ht1,h0,h1⟩,hsz,hbt,hzv,zFb hzv hz⟩ hz (hx _ _ hs') (hx _ _ hx'))
   ·cases hc
  ·cases hc
 ·rename_i x y hargs;obtain rfl:=zG8 hargs;split at hc
  ·rename_i hu;obtain⟨t,ht,hu⟩:=Option.bind_eq_some_iff.1 hu;obtain⟨n,hn,hc⟩:=bindS hc;obtain⟨s',hs',hc⟩:=bindS hc;obtain⟨x',hx',hc⟩:=bindS hc;cases hc;exact hres (vv (Builtin.copy_ ats ty #[a x,a y])) (λ_=>by simp only[List.map_toArray,List.map_cons,List.map_nil];rfl) (s_copy W ht hu hn (hx _ _ hs') (hx _ _ hx'))
  ·cases hc
 ·rename_i x hargs;obtain rfl:=zL7 hargs;split at hc
  ·rename_i hu;obtain⟨t,ht,hu⟩:=Option.bind_eq_some_iff.1 hu;obtain⟨zv,hzv,hc⟩:=bindS hc;obtain⟨z,hz,hc⟩:=bindS hc;split at hc
   ·obtain⟨x',hx',hc⟩:=bindS hc;cases hc;exact hres (vv (Builtin.clear_ ats ty #[a x])) (λ_=>by simp only[List.map_toArray,List.map_cons,List.map_nil];rfl) (s_clear W ht hu hzv hz (hx _ _ hx'))
   ·cases hc
  ·cases hc
 ·rename_i x y hargs;obtain rfl:=zG8 hargs;split at hc
  ·rename_i hu;obtain⟨t,ht,hu⟩:=Option.bind_eq_some_iff.1 hu;obtain⟨n,hn,hc⟩:=bindS hc;obtain⟨s',hs',hc⟩:=bindS hc;obtain⟨x',hx',hc⟩:=bindS hc;cases hc;exact hres (vv (Builtin.delete_ ats ty #[a x,a y])) (λ_=>by simp only[List.map_toArray,List.map_cons,List.map_nil];rfl) (s_delete W ht hu hn (hx _ _ hs') (hx _ _ hx'))
  ·cases hc
 ·rename_i x y hargs;obtain rfl:=zG8 hargs;obtain⟨s',hs',hc⟩:=bindS hc;obtain⟨x',hx',hc⟩:=bindS hc;cases hc;exact hres (vv (Builtin.max_ ats ty #[a x,a y])) (λ_=>by simp only[List.map_toArray,List.map_cons,List.map_nil];rfl) (s_max W (hx _ _ hs') (hx _ _ hx'))
 ·rename_i x y hargs;obtain rfl:=zG8 hargs;obtain⟨s',hs',hc⟩:=bindS hc;obtain⟨x',hx',hc⟩:=bindS hc;cases hc;exact hres (vv (Builtin.min_ ats ty #[a x,a y])) (λ_=>by simp only[List.map_toArray,List.map_cons,List.map_nil];rfl) (s_min W (hx _ _ hs') (hx _ _ hx'))
 ·cases hc
end
variable[Glob]
section
variable{P:Program}{ρ:Rho}{h:AH}{w:World}{loc:T AV}{tmp:List AV}{cx:Operand->Option Opd}{a:Operand->Value}
theorem good_op{kill:Bool}{o:Oper}{ao:AOp}(W:WR ρ h w)(hx:OpdsR ρ loc tmp cx a)(hk:∀v,a (.const v)=v)(hfn:∀f,a (.func f)=.func (.func f) #[] #[])
  (hc:cOp P cx kill o.op=some ao):Good P ρ h w (execOp a o) (evOp ao loc tmp h):=by
 obtain⟨d,op,ty,ps,af,g⟩:=o;have hc:cOp P cx kill op=some ao:=hc;cases op with
 | move x=>obtain⟨y,hy,rfl⟩:=mapS hc;exact s_move W (hx _ _ hy)
 | assign x=>obtain⟨y,hy,rfl⟩:=mapS hc;exact s_move W (hx _ _ hy)
 | pick c x y=>
  obtain⟨c',h1,hc⟩:=bindS hc;obtain⟨x',h2,hc⟩:=bindS hc;obtain⟨y',h3,hc⟩:=bindS hc;cases hc;exact s_pick W (hx _ _ h1) (hx _ _ h2) (hx _ _ h3)
 | alloc e=>
  obtain⟨zv,h1,hc⟩:=bindS hc;obtain⟨z,h2,hc⟩:=bindS hc;cases hc;exact s_alloc (loc:=loc) (tmp:=tmp) W h1 h2
 | box e x=>obtain⟨y,hy,rfl⟩:=mapS hc;exact s_box W (hx _ _ hy)
 | build t parts=>
  obtain⟨zv,h1,hc⟩:=bindS hc;obtain⟨z,h2,hc⟩:=bindS hc;split at hc
  ·rename_i fs hu;obtain⟨pr,h3,hc⟩:=bindS hc;split at hc
   ·rename_i hsz;cases hc;have hall:∀f∈fs.toList,(zAm P f.type).isSome=true:=λf hf=>List.all_eq_true.1 hsz.2 f hf;have hpl:=places_run (P:=P) hall w;have hpl2:(fs.mapM λf=>do pure (f.offset,<-sizeOf f.type):Sem (Array (Nat×Nat))).run P w=.ok (fs.toList.map λf=>(f.offset,(zAm P f.type).getD 0)).toArray w:=by
     rw[Array.mapM_eq_mapM_toList];simp only[Sem.run_map,hpl];rfl
    refine s_build W h1 h2 hu hpl2 ?_;rw[Array.toList_map];refine zFf hx (λi x p hp=>?_) h3;obtain⟨f,hf,hp⟩:=bindS hp;obtain⟨n,hn,hp⟩:=bindS hp;obtain⟨y,hy,hp⟩:=bindS hp;injection hp with hp;subst hp;refine⟨?_,hy⟩;have hf':fs.toList[i]?=some f:=by simpa using hf
    simp[hf,hn]
   ·cases hc
  ·rename_i len e hu;obtain⟨n,hn,hc⟩:=bindS hc;obtain⟨pr,h3,hc⟩:=bindS hc;split at hc
   ·cases hc;refine s_buildA W h1 h2 hu hn ?_;rw[Array.toList_map];refine zFf hx (λi x p hp=>?_) h3;obtain⟨y,hy,hp⟩:=bindS hp;injection hp with hp;subst hp;exact⟨rfl,hy⟩
   ·cases hc
  ·cases hc
 | buildSlice t len parts=>
  unfold cOp at hc;simp only at hc;split at hc
  ·rename_i e hu;obtain⟨n,hn,hc⟩:=bindS hc;obtain⟨zv,h1,hc⟩:=bindS hc;obtain⟨z,h2,hc⟩:=bindS hc;obtain⟨pr,h3,hc⟩:=bindS hc;split at hc
   ·rename_i hsz;cases hc;refine s_bslice W hu hn h1 h2 hsz.1 hsz.2 ?_;rw[Array.toList_map];refine zFf hx (λi x p hp=>?_) h3;obtain⟨y,hy,hp⟩:=bindS hp;injection hp with hp;subst hp;exact⟨rfl,hy⟩
   ·cases hc
  ·cases hc
 | load t x=>
  obtain⟨g,hg,hc⟩:=bindS hc;cases g with
  | true=>
   obtain⟨n,hn,hc⟩:=bindS hc;obtain⟨y,hy,hc⟩:=bindS hc;cases hc;exact s_loadN W hg hn (hx _ _ hy)
  | false=>
   obtain⟨y,hy,hc⟩:=bindS hc;cases hc;exact s_load W hg (hx _ _ hy)
 | store t x y=>
  obtain⟨n,hn,hc⟩:=bindS hc;obtain⟨x',h1,hc⟩:=bindS hc;obtain⟨y',h2,hc⟩:=bindS hc;cases hc;exact s_store W hn (hx _ _ h1) (hx _ _ h2)
 | nilCheck x=>obtain⟨y,hy,rfl⟩:=mapS hc;exact s_nil (v:=a x) W (hx _ _ hy)
 | binOp op t x y _=>
  unfold cOp at hc;simp only at hc;split at hc
  ·obtain⟨et,het,hc⟩:=bindS hc;obtain⟨x',h1,hc⟩:=bindS hc;obtain⟨y',h2,hc⟩:=bindS hc;cases hc;exact good_eq (kill:=kill) (c:=true) (u:=t) (ao:=.cap (.t 0)) W hx hk rfl het h1 h2
  ·obtain⟨et,het,hc⟩:=bindS hc;obtain⟨x',h1,hc⟩:=bindS hc;obtain⟨y',h2,hc⟩:=bindS hc;cases hc;exact good_eq (kill:=kill) (c:=true) (u:=t) (ao:=.cap (.t 0)) (neg:=true) W hx hk rfl het h1 h2
  ·obtain⟨b,hb,hc⟩:=bindS hc;obtain⟨x',h1,hc⟩:=bindS hc;obtain⟨y',h2,hc⟩:=bindS hc;cases hc;exact s_bin W hb (hx _ _ h1) (hx _ _ h2)
 | unOp op t x=>
  cases op with
  | neg=>obtain⟨y,hy,rfl⟩:=mapS hc;exact s_neg W (hx _ _ hy)
  | not=>obtain⟨y,hy,rfl⟩:=mapS hc;exact s_not W (hx _ _ hy)
  | xor=>obtain⟨y,hy,rfl⟩:=mapS hc;trivial
  | _=>cases hc
 | convert s t x=>
  unfold cOp at hc;simp only at hc;split at hc
  ·rename_i h1 h2;obtain⟨y,hy,rfl⟩:=mapS hc;exact s_convI W h1 h2 (hx _ _ hy)
  ·rename_i h1 h2;obtain⟨y,hy,rfl⟩:=mapS hc;exact s_convS W h1 h2 (hx _ _ hy)
  ·rename_i h1 h2;split at hc
   ·rename_i h3;rw[q0C] at h3;obtain⟨y,hy,rfl⟩:=mapS hc;exact s_bytesOf W h1 h2 (isU8_eq h3.2) (hx _ _ hy)
   ·cases hc
  ·cases hc
 | makeInterface t x=>
  unfold cOp at hc;simp only at hc;split at hc
  ·cases hc
  ·rename_i hne hu;obtain⟨y,hy,rfl⟩:=mapS hc;exact s_mkIfc W hu (λms e=>hne ms (by rw[e])) (hx _ _ hy)
  ·cases hc
 | makeFunc fn first caps=>
  cases fn with
  | func f=>
   obtain⟨l,h1,hc⟩:=bindS hc;obtain⟨l',h2,hc⟩:=bindS hc;cases hc;exact s_mkFn W (by rw[Array.toList_map];exact zJw hx h1) (by rw[Array.toList_map];exact zJw hx h2)
  | _=>cases hc
 | makeMap t r=>
  cases r with
  | none=>cases hc;exact s_mkMap (loc:=loc) (tmp:=tmp) W
  | some _=>cases hc
 | makeSlice t l c=>
  unfold cOp at hc;simp only at hc;split at hc
  ·rename_i e hu;obtain⟨n,hn,hc⟩:=bindS hc;obtain⟨zv,h1,hc⟩:=bindS hc;obtain⟨z,h2,hc⟩:=bindS hc;split at hc
   ·rename_i hsz;obtain⟨b,hb,hc⟩:=bindS hc;obtain⟨l',h3,hc⟩:=bindS hc;obtain⟨c',h4,hc⟩:=bindS hc;cases hc;exact s_mkSlice W hu hn hb h1 h2 hsz (hx _ _ h3) (hx _ _ h4)
   ·cases hc
  ·cases hc
 | slice t x lo hi mx=>
  unfold cOp at hc;simp only at hc;cases hu:P.underlying t with
  | none=>rw[hu] at hc;cases hc
  | some dt=>
   rw[hu] at hc;cases dt with
   | string=>
    cases mx with
    | some _=>cases hc
    | none=>
     obtain⟨y,hy,hc⟩:=bindS hc;obtain⟨lo',h1,hc⟩:=bindS hc;obtain⟨hi',h2,hc⟩:=bindS hc;cases hc;exact s_sliceS W hu (hx _ _ hy) (zI9 hx h1) (zI9 hx h2)
   | slice e=>
    have hc:(if mx.isSome&&!hi.isSome then none else(do some (AOp.sliceV kill (<-zAm P e) (<-cx x) (<-(match lo with | none=>some none | some y=>(cx y).map some)) (<-(match hi with | none=>some none | some y=>(cx y).map some)) (<-(match mx with | none=>some none | some y=>(cx y).map some)))))=some ao:=hc;split at hc
    ·cases hc
    ·rename_i hmx;obtain⟨n,hn,hc⟩:=bindS hc;obtain⟨y,hy,hc⟩:=bindS hc;obtain⟨lo',h1,hc⟩:=bindS hc;obtain⟨hi',h2,hc⟩:=bindS hc;obtain⟨mx',h3,hc⟩:=bindS hc;cases hc;refine s_sliceV W hu hn (hx _ _ hy) (zI9 hx h1) (zI9 hx h2) (zI9 hx h3) (λhe=>?_);cases mx with
     | none=>injection h3 with h3;subst h3;cases he
     | some m=>
      cases hi with
      | none=>exact absurd rfl hmx
      | some h=>
       obtain⟨z,hz,e⟩:=mapS h2;subst e;rfl
   | _=>cases hc
 | fieldAddr s x f=>
  unfold cOp at hc;simp only at hc;split at hc
  ·rename_i fs hu;obtain⟨fl,hf,hc⟩:=bindS hc;split at hc
   ·rename_i n hn;obtain⟨y,hy,hc⟩:=bindS hc;cases hc;exact s_fieldAddr W hu hf hn (hx _ _ hy)
   ·cases hc
  ·cases hc
 | field s x f=>
  unfold cOp at hc;simp only at hc;split at hc
  ·rename_i fs hu;obtain⟨fl,hf,hc⟩:=bindS hc;obtain⟨n,hn,hc⟩:=bindS hc;obtain⟨g,hg,hc⟩:=bindS hc;obtain⟨y,hy,hc⟩:=bindS hc;cases hc;exact s_field W hu hf hn hg (hx _ _ hy)
  ·cases hc
 | indexAddr t x i=>
  unfold cOp at hc;simp only at hc;split at hc
  ·rename_i hu;obtain⟨n,hn,hc⟩:=bindS hc;obtain⟨x',h1,hc⟩:=bindS hc;obtain⟨y',h2,hc⟩:=bindS hc;cases hc;exact s_idxAddr W hu hn (hx _ _ h1) (hx _ _ h2)
  ·rename_i hu;obtain⟨n,hn,hc⟩:=bindS hc;obtain⟨x',h1,hc⟩:=bindS hc;obtain⟨y',h2,hc⟩:=bindS hc;cases hc;exact s_idxAddrA W hu hn (hx _ _ h1) (hx _ _ h2)
  ·cases hc
 | index t x i=>
  unfold cOp at hc;simp only at hc;split at hc
  ·rename_i hu;obtain⟨x',h1,hc⟩:=bindS hc;obtain⟨y',h2,hc⟩:=bindS hc;cases hc;exact s_idxS W hu (hx _ _ h1) (hx _ _ h2)
  ·rename_i hu;obtain⟨n,hn,hc⟩:=bindS hc;obtain⟨g,hg,hc⟩:=bindS hc;obtain⟨x',h1,hc⟩:=bindS hc;obtain⟨y',h2,hc⟩:=bindS hc;cases hc;exact s_idxA W hu hn hg (hx _ _ h1) (hx _ _ h2)
  ·cases hc
 | extract x i=>obtain⟨y,hy,rfl⟩:=mapS hc;exact s_extract W (hx _ _ hy)
 | call c=>
  obtain⟨cal,args,ats⟩:=c;cases cal with
  | builtin b=>exact good_builtin W hx hk hc
  | invoke _ _=>cases hc
  | value x=>
   cases x with
   | func f=>
    have hc:(if zBc P f then(do some (.callF f (<-args.toList.mapM cx))) else none)=some ao:=hc;split at hc
    ·obtain⟨l,h1,hc⟩:=bindS hc;cases hc;exact good_callF (hfn f) (zJw hx h1)
    ·cases hc
   | _=>
    obtain⟨y,hy,hc⟩:=bindS hc;obtain⟨l,h1,hc⟩:=bindS hc;cases hc;exact good_callV W (hx _ _ hy) (zJw hx h1)
 | typeAssert x st t ok=>
  unfold cOp at hc;simp only at hc;split at hc
  ·cases hc
  ·rename_i hne hu;obtain⟨zv,h1,hc⟩:=bindS hc;obtain⟨z,h2,hc⟩:=bindS hc;obtain⟨y,hy,hc⟩:=bindS hc;cases hc;exact s_assert W hu (λms e=>hne ms (by rw[e])) h1 h2 (hx _ _ hy)
  ·cases hc
 | lookup t m k ok=>
  unfold cOp at hc;simp only at hc;split at hc
  ·rename_i hu;obtain⟨kt,h0,hc⟩:=bindS hc;obtain⟨zv,h1,hc⟩:=bindS hc;obtain⟨z,h2,hc⟩:=bindS hc;obtain⟨m',h3,hc⟩:=bindS hc;obtain⟨k',h4,hc⟩:=bindS hc;cases hc;exact s_lookup W hu h0 h1 h2 (hx _ _ h3) (hx _ _ h4)
  ·cases hc
 | mapUpdate t m k x=>
  unfold cOp at hc;simp only at hc;split at hc
  ·rename_i hu;obtain⟨kt,h0,hc⟩:=bindS hc;obtain⟨m',h3,hc⟩:=bindS hc;obtain⟨k',h4,hc⟩:=bindS hc;obtain⟨x',h5,hc⟩:=bindS hc;cases hc;exact s_mapUpd W hu h0 (hx _ _ h3) (hx _ _ h4) (hx _ _ h5)
  ·cases hc
 | insert t m k x=>
  unfold cOp at hc;simp only at hc;split at hc
  ·rename_i hu;obtain⟨kt,h0,hc⟩:=bindS hc;obtain⟨m',h3,hc⟩:=bindS hc;obtain⟨k',h4,hc⟩:=bindS hc;obtain⟨x',h5,hc⟩:=bindS hc;cases hc;exact s_mapUpd W hu h0 (hx _ _ h3) (hx _ _ h4) (hx _ _ h5)
  ·cases hc
 | mapEntry t m k=>
  unfold cOp at hc;simp only at hc;split at hc
  ·rename_i hu;obtain⟨kt,h0,hc⟩:=bindS hc;obtain⟨zv,h1,hc⟩:=bindS hc;obtain⟨z,h2,hc⟩:=bindS hc;obtain⟨m',h3,hc⟩:=bindS hc;obtain⟨k',h4,hc⟩:=bindS hc;cases hc;exact s_mapEntry W hu h0 h1 h2 (hx _ _ h3) (hx _ _ h4)
  ·cases hc
 | entryStore t m s x=>
  obtain⟨m',h3,hc⟩:=bindS hc;obtain⟨k',h4,hc⟩:=bindS hc;obtain⟨x',h5,hc⟩:=bindS hc;cases hc;exact s_entryStore W (hx _ _ h3) (hx _ _ h4) (hx _ _ h5)
 | panic x=>obtain⟨y,hy,rfl⟩:=mapS hc;exact s_panic W (hx _ _ hy)
 | defer c=>
  obtain⟨cal,args,ats⟩:=c;cases cal with
  | value x=>
   have hc:(if args.isEmpty then(cx x).map AOp.dfr else none)=some ao:=hc;split at hc
   ·obtain⟨y,hy,rfl⟩:=mapS hc;exact good_dfr ‹_› (hx _ _ hy)
   ·cases hc
  | _=>cases hc
 | range t x=>
  unfold cOp at hc;simp only at hc;split at hc
  ·rename_i hu;obtain⟨y,hy,rfl⟩:=mapS hc;exact s_range W hu (hx _ _ hy)
  ·cases hc
 | next it s=>
  cases s with
  | true=>cases hc
  | false=>obtain⟨y,hy,rfl⟩:=mapS hc;exact s_next W (hx _ _ hy)
 | entry it=>obtain⟨y,hy,rfl⟩:=mapS hc;exact s_entry W (hx _ _ hy)
 | _=>cases hc
end
variable[Glob]
def PureF(f:AH->OR):Prop:=(∃n,∀h,f h=.fail n)\/∃v,∀h,f h=.val v h
def Ext(h h':AH):Prop:=∀id o,h.mem.get id=some o->h'.mem.get id=some o
def ReadF(f:AH->OR):Prop:=∀h,(∃n,f h=.fail n)\/∃v,f h=.val v h/\∀h2,Ext h h2->f h2=.val v h2
theorem PureF.read{f:AH->OR}(p:PureF f):ReadF f:=by
 intro h;rcases p with⟨n,hn⟩ | ⟨u,hu⟩
 ·exact .inl ⟨n,hn h⟩
 ·exact .inr ⟨u,hu h,λh2 _=>hu h2⟩
theorem pF(n:Nat):PureF λ_=>F n:=.inl ⟨n,λ_=>rfl⟩
theorem pV(v:AV):PureF λh=>OR.val v h:=.inr ⟨v,λ_=>rfl⟩
theorem pBool(b:Bool):PureF λh=>Ev.bool b h:=.inr ⟨.bool b,λh=>zCc b h⟩
theorem pInt(k:IntKind)(n:Int):PureF λh=>intV k n h:=.inr ⟨_,λh=>zCb k n h⟩
theorem pNat(n:Nat):PureF λh=>natV n h:=.inr ⟨_,λh=>zCj n h⟩
section
variable{loc:T AV}{tmp:List AV}
theorem p_onBool{v:AV}{k:Bool->AH->OR}(hk:∀b,PureF (k b)):PureF λh=>onBool v λb=>k b h:=by cases v<;>first | exact hk _ | exact pF _
theorem zC7{v:AV}{k:IntKind->Int->AH->OR}(hk:∀a b,PureF (k a b)):PureF λh=>onInt v λa b=>k a b h:=by cases v<;>first | exact hk _ _ | exact pF _
theorem zI8{v:AV}{k:Nat->Nat->AH->OR}(hk:∀a b,PureF (k a b)):PureF λh=>onStr v λa b=>k a b h:=by cases v<;>first | exact hk _ _ | exact pF _
theorem p_onPtr{v:AV}{k:Nat->Nat->AH->OR}(hk:∀a b,PureF (k a b)):PureF λh=>onPtr v λa b=>k a b h:=by cases v<;>first | exact hk _ _ | exact pF _
theorem p_onAgg{v:AV}{k:List AV->AH->OR}(hk:∀a,PureF (k a)):PureF λh=>onAgg v λa=>k a h:=by cases v<;>first | exact hk _ | exact pF _
theorem p_onTup{v:AV}{k:List AV->AH->OR}(hk:∀a,PureF (k a)):PureF λh=>onTup v λa=>k a h:=by cases v<;>first | exact hk _ | exact pF _
theorem p_onSl{v:AV}{kn:AH->OR}{k:Nat->Nat->Nat->ACap->AH->OR}(hn:PureF kn)(hk:∀a b c d,PureF (k a b c d)):PureF λh=>onSl v (kn h) λa b c d=>k a b c d h:=by cases v<;>first | exact hk _ _ _ _ | exact hn | exact pF _
theorem zHi{n:Int}{k:Nat->AH->OR}(hk:∀a,PureF (k a)):PureF λh=>onNat n λa=>k a h:=by cases n<;>first | exact hk _ | exact pF _
theorem p_bi{b:Bool}{x y:AH->OR}(hx:PureF x)(hy:PureF y):PureF λh=>bi b (x h) (y h):=by cases b<;>assumption
theorem p_obind{α:Type}{o:Option α}{n:Nat}{k:α->AH->OR}(hk:∀a,PureF (k a)):PureF λh=>obind o (F n) λa=>k a h:=by
 cases o with
 | none=>exact pF n
 | some a=>exact hk a
theorem p_move(x:Opd):PureF λh=>oMove x loc tmp h:=by
 unfold oMove;cases ev loc tmp x<;>first | exact pV _ | exact pF _
theorem r_bi{b:Bool}{x y:AH->OR}(hx:ReadF x)(hy:ReadF y):ReadF λh=>bi b (x h) (y h):=by cases b<;>assumption
theorem r_onPtr{v:AV}{k:Nat->Nat->AH->OR}(hk:∀a b,ReadF (k a b)):ReadF λh=>onPtr v λa b=>k a b h:=by cases v<;>first | exact hk _ _ | exact(pF _).read
theorem zI3{α:Type}{o:Option α}{n:Nat}{k:α->AH->OR}(hk:∀a,ReadF (k a)):ReadF λh=>obind o (F n) λa=>k a h:=by
 cases o with
 | none=>exact(pF n).read
 | some a=>exact hk a
theorem r_cells{id:Nat}{k:T AV->Nat->Option Nat->Bool->AH->OR}(hk:∀a b c d,ReadF (k a b c d)):ReadF λh=>zAq (AH.get h id) λa b c d=>k a b c d h:=by
 intro h;simp only[q2f];cases hg:h.mem.get id with
 | none=>exact .inl ⟨_,rfl⟩
 | some o=>
  cases o with
  | cells a b c d=>
   rcases hk a b c d h with⟨n,hn⟩ | ⟨v,h1,h2⟩
   ·exact .inl ⟨n,hn⟩
   ·refine .inr ⟨v,h1,λh3 hx=>?_⟩;rw[hx _ _ hg];exact h2 h3 hx
  | _=>exact .inl ⟨_,rfl⟩
theorem r_mapO{id:Nat}{k:List (AV×AV×Nat)->Nat->AH->OR}(hk:∀a b,ReadF (k a b)):ReadF λh=>zDf (AH.get h id) λa b=>k a b h:=by
 intro h;simp only[q2f];cases hg:h.mem.get id with
 | none=>exact .inl ⟨_,rfl⟩
 | some o=>
  cases o with
  | map a b=>
   rcases hk a b h with⟨n,hn⟩ | ⟨v,h1,h2⟩
   ·exact .inl ⟨n,hn⟩
   ·refine .inr ⟨v,h1,λh3 hx=>?_⟩;rw[hx _ _ hg];exact h2 h3 hx
  | _=>exact .inl ⟨_,rfl⟩
end
variable[Glob]
section
variable{loc:T AV}{tmp:List AV}
theorem p_opt{o:Option Opd}{d:Nat}{k:Nat->AH->OR}(hk:∀n,PureF (k n)):PureF λh=>zDe loc tmp o d λn=>k n h:=by
 cases o with
 | none=>exact hk d
 | some x=>exact zC7 λ_ n=>zHi λn=>hk n
theorem p_fN{n:Nat}{k:Nat->AH->OR}(hk:∀n,PureF (k n)):PureF λh=>fN n λn=>k n h:=by
 simp only[fN_eq];exact hk n
theorem p_intBin(op:ABin)(k:IntKind)(x y:Int):PureF λh=>intBin op k x y h:=by
 cases op
 case add=>exact pInt _ _
 case sub=>exact pInt _ _
 case mul=>exact pInt _ _
 case quo=>exact p_bi (x:=λ_=>F 22) (pF 22) (pInt _ _)
 case rem=>exact p_bi (x:=λ_=>F 22) (pF 22) (by show PureF λh=>fI _ λn=>OR.val (AV.int k n) h;simp only[fI_eq];exact pV _)
 case shl=>exact pF 24
 case shr=>exact pF 24
 case andNot=>exact pF 23
 case lss=>exact pBool _
 case leq=>exact pBool _
 case gtr=>exact pBool _
 case geq=>exact pBool _
 all_goals
  refine p_bi (y:=λ_=>F 23) (p_bi (y:=λ_=>F 23) ?_ (pF 23)) (pF 23);cases x with
  | negSucc x=>exact pV _
  | ofNat x=>
  cases y with
  | negSucc y=>exact pV _
  | ofNat y=>
  exact p_fN λn=>p_bi (y:=λ_=>F 23) (pV _) (pF 23)
theorem p_shiftBin(op:ABin)(k:IntKind)(x y:Int):PureF λh=>zIj op k x y h:=by
 unfold zIj;refine zHi λn=>?_;cases op
 case shl=>exact p_bi (pInt _ _) (pV _)
 case shr=>
  cases x with
  | ofNat m=>exact p_bi (y:=λ_=>F 26) (p_fN λm=>pV _) (pF 26)
  | negSucc m=>exact p_bi (y:=λ_=>F 26) (pV _) (pF 26)
 all_goals exact pF 25
theorem p_strBin(op:ABin)(l b l' b':Nat):PureF λh=>strBin op l b l' b' h:=by
 cases op
 case add=>exact p_bi (y:=λ_=>F 27) (p_fN λn=>p_fN λm=>pV _) (pF 27)
 all_goals exact pF 27
theorem p_bin(op:ABin)(x y:Opd):PureF λh=>oBin op x y loc tmp h:=by
 unfold oBin;cases ev loc tmp x
 case int k m=>exact zC7 λk' n=>p_bi (p_shiftBin _ _ _ _) (p_bi (y:=λ_=>F 28) (p_intBin _ _ _ _) (pF 28))
 case str l b=>exact zI8 λl' b'=>p_strBin _ _ _ _ _
 all_goals exact pF 28
theorem p_part(off n:Nat)(g:Bool)(l:List AV):PureF λh=>oPart off n g l h:=by
 refine p_bi (pV _) ?_;cases nth l off<;>first | exact pV _ | exact pF 39
theorem p_mkIfc(t:Nat)(x:Opd):PureF λh=>zH3 t x loc tmp h:=by
 unfold zH3 oMove;cases ev loc tmp x<;>first | exact pV _ | exact pF _
theorem p_extract(i:Nat)(x:Opd):PureF λh=>zD4 i x loc tmp h:=by
 refine p_onTup λl=>?_;cases nth l i<;>first | exact pV _ | exact pF 44
theorem p_assert(t:Nat)(ok:Bool)(z:AV)(x:Opd):PureF λh=>zJg t ok z x loc tmp h:=by
 unfold zJg;cases ev loc tmp x
 case ifc t' v=>exact p_bi (p_bi (pV _) (pV _)) (p_bi (y:=λ_=>F 58) (pV _) (pF 58))
 case nili=>exact p_bi (y:=λ_=>F 58) (pV _) (pF 58)
 all_goals exact pF 58
theorem r_opt{o:Option Opd}{d:Nat}{k:Nat->AH->OR}(hk:∀n,ReadF (k n)):ReadF λh=>zDe loc tmp o d λn=>k n h:=by
 cases o with
 | none=>exact hk d
 | some x=>
  show ReadF λh=>onInt (ev loc tmp x) λ_ n=>onNat n λn=>k n h;cases ev loc tmp x<;>try (exact(pF _).read)
  rename_i a n;cases n<;>first | exact hk _ | exact(pF _).read
theorem r_eq(neg:Bool)(t:EqT)(x y:Opd):ReadF λh=>oEq neg t x y loc tmp h:=by
 intro h;show(∃n,obind (eqBy t h (ev loc tmp x) (ev loc tmp y)) (F 29) (λq=>Ev.bool (bi neg (bi q false true) q) h)=.fail n)\/_;cases hq:eqBy t h (ev loc tmp x) (ev loc tmp y) with
 | none=>exact .inl ⟨_,rfl⟩
 | some q=>
  refine .inr ⟨.bool (bi neg (bi q false true) q),?_,λh2 hx=>?_⟩
  ·show obind (eqBy t h (ev loc tmp x) (ev loc tmp y)) (F 29) (λq=>Ev.bool (bi neg (bi q false true) q) h)=_;rw[hq];show Ev.bool (bi neg (bi q false true) q) h=_;rw[zCc]
  have:eqBy t h2 (ev loc tmp x) (ev loc tmp y)=some q:=by
   cases t
   case ptr=>
    have hq:eqPtr h (ev loc tmp x) (ev loc tmp y)=some q:=hq;show eqPtr h2 (ev loc tmp x) (ev loc tmp y)=some q;cases hx':ev loc tmp x<;>rw[hx'] at hq<;>try (cases hq;done)
    all_goals
     cases hy':ev loc tmp y<;>rw[hy'] at hq<;>try (cases hq;done)
    all_goals try exact hq
    rename_i i o i' o';obtain⟨KK,hKK⟩:∃KK:AObj->AObj->Option Bool,∀h,eqPtr h (.ptr i o) (.ptr i' o')=bi (Nat.beq i i') (some (Nat.beq o o')) (obind (AH.get h i) none λp=>obind (AH.get h i') none λq=>KK p q):=⟨_,λh=>rfl⟩;rw[hKK] at hq ⊢;cases hb:Nat.beq i i' with
    | true=>rw[hb] at hq;exact hq
    | false=>
     rw[hb] at hq;have hq:obind (AH.get h i) none (λp=>obind (AH.get h i') none λq=>KK p q)=some q:=hq;show obind (AH.get h2 i) none (λp=>obind (AH.get h2 i') none λq=>KK p q)=some q;rw[q2f,q2f] at hq ⊢;cases h1:h.mem.get i with
     | none=>rw[h1] at hq;cases hq
     | some p1=>
      rw[h1] at hq;have hq:obind (h.mem.get i') none (λq=>KK p1 q)=some q:=hq;cases h3:h.mem.get i' with
      | none=>rw[h3] at hq;cases hq
      | some p2=>
       rw[h3] at hq;rw[hx _ _ h1,hx _ _ h3];exact hq
   all_goals exact hq
  show obind (eqBy t h2 (ev loc tmp x) (ev loc tmp y)) (F 29) (λq=>Ev.bool (bi neg (bi q false true) q) h2)=_;rw[this];show Ev.bool (bi neg (bi q false true) q) h2=_;rw[zCc]
theorem r_lenM(x:Opd):ReadF λh=>lenM x loc tmp h:=by
 unfold lenM;cases ev loc tmp x
 case mp id=>exact r_mapO λes _=>(pNat _).read
 case nilm=>exact(pNat 0).read
 all_goals exact(pF 45).read
theorem r_lookup(kt:KT)(z:AV)(ok:Bool)(m k:Opd):ReadF λh=>zEc kt z ok m k loc tmp h:=by
 have hres:∀r:Option AV,ReadF λh=>(Option.rec (motive:=λ_=>OR) (bi ok (OR.val (AV.tup [z,AV.bool false]) h) (OR.val z h)) (λv=>bi ok (OR.val (AV.tup [v,AV.bool true]) h) (OR.val v h)) r:OR):=by
  intro r;cases r with
  | none=>exact r_bi (pV _).read (pV _).read
  | some v=>exact r_bi (pV _).read (pV _).read
 unfold zEc;cases ev loc tmp m
 case mp id=>exact r_mapO λes _=>zI3 λ_=>zI3 λr=>hres r
 case nilm=>exact zI3 λ_=>hres none
 all_goals exact(pF 55).read
theorem r_onSl{v:AV}{kn:AH->OR}{k:Nat->Nat->Nat->ACap->AH->OR}(hn:ReadF kn)(hk:∀a b c d,ReadF (k a b c d)):ReadF λh=>onSl v (kn h) λa b c d=>k a b c d h:=by cases v<;>first | exact hk _ _ _ _ | exact hn | exact(pF _).read
theorem r_sliceV(es:Nat)(x:Opd)(lo hi mx:Option Opd):ReadF λh=>zAs false es x lo hi mx loc tmp h:=by
 unfold zAs;have rb:∀{b:Bool} {n:Nat} {x:AH->OR},ReadF x->ReadF λh=>bi b (x h) (F n):=λ{b n x} hx=>r_bi (y:=λ_=>F n) hx (pF n).read;have rN:∀{n:Nat} {k:Nat->AH->OR},(∀n,ReadF (k n))->ReadF λh=>fN n λn=>k n h:=λ{n k} hk=>by simp only[fN_eq];exact hk n
 refine r_onSl (r_opt λmx=>r_opt λhi=>r_opt λlo=>rb (rb (rb (pV _).read))) λid off len cap=>?_;cases cap with
 | known c=>exact r_opt λmx=>rb (r_opt λhi=>rb (r_opt λlo=>rb (rN λn=>rN λm=>r_bi (pV _).read (rN λoff=>(pV _).read))))
 | rest es'=>
  refine rb (rb (r_cells λ_ s _ r=>?_));cases mx with
  | none=>
   refine r_opt λhi=>rb (r_opt λlo=>rb (r_bi (pV _).read (rN λn=>r_bi ?_ (rN λoff=>(pV _).read))));exact(pV _).read
  | some mx=>
   refine r_opt (o:=some mx) (d:=0) λmx=>rb (r_opt λhi=>rb (r_opt λlo=>rb (rN λn=>rN λm=>r_bi (pV _).read (rN λoff=>(pV _).read))))
variable{P:Program}{cx:Operand->Option Opd}
theorem zLj{op:Op}{ao:AOp}(hc:cOp P cx false op=some ao)(h0:clsO op=0):PureF λh=>evOp ao loc tmp h:=by
 cases op<;>try (cases h0;done)
 case move x=>obtain⟨y,hy,rfl⟩:=mapS hc;exact p_move y
 case assign x=>obtain⟨y,hy,rfl⟩:=mapS hc;exact p_move y
 case pick c x y=>
  obtain⟨c',h1,hc⟩:=bindS hc;obtain⟨x',h2,hc⟩:=bindS hc;obtain⟨y',h3,hc⟩:=bindS hc;cases hc;exact p_onBool λq=>p_bi (p_move _) (p_move _)
 case build t parts=>
  obtain⟨zv,h1,hc⟩:=bindS hc;obtain⟨z,h2,hc⟩:=bindS hc;split at hc
  ·obtain⟨pr,h3,hc⟩:=bindS hc;split at hc
   ·cases hc;exact p_obind λl=>pV _
   ·cases hc
  ·obtain⟨n,hn,hc⟩:=bindS hc;obtain⟨pr,h3,hc⟩:=bindS hc;split at hc
   ·cases hc;exact p_obind λl=>pV _
   ·cases hc
  ·cases hc
 case nilCheck x=>obtain⟨y,hy,rfl⟩:=mapS hc;exact p_onPtr λi o=>pV _
 case binOp op t x y u=>
  unfold cOp at hc;simp only at hc;split at hc
  ·cases h0
  ·cases h0
  ·obtain⟨b,hb,hc⟩:=bindS hc;obtain⟨x',h1,hc⟩:=bindS hc;obtain⟨y',h2,hc⟩:=bindS hc;cases hc;exact p_bin _ _ _
 case unOp op t x=>
  cases op with
  | neg=>obtain⟨y,hy,rfl⟩:=mapS hc;exact zC7 λk n=>pInt _ _
  | not=>obtain⟨y,hy,rfl⟩:=mapS hc;exact p_onBool λb=>pBool _
  | xor=>obtain⟨y,hy,rfl⟩:=mapS hc;exact pF 30
  | _=>cases hc
 case convert s t x=>
  unfold cOp at hc;simp only at hc;split at hc
  ·obtain⟨y,hy,rfl⟩:=mapS hc;exact zC7 λk n=>pInt _ _
  ·obtain⟨y,hy,rfl⟩:=mapS hc;exact zI8 λl b=>pV _
  ·cases hc
  ·cases hc
 case makeInterface t x=>
  unfold cOp at hc;simp only at hc;split at hc
  ·cases hc
  ·obtain⟨y,hy,rfl⟩:=mapS hc;exact p_mkIfc _ _
  ·cases hc
 case makeFunc fn first caps=>
  cases fn with
  | func f=>
   obtain⟨l,h1,hc⟩:=bindS hc;obtain⟨l',h2,hc⟩:=bindS hc;cases hc;exact pV _
  | _=>cases hc
 case fieldAddr s x f=>
  unfold cOp at hc;simp only at hc;split at hc
  ·obtain⟨fl,hf,hc⟩:=bindS hc;split at hc
   ·obtain⟨y,hy,hc⟩:=bindS hc;cases hc;exact p_onPtr λi o=>p_fN λn=>pV _
   ·cases hc
  ·cases hc
 case field s x f=>
  unfold cOp at hc;simp only at hc;split at hc
  ·obtain⟨fl,hf,hc⟩:=bindS hc;obtain⟨n,hn,hc⟩:=bindS hc;obtain⟨g,hg,hc⟩:=bindS hc;obtain⟨y,hy,hc⟩:=bindS hc;cases hc;exact p_onAgg λl=>p_part _ _ _ _
  ·cases hc
 case indexAddr t x i=>
  unfold cOp at hc;simp only at hc;split at hc
  ·obtain⟨n,hn,hc⟩:=bindS hc;obtain⟨x',h1,hc⟩:=bindS hc;obtain⟨y',h2,hc⟩:=bindS hc;cases hc;exact zC7 λ_ i=>zHi λi=>p_onSl (kn:=λ_=>F 40) (pF 40) λ_ _ _ _=>p_bi (y:=λ_=>F 40) (p_fN λo=>pV _) (pF 40)
  ·obtain⟨n,hn,hc⟩:=bindS hc;obtain⟨x',h1,hc⟩:=bindS hc;obtain⟨y',h2,hc⟩:=bindS hc;cases hc;exact zC7 λ_ i=>zHi λi=>p_onPtr λ_ _=>p_bi (y:=λ_=>F 41) (p_fN λo=>pV _) (pF 41)
  ·cases hc
 case index t x i=>
  unfold cOp at hc;simp only at hc;split at hc
  ·obtain⟨x',h1,hc⟩:=bindS hc;obtain⟨y',h2,hc⟩:=bindS hc;cases hc;exact zC7 λ_ i=>zHi λi=>zI8 λ_ _=>p_bi (y:=λ_=>F 42) (p_fN λo=>pV _) (pF 42)
  ·obtain⟨n,hn,hc⟩:=bindS hc;obtain⟨g,hg,hc⟩:=bindS hc;obtain⟨x',h1,hc⟩:=bindS hc;obtain⟨y',h2,hc⟩:=bindS hc;cases hc;exact zC7 λ_ i=>zHi λi=>p_bi (y:=λ_=>F 43) (p_onAgg λ_=>p_fN λo=>p_part _ _ _ _) (pF 43)
  ·cases hc
 case extract x i=>obtain⟨y,hy,rfl⟩:=mapS hc;exact p_extract _ _
 case typeAssert x st t ok=>
  unfold cOp at hc;simp only at hc;split at hc
  ·cases hc
  ·obtain⟨zv,h1,hc⟩:=bindS hc;obtain⟨z,h2,hc⟩:=bindS hc;obtain⟨y,hy,hc⟩:=bindS hc;cases hc;exact p_assert _ _ _ _
  ·cases hc
 case call c=>
  obtain⟨cal,args,ats⟩:=c;cases cal with
  | builtin b=>
   cases b<;>try (cases h0;done)
   case cap=>
    unfold cOp at hc;simp only at hc;split at hc
    all_goals try (cases hc;done)
    all_goals rename_i hb hl
    all_goals try (cases hb;done)
    split at hc
    ·obtain⟨y,hy,rfl⟩:=mapS hc;refine p_onSl (pNat 0) λ_ _ _ c=>?_;cases c<;>first | exact pNat _ | exact pF 46
    ·cases hc
   case max=>
    unfold cOp at hc;simp only at hc;split at hc
    all_goals try (cases hc;done)
    all_goals rename_i hb hl
    all_goals try (cases hb;done)
    obtain⟨s',hs',hc⟩:=bindS hc;obtain⟨x',hx',hc⟩:=bindS hc;cases hc;exact zC7 λk m=>zC7 λ_ n=>p_bi (pV _) (pV _)
   case min=>
    unfold cOp at hc;simp only at hc;split at hc
    all_goals try (cases hc;done)
    all_goals rename_i hb hl
    all_goals try (cases hb;done)
    obtain⟨s',hs',hc⟩:=bindS hc;obtain⟨x',hx',hc⟩:=bindS hc;cases hc;exact zC7 λk m=>zC7 λ_ n=>p_bi (pV _) (pV _)
  | _=>cases h0
theorem read_op{op:Op}{ao:AOp}(hc:cOp P cx false op=some ao)(h0:clsO op=1):ReadF λh=>evOp ao loc tmp h:=by
 cases op<;>try (cases h0;done)
 case load t x=>
  obtain⟨g,hg,hc⟩:=bindS hc;cases g with
  | true=>
   obtain⟨n,hn,hc⟩:=bindS hc;obtain⟨y,hy,hc⟩:=bindS hc;cases hc;exact r_onPtr λid off=>r_cells λc _ _ _=>zI3 λl=>(pV _).read
  | false=>
   obtain⟨y,hy,hc⟩:=bindS hc;cases hc;exact r_onPtr λid off=>r_cells λc _ _ _=>zI3 λl=>(pV _).read
 case binOp op t x y u=>
  unfold cOp at hc;simp only at hc;split at hc
  ·obtain⟨et,het,hc⟩:=bindS hc;obtain⟨x',h1,hc⟩:=bindS hc;obtain⟨y',h2,hc⟩:=bindS hc;cases hc;exact r_eq _ _ _ _
  ·obtain⟨et,het,hc⟩:=bindS hc;obtain⟨x',h1,hc⟩:=bindS hc;obtain⟨y',h2,hc⟩:=bindS hc;cases hc;exact r_eq _ _ _ _
  ·obtain⟨b,hb,hc⟩:=bindS hc;obtain⟨x',h1,hc⟩:=bindS hc;obtain⟨y',h2,hc⟩:=bindS hc;cases hc;exact(p_bin _ _ _).read
 case lookup t m k ok=>
  unfold cOp at hc;simp only at hc;split at hc
  ·obtain⟨kt,h0,hc⟩:=bindS hc;obtain⟨zv,h1,hc⟩:=bindS hc;obtain⟨z,h2,hc⟩:=bindS hc;obtain⟨m',h3,hc⟩:=bindS hc;obtain⟨k',h4,hc⟩:=bindS hc;cases hc;exact r_lookup _ _ _ _ _
  ·cases hc
 case slice t x lo hi mx=>
  unfold cOp at hc;simp only at hc;cases hu:P.underlying t with
  | none=>rw[hu] at hc;cases hc
  | some dt=>
   rw[hu] at hc;cases dt with
   | string=>
    cases mx with
    | some _=>cases hc
    | none=>
     obtain⟨y,hy,hc⟩:=bindS hc;obtain⟨lo',h1,hc⟩:=bindS hc;obtain⟨hi',h2,hc⟩:=bindS hc;cases hc;exact(zI8 λlen b=>p_opt λhi=>p_opt λlo=>p_bi (y:=λ_=>F 33) (p_bi (y:=λ_=>F 33) (p_fN λn=>p_fN λm=>pV _) (pF 33)) (pF 33)).read
   | slice e=>
    have hc:(if mx.isSome&&!hi.isSome then none else(do some (AOp.sliceV false (<-zAm P e) (<-cx x) (<-(match lo with | none=>some none | some y=>(cx y).map some)) (<-(match hi with | none=>some none | some y=>(cx y).map some)) (<-(match mx with | none=>some none | some y=>(cx y).map some)))))=some ao:=hc;split at hc
    ·cases hc
    ·obtain⟨n,hn,hc⟩:=bindS hc;obtain⟨y,hy,hc⟩:=bindS hc;obtain⟨lo',h1,hc⟩:=bindS hc;obtain⟨hi',h2,hc⟩:=bindS hc;obtain⟨mx',h3,hc⟩:=bindS hc;cases hc;exact r_sliceV _ _ _ _ _
   | _=>cases hc
 case call c=>
  obtain⟨cal,args,ats⟩:=c;cases cal with
  | builtin b=>
   cases b<;>try (cases h0;done)
   case len=>
    unfold cOp at hc;simp only at hc;split at hc
    all_goals try (cases hc;done)
    all_goals rename_i hb hl
    all_goals try (cases hb;done)
    split at hc
    ·obtain⟨y,hy,rfl⟩:=mapS hc;exact(zI8 λl _=>pNat _).read
    ·obtain⟨y,hy,rfl⟩:=mapS hc;exact(p_onSl (pNat 0) λ_ _ l _=>pNat _).read
    ·obtain⟨y,hy,rfl⟩:=mapS hc;exact r_lenM _
    ·cases hc;exact(show ReadF λh=>oMove (.c (.int .i64 _)) loc tmp h from(p_move _).read)
    ·cases hc
  | _=>cases h0
end
variable[Glob]
section
variable{P:Program}{ρ:Rho}{h:AH}{w:World}{loc:T AV}{tmp:List AV}
def MakeF(P:Program)(ρ:Rho)(w:World)(s:Sem Next)(f:AH->OR):Prop:=
 (∃n,∀h,f h=.fail n)\/∃(V:Nat->AV) (o:AObj) (x:Obj) (sz:Nat) (w':World) (v':Value),(∀h,f h=.val (V h.next) (h.add o))/\ObjR ρ o x 0 sz/\w'.heap=w.heap.push x/\Same w w'/\s.run P w=.ok (.value v') w'/\
  ∀(ρ':Rho) (id:Nat),ρ' id=some (w.heap.size,0,sz)->VR ρ' (V id) v'
theorem mk_row{l:List AV}{cs:Array Value}{e:TypeId}{s:Sem Next}{f:AH->OR}(hl:VCs ρ l cs.toList)(V:Nat->AV)(v':Value)(hf:∀h,f h=.val (V h.next) (h.add (.cells (zAa l) l.length none false)))
  (hs:s.run P w=.ok (.value v') {w with heap:=w.heap.push (.cells cs e)}) (hv:∀(ρ':Rho) (id:Nat),ρ' id=some (w.heap.size,0,l.length)->VR ρ' (V id) v'):MakeF P ρ w s f:=by
 have:=ObjR.ofCells (e:=e) (opn:=none) (ro:=false) hl (λ_ h=>by cases h);rw[Array.toArray_toList] at this;exact .inr ⟨V,_,_,_,{w with heap:=w.heap.push (.cells cs e)},v',hf,this,rfl,⟨rfl,rfl,rfl⟩,hs,hv⟩
theorem zHo{s:Sem Next}(n:Nat):MakeF P ρ w s λ_=>F n:=.inl ⟨n,λ_=>rfl⟩
theorem mk_obind{α:Type}{o:Option α}{n:Nat}{s:Sem Next}{k:α->AH->OR}(hk:∀a,o=some a->MakeF P ρ w s (k a)):MakeF P ρ w s λh=>obind o (F n) λa=>k a h:=by
 cases o with
 | none=>exact zHo n
 | some a=>exact hk a rfl
theorem mk_int{v:AV}{s:Sem Next}{k:IntKind->Int->AH->OR}(hk:∀a b,v=.int a b->MakeF P ρ w s (k a b)):MakeF P ρ w s λh=>onInt v λa b=>k a b h:=by cases v<;>first | exact hk _ _ rfl | exact zHo _
theorem mk_nat{n:Int}{s:Sem Next}{k:Nat->AH->OR}(hk:∀m:Nat,n=m->MakeF P ρ w s (k m)):MakeF P ρ w s λh=>onNat n λa=>k a h:=by cases n<;>first | exact hk _ rfl | exact zHo _
theorem mk_bi{b:Bool}{n:Nat}{s:Sem Next}{x:AH->OR}(hx:b=true->MakeF P ρ w s x):MakeF P ρ w s λh=>bi b (x h) (F n):=by
 cases b
 ·exact zHo n
 ·exact hx rfl
theorem m_alloc{z:List AV}{e:TypeId}{zv:Value}(h1:zBf P e=some zv)(h2:zBe zv=some z) :
  MakeF P ρ w (vv (Instr.alloc e true (.tuple #[]))) (λh=>oAlloc z loc tmp h):=by
 have hz:VCs ρ z zv.cells.toList:=zA7 h2;refine mk_row (e:=e) hz (λid=>.ptr id 0) (.pointer (some ⟨w.heap.size,0,none⟩)) (λh=>by unfold oAlloc;rw[q2k,zBd]) (zAf ?_) (fun ρ' id e=>.ptr e rfl);simp[Instr.alloc,zAu h1,newVar,zAx]
theorem m_box{x:Opd}{e:TypeId}{v:Value}(hv:VR ρ (ev loc tmp x) v):MakeF P ρ w (vv (Instr.box e v)) (λh=>oBox x loc tmp h):=by
 have key:∀l:List AV,VCs ρ l v.cells.toList->MakeF P ρ w (vv (Instr.box e v)) (λh=>AH.new h (AObj.cells (zAa l) l.length none false) λid h=>OR.val (AV.ptr id (nat_lit 0)) h):=by
  intro l hl;refine mk_row (e:=e) hl (λid=>.ptr id 0) (.pointer (some ⟨w.heap.size,0,none⟩)) (λh=>by rw[q2k]) (zAf ?_) (fun ρ' id e=>.ptr e rfl);simp[Instr.box,newVar,zAx]
 have one:∀a:AV,ev loc tmp x=a->a.isCell=true->VCs ρ [a] v.cells.toList:=by
  intro a e hc;rw[e] at hv;have h1:=hv.oneCell hc;have:v.cells=#[v]:=by cases v<;>first | rfl | (simp[Value.oneCell'] at h1)
  rw[this];exact .cons hc hv .nil
 unfold oBox;cases hx:ev loc tmp x with
 | bad=>exact zHo 14
 | tup l=>exact zHo 14
 | agg l=>
  rw[hx] at hv;cases hv with
  | agg hl e=>subst e;have:=key l (by simpa[Value.cells] using hl);rw[<-zBd] at this;exact this
 | _=>exact key _ (one _ hx rfl)
theorem m_mkMap{t:TypeId}:MakeF P ρ w (vv (Instr.makeMap t none)) (λh=>oMkMap loc tmp h):=
 .inr ⟨λid=>.mp id,.map [] 0,.map #[] 0,0,{w with heap:=w.heap.push (.map #[] 0)},.map (some w.heap.size),λh=>by show AH.new h _ _=_;rw[q2k],.map .nil,rfl,⟨rfl,rfl,rfl⟩,zAf (by simp[Instr.makeMap]),fun ρ' id e=>.mp e⟩
theorem m_bslice{t e:TypeId}{z:List AV}{ps:List Part}{vs:Array (Nat×Value)}{zv:Value}{len n:Nat}(hu:P.underlying t=some (.slice e))(hn:zAm P e=some n)(hz:zBf P e=some zv)(hzc:zBe zv=some z)(hzn:z.length=n)(hb:len*n<=2 ^ 24)
  (hp:PRs ρ loc tmp (λi=>some (i*n,n)) ps vs.toList) :
  MakeF P ρ w (vv (Instr.buildSlice t len vs)) (λh=>oBslice (List.replicate len z).flatten len ps loc tmp h):=by
 refine mk_obind λl hl=>?_;have hz0:=zA7 (ρ:=ρ) hzc;have hsz:zv.cells.size=n:=by have:=hz0.length;simp at this;omega
 obtain⟨zc,hzce⟩:∃zc,zc=(if len*n=0 then #[] else zv.cells):=⟨_,rfl⟩;have hrep:VCs ρ (List.replicate len z).flatten ((Array.range (len*n)).map (zc[· % zc.size]!)).toList:=by
  by_cases h0:len*n=0
  ·have:(List.replicate len z).flatten=[]:=q0r (by rw[zDn,hzn,h0]);rw[this,h0];simp;exact .nil
  ·rw[if_neg h0] at hzce;subst hzce;have:=zDs (n:=len) hz0;rw[show len*n=len*zv.cells.size by rw[hsz]];exact this
 obtain⟨cs',g1,g2,g3⟩:=zG4 hp hrep (by rw[<-zF2];exact hl);refine mk_row (e:=e) g2 (λid=>.sl id 0 len (.known len)) (.slice (some ⟨w.heap.size,0,none⟩) len len) (λh=>by rw[q2k,zBd,<-g3]) (zAf ?_) (fun ρ' id e=>.sl e rfl (.known (q0c _)));have hb':¬16777216<len*n:=by omega
 by_cases h0:len*n=0
 ·rw[if_pos h0] at hzce;subst hzce;simp only[Instr.buildSlice,Sem.run_bind,run_underlying hu,Result.andThen_ok,zAj hn];rw[if_neg (by simpa using hb'),if_pos h0];simp only[Sem.run_bind,Sem.run_pure,Result.andThen_ok];rw[g1];simp[zAx]
 ·rw[if_neg h0] at hzce;subst hzce;simp only[Instr.buildSlice,Sem.run_bind,run_underlying hu,Result.andThen_ok,zAj hn];rw[if_neg (by simpa using hb'),if_neg h0];simp only[Sem.run_bind,Sem.run_pure,Result.andThen_ok,zAu hz];rw[g1];simp[zAx]
theorem m_mkSlice{t e:TypeId}{z:List AV}{l c:Opd}{vl vc zv:Value}{n b:Nat}(hu:P.underlying t=some (.slice e))(hn:zAm P e=some n)(hb:zC5 P e=some b)(hz:zBf P e=some zv)(hzc:zBe zv=some z)(hzn:z.length=n)
  (hl:VR ρ (ev loc tmp l) vl) (hc:VR ρ (ev loc tmp c) vc):MakeF P ρ w (vv (Instr.makeSlice t vl vc)) (λh=>zB0 z b l c loc tmp h):=by
 refine mk_int λk q e1=>mk_nat λm hm=>mk_int λk' q' e2=>mk_nat λm' hm'=>mk_bi λh1=>mk_bi λh2=>mk_bi λh3=>?_;rw[e1] at hl;rw[e2] at hc;cases hl;cases hc;subst hm;subst hm';have h1:m<=m':=q0g h1;have h2:m'*b<=1099511627776:=q0g h2;have h3:m'<=1099511627776:=q0g h3;show MakeF P ρ w _ (λh=>AH.new h (AObj.cells (zAa (lrep z m')) (Nat.mul m' (llen z)) none false) λid h=>OR.val (AV.sl id 0 m (ACap.known m')) h);have hz0:=zA7 (ρ:=ρ) hzc;have hsz:zv.cells.size=n:=by have:=hz0.length;simp at this;omega
 obtain⟨zc,hzce⟩:∃zc,zc=(if m'*n=0 then #[] else zv.cells):=⟨_,rfl⟩;have hrep:VCs ρ (lrep z m') ((Array.range (m'*n)).map (zc[· % zc.size]!)).toList:=by
  rw[zE0];by_cases h0:m'*n=0
  ·have:(List.replicate m' z).flatten=[]:=q0r (by rw[zDn,hzn,h0]);rw[this,h0];simp;exact .nil
  ·rw[if_neg h0] at hzce;subst hzce;have:=zDs (n:=m') hz0;rw[show m'*n=m'*zv.cells.size by rw[hsz]];exact this
 have hlen:Nat.mul m' (llen z)=(lrep z m').length:=by rw[zBd,zE0,zDn];rfl
 rw[hlen];refine mk_row (e:=e) hrep (λid=>.sl id 0 m (.known m')) (.slice (some ⟨w.heap.size,0,none⟩) m m') (λh=>by rw[q2k]) (zAf ?_) (fun ρ' id e=>.sl e rfl (.known h1));have hinfo:∃i,P.info? e=some i/\i.bytes=b:=by
  unfold zC5 at hb;cases hi:P.info? e with
  | none=>rw[hi] at hb;cases hb
  | some i=>rw[hi] at hb;injection hb with hb;exact⟨i,rfl,hb⟩
 obtain⟨i,hi,hib⟩:=hinfo;have hti:(typeInfo e).run P w=.ok i w:=by simp[typeInfo,hi]
 have w1:IntKind.i64.wrap (m:Int)=m:=zC3 (by omega);have w2:IntKind.i64.wrap (m':Int)=m':=zC3 h3;have hbig:¬(2:Int) ^ 48<(i.bytes:Int)*(m':Int):=by
  rw[hib];have:(b:Int)*(m':Int)=((m'*b:Nat):Int):=by rw[Int.mul_comm,Int.natCast_mul]
  have e:(2:Int) ^ 48=281474976710656:=by decide
  omega
 have e1:¬(m':Int)<0:=by omega
 have e2:¬(m:Int)<0:=by omega
 have e3:¬(m':Int)<(m:Int):=by omega
 simp only[Instr.makeSlice,Sem.run_bind,run_underlying hu,Result.andThen_ok,asInt,zA4,Sem.run_pure,hti,w1,w2];by_cases h0:m'*n=0
 ·rw[if_pos h0] at hzce;subst hzce;simp[e1,e2,e3,zAj hn,h0,zAx];intro hc;exfalso;apply hbig;have e:(2:Int) ^ 48=281474976710656:=by decide
  omega
 ·rw[if_neg h0] at hzce;subst hzce;simp[e1,e2,e3,zAj hn,h0,zAu hz,zAx];intro hc;exfalso;apply hbig;have e:(2:Int) ^ 48=281474976710656:=by decide
  omega
variable{cx:Operand->Option Opd}{a:Operand->Value}
theorem make_op{o:Oper}{ao:AOp}(hx:OpdsR ρ loc tmp cx a)(hc:cOp P cx false o.op=some ao)(h0:clsO o.op=2):MakeF P ρ w (execOp a o) λh=>evOp ao loc tmp h:=by
 obtain⟨d,op,ty,ps,af,g⟩:=o;have hc:cOp P cx false op=some ao:=hc;have h0:clsO op=2:=h0;cases op with
 | alloc e=>
  obtain⟨zv,h1,hc⟩:=bindS hc;obtain⟨z,h2,hc⟩:=bindS hc;cases hc;exact m_alloc (loc:=loc) (tmp:=tmp) h1 h2
 | box e x=>obtain⟨y,hy,rfl⟩:=mapS hc;exact m_box (hx _ _ hy)
 | buildSlice t len parts=>
  unfold cOp at hc;simp only at hc;split at hc
  ·rename_i e hu;obtain⟨n,hn,hc⟩:=bindS hc;obtain⟨zv,h1,hc⟩:=bindS hc;obtain⟨z,h2,hc⟩:=bindS hc;obtain⟨pr,h3,hc⟩:=bindS hc;split at hc
   ·rename_i hsz;cases hc;refine m_bslice hu hn h1 h2 hsz.1 hsz.2 ?_;rw[Array.toList_map];refine zFf hx (λi x p hp=>?_) h3;obtain⟨y,hy,hp⟩:=bindS hp;injection hp with hp;subst hp;exact⟨rfl,hy⟩
   ·cases hc
  ·cases hc
 | binOp op _ _ _ _=>cases op<;>cases h0
 | makeMap t r=>
  cases r with
  | none=>cases hc;exact m_mkMap (loc:=loc) (tmp:=tmp)
  | some _=>cases hc
 | makeSlice t l c=>
  unfold cOp at hc;simp only at hc;split at hc
  ·rename_i e hu;obtain⟨n,hn,hc⟩:=bindS hc;obtain⟨zv,h1,hc⟩:=bindS hc;obtain⟨z,h2,hc⟩:=bindS hc;split at hc
   ·rename_i hsz;obtain⟨b,hb,hc⟩:=bindS hc;obtain⟨l',h3,hc⟩:=bindS hc;obtain⟨c',h4,hc⟩:=bindS hc;cases hc;exact m_mkSlice hu hn hb h1 h2 hsz (hx _ _ h3) (hx _ _ h4)
   ·cases hc
  ·cases hc
 | call c=>
  obtain⟨cal,args,ats⟩:=c;cases cal with
  | builtin b=>cases b<;>cases h0
  | _=>cases h0
 | _=>cases h0
def MakeA(f:AH->OR):Prop:=(∃n,∀h,f h=.fail n)\/∃(V:Nat->AV) (o:AObj),∀h,f h=.val (V h.next) (h.add o)
theorem a_fail(n:Nat):MakeA λ_=>F n:=.inl ⟨n,λ_=>rfl⟩
theorem a_new(V:Nat->AV)(o:AObj):MakeA λh=>AH.new h o λid h=>OR.val (V id) h:=.inr ⟨V,o,λh=>q2k _ _ _⟩
theorem a_obind{α:Type}{o:Option α}{n:Nat}{k:α->AH->OR}(hk:∀a,MakeA (k a)):MakeA λh=>obind o (F n) λa=>k a h:=by
 cases o with
 | none=>exact a_fail n
 | some a=>exact hk a
theorem a_int{v:AV}{k:IntKind->Int->AH->OR}(hk:∀a b,MakeA (k a b)):MakeA λh=>onInt v λa b=>k a b h:=by cases v<;>first | exact hk _ _ | exact a_fail _
theorem a_nat{n:Int}{k:Nat->AH->OR}(hk:∀m:Nat,MakeA (k m)):MakeA λh=>onNat n λa=>k a h:=by cases n<;>first | exact hk _ | exact a_fail _
theorem a_bi{b:Bool}{n:Nat}{x:AH->OR}(hx:MakeA x):MakeA λh=>bi b (x h) (F n):=by
 cases b
 ·exact a_fail n
 ·exact hx
theorem a_box(x:Opd):MakeA λh=>oBox x loc tmp h:=by
 unfold oBox;cases ev loc tmp x<;>first | exact a_fail 14 | exact a_new (λid=>.ptr id 0) _
theorem makeA_op{op:Op}{ao:AOp}(hc:cOp P cx false op=some ao)(h0:clsO op=2):MakeA λh=>evOp ao loc tmp h:=by
 cases op with
 | alloc e=>
  obtain⟨zv,h1,hc⟩:=bindS hc;obtain⟨z,h2,hc⟩:=bindS hc;cases hc;exact a_new (λid=>.ptr id 0) _
 | box e x=>obtain⟨y,hy,rfl⟩:=mapS hc;exact a_box _
 | buildSlice t len parts=>
  unfold cOp at hc;simp only at hc;split at hc
  ·obtain⟨n,hn,hc⟩:=bindS hc;obtain⟨zv,h1,hc⟩:=bindS hc;obtain⟨z,h2,hc⟩:=bindS hc;obtain⟨pr,h3,hc⟩:=bindS hc;split at hc
   ·cases hc;exact a_obind λl=>a_new (λid=>.sl id 0 len (.known len)) _
   ·cases hc
  ·cases hc
 | binOp op _ _ _ _=>cases op<;>cases h0
 | makeMap t r=>
  cases r with
  | none=>cases hc;exact a_new (λid=>.mp id) _
  | some _=>cases hc
 | makeSlice t l c=>
  unfold cOp at hc;simp only at hc;split at hc
  ·obtain⟨n,hn,hc⟩:=bindS hc;obtain⟨zv,h1,hc⟩:=bindS hc;obtain⟨z,h2,hc⟩:=bindS hc;split at hc
   ·obtain⟨b,hb,hc⟩:=bindS hc;obtain⟨l',h3,hc⟩:=bindS hc;obtain⟨c',h4,hc⟩:=bindS hc;cases hc;exact a_int λ_ l=>a_nat λl=>a_int λ_ c=>a_nat λc=>a_bi (a_bi (a_bi (a_new (λid=>.sl id 0 l (.known c)) _)))
   ·cases hc
  ·cases hc
 | call c=>
  obtain⟨cal,args,ats⟩:=c;cases cal with
  | builtin b=>cases b<;>cases h0
  | _=>cases h0
 | _=>cases h0
end
variable[Glob]
theorem zHp{α β:Type}{f g:α->Option β}:∀{l:List α},(∀x∈l,f x=g x)->l.mapM f=l.mapM g
 | [],_=>rfl
 | x::l,h=>by rw[List.mapM_cons,List.mapM_cons,h x (by simp),zHp λy hy=>h y (by simp[hy])]
theorem cOp_congr{P:Program}{cx cx':Operand->Option Opd}{kill:Bool}{op:Op}(h:∀x∈op.operands,cx x=cx' x):cOp P cx kill op=cOp P cx' kill op:=by
 have parts:∀(ps:Array (Nat×Operand)) (f:(Operand->Option Opd)->Nat×Operand->Option Part),(∀i x,cx x=cx' x->f cx (i,x)=f cx' (i,x))->(∀x∈(ps.toList.map (·.2)).toArray,cx x=cx' x)->ps.toList.mapM (f cx)=ps.toList.mapM (f cx'):=by
  intro ps f hf hp;refine zHp λp hm=>?_;obtain⟨i,x⟩:=p;exact hf i x (hp x (by simp;exact⟨i,by simpa using hm⟩))
 have args:∀(l:Array Operand),(∀x∈l,cx x=cx' x)->l.toList.mapM cx=l.toList.mapM cx':=λl hl=>zHp λx hx=>hl x (by simpa using hx);cases op<;>simp only[Op.operands] at h<;>simp only[cOp]
 case build t ps=>
  congr 1;funext zv;congr 1;funext z;split
  ·rename_i fs hu;have:=parts ps (λcx p=>do let f <-fs[p.1]?;some {off:=f.offset,size:=<-zAm P f.type,x:=<-cx p.2:Part}) (λi x e=>by simp only[e]) h;have this:(ps.toList.mapM λ(i,x)=>do let f <-fs[i]?;some {off:=f.offset,size:=<-zAm P f.type,x:=<-cx x:Part})=(ps.toList.mapM λ(i,x)=>do let f <-fs[i]?;some {off:=f.offset,size:=<-zAm P f.type,x:=<-cx' x:Part}):=this;rw[this]
  ·rename_i len e hu;congr 1;funext n;have:=parts ps (λcx p=>do some {off:=p.1*n,size:=n,x:=<-cx p.2:Part}) (λi x e=>by simp only[e]) h;have this:(ps.toList.mapM λ(i,x)=>do some {off:=i*n,size:=n,x:=<-cx x:Part})=(ps.toList.mapM λ(i,x)=>do some {off:=i*n,size:=n,x:=<-cx' x:Part}):=this;rw[this]
  ·rfl
 case buildSlice t len ps=>
  split
  ·congr 1;funext n;congr 1;funext zv;congr 1;funext z;have:=parts ps (λcx p=>do some {off:=p.1*n,size:=n,x:=<-cx p.2:Part}) (λi x e=>by simp only[e]) h;have this:(ps.toList.mapM λ(i,x)=>do some {off:=i*n,size:=n,x:=<-cx x:Part})=(ps.toList.mapM λ(i,x)=>do some {off:=i*n,size:=n,x:=<-cx' x:Part}):=this;rw[this]
  ·rfl
 case makeFunc fn first caps=>
  have h1:=args first λx hx=>h x (by simp[hx])
  have h2:=args caps λx hx=>h x (by simp[hx]);cases fn with
  | func f=>
   show(do some (AOp.mkFn f (<-first.toList.mapM cx) (<-caps.toList.mapM cx)))=(do some (AOp.mkFn f (<-first.toList.mapM cx') (<-caps.toList.mapM cx')));rw[h1,h2]
  | _=>rfl
 case slice t x lo hi mx=>
  have ex:cx x=cx' x:=h x (by simp);cases P.underlying t with
  | none=>rfl
  | some d=>
   cases d with
   | string=>
    cases lo<;>cases hi<;>cases mx<;>first | rfl | (simp_all;done)
   | slice e=>
    cases lo<;>cases hi<;>cases mx<;>first | rfl | (simp_all;done)
   | _=>rfl
 case call c=>
  obtain⟨cal,as,ats⟩:=c;cases cal with
  | value f=>
   simp only[Call.operands] at h;have h1:=args as λx hx=>h x (by simp[hx]);have h2:=h f (by simp);cases f with
   | func g=>
    show(if zBc P g then(do some (AOp.callF g (<-as.toList.mapM cx))) else none)=(if zBc P g then(do some (AOp.callF g (<-as.toList.mapM cx'))) else none);rw[h1]
   | tmp t=>
    show(do some (AOp.callV (<-cx (.tmp t)) (<-as.toList.mapM cx)))=(do some (AOp.callV (<-cx' (.tmp t)) (<-as.toList.mapM cx')));rw[h1,h2]
   | const v=>
    show(do some (AOp.callV (<-cx (.const v)) (<-as.toList.mapM cx)))=(do some (AOp.callV (<-cx' (.const v)) (<-as.toList.mapM cx')));rw[h1,h2]
   | global g=>
    show(do some (AOp.callV (<-cx (.global g)) (<-as.toList.mapM cx)))=(do some (AOp.callV (<-cx' (.global g)) (<-as.toList.mapM cx')));rw[h1,h2]
  | invoke r n=>rfl
  | builtin b=>
   obtain⟨l⟩:=as;have h1:∀x∈l,cx x=cx' x:=λx hx=>h x (by simp[Call.operands,hx])
   match l,h1 with
   | [],_=>cases b<;>rfl
   | [x],h1=>
    have e:=h1 x (by simp);cases b<;>first | rfl | (simp only[e];done) | (simp only[cOp,e];done)
   | [x,y],h1=>
    have e:=h1 x (by simp);have e2:=h1 y (by simp);cases b<;>first | rfl | (simp only[e,e2];done) | (simp only[cOp,e,e2];done)
   | x::y::z::l,_=>cases b<;>rfl
 case defer c=>
  obtain⟨cal,as,ats⟩:=c;cases cal with
  | value f=>
   simp only[Call.operands] at h;have h2:=h f (by simp);show(if as.isEmpty then(cx f).map AOp.dfr else none)=(if as.isEmpty then(cx' f).map AOp.dfr else none);rw[h2]
  | _=>rfl
 case unOp op t x=>
  have e:=h x (by simp);cases op<;>first | rfl | (simp only[e];done)
 case next it st=>
  have e:=h it (by simp);cases st<;>first | rfl | (simp only[e];done)
 case makeMap t r=>cases r<;>rfl
 all_goals (first | rfl | (simp_all;done))
variable[Glob]
noncomputable def slot(loc:T AV)(k:Nat):AV:=obind (T.get loc k) AV.bad λv=>v
theorem zIi(v:AV)(loc:T AV)(k k':Nat):slot (T.put (some v) loc k) k'=if k=k' then v else slot loc k':=by
 unfold slot;rw[T.get_put];split<;>rfl
theorem ev_l(loc:T AV)(tmp:List AV)(k:Nat):ev loc tmp (.l k)=slot loc k:=rfl
theorem ev_t(loc:T AV)(tmp:List AV)(k:Nat):ev loc tmp (.t k)=nth tmp k:=rfl
theorem ev_c(loc:T AV)(tmp:List AV)(v:AV):ev loc tmp (.c v)=v:=rfl
theorem zFp{m:List Nat}{t k:Nat}(h:zAk m t=some k):m[k]?=some t:=by
 unfold zAk at h;obtain⟨hlt,h1,_⟩:=List.findIdx?_eq_some_iff_getElem.1 h;rw[q0a hlt];congr 1;exact eq_of_beq h1
theorem zFo{m:List Nat}{t t' k:Nat}(h:zAk m t=some k)(h':zAk m t'=some k):t=t':=by
 have:=zFp h;rw[zFp h'] at this;exact(Option.some.inj this).symm
theorem zJu(x:Option Nat)(ts:List (Option Nat))(t:Nat):zF6 (x::ts) t=if x=some t then some 0 else(zF6 ts t).map (·+1):=by
 unfold zF6;rw[List.findIdx?_cons];by_cases h:x=some t
 ·subst h;simp
 ·rw[if_neg h];have:(x == some t)=false:=by simpa using h
  rw[this];rfl
def LocR(ρ:Rho)(m:List Nat)(loc:T AV)(a:Act):Prop:=∀t k,zAk m t=some k->VR ρ (slot loc k) (a.tmps.getD t undef)
def TmpR(ρ:Rho)(ts:List (Option Nat))(tmp:List AV)(a:Act):Prop:=∀t i,zF6 ts t=some i->VR ρ (nth tmp i) (a.tmps.getD t undef)
theorem LocR.mono{ρ ρ':Rho}{m:List Nat}{loc:T AV}{a:Act}(h:ρ.le ρ')(l:LocR ρ m loc a):LocR ρ' m loc a:=λt k e=>(l t k e).mono h
theorem TmpR.mono{ρ ρ':Rho}{ts:List (Option Nat)}{tmp:List AV}{a:Act}(h:ρ.le ρ')(l:TmpR ρ ts tmp a):TmpR ρ' ts tmp a:=λt k e=>(l t k e).mono h
theorem zEq{a:Act}{d:Option Tmp}{v:Value}(hd:∀x,d=some x->x<a.tmps.size)(t:Nat):(a.put d v).tmps.getD t undef=if d=some t then v else a.tmps.getD t undef:=by
 cases d with
 | none=>simp[Act.put]
 | some x=>
  have:=hd x rfl;by_cases h:x=t
  ·subst h;simp[Act.put,this]
  ·rw[if_neg (by simpa using h)];simp[Act.put,Array.getElem?_setIfInBounds_ne h]
theorem zEs{a:Act}{d:Option Tmp}{v:Value}:(a.put d v).tmps.size=a.tmps.size:=by cases d<;>simp[Act.put]
theorem LocR.put{ρ:Rho}{m:List Nat}{loc:T AV}{a:Act}{d:Option Tmp}{v:AV}{v':Value}(hd:∀x,d=some x->x<a.tmps.size)(hv:VR ρ v v')(l:LocR ρ m loc a):LocR ρ m (zAc (d.bind (zAk m)) v loc) (a.put d v'):=by
 intro t k e;rw[zEq hd];cases d with
 | none=>exact l t k e
 | some x=>
  show VR ρ (slot (zAc (zAk m x) v loc) k) _;by_cases hx:x=t
  ·subst hx;rw[e,if_pos rfl];show VR ρ (slot (T.put (some v) loc k) k) _;rw[zIi,if_pos rfl];exact hv
  ·rw[if_neg (by simpa using hx)];cases hs:zAk m x with
   | none=>exact l t k e
   | some k'=>
    show VR ρ (slot (T.put (some v) loc k') k) _;rw[zIi,if_neg (λh=>hx (zFo (by rw[hs,h]) e))];exact l t k e
theorem TmpR.put{ρ:Rho}{ts:List (Option Nat)}{tmp:List AV}{a:Act}{d:Option Tmp}{v:AV}{v':Value}(hd:∀x,d=some x->x<a.tmps.size)(hv:VR ρ v v')(l:TmpR ρ ts tmp a):TmpR ρ (d::ts) (v::tmp) (a.put d v'):=by
 intro t i e;rw[zEq hd];rw[zJu] at e;split at e
 ·rename_i h;injection e with e;subst e;rw[if_pos h];exact hv
 ·rename_i h;rw[if_neg h];obtain⟨j,hj,e⟩:=mapS e;subst e;exact l t j hj
inductive DefsR(ρ:Rho):List AV->List Deferred->Prop
 | nil:DefsR ρ [] []
 | cons {a:AV} {d:Deferred} {l:List AV} {l':List Deferred}:Defs ρ a d->DefsR ρ l l'->DefsR ρ (a::l) (d::l')
theorem Defs.mono{ρ ρ':Rho}(h:ρ.le ρ'){a:AV}{d:Deferred}(k:Defs ρ a d):Defs ρ' a d:=by
 obtain⟨f,l,c,l',c',e1,e2,h1,h2⟩:=k;exact⟨f,l,c,l',c',e1,e2,h1.mono h,h2.mono h⟩
theorem DefsR.mono{ρ ρ':Rho}(h:ρ.le ρ'){l:List AV}{l':List Deferred}(k:DefsR ρ l l'):DefsR ρ' l l':=by
 induction k with
 | nil=>exact .nil
 | cons a _ ih=>exact .cons (a.mono h) ih
def CallsR(P:Program)(ρ:Rho)(h:AH)(w:World)(f:Nat)(args':List Value):CR->Prop
 | .ret v h'=>Calls P f args'.toArray w λe w'=>∃ρ' v',e=.returned v'/\VR ρ' v v'/\WR ρ' h' w'/\Step ρ h w ρ' h' w'
 | .pan v h'=>Calls P f args'.toArray w λe w'=>∃ρ' v',e=.panicked [{v:=v',recovered:=false}]/\VR ρ' v v'/\WR ρ' h' w'/\Step ρ h w ρ' h' w'
 | .fail _=>True
structure zG9(P:Program)(call:Nat->List AV->AH->CR):Prop where
 cb:∀{f:Nat} {args:List AV} {h:AH},(∀ns,call f args h≠.fail ns)->zBc P f=true
 ok:∀{f:Nat} {args:List AV} {h:AH} {ρ:Rho} {w:World} {args':List Value},VRs ρ args args'->WR ρ h w->CallsR P ρ h w f args' (call f args h)
section
variable(call:Nat->List AV->AH->CR)(loc:T AV)(tmp:List AV)(d:List AV)(h:AH)(ao:AOp)(g:Option (Opd×Bool))(re:List ARe)
inductive StepA:AV->List AV->AH->Prop
 | skip:zAt loc tmp g=some false->StepA (.tup []) d h
 | val {v:AV} {h':AH}:zAt loc tmp g=some true->evOp ao loc tmp h=.val v h'->reads loc tmp h' re=true->StepA v d h'
 | enter {f:Nat} {args:List AV} {v:AV} {h':AH}:zAt loc tmp g=some true->evOp ao loc tmp h=.enter f args->call f args h=.ret v h'->reads loc tmp h' re=true->StepA v d h'
 | dfr {v:AV}:zAt loc tmp g=some true->evOp ao loc tmp h=.dfr v->StepA (.tup []) (v::d) h
inductive PanA:AV->AH->Prop
 | enter {f:Nat} {args:List AV} {v:AV} {h':AH}:zAt loc tmp g=some true->evOp ao loc tmp h=.enter f args->call f args h=.pan v h'->PanA v h'
 | pan {v:AV}:zAt loc tmp g=some true->evOp ao loc tmp h=.pan v->PanA v h
end
theorem zK0{call:Nat->List AV->AH->CR}{whole:List AOper}{loc0:T AV}{op:AOp}{g:Option (Opd×Bool)}{out:Option Nat}{re:List ARe}{l:List AOper}{loc:T AV}{tmp d:List AV}{h:AH}{r:Res}
  (e:evOps call whole loc0 (⟨op,g,out,re⟩::l) loc tmp d h=r):(∃ns,r=.fail ns)\/(∃v d' h',StepA call loc tmp d h op g re v d' h'/\evOps call whole loc0 l (zAc out v loc) (v::tmp) d' h'=r) ∨
   ∃v h',PanA call loc tmp h op g v h'/\r=.pan v (forget whole loc0) d h':=by
 have e:obind (zAt loc tmp g) (Res.fail [70]) (λq=>bi q
   (OR.rec (motive:=λ_=>Res)
    (λv h=>bi (reads loc tmp h re) (evOps call whole loc0 l (zAc out v loc) (v::tmp) d h) (Res.fail [71]))
    (λf args=>CR.rec (motive:=λ_=>Res) (λv h=>bi (reads loc tmp h re) (evOps call whole loc0 l (zAc out v loc) (v::tmp) d h) (Res.fail [71])) (λv h=>Res.pan v (forget whole loc0) d h) (λl=>Res.fail l) (call f args h))
    (λv=>Res.pan v (forget whole loc0) d h)
    (λv=>evOps call whole loc0 l (zAc out (AV.tup []) loc) (AV.tup []::tmp) (v::d) h)
    (λn=>Res.fail [n]) (evOp op loc tmp h)) (evOps call whole loc0 l (zAc out (AV.tup []) loc) (AV.tup []::tmp) d h))=r:=e
 cases hg:zAt loc tmp g with
 | none=>rw[hg] at e;exact .inl ⟨_,e.symm⟩
 | some q=>
  rw[hg] at e;cases q with
  | false=>exact .inr (.inl ⟨_,_,_,.skip hg,e⟩)
  | true=>
   have e:(OR.rec (motive:=λ_=>Res)
    (λv h=>bi (reads loc tmp h re) (evOps call whole loc0 l (zAc out v loc) (v::tmp) d h) (Res.fail [71]))
    (λf args=>CR.rec (motive:=λ_=>Res) (λv h=>bi (reads loc tmp h re) (evOps call whole loc0 l (zAc out v loc) (v::tmp) d h) (Res.fail [71])) (λv h=>Res.pan v (forget whole loc0) d h) (λl=>Res.fail l) (call f args h))
    (λv=>Res.pan v (forget whole loc0) d h)
    (λv=>evOps call whole loc0 l (zAc out (AV.tup []) loc) (AV.tup []::tmp) (v::d) h)
    (λn=>Res.fail [n]) (evOp op loc tmp h))=r:=e
   cases ho:evOp op loc tmp h with
   | val v h'=>
    rw[ho] at e;have e:bi (reads loc tmp h' re) (evOps call whole loc0 l (zAc out v loc) (v::tmp) d h') (Res.fail [71])=r:=e;cases hr:reads loc tmp h' re with
    | false=>rw[hr] at e;exact .inl ⟨_,e.symm⟩
    | true=>rw[hr] at e;exact .inr (.inl ⟨_,_,_,.val hg ho hr,e⟩)
   | enter f args=>
    rw[ho] at e;have e:(CR.rec (motive:=λ_=>Res) (λv h=>bi (reads loc tmp h re) (evOps call whole loc0 l (zAc out v loc) (v::tmp) d h) (Res.fail [71])) (λv h=>Res.pan v (forget whole loc0) d h) (λl=>Res.fail l) (call f args h))=r:=e;cases hcl:call f args h with
    | ret v h'=>
     rw[hcl] at e;have e:bi (reads loc tmp h' re) (evOps call whole loc0 l (zAc out v loc) (v::tmp) d h') (Res.fail [71])=r:=e;cases hr:reads loc tmp h' re with
     | false=>rw[hr] at e;exact .inl ⟨_,e.symm⟩
     | true=>rw[hr] at e;exact .inr (.inl ⟨_,_,_,.enter hg ho hcl hr,e⟩)
    | pan v h'=>rw[hcl] at e;exact .inr (.inr ⟨_,_,.enter hg ho hcl,e.symm⟩)
    | fail l=>rw[hcl] at e;exact .inl ⟨_,e.symm⟩
   | pan v=>rw[ho] at e;exact .inr (.inr ⟨_,_,.pan hg ho,e.symm⟩)
   | dfr v=>rw[ho] at e;exact .inr (.inl ⟨_,_,_,.dfr hg ho,e⟩)
   | fail n=>rw[ho] at e;exact .inl ⟨_,e.symm⟩
section
variable{P:Program}{ρ:Rho}{h h':AH}{w:World}{loc:T AV}{tmp d d':List AV}{cx:Operand->Option Opd}{kill:Bool}{a:Act}{o:Oper}{ao:AOp}{g:Option (Opd×Bool)}{re:List ARe}{v:AV}
 {call:Nat->List AV->AH->CR} {next:Act->World->Prop} {Q:Exit->Act->World->Prop}
theorem step_wp(hcall:zG9 P call)(hs:StepA call loc tmp d h ao g re v d' h')(hg:zAt loc tmp g=some true)(W:WR ρ h w)(hx:OpdsR ρ loc tmp cx a.eval)(hc:cOp P cx kill o.op=some ao)(hd:DefsR ρ d a.defers)
  (hn:∀ρ' v' w' ds',VR ρ' v v'->WR ρ' h' w'->Step ρ h w ρ' h' w'->DefsR ρ' d' ds'->next (({a with defers:=ds'}:Act).put o.dst v') w'):o.wp P a w next Q:=by
 have G:=good_op (P:=P) (ρ:=ρ) (h:=h) (w:=w) (loc:=loc) (tmp:=tmp) W hx (λ_=>rfl) (λ_=>rfl) hc;unfold Oper.wp;cases hs with
 | skip h1=>rw[h1] at hg;cases hg
 | val _ he _=>
  rw[he] at G;obtain⟨ρ',v',w',hrun,hv,W',S'⟩:=G;have:=hn ρ' v' w' a.defers hv W' S' (hd.mono S'.le);rcases hrun with hrun | ⟨hrun,rfl⟩
  ·rw[hrun];exact this
  ·rw[hrun];exact this
 | enter hg1 he hcl hr1=>
  rename_i f args;rw[he] at G;have hcb:zBc P f=true:=hcall.cb λns e=>by rw[hcl] at e;cases e
  obtain⟨args',hrun,ha⟩:=G hcb;have hC:=hcall.ok (f:=f) (h:=h) ha W;rw[hcl] at hC;rw[hrun];refine Calls.mono hC λe w' he=>?_;obtain⟨ρ',v',rfl,hv,W',S'⟩:=he;exact hn ρ' v' w' a.defers hv W' S' (hd.mono S'.le)
 | dfr _ he=>
  rw[he] at G;obtain⟨dd,hrun,hdd⟩:=G;rw[hrun];exact hn ρ undef w (dd::a.defers) (.tup .nil rfl) W (.refl _ _ _) (.cons hdd hd)
theorem pan_wp(hcall:zG9 P call)(hs:PanA call loc tmp h ao g v h')(W:WR ρ h w)(hx:OpdsR ρ loc tmp cx a.eval)(hc:cOp P cx kill o.op=some ao)
  (hq:∀ρ' v' w',VR ρ' v v'->WR ρ' h' w'->Step ρ h w ρ' h' w'->Q (.panic [{v:=v',recovered:=false}]) a w'):o.wp P a w next Q:=by
 have G:=good_op (P:=P) (ρ:=ρ) (h:=h) (w:=w) (loc:=loc) (tmp:=tmp) W hx (λ_=>rfl) (λ_=>rfl) hc;unfold Oper.wp;cases hs with
 | enter hg1 he hcl=>
  rename_i f args;rw[he] at G;have hcb:zBc P f=true:=hcall.cb λns e=>by rw[hcl] at e;cases e
  obtain⟨args',hrun,ha⟩:=G hcb;have hC:=hcall.ok (f:=f) (h:=h) ha W;rw[hcl] at hC;rw[hrun];refine Calls.mono hC λe w' he=>?_;obtain⟨ρ',v',rfl,hv,W',S'⟩:=he;exact hq ρ' v' w' hv W' S'
 | pan _ he=>
  rw[he] at G;obtain⟨v',hrun,hv⟩:=G;rw[hrun];exact hq ρ v' w hv W (.refl _ _ _)
end
variable[Glob]
def Post(ρ0:Rho)(h0:AH)(w0:World)(m:List Nat)(n:Nat)(loc:T AV)(d:List AV)(h:AH)(a:Act)(w:World):Prop:=
 ∃ρ,LocR ρ m loc a/\DefsR ρ d a.defers/\WR ρ h w/\Step ρ0 h0 w0 ρ h w/\a.tmps.size=n
def PostP(ρ0:Rho)(h0:AH)(w0:World)(m:List Nat)(n:Nat)(v:AV)(loc:T AV)(d:List AV)(h:AH)(ch:List PanicEntry)(a:Act)(w:World):Prop:=
 ∃ρ v',ch=[{v:=v',recovered:=false}]/\VR ρ v v'/\LocR ρ m loc a/\DefsR ρ d a.defers/\WR ρ h w/\Step ρ0 h0 w0 ρ h w/\a.tmps.size=n
def QRes(ρ0:Rho)(h0:AH)(w0:World)(m:List Nat)(n:Nat):Res->Exit->Act->World->Prop
 | .norm loc d h,.normal,a,w=>Post ρ0 h0 w0 m n loc d h a w
 | .exit id loc d h,.exit id',a,w=>id=id'/\Post ρ0 h0 w0 m n loc d h a w
 | .ret loc d h,.ret,a,w=>Post ρ0 h0 w0 m n loc d h a w
 | .pan v loc d h,.panic ch,a,w=>PostP ρ0 h0 w0 m n v loc d h ch a w
 | _,_,_,_=>False
def Res.good:Res->Prop
 | .fail _=>False
 | _=>True
def outs(l:List AOper):List Nat:=l.filterMap (·.out)
theorem zE3:∀(l:List AOper) (loc:T AV) (k:Nat),slot (forget l loc) k=if k∈outs l then AV.bad else slot loc k
 | [],loc,k=>by simp[outs];rfl
 | ⟨op,g,none,re⟩::l,loc,k=>by
  show slot (forget l loc) k=_;rw[zE3 l loc k];simp[outs]
 | ⟨op,g,some x,re⟩::l,loc,k=>by
  show slot (forget l (T.put (some AV.bad) loc x)) k=_;rw[zE3 l _ k,zIi];have:outs (⟨op,g,some x,re⟩::l)=x::outs l:=rfl;rw[this];by_cases h:k∈outs l
  ·rw[if_pos h,if_pos (q0s _ h)]
  ·rw[if_neg h];by_cases hx:x=k
   ·subst hx;rw[if_pos rfl,if_pos (q0H ..)]
   ·rw[if_neg hx,if_neg (by simp[h,Ne.symm hx])]
theorem zIz(out:Option Nat)(v:AV)(loc:T AV)(k:Nat):slot (zAc out v loc) k=if out=some k then v else slot loc k:=by
 cases out with
 | none=>rfl
 | some x=>
  show slot (T.put (some v) loc x) k=_;rw[zIi];by_cases h:x=k
  ·rw[if_pos h,if_pos (by rw[h])]
  ·rw[if_neg h,if_neg (by simpa using h)]
theorem LocR.forget{ρ:Rho}{m:List Nat}{loc loc0:T AV}{a:Act}{l:List AOper}(L:LocR ρ m loc a)(h:∀k,k∉outs l->slot loc k=slot loc0 k):LocR ρ m (forget l loc0) a:=by
 intro t k e;rw[zE3];split
 ·exact .bad _
 ·rw[<-h k ‹_›];exact L t k e
section
variable{P:Program}{ρ:Rho}{loc:T AV}{tmp:List AV}{m:List Nat}{ops:Array Oper}{ts:List (Option Nat)}{a:Act}
theorem zHj(L:LocR ρ m loc a)(T:TmpR ρ ts tmp a):OpdsR ρ loc tmp (cOpd m ts) a.eval:=by
 intro x y e;cases x with
 | tmp t=>
  unfold cOpd at e;simp only at e;split at e
  ·rename_i i hi;injection e with e;subst e;exact T t i hi
  ·obtain⟨k,hk,e⟩:=mapS e;subst e;exact L t k hk
 | const v=>obtain⟨z,hz,e⟩:=mapS e;subst e;exact zB6 hz
 | func f=>injection e with e;subst e;exact .fn .nil .nil rfl rfl
 | global _=>injection e with e;subst e;exact .bad _
theorem zFn{o:Oper}{g:Option (Opd×Bool)}{q:Bool}(hgc:zFa m ops ts o=some g)(hx:∀gi want d y,o.guard=some (gi,want)->(ops[gi]?).bind (·.dst)=some d->cOpd m ts (.tmp d)=some y->VR ρ (ev loc tmp y) (a.tmps.getD d undef))
  (hq:zAt loc tmp g=some q):Region.wanted o (yielded ops a.tmps)=q:=by
 unfold zFa at hgc;unfold Region.wanted;cases hg:o.guard with
 | none=>
  rw[hg] at hgc;injection hgc with hgc;subst hgc;injection hq
 | some p=>
  obtain⟨gi,want⟩:=p;rw[hg] at hgc;have hgc:(do some (some (<-cOpd m ts (.tmp (<-(<-ops[gi]?).dst)),want)):Option (Option (Opd×Bool)))=some g:=hgc;obtain⟨og,h1,hgc⟩:=bindS hgc;obtain⟨dd,h2,hgc⟩:=bindS hgc;obtain⟨y,h3,hgc⟩:=bindS hgc;injection hgc with hgc;subst hgc;have hd:(ops[gi]?).bind (·.dst)=some dd:=by rw[h1];exact h2
  have hv:=hx gi want dd y hg hd h3;simp only[yielded,hd,Option.bind_some];have hq:AV.on (β:=Option Bool) none (λb=>some (bi want b (bi b false true))) (λ_ _=>some false) (λ_ _=>some false) (λ_ _=>some false) none (λ_ _ _ _=>none) none (λ_=>none) none (λ_ _ _=>none) none (λ_ _=>none) none (λ_=>none) (λ_=>some false) (ev loc tmp y)=some q:=hq;rw[Array.getD_eq_getD_getElem?] at hv;generalize hav:ev loc tmp y=av at hv hq;cases hu:a.tmps[dd]? with
  | none=>
   rw[hu] at hv;cases hv with
   | bad=>cases hq
   | tup _ _=>injection hq
  | some u=>
   rw[hu] at hv;have hv:VR ρ av u:=hv;cases hv<;>first | (cases hq;done) | skip
   case bool b=>
    injection hq with hq;rw[<-hq];cases b<;>cases want<;>rfl
   all_goals first | (injection hq;done) | (injection hq with hq;rw[<-hq];rfl)
end
section
variable{P:Program}{m:List Nat}{ops:Array Oper}{call:Nat->List AV->AH->CR}{whole:List AOper}{loc0:T AV}{ρ0:Rho}{h0:AH}{w0:World}{n:Nat}
theorem zGr(hcall:zG9 P call)(hdst:∀o∈ops,∀x,o.dst=some x->x<n):∀(rest:List Oper) (k:Nat) (ts:List (Option Nat)) (aos:List AOper) (loc:T AV) (tmp d:List AV) (h:AH) (ρ:Rho) (a:Act) (w:World) (r:Res),
  ops.toList.drop k=rest->zIf P m ops rest ts=some aos->evOps call whole loc0 aos loc tmp d h=r->r.good->LocR ρ m loc a->TmpR ρ ts tmp a->WR ρ h w->DefsR ρ d a.defers->Step ρ0 h0 w0 ρ h w->a.tmps.size=n->
  (∀o∈aos,∀k,o.out=some k->k∈outs whole)->(∀k,k∉outs whole->slot loc k=slot loc0 k)->wpOps P ops (QRes ρ0 h0 w0 m n r) (List.range' k rest.length) a w
 | [],k,ts,aos,loc,tmp,d,h,ρ,a,w,r,hrest,hc,hr,hgood,L,T,W,D,S,hn,ho,hs=>by
  cases hc;subst hr;exact⟨ρ,L,D,W,S,hn⟩
 | o::rest,k,ts,aos,loc,tmp,d,h,ρ,a,w,r,hrest,hc,hr,hgood,L,T,W,D,S,hn,ho,hs=>by
  obtain⟨ao,hao,hc⟩:=bindS hc;obtain⟨aos',haos,hc⟩:=bindS hc;cases hc;obtain⟨op,hop,hao⟩:=bindS hao;obtain⟨g,hg,hao⟩:=bindS hao;injection hao with hao;subst hao;have hk:ops[k]?=some o:=by
   have:ops.toList[k]?=some o:=by rw[<-List.head?_drop,hrest];rfl
   simpa using this
  have hmem:o∈ops:=Array.mem_of_getElem? hk;have hdo:∀x,o.dst=some x->x<a.tmps.size:=λx hx=>by rw[hn];exact hdst o hmem x hx
  have hrest':ops.toList.drop (k+1)=rest:=by rw[<-List.drop_drop,hrest];rfl
  have X:=zHj L T;have hout:∀k',(o.dst.bind (zAk m))=some k'->k'∈outs whole:=λk' hk'=>ho _ (q0H ..) k' hk';have hslots:∀v k',k'∉outs whole->slot (zAc (o.dst.bind (zAk m)) v loc) k'=slot loc0 k':=by
   intro v k' hk';rw[zIz,if_neg (λe=>hk' (hout _ e))];exact hs k' hk'
  have gx:∀gi want dd y,o.guard=some (gi,want)->(ops[gi]?).bind (·.dst)=some dd->cOpd m ts (.tmp dd)=some y->VR ρ (ev loc tmp y) (a.tmps.getD dd undef):=λgi want dd y _ _ h3=>X _ _ h3;rw[q0P,List.range'_succ];unfold wpOps;rw[hk];simp only;rcases zK0 hr with⟨ns,rfl⟩ | ⟨v,d',h',hst,hr'⟩ | ⟨v,h',hpan,rfl⟩
  ·exact hgood.elim
  ·by_cases hgt:zAt loc tmp g=some true
   ·rw[if_pos (zFn hg gx hgt)];left;refine step_wp hcall hst hgt W X hop D ?_;intro ρ' v' w' ds' hv W' S' D';have hp:∀{a2:Act},a2={a with defers:=ds'}->LocR ρ' m (zAc (o.dst.bind (zAk m)) v loc) (a2.put o.dst v')/\TmpR ρ' (o.dst::ts) (v::tmp) (a2.put o.dst v'):=by
     intro a2 e;subst e;exact⟨LocR.put hdo hv (L.mono S'.le),TmpR.put hdo hv (T.mono S'.le)⟩
    have hp:=hp rfl;have hdf:(({a with defers:=ds'}:Act).put o.dst v').defers=ds':=by cases o.dst<;>rfl
    exact zGr hcall hdst rest (k+1) (o.dst::ts) aos' _ _ d' h' ρ' _ w' r hrest' haos hr' hgood hp.1 hp.2 W' (by rw[hdf];exact D') (S.trans S') (by rw[zEs];exact hn) (λo' ho'=>ho o' (q0s _ ho')) (hslots v)
   ·cases hst with
    | skip hgf=>
     rw[if_neg (by rw[zFn hg gx hgf];simp)];have hv:VR ρ (.tup []) undef:=.tup .nil rfl;have hdf:(a.put o.dst undef).defers=a.defers:=by cases o.dst<;>rfl
     exact zGr hcall hdst rest (k+1) (o.dst::ts) aos' _ _ d h ρ _ w r hrest' haos hr' hgood (LocR.put hdo hv L) (TmpR.put hdo hv T) W (by rw[hdf];exact D) S (by rw[zEs];exact hn) (λo' ho'=>ho o' (q0s _ ho')) (hslots _)
    | val h1 _ _=>exact absurd h1 hgt
    | enter h1 _ _ _=>exact absurd h1 hgt
    | dfr h1 _=>exact absurd h1 hgt
  ·have hgt:zAt loc tmp g=some true:=by cases hpan<;>assumption
   rw[if_pos (zFn hg gx hgt)];left;refine pan_wp hcall hpan W X hop ?_;intro ρ' v' w' hv W' S';exact⟨ρ',v',rfl,hv,(L.mono S'.le).forget hs,D.mono S'.le,W',S.trans S',hn⟩
theorem plain_region{id:Nat}{aos:List AOper}{loc:T AV}{d:List AV}{h:AH}{ρ:Rho}{a:Act}{w:World}{r:Res}(hcall:zG9 P call)(hdst:∀o∈ops,∀x,o.dst=some x->x<n)
  (hc:zIf P m ops ops.toList []=some aos) (hr:evOps call aos loc aos loc [] d h=r) (hgood:r.good) (L:LocR ρ m loc a) (W:WR ρ h w) (D:DefsR ρ d a.defers) (hn:a.tmps.size=n) :
  (Code.region id ops false).wp P (QRes ρ h w m n r) a w:=by
 refine wp_region ?_;rw[List.range_eq_range']
 have:=zGr (whole:=aos) (loc0:=loc) (ρ0:=ρ) (h0:=h) (w0:=w) hcall hdst ops.toList 0 [] aos loc [] d h ρ a w r rfl hc hr hgood L (λt i e=>by cases e) W D (.refl _ _ _) hn
  (λo ho k hk=>List.mem_filterMap.2 ⟨o,ho,hk⟩) (λ_ _=>rfl)
 simpa using this
end
variable[Glob]
mutual
theorem same_eq:∀{a b:AV},same a b=true->a=b
 | .bad,b,h=>by cases h
 | .bool p,b,h=>by
  cases b<;>try (cases h;done)
  rename_i q;have h:bi p q (bi q false true)=true:=h;cases p<;>cases q<;>first | rfl | cases h
 | .int k m,b,h=>by
  cases b<;>try (cases h;done)
  rename_i k' n;have h:bi (eqK k k') (eqI m n) false=true:=h;rw[bi_eq] at h;split at h
  ·rename_i hk;rw[zEm] at h;rw[zHw hk,of_decide_eq_true h]
  ·cases h
 | .str l s,b,h=>by
  cases b<;>try (cases h;done)
  rename_i l' s';have h:bi (Nat.beq l l') (Nat.beq s s') false=true:=h;rw[bi_eq] at h;split at h
  ·rename_i hx;rw[q0f hx,q0f h]
  ·cases h
 | .ptr i o,b,h=>by
  cases b<;>try (cases h;done)
  rename_i i' o';have h:bi (Nat.beq i i') (Nat.beq o o') false=true:=h;rw[bi_eq] at h;split at h
  ·rename_i hx;rw[q0f hx,q0f h]
  ·cases h
 | .nilp,b,h=>by cases b<;>first | rfl | cases h
 | .sl i o l c,b,h=>by
  cases b<;>try (cases h;done)
  rename_i i' o' l' c';have h:bi (Nat.beq i i') (bi (Nat.beq o o') (bi (Nat.beq l l') (ACap.rec (motive:=λ_=>Bool) (λx=>ACap.rec (motive:=λ_=>Bool) (λy=>Nat.beq x y) (λ_=>false) c') (λx=>ACap.rec (motive:=λ_=>Bool) (λ_=>false) (λy=>Nat.beq x y) c') c) false) false) false=true:=h;simp only[bi_eq] at h;split at h
  ·rename_i h1;split at h
   ·rename_i h2;split at h
    ·rename_i h3;rw[q0f h1,q0f h2,q0f h3];cases c<;>cases c'<;>first | (rw[q0f h]) | cases h
    ·cases h
   ·cases h
  ·cases h
 | .nils,b,h=>by cases b<;>first | rfl | cases h
 | .mp i,b,h=>by
  cases b<;>try (cases h;done)
  rename_i i';have h:Nat.beq i i'=true:=h;rw[q0f h]
 | .nilm,b,h=>by cases b<;>first | rfl | cases h
 | .fn f l l2,b,h=>by
  cases b<;>try (cases h;done)
  rename_i f' l' l2';have h:bi (Nat.beq f f') (bi (same (.tup l) (.tup l')) (same (.tup l2) (.tup l2')) false) false=true:=h;simp only[bi_eq] at h;split at h
  ·rename_i h1;split at h
   ·rename_i h2;rw[q0f h1,zFv h2,zFv h]
   ·cases h
  ·cases h
 | .nilf,b,h=>by cases b<;>first | rfl | cases h
 | .ifc t v,b,h=>by
  cases b<;>try (cases h;done)
  rename_i t' v';have h:bi (Nat.beq t t') (same v v') false=true:=h;rw[bi_eq] at h;split at h
  ·rename_i hx;rw[q0f hx,same_eq h]
  ·cases h
 | .nili,b,h=>by cases b<;>first | rfl | cases h
 | .agg l,b,h=>by
  cases b<;>try (cases h;done)
  rename_i l';have h:same (.tup l) (.tup l')=true:=h;rw[zFv h]
 | .tup l,b,h=>by
  cases b<;>try (cases h;done)
  rename_i l';rw[zFv h]
theorem zFv:∀{l l':List AV},same (.tup l) (.tup l')=true->l=l'
 | [],l',h=>by cases l'<;>first | rfl | cases h
 | v::l,l',h=>by
  cases l' with
  | nil=>cases h
  | cons w ws=>
   have h:bi (same v w) (same (.tup l) (.tup ws)) false=true:=h;rw[bi_eq] at h;split at h
   ·rename_i hx;rw[same_eq hx,zFv h]
   ·cases h
end
def bef(anc:List Nat)(j i:Nat):Bool:=(anc.getD i 0).testBit j
theorem or_fold(acc:List Nat):∀(l:List Edge) (s j:Nat),(l.foldl (λs e=>if Region.binds .any e then s ||| 2 ^ e.on ||| acc.getD e.on 0 else s) s).testBit j=true->
  s.testBit j=true\/∃e∈l,Region.binds .any e=true/\(e.on=j\/(acc.getD e.on 0).testBit j=true)
 | [],s,j,h=>.inl h
 | e::l,s,j,h=>by
  rw[List.foldl_cons] at h;rcases or_fold acc l _ j h with h1 | ⟨e',he,hb,hc⟩
  ·split at h1
   ·rename_i hb;rw[Nat.testBit_or,Nat.testBit_or,Bool.or_eq_true,Bool.or_eq_true] at h1;rcases h1 with(h1 | h1) | h1
    ·exact .inl h1
    ·rw[Nat.testBit_two_pow] at h1;exact .inr ⟨e,by simp,hb,.inl (of_decide_eq_true h1)⟩
    ·exact .inr ⟨e,by simp,hb,.inr h1⟩
   ·exact .inl h1
  ·exact .inr ⟨e',by simp[he],hb,hc⟩
def zCo(acc:List Nat)(o:Oper):List Nat:=acc++[o.after.toList.foldl (λs e=>if Region.binds .any e then s ||| 2 ^ e.on ||| acc.getD e.on 0 else s) 0]
theorem zH1:∀(l:List Oper) (acc:List Nat) (i:Nat),i<acc.length->(l.foldl zCo acc).getD i 0=acc.getD i 0
 | [],acc,i,h=>rfl
 | o::l,acc,i,h=>by
  rw[List.foldl_cons,zH1 l _ i (by simp[zCo];omega)];simp[zCo,List.getElem?_append_left h]
theorem anc_spec:∀(l:List Oper) (acc:List Nat) (i j:Nat),acc.length<=i->((l.foldl zCo acc).getD i 0).testBit j=true->
  ∃o e,l[i-acc.length]?=some o/\e∈o.after/\Region.binds .any e=true/\(e.on=j\/((l.foldl zCo acc).getD e.on 0).testBit j=true)
 | [],acc,i,j,hi,h=>by
  rw[List.foldl_nil,q0e,q0i hi] at h;simp at h
 | o::l,acc,i,j,hi,h=>by
  rw[List.foldl_cons] at h ⊢;by_cases he:i=acc.length
  ·subst he;rw[zH1 l _ _ (by simp[zCo])] at h;have:(zCo acc o).getD acc.length 0=o.after.toList.foldl (λs e=>if Region.binds .any e then s ||| 2 ^ e.on ||| acc.getD e.on 0 else s) 0:=by simp[zCo]
   rw[this] at h;rcases or_fold acc _ _ _ h with h1 | ⟨e,he,hb,hc⟩
   ·simp at h1
   ·refine⟨o,e,by simp,by simpa using he,hb,?_⟩;rcases hc with hc | hc
    ·exact .inl hc
    ·right;have hlt:e.on<acc.length:=by
      rcases q0x e.on acc.length with hh | hh
      ·exact hh
      ·rw[q0e,q0i hh] at hc;simp at hc
     rw[zH1 l _ _ (by simp[zCo];omega)];simp only[zCo,q0e,List.getElem?_append_left hlt] at hc ⊢;exact hc
  ·obtain⟨o',e,h1,h2,h3,h4⟩:=anc_spec l (zCo acc o) i j (by simp[zCo];omega) h;refine⟨o',e,?_,h2,h3,h4⟩;have hlen:(zCo acc o).length=acc.length+1:=by simp[zCo]
   rw[hlen] at h1;obtain⟨k,hk⟩:∃k,i-acc.length=k+1:=⟨i-acc.length-1,by omega⟩;rw[hk,List.getElem?_cons_succ,show k=i-(acc.length+1) by omega];exact h1
theorem bef_edge{ops:Array Oper}{i j:Nat}(h:bef (ancs ops) j i=true):∃o e,ops[i]?=some o/\e∈o.after/\Region.binds .any e=true/\(e.on=j\/bef (ancs ops) j e.on=true):=by
 obtain⟨o,e,h1,h2,h3,h4⟩:=anc_spec ops.toList [] i j (q0k _) h;exact⟨o,e,by simpa using h1,h2,h3,h4⟩
structure DrawOk(ops:Array Oper)(anc ord:List Nat):Prop where
 cover:∀{i:Nat},i<ops.size->i∈ord
 back:∀{i:Nat} {o:Oper},ops[i]?=some o->∀e∈o.after,Region.binds .any e=true->e.on<i
 dst:∀{i p:Nat} {o q:Oper} {d:Nat},ops[i]?=some o->ops[p]?=some q->i≠p->q.dst=some d->o.dst≠some d/\(d∈zD2 ops o->bef anc p i=true\/bef anc i p=true)
 pair:∀{a b i j:Nat},ord[a]?=some i->ord[b]?=some j->b<a->i≠j/\bef anc i j=false/\∃oi oj,ops[i]?=some oi/\ops[j]?=some oj/\(clsO oj.op=3->bef anc j i=true)
theorem drawOk_spec{ops:Array Oper}{anc ord:List Nat}(h:zK1 ops anc ord=true):DrawOk ops anc ord:=by
 unfold zK1 at h;simp only[q0C,List.all_eq_true] at h;obtain⟨h1,h2⟩:=h;have lt:∀{i:Nat} {o:Oper},ops[i]?=some o->i<ops.size:=λh=>(Array.getElem?_eq_some_iff.1 h).1;refine⟨?_,?_,?_,?_⟩
 ·intro i hi;have:=(h1 i (by simpa using hi)).1;simpa using this
 ·intro i o ho e he hb;have:=(h1 i (by simpa using lt ho)).2;rw[ho] at this;simp only[q0C] at this;have h3:=Array.all_eq_true_iff_forall_mem.1 this.1 e he;simpa[hb] using h3
 ·intro i p o q d ho hq hne hd;have:=(h1 i (by simpa using lt ho)).2;rw[ho] at this;simp only[q0C,List.all_eq_true] at this;have h3:=this.2 p (by simpa using lt hq);rw[hq] at h3;simp only[hd] at h3;have hne':(i == p)=false:=by simpa using hne
  rw[hne',Bool.false_or,q0C] at h3;refine⟨by simpa using h3.1,λhm=>?_⟩;have h4:=h3.2;have hc:(zD2 ops o).contains d=true:=by simpa using hm
  rw[hc,q0B,Bool.false_or,Bool.or_eq_true] at h4;exact h4
 ·intro a b i j ha hb hlt;have h3:=h2 (i,a) (List.mem_zipIdx_iff_getElem?.2 ha) (j,b) (List.mem_zipIdx_iff_getElem?.2 hb);have hd:decide (b<a)=true:=by simpa using hlt
  simp only[hd,q0B,Bool.false_or,q0C] at h3;obtain⟨⟨h4,h5⟩,h6⟩:=h3;refine⟨by simpa using h4,by simpa[bef] using h5,?_⟩;split at h6
  ·rename_i oi oj e1 e2;refine⟨oi,oj,e1,e2,λh3=>?_⟩;rw[Bool.or_eq_true] at h6;rcases h6 with h6 | h6
   ·simp[h3] at h6
   ·exact h6
  ·cases h6
variable[Glob]
def TS(ops:Array Oper)(ord:List Nat)(p:Nat):List (Option Nat):=((ord.take p).map λi=>(ops[i]?).bind (·.dst)).reverse
def DN(ord:List Nat)(p:Nat):List Nat:=(ord.take p).reverse
theorem TS_succ{ops:Array Oper}{ord:List Nat}{p i:Nat}(h:ord[p]?=some i):TS ops ord (p+1)=(ops[i]?).bind (·.dst)::TS ops ord p:=by
 simp[TS,List.take_add_one,h]
theorem DN_succ{ord:List Nat}{p i:Nat}(h:ord[p]?=some i):DN ord (p+1)=i::DN ord p:=by
 simp[DN,List.take_add_one,h]
section
variable(P:Program)(m:List Nat)(ops:Array Oper)(anc ord:List Nat)(call:Nat->List AV->AH->CR)
structure Runs where
 L:Nat->T AV
 X:Nat->List AV
 D:Nat->List AV
 H:Nat->AH
 V:Nat->AV
variable(R:Runs)
structure StepAt(p i:Nat)(o:Oper)(ao:AOp)(g:Option (Opd×Bool))(re:List ARe):Prop where
 oi:ord[p]?=some i
 oo:ops[i]?=some o
 co:cOp P (cOpd m (TS ops ord p)) false o.op=some ao
 cg:zFa m ops (TS ops ord p) o=some g
 cr:clsO o.op=3->zIe P m ops anc (DN ord p) (TS ops ord p) i=some re
 st:StepA call (R.L p) (R.X p) (R.D p) (R.H p) ao g re (R.V p) (R.D (p+1)) (R.H (p+1))
 lo:R.L (p+1)=zAc (o.dst.bind (zAk m)) (R.V p) (R.L p)
 tm:R.X (p+1)=R.V p::R.X p
structure PanAt(p:Nat)(v:AV)(h':AH):Prop where
 ex:∃i o ao g,ord[p]?=some i/\ops[i]?=some o/\cOp P (cOpd m (TS ops ord p)) false o.op=some ao/\zFa m ops (TS ops ord p) o=some g/\PanA call (R.L p) (R.X p) (R.H p) ao g v h'
end
section
variable{P:Program}{m:List Nat}{ops:Array Oper}{anc ord:List Nat}{call:Nat->List AV->AH->CR}
theorem zK5{j:Nat}{rest dn:List Nat}{ts:List (Option Nat)}{aos:List AOper}(hc:cDraw P m ops anc (j::rest) dn ts=some aos):∃o re op g aos',ops[j]?=some o/\(clsO o.op=3->zIe P m ops anc dn ts j=some re)/\cOp P (cOpd m ts) false o.op=some op/\zFa m ops ts o=some g/\
  cDraw P m ops anc rest (j::dn) (o.dst::ts)=some aos'/\aos=⟨op,g,o.dst.bind (zAk m),re⟩::aos':=by
 obtain⟨o,ho,hc⟩:=bindS hc
 have key:∀re,(do let a <-cOper P m ops false ts o re;some (a::(<-cDraw P m ops anc rest (j::dn) (o.dst::ts))))=some aos->∃op g aos',cOp P (cOpd m ts) false o.op=some op/\zFa m ops ts o=some g/\
   cDraw P m ops anc rest (j::dn) (o.dst::ts)=some aos'/\aos=⟨op,g,o.dst.bind (zAk m),re⟩::aos':=by
  intro re hc;obtain⟨ao,hao,hc⟩:=bindS hc;obtain⟨aos',haos,hc⟩:=bindS hc;cases hc;obtain⟨op,hop,hao⟩:=bindS hao;obtain⟨g,hg,hao⟩:=bindS hao;injection hao with hao;subst hao;exact⟨op,g,aos',hop,hg,haos,rfl⟩
 by_cases h3:clsO o.op=3
 ·have hc:(if clsO o.op=3 then(zIe P m ops anc dn ts j >>= λre=>do let a <-cOper P m ops false ts o re;some (a::(<-cDraw P m ops anc rest (j::dn) (o.dst::ts)))) else(do let a <-cOper P m ops false ts o [];some (a::(<-cDraw P m ops anc rest (j::dn) (o.dst::ts)))))=some aos:=hc;rw[if_pos h3] at hc;obtain⟨re,hre,hc⟩:=bindS hc;obtain⟨op,g,aos',h1,h2,h4,h5⟩:=key re hc;exact⟨o,re,op,g,aos',ho,λ_=>hre,h1,h2,h4,h5⟩
 ·have hc:(if clsO o.op=3 then(zIe P m ops anc dn ts j >>= λre=>do let a <-cOper P m ops false ts o re;some (a::(<-cDraw P m ops anc rest (j::dn) (o.dst::ts)))) else(do let a <-cOper P m ops false ts o [];some (a::(<-cDraw P m ops anc rest (j::dn) (o.dst::ts)))))=some aos:=hc;rw[if_neg h3] at hc;obtain⟨op,g,aos',h1,h2,h4,h5⟩:=key [] hc;exact⟨o,[],op,g,aos',ho,λe=>absurd e h3,h1,h2,h4,h5⟩
theorem trace_ex{whole:List AOper}{loc0:T AV}:∀(rest:List Nat) (s:Nat) (aos:List AOper) (loc:T AV) (tmp d:List AV) (h:AH) (r:Res),s<=ord.length->ord.drop s=rest->cDraw P m ops anc rest (DN ord s) (TS ops ord s)=some aos->
  evOps call whole loc0 aos loc tmp d h=r->r.good->∃(R:Runs) (q:Nat),s<=q/\q<=ord.length/\R.L s=loc/\R.X s=tmp/\R.D s=d/\R.H s=h/\(∀p,s<=p->p<q->∃i o ao g re,StepAt P m ops anc ord call R p i o ao g re)/\
   ((q=ord.length/\r=.norm (R.L q) (R.D q) (R.H q))\/∃v h',PanAt P m ops ord call R q v h'/\r=.pan v (forget whole loc0) (R.D q) h')
 | [],s,aos,loc,tmp,d,h,r,hs,hrest,hc,hr,hgood=>by
  have hlen:s=ord.length:=by
   have:=congrArg List.length hrest;simp at this;omega
  cases hc;exact⟨⟨λ_=>loc,λ_=>tmp,λ_=>d,λ_=>h,λ_=>.bad⟩,s,q0c _,hs,rfl,rfl,rfl,rfl,λp h1 h2=>by omega,.inl ⟨hlen,hr.symm⟩⟩
 | j::rest,s,aos,loc,tmp,d,h,r,hs,hrest,hc,hr,hgood=>by
  obtain⟨o,re,op,g,aos',ho,hcr,hop,hg,haos,rfl⟩:=zK5 hc;have hj:ord[s]?=some j:=by rw[<-List.head?_drop,hrest];rfl
  have hlt:s<ord.length:=by
   rcases q0x s ord.length with h | h
   ·exact h
   ·rw[q0i h] at hj;cases hj
  have hrest':ord.drop (s+1)=rest:=by rw[<-List.drop_drop,hrest];rfl
  rcases zK0 hr with⟨ns,rfl⟩ | ⟨v,d',h',hst,hr'⟩ | ⟨v,h',hpan,rfl⟩
  ·exact hgood.elim
  ·have hdst:(ops[j]?).bind (·.dst)=o.dst:=by rw[ho];rfl
   have haos2:cDraw P m ops anc rest (DN ord (s+1)) (TS ops ord (s+1))=some aos':=by rw[DN_succ hj,TS_succ hj,hdst];exact haos
   obtain⟨R,q,h1,h2,e1,e2,e3,e4,hall,hend⟩:=trace_ex rest (s+1) aos' _ _ d' h' r hlt hrest' haos2 hr' hgood
   let R':Runs:=⟨λp=>if p=s then loc else R.L p,λp=>if p=s then tmp else R.X p,λp=>if p=s then d else R.D p,λp=>if p=s then h else R.H p,λp=>if p=s then v else R.V p⟩
   have r1:∀p,s<p->R'.L p=R.L p/\R'.X p=R.X p/\R'.D p=R.D p/\R'.H p=R.H p/\R'.V p=R.V p:=λp hp=>by
    have:¬p=s:=by omega
    simp[R',this]
   have r0:R'.L s=loc/\R'.X s=tmp/\R'.D s=d/\R'.H s=h/\R'.V s=v:=by simp[R']
   refine⟨R',q,by omega,h2,r0.1,r0.2.1,r0.2.2.1,r0.2.2.2.1,λp hp1 hp2=>?_,?_⟩
   ·by_cases hps:p=s
    ·subst hps;refine⟨j,o,op,g,re,hj,ho,hop,hg,hcr,?_,?_,?_⟩
     ·rw[(r1 (p+1) (by omega)).2.2.1,(r1 (p+1) (by omega)).2.2.2.1,r0.1,r0.2.1,r0.2.2.1,r0.2.2.2.1,r0.2.2.2.2,e3,e4];exact hst
     ·rw[(r1 (p+1) (by omega)).1,e1,r0.1,r0.2.2.2.2]
     ·rw[(r1 (p+1) (by omega)).2.1,e2,r0.2.1,r0.2.2.2.2]
    ·obtain⟨i,o2,ao2,g2,re2,S⟩:=hall p (by omega) hp2;have q1:=r1 p (by omega);have q2:=r1 (p+1) (by omega);refine⟨i,o2,ao2,g2,re2,S.oi,S.oo,S.co,S.cg,S.cr,?_,?_,?_⟩
     ·rw[q2.2.2.1,q2.2.2.2.1,q1.1,q1.2.1,q1.2.2.1,q1.2.2.2.1,q1.2.2.2.2];exact S.st
     ·rw[q2.1,q1.1,q1.2.2.2.2];exact S.lo
     ·rw[q2.2.1,q1.2.1,q1.2.2.2.2];exact S.tm
   ·have q1:=r1 q (by omega);rcases hend with⟨he,hr2⟩ | ⟨v2,h2,hp,hr2⟩
    ·left;refine⟨he,?_⟩;rw[q1.1,q1.2.2.1,q1.2.2.2.1];exact hr2
    ·right;refine⟨v2,h2,?_,by rw[q1.2.2.1];exact hr2⟩;obtain⟨i,o2,ao2,g2,a1,a2,a3,a4,a5⟩:=hp.ex;refine⟨i,o2,ao2,g2,a1,a2,a3,a4,?_⟩;rw[q1.1,q1.2.1,q1.2.2.2.1];exact a5
  ·refine⟨⟨λ_=>loc,λ_=>tmp,λ_=>d,λ_=>h,λ_=>.bad⟩,s,q0c _,hs,rfl,rfl,rfl,rfl,λp h1 h2=>by omega,.inr ⟨v,h',⟨j,o,op,g,hj,ho,hop,hg,hpan⟩,rfl⟩⟩
theorem ts_val{R:Runs}(h0:R.X 0=[]){q:Nat}(hst:∀p,p<q->∃i o ao g re,StepAt P m ops anc ord call R p i o ao g re):∀(p:Nat),p<=q->∀t,match zF6 (TS ops ord p) t with
  | some k=>∃b i o,b<p/\ord[b]?=some i/\ops[i]?=some o/\o.dst=some t/\nth (R.X p) k=R.V b
  | none=>∀b i o,b<p->ord[b]?=some i->ops[i]?=some o->o.dst≠some t
 | 0,hp,t=>by
  have:zF6 (TS ops ord 0) t=none:=by simp[TS,zF6]
  rw[this];intro b i o hb;omega
 | p+1,hp,t=>by
  obtain⟨i,o,ao,g,re,S⟩:=hst p (by omega);have ih:=ts_val h0 hst p (by omega) t;have hdst:(ops[i]?).bind (·.dst)=o.dst:=by rw[S.oo];rfl
  rw[TS_succ S.oi,hdst,zJu];by_cases hd:o.dst=some t
  ·rw[if_pos hd];exact⟨p,i,o,by omega,S.oi,S.oo,hd,by rw[S.tm];rfl⟩
  ·rw[if_neg hd];cases hf:zF6 (TS ops ord p) t with
   | none=>
    rw[hf] at ih;intro b i' o' hb h1 h2;by_cases hbp:b=p
    ·subst hbp;rw[S.oi] at h1;injection h1 with h1;subst h1;rw[S.oo] at h2;injection h2 with h2;subst h2;exact hd
    ·exact ih b i' o' (by omega) h1 h2
   | some k=>
    rw[hf] at ih;obtain⟨b,i',o',h1,h2,h3,h4,h5⟩:=ih;exact⟨b,i',o',by omega,h2,h3,h4,by rw[S.tm];exact h5⟩
theorem zLd{R:Runs}{q:Nat}(hst:∀p,p<q->∃i o ao g re,StepAt P m ops anc ord call R p i o ao g re)(k:Nat):∀(p:Nat),p<=q->
  (slot (R.L p) k=slot (R.L 0) k/\∀b i o,b<p->ord[b]?=some i->ops[i]?=some o->o.dst.bind (zAk m)≠some k) ∨
  ∃b i o,b<p/\ord[b]?=some i/\ops[i]?=some o/\o.dst.bind (zAk m)=some k/\slot (R.L p) k=R.V b
 | 0,_=>.inl ⟨rfl,λb i o hb=>by omega⟩
 | p+1,hp=>by
  obtain⟨i,o,ao,g,re,S⟩:=hst p (by omega);rw[S.lo,zIz];by_cases hd:o.dst.bind (zAk m)=some k
  ·rw[if_pos hd];exact .inr ⟨p,i,o,by omega,S.oi,S.oo,hd,rfl⟩
  ·rw[if_neg hd];rcases zLd hst k p (by omega) with⟨h1,h2⟩ | ⟨b,i',o',h1,h2,h3,h4,h5⟩
   ·refine .inl ⟨h1,λb i' o' hb e1 e2=>?_⟩;by_cases hbp:b=p
    ·subst hbp;rw[S.oi] at e1;injection e1 with e1;subst e1;rw[S.oo] at e2;injection e2 with e2;subst e2;exact hd
    ·exact h2 b i' o' (by omega) e1 e2
   ·exact .inr ⟨b,i',o',by omega,h2,h3,h4,h5⟩
theorem outs_draw:∀{l:List Nat} {dn:List Nat} {ts:List (Option Nat)} {aos:List AOper},cDraw P m ops anc l dn ts=some aos->∀i o k,i∈l->ops[i]?=some o->o.dst.bind (zAk m)=some k->k∈outs aos
 | [],_,_,_,_,i,o,k,hi,_,_=>by simp at hi
 | j::l,dn,ts,aos,hc,i,o,k,hi,ho,hk=>by
  obtain⟨o1,re,op,g,aos',ho1,_,hop,hg,haos,rfl⟩:=zK5 hc;rcases List.mem_cons.1 hi with rfl | hi
  ·rw[ho1] at ho;injection ho with ho;subst ho;exact List.mem_filterMap.2 ⟨_,q0H ..,hk⟩
  ·have:=outs_draw haos i o k hi ho hk;obtain⟨x,hx,he⟩:=List.mem_filterMap.1 this;exact List.mem_filterMap.2 ⟨x,q0s _ hx,he⟩
theorem reads_draw{j:Nat}{ts:List (Option Nat)}{re:List ARe}{done:List Nat}(hc:zIe P m ops anc done ts j=some re):∀pos i,done[pos]?=some i->∀o,ops[i]?=some o->clsO o.op=1->bef anc i j=false->
  ∃x∈re,x.pos=pos/\cOp P (cOpd m ts) false o.op=some x.op/\zFa m ops ts o=some x.guard/\∀k i' o' t,k<=pos->done[k]?=some i'->ops[i']?=some o'->o'.dst=some t->t∉zD2 ops o:=by
 have gen:∀(l:List (Nat×Nat)) (re:List ARe),l.foldr (λ(x:Nat×Nat) (acc:Option (List ARe))=>do
   let acc <-acc
   let o <-ops[x.1]?
   if clsO o.op=1/\(anc.getD j 0).testBit x.1=false then
    if(done.take (x.2+1)).all λp=>match(ops[p]?).bind (·.dst) with | some d=>!(zD2 ops o).contains d | none=>true then
     some (({op:=<-cOp P (cOpd m ts) false o.op,pos:=x.2,guard:=<-zFa m ops ts o}:ARe)::acc)
    else none
   else some acc) (some [])=some re->∀i pos,(i,pos)∈l->∀o,ops[i]?=some o->clsO o.op=1->bef anc i j=false->
   ∃x∈re,x.pos=pos/\cOp P (cOpd m ts) false o.op=some x.op/\zFa m ops ts o=some x.guard/\((done.take (pos+1)).all λp=>match(ops[p]?).bind (·.dst) with | some d=>!(zD2 ops o).contains d | none=>true)=true:=by
  intro l;induction l with
  | nil=>intro re _ i pos hm;simp at hm
  | cons y l ih=>
   intro re hre i pos hm o ho h1 hb;rw[List.foldr_cons] at hre;obtain⟨acc,hacc,hre⟩:=bindS hre;obtain⟨o1,ho1,hre⟩:=bindS hre;by_cases hcond:clsO o1.op=1/\(anc.getD j 0).testBit y.1=false
   ·rw[if_pos hcond] at hre;split at hre
    ·rename_i hall;obtain⟨op,hop,hre⟩:=bindS hre;obtain⟨g,hg,hre⟩:=bindS hre;injection hre with hre;subst hre;rcases List.mem_cons.1 hm with e | hm
     ·subst e;rw[ho] at ho1;injection ho1 with ho1;subst ho1;exact⟨_,q0H ..,rfl,hop,hg,hall⟩
     ·obtain⟨x,hx,hr⟩:=ih acc hacc i pos hm o ho h1 hb;exact⟨x,q0s _ hx,hr⟩
    ·cases hre
   ·rw[if_neg hcond] at hre;injection hre with hre;subst hre;rcases List.mem_cons.1 hm with e | hm
    ·subst e;rw[ho] at ho1;injection ho1 with ho1;subst ho1;exact absurd ⟨h1,hb⟩ hcond
    ·exact ih _ hacc i pos hm o ho h1 hb
 intro pos i hpos o ho h1 hb;obtain⟨x,hx,e1,e2,e3,e4⟩:=gen _ re hc i pos (List.mem_zipIdx_iff_getElem?.2 hpos) o ho h1 hb;refine⟨x,hx,e1,e2,e3,λk i' o' t hk hi' ho' ht hmem=>?_⟩;have hin:i'∈done.take (pos+1):=by
  have:(done.take (pos+1))[k]?=some i':=by rw[List.getElem?_take,if_pos (by omega)];exact hi'
  exact q0L this
 have:=List.all_eq_true.1 e4 i' hin;have hd:(ops[i']?).bind (·.dst)=some t:=by rw[ho'];exact ht
 rw[hd] at this;simp[hmem] at this
theorem zHg{loc:T AV}{tmp:List AV}{h:AH}:∀{re:List ARe},reads loc tmp h re=true->∀x∈re,∃q,zAt loc tmp x.guard=some q/\(q=true->∃v h',evOp x.op loc tmp h=.val v h'/\v=nth tmp x.pos)
 | [],_,x,hx=>by simp at hx
 | ⟨op,i,g⟩::l,h1,x,hx=>by
  have h1:obind (zAt loc tmp g) false (λq=>bi q (OR.rec (motive:=λ_=>Bool) (λv _=>bi (same v (nth tmp i)) (reads loc tmp h l) false) (λ_ _=>false) (λ_=>false) (λ_=>false) (λ_=>false) (evOp op loc tmp h)) (reads loc tmp h l))=true:=h1;cases hg:zAt loc tmp g with
  | none=>rw[hg] at h1;cases h1
  | some q=>
   rw[hg] at h1;cases q with
   | false=>
    have h1:reads loc tmp h l=true:=h1;rcases List.mem_cons.1 hx with rfl | hx
    ·exact⟨false,hg,λe=>by cases e⟩
    ·exact zHg h1 x hx
   | true=>
    have h1:(OR.rec (motive:=λ_=>Bool) (λv _=>bi (same v (nth tmp i)) (reads loc tmp h l) false) (λ_ _=>false) (λ_=>false) (λ_=>false) (λ_=>false) (evOp op loc tmp h))=true:=h1;cases ho:evOp op loc tmp h with
    | val v h'=>
     rw[ho] at h1;have h1:bi (same v (nth tmp i)) (reads loc tmp h l) false=true:=h1;rw[bi_eq] at h1;split at h1
     ·rename_i hs;rcases List.mem_cons.1 hx with rfl | hx
      ·exact⟨true,hg,λ_=>⟨v,h',ho,same_eq hs⟩⟩
      ·exact zHg h1 x hx
     ·cases h1
    | _=>rw[ho] at h1;cases h1
end
end Go.Ev
