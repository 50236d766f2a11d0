/- EvB2 EvBd EvZ2 EvPm EvK EvSt EvL EvSo EvG EvPg EvE EvRw EvE2 EvDf EvRun EvPd EvAb EvRu EvMp EvC -/
import Derived.Test.YticonknioobdjaaGreatPD
import Derived.Carry
import Derived.OpenShut
import Derived.ChangeArms
import Derived.Deep.Slices
import Derived.SizedLaws
import Derived.Test.YticonknioobdjaaGreatPA
set_option linter.unusedSimpArgs false
set_option linter.unusedVariables false
set_option linter.unusedSectionVars false
set_option linter.defProp false
set_option maxRecDepth 100000
set_option maxHeartbeats 4000000
namespace Go.Ev
open Go Go.ChangeShapes Go.RowKit
variable[Glob]
def AllRo(h:AH):Prop:=∀id o,h.mem.get id=some o->o.ro=true
theorem add_off{b off k:Nat}:(Addr.mk b off none).add k=⟨b,off+k,none⟩:=by
 unfold Addr.add;split
 ·rename_i h;subst h;rfl
 ·rfl
theorem WR.addRo{ρ:Rho}{h:AH}{w:World}(W:WR ρ h w)(A:AllRo h){o:AObj}{x:Obj}{b p s:Nat}(hr:o.ro=true)(hx:w.heap[b]?=some x)(ho:ObjR ρ o x p s) :
  ∃ρ',ρ' =ρ.ext h.next (b,p,s)/\WR ρ' (h.add o) w/\ρ.le ρ'/\AllRo (h.add o):=by
 have hn:=W.none_next;have hle:ρ.le (ρ.ext h.next (b,p,s)):=Rho.le_ext hn;have hget:∀i,(h.add o).mem.get i=if h.next=i then some o else h.mem.get i:=λi=>T.get_put _ _ _ _;have hb:b<w.heap.size:=by
  rcases q0x b w.heap.size with hlt | hge
  ·exact hlt
  ·rw[Array.getElem?_eq_none hge] at hx;cases hx
 refine⟨_,rfl,⟨⟨?_,?_,?_,?_⟩,λk hk=>?_⟩,hle,?_⟩
 rotate_left 4
 ·obtain⟨g1,g2,g3⟩:=W.gl k hk;refine⟨g1,g2,?_⟩;rintro⟨id,o',p',s',h1,h2,h3⟩;rw[hget] at h1;by_cases hi:h.next=id
  ·rw[if_pos hi] at h1;injection h1 with h1;subst h1;rw[hr] at h2;cases h2
  ·rw[if_neg hi] at h1;rw[q2j _ _ (Ne.symm hi)] at h3;exact g3 ⟨id,o',p',s',h1,h2,h3⟩
 rotate_left 1
 ·intro id o' b' p' s' hg he;rw[hget] at hg;by_cases hi:h.next=id
  ·subst hi;rw[if_pos rfl] at hg;rw[q2i] at he;injection hg with hg;subst hg;injection he with he;injection he with h1 h2;injection h2 with h2 h3;subst h1;subst h2;subst h3;exact⟨x,hx,ho.mono hle⟩
  ·rw[if_neg hi] at hg;rw[q2j _ _ (Ne.symm hi)] at he;obtain⟨y,hy,hr⟩:=W.obj hg he;exact⟨y,hy,hr.mono hle⟩
 ·intro i j o1 o2 b' p1 s1 p2 s2 h1 h2 hne e1 e2;rw[hget] at h1 h2;by_cases hi:h.next=i
  ·rw[if_pos hi] at h1;rw[if_neg (λe=>hne (hi.symm.trans e))] at h2;injection h1 with h1;subst h1;exact⟨hr,A _ _ h2⟩
  ·rw[if_neg hi] at h1;by_cases hj:h.next=j
   ·rw[if_pos hj] at h2;injection h2 with h2;subst h2;exact⟨A _ _ h1,hr⟩
   ·rw[if_neg hj] at h2;exact⟨A _ _ h1,A _ _ h2⟩
 ·intro id y he;by_cases hi:h.next=id
  ·subst hi;rw[q2i] at he;injection he with he;subst he;exact⟨q0h _,hb⟩
  ·rw[q2j _ _ (Ne.symm hi)] at he;exact⟨Nat.lt_succ_of_lt (W.dom he).1,(W.dom he).2⟩
 ·intro id hid;have hid':h.next+1<=id:=hid;rw[hget,if_neg (by omega)];exact W.fresh (by omega)
 ·intro id o' hg;rw[hget] at hg;by_cases hi:h.next=id
  ·rw[if_pos hi] at hg;injection hg with hg;subst hg;exact hr
  ·rw[if_neg hi] at hg;exact A _ _ hg
section
variable{H:Type}{enc:TypeId×Value->H}{P:Program}{w:World}{base:Nat}{spare:Nat->Bool}{held:Bool}
theorem zGn(hl:laidOutB P=true){W':World}(hb:Below w.heap.size w W'):∀{ts:List TypeId} {vs:List Value} {ds:List (DataW H)} {ps:List MemPlace},(∀t∈ts,P.readableRec t=true/\t<P.types.size)->
  DataW.TrodAll enc P w 0 (λ_=>true) true ts vs ds ps->(∀x∈ps,x.block<w.heap.size)->DataW.TrodAll enc P W' 0 (λb=>decide (b<w.heap.size)) true ts vs ds ps
 | [],vs,ds,ps,_,h,_=>by
  obtain⟨rfl,rfl,rfl⟩:=trodAll_nil h;exact trodAll_mk0
 | t::ts,vs,ds,ps,hr,h,hlt=>by
  obtain⟨v,vs',d,ds',p,q,rfl,rfl,rfl,h1,h2⟩:=trodAll_cons h;exact trodAll_cons_mk (Below.trod hl (hr t (by simp)).1 (hr t (by simp)).2 h1 hb λx hx=>hlt x (by simp[hx])) (zGn hl hb (λx hx=>hr x (by simp[hx])) h2 λx hx=>hlt x (by simp[hx]))
end
variable[Glob]
def zBq:Nat:=140737488351232
def okW{H:Type}(P:Program)(t:TypeId)(d:DataW H):Prop:=∀n∈d.weights P t,n<=zBq
section
variable{H:Type}{P:Program}{t e:TypeId}
theorem zCw{d:DataW H}:∀{l:List (DataW H)},d∈l->∀n∈d.weights P e,n∈DataW.weightsAll P e l
 | x::l,h,n,hn=>by
  simp only[DataW.weightsAll,List.mem_append];rcases List.mem_cons.1 h with rfl | h
  ·exact .inl hn
  ·exact .inr (zCw h n hn)
theorem okW.str{b:List UInt8}(h:okW (H:=H) P t (.lit (.string b))):b.length<=zBq:=h _ (by simp[DataW.weights])
theorem okW.agg{fs:Array Field}{ps:List (DataW H)}(hu:P.underlying t=some (.struct fs))(h:okW P t (.agg ps)){i:Nat}{f:Field}{p:DataW H}(hf:fs.toList[i]?=some f)(hp:ps[i]?=some p):okW P f.type p:=λn hn=>h n (by
 simp only[DataW.weights,hu];exact DataW.weights_mem_each (by rw[q0t,hf];rfl) hp n hn)
theorem okW.arr{k:Nat}{ps:List (DataW H)}(hu:P.underlying t=some (.array k e))(h:okW P t (.agg ps)){p:DataW H}(hp:p∈ps):okW P e p:=λn hn=>h n (by
 simp only[DataW.weights,hu];exact zCw hp n hn)
theorem okW.sl{es sp:List (DataW H)}(hu:P.underlying t=some (.slice e))(h:okW P t (.slice es sp)){p:DataW H}(hp:p∈es++sp):okW P e p:=λn hn=>h n (by
 simp only[DataW.weights,hu,List.mem_cons,List.mem_append];rcases List.mem_append.1 hp with hp | hp
 ·exact .inr (.inl (zCw hp n hn))
 ·exact .inr (.inr (zCw hp n hn)))
theorem okW.len{es sp:List (DataW H)}(hu:P.underlying t=some (.slice e))(hb:0<P.bytesOf e)(h:okW P t (.slice es sp)):(es++sp).length<=zBq:=by
 have:=h ((es.length+sp.length)*P.bytesOf e) (by simp only[DataW.weights,hu];exact q0H);rw[q0o];exact q0m (Nat.le_mul_of_pos_right _ hb) this
theorem okW.each:∀{ts:List TypeId} {ds:List (DataW H)},(DataW.weightsEach P ts ds).all (·<=reachBytes)=true->∀(j:Nat) t d,ts[j]?=some t->ds[j]?=some d->okW P t d:=λh j t d ht hd n hn=>by
 have:=List.all_eq_true.1 h n (DataW.weights_mem_each ht hd n hn);exact of_decide_eq_true this
end
inductive RdD(P:Program)(h:AH):TypeId->List AV->Prop
 | bool {t:TypeId} {b:Bool}:P.underlying t=some .bool->RdD P h t [.bool b]
 | int {t:TypeId} {k:IntKind} {n:Int}:P.underlying t=some (.int k)->(Lit.int k n).wf=true->RdD P h t [.int k n]
 | str {t:TypeId} (s:ByteArray):P.underlying t=some .string->s.size<=zBq->RdD P h t [.str s.data.toList.length (encB s.data.toList)]
 | struct {t:TypeId} {fs:Array Field} {cs:List AV}:P.underlying t=some (.struct fs)->cs.length=P.cellsOf t->(∀f∈fs.toList,RdD P h f.type ((cs.drop f.offset).take (P.cellsOf f.type)))->RdD P h t cs
 | array {t e:TypeId} {n:Nat} {cs:List AV}:P.underlying t=some (.array n e)->cs.length=P.cellsOf t->(∀i,i<n->RdD P h e ((cs.drop (i*P.cellsOf e)).take (P.cellsOf e)))->RdD P h t cs
 | nils {t e:TypeId}:P.underlying t=some (.slice e)->RdD P h t [.nils]
 | emp {t e:TypeId} {id off:Nat}:P.underlying t=some (.slice e)->RdD P h t [.sl id off 0 (.known 0)]
 | sl {t e:TypeId} {id off len cap s:Nat} {c:T AV} (L:Nat->List AV):P.underlying t=some (.slice e)->len<=cap->cap<=zBq->h.mem.get id=some (.cells c s none true)->id<h.next->
   (∀i,i<len->(L i).length=P.cellsOf e/\∀j,j<P.cellsOf e->c.get (off+i*P.cellsOf e+j)=(L i)[j]?)->(∀i,i<len->RdD P h e (L i))->RdD P h t [.sl id off len (.known cap)]
theorem RdD.more{P:Program}{h h':AH}{t:TypeId}{l:List AV}(x:RdD P h t l)(m:More h h'):RdD P h' t l:=by
 induction x with
 | bool a=>exact .bool a
 | int a b=>exact .int a b
 | str s a b=>exact .str s a b
 | struct a b _ ih=>exact .struct a b ih
 | array a b _ ih=>exact .array a b ih
 | nils a=>exact .nils a
 | emp a=>exact .emp a
 | sl L a b c d e f _ ih=>exact .sl L a b c (by rw[m.keep _ e];exact d) (q0d e m.next) f ih
def zFr(P:Program):List Field->Nat->Nat->Bool
 | [],off,tot=>decide (off=tot)
 | f::fs,off,tot=>decide (f.offset=off)&&zFr P fs (off+P.cellsOf f.type) tot
def deepT(P:Program):Nat->TypeId->Bool
 | 0,_=>false
 | n+1,t=>match P.underlying t with
  | some .bool=>true
  | some (.int _)=>true
  | some .string=>true
  | some (.struct fs)=>fs.toList.all (λf=>deepT P n f.type)&&zFr P fs.toList 0 (P.cellsOf t)
  | some (.array k e)=>deepT P n e&&decide (P.cellsOf t=k*P.cellsOf e)
  | some (.slice e)=>deepT P n e&&decide (0<P.cellsOf e/\0<P.bytesOf e)
  | _=>false
theorem zHx{P:Program}:∀{fs:List Field} {off tot:Nat},zFr P fs off tot=true->off<=tot/\∀f∈fs,off<=f.offset
 | [],off,tot,h=>by
  simp only[zFr,decide_eq_true_eq] at h;exact⟨by omega,λf hf=>by cases hf⟩
 | f::fs,off,tot,h=>by
  simp only[zFr,q0C,decide_eq_true_eq] at h;obtain⟨h1,h2⟩:=zHx h.2;refine⟨by omega,λg hg=>?_⟩;rcases List.mem_cons.1 hg with rfl | hg
  ·omega
  ·have:=h2 g hg;omega
section
variable{H:Type}{enc:TypeId×Value->H}{P:Program}{w:World}
def InD(P:Program)(w:World)(t:TypeId)(cs:List Value):Prop:=
 ∀(ρ:Rho) (ah:AH),WR ρ ah w->AllRo ah->∃ρ' ah' l,VCs ρ' l cs/\WR ρ' ah' w/\ρ.le ρ'/\More ah ah'/\AllRo ah'/\RdD P ah' t l
theorem fields_in{cs:List Value}:∀(fs:List Field) (off:Nat),zFr P fs off cs.length=true->(∀f∈fs,InD P w f.type ((cs.drop f.offset).take (P.cellsOf f.type)))->∀{ρ:Rho} {ah:AH},WR ρ ah w->AllRo ah->
  ∃ρ' ah' l,VCs ρ' l (cs.drop off)/\WR ρ' ah' w/\ρ.le ρ'/\More ah ah'/\AllRo ah'/\∀f∈fs,RdD P ah' f.type ((l.drop (f.offset-off)).take (P.cellsOf f.type))
 | [],off,hc,_,ρ,ah,W,A=>by
  simp only[zFr,decide_eq_true_eq] at hc;refine⟨ρ,ah,[],?_,W,ρ.le_refl,q2o ah,A,λf hf=>by cases hf⟩;rw[List.drop_eq_nil_of_le (by omega)];exact .nil
 | f::fs,off,hc,hI,ρ,ah,W,A=>by
  have hc0:=hc;simp only[zFr,q0C,decide_eq_true_eq] at hc;obtain⟨ho,hc⟩:=hc;have hle:=(zHx hc).1;obtain⟨ρ1,ah1,l1,a1,a2,a3,a4,a5,a6⟩:=hI f (by simp) _ _ W A;obtain⟨ρ2,ah2,l2,b1,b2,b3,b4,b5,b6⟩:=fields_in fs (off+P.cellsOf f.type) hc (λg hg=>hI g (by simp[hg])) a2 a5;rw[ho] at a1;have hl1:l1.length=P.cellsOf f.type:=by
   rw[a1.length,q0v,q0Q];omega
  refine⟨ρ2,ah2,l1++l2,?_,b2,q2n a3 b3,a4.trans b4,b5,λg hg=>?_⟩
  ·have e:cs.drop off=(cs.drop off).take (P.cellsOf f.type)++cs.drop (off+P.cellsOf f.type):=by
    rw[<-List.drop_drop,List.take_append_drop]
   rw[e];exact(a1.mono b3).append b1
  ·rcases List.mem_cons.1 hg with rfl | hg
   ·rw[ho,Nat.sub_self,List.drop_zero,List.take_append_of_le_length (by omega),List.take_of_length_le (by omega)];exact a6.more b4
   ·have h2:=(zHx hc).2 g hg;have:=b6 g hg;rw[List.drop_append,List.drop_eq_nil_of_le (by omega),List.nil_append,show g.offset-off-l1.length=g.offset-(off+P.cellsOf f.type) by omega];exact this
theorem zL4{e:TypeId}{cs:List Value}:∀(k:Nat),k*P.cellsOf e<=cs.length->(∀i,i<k->InD P w e ((cs.drop (i*P.cellsOf e)).take (P.cellsOf e)))->∀{ρ:Rho} {ah:AH},WR ρ ah w->AllRo ah->
  ∃ρ' ah' l,VCs ρ' l (cs.take (k*P.cellsOf e))/\WR ρ' ah' w/\ρ.le ρ'/\More ah ah'/\AllRo ah'/\∀i,i<k->RdD P ah' e ((l.drop (i*P.cellsOf e)).take (P.cellsOf e))
 | 0,_,_,ρ,ah,W,A=>⟨ρ,ah,[],by rw[Nat.zero_mul,List.take_zero];exact .nil,W,ρ.le_refl,q2o ah,A,λi hi=>by omega⟩
 | k+1,hl,hI,ρ,ah,W,A=>by
  have hl':=hl;rw[Nat.succ_mul] at hl';obtain⟨ρ1,ah1,l1,a1,a2,a3,a4,a5,a6⟩:=zL4 k (by omega) (λi hi=>hI i (by omega)) W A;obtain⟨ρ2,ah2,l2,b1,b2,b3,b4,b5,b6⟩:=hI k (by omega) _ _ a2 a5;have hl1:l1.length=k*P.cellsOf e:=by rw[a1.length,q0v];omega
  have hl2:l2.length=P.cellsOf e:=by rw[b1.length,q0v,q0Q];omega
  refine⟨ρ2,ah2,l1++l2,?_,b2,q2n a3 b3,a4.trans b4,b5,λi hi=>?_⟩
  ·rw[Nat.succ_mul,List.take_add];exact(a1.mono b3).append b1
  ·by_cases hik:i<k
   ·have h1:(i+1)*P.cellsOf e<=k*P.cellsOf e:=q0u _ hik;rw[Nat.succ_mul] at h1;rw[List.drop_append_of_le_length (by omega),List.take_append_of_le_length (by rw[q0Q];omega)];exact(a6 i hik).more b4
   ·obtain rfl:i=k:=by omega
    rw[List.drop_append,List.drop_eq_nil_of_le (by omega),List.nil_append,show i*P.cellsOf e-l1.length=0 by omega,List.drop_zero,List.take_of_length_le (by omega)];exact b6
theorem zL5:∀(m:Nat) {fuel:Nat} {t:TypeId} {cs:List Value} {x:DataW H×List MemPlace},okW P t x.1->deepT P m t=true->DataW.trod enc P w 0 (λ_=>true) true fuel t cs=some x->InD P w t cs
 | 0,_,_,_,_,_,h,_=>by cases h
 | m+1,fuel,t,cs,x,hk,hf,h=>by
  intro ρ ah W A;unfold deepT at hf;cases hu:P.underlying t with
  | none=>rw[hu] at hf;cases hf
  | some d=>
   rw[hu] at hf;cases d<;>try (cases hf;done)
   case bool=>
    obtain⟨b,rfl⟩:∃b,cs=[.bool b]:=by
     cases fuel with
     | zero=>simp[DataW.trod] at h
     | succ n=>unfold DataW.trod at h;rw[hu] at h;split at h<;>simp_all
    exact⟨ρ,ah,[.bool b],.cons rfl (.bool b) .nil,W,ρ.le_refl,q2o ah,A,.bool hu⟩
   case int k=>
    obtain⟨n,rfl,_,hw⟩:=DataW.trod_int hu h;exact⟨ρ,ah,[.int k n],.cons rfl (.int k n) .nil,W,ρ.le_refl,q2o ah,A,.int hu hw⟩
   case string=>
    obtain⟨s,rfl,rfl,hs⟩:=DataW.trod_string hu h;have hs:s.size<=zBq:=by have:=okW.str hk;rwa [Array.length_toList] at this
    exact⟨ρ,ah,[.str s.data.toList.length (encB s.data.toList)],.cons rfl (.str s rfl rfl) .nil,W,ρ.le_refl,q2o ah,A,.str s hu hs⟩
   case struct fs=>
    obtain⟨xs,n,hn,rfl,hlen,hxs,hall⟩:=DataW.trod_struct hu h;rw[q0C,List.all_eq_true] at hf;have part:∀f∈fs.toList,InD P w f.type ((cs.drop f.offset).take (P.cellsOf f.type)):=by
     intro f hfm;obtain⟨i,hi,e⟩:=q0y hfm;have hi':i<fs.size:=by simpa using hi
     have hg:fs[i]?=some f:=by rw[Array.getElem?_eq_getElem hi'];simpa using e
     have:=hall i f hg;rw[q0a (by omega)] at this;exact zL5 m (okW.agg hu hk (i:=i) (by rw[<-Array.getElem?_toList] at hg;exact hg) (by rw[q0t,q0a (by omega)];rfl)) (hf.1 f hfm) this
    obtain⟨ρ1,ah1,l,a1,a2,a3,a4,a5,a6⟩:=fields_in fs.toList 0 (by rw[hlen];exact hf.2) part W A;rw[List.drop_zero] at a1;exact⟨ρ1,ah1,l,a1,a2,a3,a4,a5,.struct hu (by rw[a1.length,hlen]) λf hfm=>by simpa using a6 f hfm⟩
   case array k e=>
    obtain⟨xs,n,hn,rfl,hlen,hxs,hall⟩:=DataW.trod_array hu h;rw[q0C,decide_eq_true_eq] at hf;have part:∀i,i<k->InD P w e ((cs.drop (i*P.cellsOf e)).take (P.cellsOf e)):=by
     intro i hi;have:=hall i hi;rw[q0a (by omega)] at this;exact zL5 m (okW.arr hu hk (List.mem_map_of_mem (q0l _))) hf.1 this
    obtain⟨ρ1,ah1,l,a1,a2,a3,a4,a5,a6⟩:=zL4 k (by omega) part W A;rw[List.take_of_length_le (by omega)] at a1;exact⟨ρ1,ah1,l,a1,a2,a3,a4,a5,.array hu (by rw[a1.length,hlen]) a6⟩
   case slice e=>
    rw[q0C,decide_eq_true_eq] at hf;rcases Deep.open_slice hu h with⟨rfl,_⟩ | ⟨a,len,cap,m',n,D,Pl,rfl,_,hl,hm,hmm,rfl,hel⟩
    ·exact⟨ρ,ah,[.nils],.cons rfl .nils .nil,W,ρ.le_refl,q2o ah,A,.nils hu⟩
    ·have hmm:m'=cap:=by simpa using hmm
     subst hmm;rcases Nat.eq_zero_or_pos m' with hz | hpos
     ·subst hz;obtain rfl:len=0:=by omega
      exact⟨ρ,ah,[.sl 0 0 0 (.known 0)],.cons rfl .slz .nil,W,ρ.le_refl,q2o ah,A,.emp hu⟩
     obtain⟨b,off,sp⟩:=a;obtain⟨cs',h1,h2⟩:=hel 0 hpos;obtain⟨_,hlen,hget⟩:=World.cells?_some h1;have hc0:=hget 0 hf.2.1;rw[q0a (by omega)] at hc0;have a00:((Addr.mk b off sp).add (0*P.cellsOf e)).add 0=⟨b,off,sp⟩:=by rw[Nat.zero_mul];rfl
     rw[a00] at hc0;obtain⟨cs0,row,fr,hblk,rfl⟩:∃cs0 row fr,w.heap[b]?=some (.cells cs0 row fr)/\sp=none:=by
      unfold World.cell? at hc0;simp only at hc0;split at hc0
      ·rename_i c el fr hg;refine⟨c,el,fr,hg,?_⟩;cases sp with
       | none=>rfl
       | some _=>simp at hc0
      ·cases hc0
     have hcell:∀k,w.cell? ⟨b,off+k,none⟩=cs0[off+k]?:=λk=>by
      unfold World.cell?;rw[hblk];simp
     have hcl:∀i,i<m'->∃cs',cs'.length=P.cellsOf e/\(∀j,j<P.cellsOf e->cs0[off+(i*P.cellsOf e+j)]?=cs'[j]?)/\InD P w e cs':=by
      intro i hi;obtain⟨cs',h1,h2⟩:=hel i hi;obtain⟨_,hlen,hget⟩:=World.cells?_some h1;refine⟨cs',hlen,λj hj=>?_,zL5 m (okW.sl hu hk (by
       rw[List.mem_append,List.mem_map,List.mem_map];by_cases hil:i<len
       ·exact .inl ⟨i,List.mem_range.mpr hil,rfl⟩
       ·exact .inr ⟨i-len,List.mem_range.mpr (by omega),by rw[Nat.add_sub_cancel' (by omega)]⟩)) hf.1 h2⟩
      rw[<-hget j hj,add_off,add_off,Nat.add_assoc,hcell]
     let vals:List Value:=(cs0.toList.drop off).take (len*P.cellsOf e)
     have hroom:off+m'*P.cellsOf e<=cs0.size:=by
      obtain⟨cs',g1,g2,_⟩:=hcl (m'-1) (by omega);have:=g2 (P.cellsOf e-1) (by omega);rw[q0a (by omega)] at this;have hlt:off+((m'-1)*P.cellsOf e+(P.cellsOf e-1))<cs0.size:=by
       rcases q0x (off+((m'-1)*P.cellsOf e+(P.cellsOf e-1))) cs0.size with hlt | hge
       ·exact hlt
       ·rw[Array.getElem?_eq_none hge] at this;cases this
      have e1:m'*P.cellsOf e=(m'-1)*P.cellsOf e+P.cellsOf e:=by
       rw[<-Nat.succ_mul];congr 1;omega
      omega
     have hle:len*P.cellsOf e<=m'*P.cellsOf e:=q0u _ hl;have hvlen:vals.length=len*P.cellsOf e:=by
      show((cs0.toList.drop off).take (len*P.cellsOf e)).length=_;rw[q0v,q0Q,Array.length_toList];omega
     have hvget:∀k,k<len*P.cellsOf e->vals[k]?=cs0[off+k]?:=λk hk=>by
      show((cs0.toList.drop off).take (len*P.cellsOf e))[k]?=_;rw[List.getElem?_take_of_lt hk,List.getElem?_drop];simp
     have hpart:∀i,i<len->InD P w e ((vals.drop (i*P.cellsOf e)).take (P.cellsOf e)):=by
      intro i hi;obtain⟨cs',g1,g2,g3⟩:=hcl i (by omega);have h1:(i+1)*P.cellsOf e<=len*P.cellsOf e:=q0u _ hi;rw[Nat.succ_mul] at h1;have e1:(vals.drop (i*P.cellsOf e)).take (P.cellsOf e)=cs':=by
       refine List.ext_getElem? λj=>?_;by_cases hj:j<P.cellsOf e
       ·rw[List.getElem?_take_of_lt hj,List.getElem?_drop,hvget _ (by omega),g2 j hj]
       ·rw[q0i (by rw[q0v];omega),q0i (by omega)]
      rw[e1];exact g3
     obtain⟨ρ1,ah1,l,a1,a2,a3,a4,a5,a6⟩:=zL4 len (by omega) hpart W A;rw[List.take_of_length_le (by omega)] at a1;have hll:l.length=len*P.cellsOf e:=by rw[a1.length,hvlen]
     have hcg:∀k,(putL l T.leaf off).get k=if off<=k/\k<off+l.length then l[k-off]? else none:=λk=>by rw[zB9,T.get_leaf]
     have hobj:ObjR ρ1 (.cells (putL l T.leaf off) cs0.size none true) (.cells cs0 row fr) 0 cs0.size:=by
      refine .cells (by omega) (q0c _) (λi x hi=>?_) (λh=>by cases h) (λ_ h=>by cases h);rw[hcg] at hi;split at hi
      ·rename_i hk;obtain⟨v,hv,hr,hcl⟩:=a1.get hi;rw[hvget _ (by omega),show off+(i-off)=i by omega] at hv;exact⟨by omega,hcl,v,by simpa using hv,hr⟩
      ·cases hi
     obtain⟨ρ',hρ,W',hle',A'⟩:=a2.addRo a5 (o:=.cells (putL l T.leaf off) cs0.size none true) rfl hblk hobj;refine⟨ρ',ah1.add (.cells (putL l T.leaf off) cs0.size none true),[.sl ah1.next off len (.known m')],.cons rfl (.sl (by rw[hρ];exact q2i _ _ _) (by omega) (.known hl)) .nil,W',q2n a3 hle',a4.trans (q2g ah1 _),A',?_⟩;refine .sl (λi=>(l.drop (i*P.cellsOf e)).take (P.cellsOf e)) hu hl (by have:=okW.len hu hf.2.2 hk;simp only[q0o,q0j,List.length_range] at this;omega) (s:=cs0.size) (c:=putL l T.leaf off) (by rw[q2a,q1b]) (by rw[q2e];omega) (λi hi=>?_) λi hi=>(a6 i hi).more (q2g ah1 _);have h1:(i+1)*P.cellsOf e<=len*P.cellsOf e:=q0u _ hi;rw[Nat.succ_mul] at h1;refine⟨by rw[q0v,q0Q];omega,λj hj=>?_⟩;rw[hcg,if_pos (by omega),List.getElem?_take_of_lt hj,List.getElem?_drop];congr 1;omega
inductive RdA(P:Program)(h:AH)(t:TypeId):AV->Prop
 | one {a:AV}:RdD P h t [a]->(∀fs,P.underlying t≠some (.struct fs))->RdA P h t a
 | agg {l:List AV} {fs:Array Field}:RdD P h t l->P.underlying t=some (.struct fs)->RdA P h t (.agg l)
inductive RdAs(P:Program)(h:AH):List TypeId->List AV->Prop
 | nil:RdAs P h [] []
 | cons {t:TypeId} {ts:List TypeId} {a:AV} {l:List AV}:RdA P h t a->RdAs P h ts l->RdAs P h (t::ts) (a::l)
theorem RdA.more{h h':AH}{t:TypeId}{a:AV}(x:RdA P h t a)(m:More h h'):RdA P h' t a:=by
 cases x with
 | one a b=>exact .one (a.more m) b
 | agg a b=>exact .agg (a.more m) b
def topT(P:Program)(t:TypeId):Bool:=deepT P 40 t&&(match P.underlying t with | some (.array _ _)=>false | _=>true)
theorem argD_in{base:Nat}{t:TypeId}{v:Value}{d:DataW H}{ps:List MemPlace}(hk:okW P t d)(ha:topT P t=true)(h:DataW.Trod enc P w 0 (λ_=>true) true t v d ps)(hok:Value.okWide P w .any base t v){ρ:Rho}{ah:AH}(W:WR ρ ah w)(A:AllRo ah) :
  ∃ρ' ah' a,VR ρ' a v/\WR ρ' ah' w/\ρ.le ρ'/\More ah ah'/\AllRo ah'/\RdA P ah' t a:=by
 obtain⟨fuel,h⟩:=h;unfold topT at ha;rw[q0C] at ha;obtain⟨ρ1,ah1,l,a1,a2,a3,a4,a5,a6⟩:=zL5 40 (x:=(d,_)) hk ha.1 h _ _ W A;by_cases hs:∃fs,P.underlying t=some (.struct fs)
 ·obtain⟨fs,hs⟩:=hs;simp only[Value.okWide,hs] at hok;obtain⟨cs,rfl,hsz,_⟩:=hok;exact⟨ρ1,ah1,.agg l,.agg a1 (by simp[Value.cells]),a2,a3,a4,a5,.agg a6 hs⟩
 ·have hv:v.cells.toList=[v]:=by
   have h1:=ha.1;unfold deepT at h1;cases hu:P.underlying t with
   | none=>rw[hu] at h1;cases h1
   | some d=>
    rw[hu] at h1;have h2:=ha.2;rw[hu] at h2;simp only[Value.okWide,hu] at hok;cases d<;>try (cases h1;done)
    case struct fs=>exact absurd ⟨fs,hu⟩ hs
    case array=>cases h2
    all_goals (simp only[Cell.okWide,hu] at hok;cases v<;>first | rfl | (simp[Cell.ok,hu] at hok))
  rw[hv] at a1;cases a1 with
  | cons c r n=>
   cases n;exact⟨ρ1,ah1,_,r,a2,a3,a4,a5,.one a6 λfs e=>hs ⟨fs,e⟩⟩
theorem argsD_in{base:Nat}:∀{ts:List TypeId} {vs:List Value} {ds:List (DataW H)} {ps:List MemPlace},(∀(j:Nat) t d,ts[j]?=some t->ds[j]?=some d->okW P t d)->(∀t∈ts,topT P t=true)->DataW.TrodAll enc P w 0 (λ_=>true) true ts vs ds ps->
  (∀(j:Nat) t v,ts[j]?=some t->vs[j]?=some v->Value.okWide P w .any base t v)->∀{ρ:Rho} {ah:AH},WR ρ ah w->AllRo ah->
  ∃ρ' ah' l,VRs ρ' l vs/\WR ρ' ah' w/\ρ.le ρ'/\More ah ah'/\AllRo ah'/\RdAs P ah' ts l
 | [],vs,ds,ps,_,_,h,_,ρ,ah,W,A=>by
  obtain⟨rfl,_,_⟩:=trodAll_nil h;exact⟨ρ,ah,[],.nil,W,ρ.le_refl,q2o ah,A,.nil⟩
 | t::ts,vs,ds,ps,hk,ha,h,hok,ρ,ah,W,A=>by
  obtain⟨v,vs',d,ds',p,q,rfl,rfl,rfl,h1,h2⟩:=trodAll_cons h;obtain⟨ρ1,ah1,a,g1,g2,g3,g4,g5,g6⟩:=argD_in (hk 0 t d rfl rfl) (ha t (by simp)) h1 (hok 0 t v rfl rfl) W A;obtain⟨ρ2,ah2,l,k1,k2,k3,k4,k5,k6⟩:=argsD_in (λj t d h1 h2=>hk (j+1) t d (by simpa using h1) (by simpa using h2)) (λx hx=>ha x (by simp[hx])) h2 (λj t v h1 h2=>hok (j+1) t v (by simpa using h1) (by simpa using h2)) g2 g5;exact⟨ρ2,ah2,a::l,.cons (g1.mono k3) k1,k2,q2n g3 k3,g4.trans k4,k5,.cons (g6.more k4) k6⟩
theorem WR.start{w:World}(hG:∀k,k<Glob.n->k<w.heap.size/\w.heap[k]?=Glob.g k):WR (λ_=>none) (AH.mk T.leaf 0) w:=by
 refine⟨⟨λh _=>?_,λh _ _ _ _=>?_,λh=>?_,λ_=>T.get_leaf _⟩,λk hk=>⟨(hG k hk).1,(hG k hk).2,?_⟩⟩
 ·rw[T.get_leaf] at h;cases h
 ·rw[T.get_leaf] at h;cases h
 ·cases h
 ·rintro⟨id,o,p,s,h1,_⟩;rw[T.get_leaf] at h1;cases h1
theorem lawD_calls{base:Nat}{tab:Nat->Option AFunc}(hG:∀k,k<Glob.n->k<w.heap.size/\w.heap[k]?=Glob.g k)(hm:P.follows .mixedOrders=true)(htab:TabOK P tab){f:Nat}{ts:List TypeId}{vs:List Value}{ds:List (DataW H)}{ps:List MemPlace}(hk:∀(j:Nat) t d,ts[j]?=some t->ds[j]?=some d->okW P t d)(ha:∀t∈ts,topT P t=true)
  (h:DataW.TrodAll enc P w 0 (λ_=>true) true ts vs ds ps) (hok:∀(j:Nat) t v,ts[j]?=some t->vs[j]?=some v->Value.okWide P w .any base t v)
  (law:∀(ah:AH) (l:List AV),RdAs P ah ts l->GP tab f l ah λv _=>v=.bool true) :
  Calls P f vs.toArray w λe w'=>e=.returned (.bool true)/\Below w.heap.size w w':=by
 obtain⟨ρ,ah,l,k1,k2,_,_,k5,k6⟩:=argsD_in hk ha h hok (WR.start hG) (λid o hg=>by rw[T.get_leaf] at hg;cases hg);obtain⟨v,h1,⟨_,n,hn⟩,rfl⟩:=law ah l k6;refine Calls.mono (evF_ok hm htab hn trivial k1 k2) λe w' he=>?_;obtain⟨ρ',v',rfl,hv,W',S'⟩:=he;cases hv;refine⟨rfl,S'.os,S'.tape,S'.output,S'.size,λk hk=>S'.frame hk ?_⟩;rintro⟨id,o,p,s,g1,g2,_⟩;rw[k5 _ _ g1] at g2;cases g2
end
end Go.Ev
namespace Go.Ev
open Go
section
variable{loc:T AV}{tmp:List AV}{h:AH}
theorem op_max{x y:Opd}:evOp (.max x y) loc tmp h=oMax (.c (ev loc tmp x)) (.c (ev loc tmp y)) .leaf [] h:=rfl
theorem op_min{x y:Opd}:evOp (.min x y) loc tmp h=oMin (.c (ev loc tmp x)) (.c (ev loc tmp y)) .leaf [] h:=rfl
theorem max_int{k k':IntKind}{m n:Int}:oMax (.c (.int k m)) (.c (.int k' n)) .leaf [] h=.val (.int k (if m<n then n else m)) h:=by
 show bi (ltI m n) (OR.val (AV.int k n) h) (OR.val (AV.int k m) h)=_;rw[zH5,bi_eq];by_cases hc:m<n<;>simp[hc]
theorem min_int{k k':IntKind}{m n:Int}:oMin (.c (.int k m)) (.c (.int k' n)) .leaf [] h=.val (.int k (if n<m then n else m)) h:=by
 show bi (ltI n m) (OR.val (AV.int k n) h) (OR.val (AV.int k m) h)=_;rw[zH5,bi_eq];by_cases hc:n<m<;>simp[hc]
theorem convI_int{k k':IntKind}{n:Int}:oConvI k (.c (.int k' n)) .leaf [] h=.val (.int k (k.wrap n)) h:=by
 show intV k n h=_;rw[zCb]
theorem bin_rem{k:IntKind}{m n:Int}(hn:n≠0):oBin .rem (.c (.int k m)) (.c (.int k n)) .leaf [] h=.val (.int k (Int.tmod m n)) h:=by
 have e:eqI n (Int.ofNat 0)=false:=by rw[zEm];exact decide_eq_false hn
 show bi (eqK k k) (bi (eqI n (Int.ofNat 0)) (F 22) (fI (Int.tmod m n) λn=>OR.val (AV.int k n) h)) _=_;rw[e];cases k<;>(show fI (Int.tmod m n) (λn=>OR.val (AV.int _ n) h)=_;rw[fI_eq])
theorem bin_quo{k:IntKind}{m n:Int}(hn:n≠0):oBin .quo (.c (.int k m)) (.c (.int k n)) .leaf [] h=.val (.int k (k.wrap (Int.tdiv m n))) h:=by
 have e:eqI n (Int.ofNat 0)=false:=by rw[zEm];exact decide_eq_false hn
 show bi (eqK k k) (bi (eqI n (Int.ofNat 0)) (F 22) (intV k (Int.tdiv m n) h)) _=_;rw[e];cases k<;>(show intV _ (Int.tdiv m n) h=_;rw[zCb])
theorem bin_shr{k k':IntKind}{m n:Nat}(hn:n<=k.bits):oBin .shr (.c (.int k (m:Int))) (.c (.int k' (n:Int))) .leaf [] h=.val (.int k ((m / 2 ^ n:Nat):Int)) h:=by
 show bi (Nat.ble n k.bits) (fN (Nat.div m (Nat.pow 2 n)) λm=>OR.val (AV.int k (Int.ofNat m)) h) (F 26)=_;rw[bi_eq,if_pos (Nat.ble_eq.mpr hn),fN_eq];rfl
theorem nil_ptr{i o:Nat}:oNil (.c (.ptr i o)) .leaf [] h=.val (.ptr i o) h:=rfl
theorem op_box{x:Opd}:evOp (.box x) loc tmp h=oBox (.c (ev loc tmp x)) .leaf [] h:=rfl
theorem box_agg{l:List AV}:oBox (.c (.agg l)) .leaf [] h=.val (.ptr h.next 0) (h.add (.cells (zAa l) (llen l) none false)):=by
 show AH.new h (AObj.cells (zAa l) (llen l) none false) (λid h=>OR.val (AV.ptr id 0) h)=_;rw[q2k]
theorem op_bslice{z:List AV}{len:Nat}{ps:List Part}:evOp (.bslice z len ps) loc tmp h=obind (fill loc tmp ps z) (F 16) λl=>OR.val (.sl h.next 0 len (.known len)) (h.add (.cells (zAa l) (llen z) none false)):=by
 rw[<-zF2];show obind (fillQ loc tmp ps z) (F 16) (λl=>AH.new h (AObj.cells (zAa l) (llen z) none false) λid h=>OR.val (AV.sl id 0 len (ACap.known len)) h)=_;cases fillQ loc tmp ps z with
 | none=>rfl
 | some l=>simp only[zBj,q2k]
theorem fill_cons{off size:Nat}{x:Opd}{ps:List Part}{z:List AV}:fill loc tmp (⟨off,size,x⟩::ps) z=obind (cellsOf (ev loc tmp x)) none λvs=>bi (Nat.beq (llen vs) size) (bi (Nat.ble (Nat.add off size) (llen z)) (fill loc tmp ps (lapp (ltake off z) (lapp vs (ldrop (Nat.add off size) z)))) none) none:=rfl
theorem ble_nat{m n:Nat}:Nat.ble m n=decide (m<=n):=by
 by_cases h:m<=n
 ·simp[h]
 ·cases hb:Nat.ble m n with
  | false=>simp[h]
  | true=>exact absurd (q0g hb) h
theorem add_nat{m n:Nat}:Nat.add m n=m+n:=rfl
theorem cells_bool{b:Bool}:cellsOf (.bool b)=some [.bool b]:=rfl
theorem cells_sl{i o l:Nat}{c:ACap}:cellsOf (.sl i o l c)=some [.sl i o l c]:=rfl
theorem op_append{es b:Nat}{s x:Opd}:evOp (.append es b s x) loc tmp h=zA0 none es b (.c (ev loc tmp s)) (.c (ev loc tmp x)) .leaf [] h:=rfl
theorem zFd{es id o len:Nat}{cap:ACap}{c:T AV}{s:Nat}{p:Option Nat}{r:Bool}{l:List AV}(hlen:len≠0)(hg:h.mem.get id=some (.cells c s p r))(hl:loadL c (len*es) o=some l)(k:Nat->List AV->OR):zAv es (.sl id o len cap) h k=k len l:=by
 show bi (Nat.beq len 0) _ (zAq (AH.get h id) (λc _ _ _=>obind (loadL c (Nat.mul len es) o) (F 47) λl=>k len l))=_;have e:Nat.beq len 0=false:=by cases len with | zero=>exact absurd rfl hlen | succ n=>rfl
 rw[e,zBi,q2f,hg];show obind (loadL c (len*es) o) (F 47) (λl=>k len l)=_;rw[hl];rfl
theorem zGk{tg:Option Nat}{es b n:Nat}{x:AV}{new:List AV}(hs:∀k,zAv es x h k=k n new)(hn:n≠0)(hr:room n b=true) :
  zA0 tg es b (.c .nils) (.c x) .leaf [] h=.val (.sl h.next 0 n (.rest es)) (h.add (.cells (zAa new) (n*es) tg false)):=by
 show zAv es x h _=_;rw[hs];show bi (Nat.beq n 0) (OR.val AV.nils h) (bi (room n b) (AH.new h (AObj.cells (zAa new) (Nat.mul n es) tg false) λid h=>OR.val (AV.sl id 0 n (ACap.rest es)) h) (F 48))=_;have e:Nat.beq n 0=false:=by cases n with | zero=>exact absurd rfl hn | succ n=>rfl
 rw[e,hr];simp only[zA8,zBi,q2k];rfl
theorem append_own{tg:Option Nat}{es b n d len size:Nat}{x:AV}{new:List AV}{cd:T AV}{p:Option Nat}(hs:∀k,zAv es x h k=k n new)(hg:h.mem.get d=some (.cells cd size p false))(hz:size=len*es)(he:1<=es)(hn:n≠0)(hr:room (len+n) b=true) :
  zA0 tg es b (.c (.sl d 0 len (.rest es))) (.c x) .leaf [] h=.val (.sl h.next 0 (len+n) (.rest es)) ((h.kill d).add (.cells (putL new cd (len*es)) ((len+n)*es) (tgm p tg) false)):=by
 show zAv es x h _=_;rw[hs];have e:Nat.beq n 0=false:=by cases n with | zero=>exact absurd rfl hn | succ n=>rfl
 show bi (Nat.beq n 0) _ (zAq (AH.get h d) _)=_;rw[e,zBi,q2f,hg];simp only[zCf,fN_eq];have h1:Nat.beq es es=true:=q0K es;have h2:Nat.ble 1 es=true:=Nat.ble_eq.mpr he;have h3:Nat.ble (Nat.add 0 (Nat.mul (Nat.add len n) es)) size=false:=by
  cases hb:Nat.ble (Nat.add 0 (Nat.mul (Nat.add len n) es)) size with
  | false=>rfl
  | true=>
   have:=q0g hb;have this:0+(len+n)*es<=size:=this;rw[Nat.add_mul] at this;have:1*1<=n*es:=Nat.mul_le_mul (by omega) he;omega
 show bi (Nat.beq es es) (bi false (F 51) (bi (Nat.ble 1 es) (bi (Nat.ble (Nat.add 0 (Nat.mul (Nat.add len n) es)) size) _ (bi (room (Nat.add len n) b) (bi (Nat.beq 0 0) (AH.new (AH.kill h d) (AObj.cells (putL new cd (Nat.mul len es)) (Nat.mul (Nat.add len n) es) (tgm p tg) false) λid h=>OR.val (AV.sl id 0 (Nat.add len n) (ACap.rest es)) h) _) (F 52))) (F 52))) (F 52)=_;rw[h1,h2,h3,show room (Nat.add len n) b=true from hr];simp only[zA8,zBi,q2k,q2l];rfl
theorem AH.kill_mem{d:Nat}:(h.kill d).mem=T.put none h.mem d:=by rw[AH.kill_eq]
theorem zGj{es b n d len size:Nat}{x:AV}{new:List AV}{cd:T AV}(hs:∀k,zAv es x h k=k n new)(hg:h.mem.get d=some (.cells cd size none false))(hz:size=len*es)(he:1<=es)(hn:n≠0)(hr:room (len+n) b=true) :
  zA0 none es b (.c (.sl d 0 len (.rest es))) (.c x) .leaf [] h=.val (.sl h.next 0 (len+n) (.rest es)) ((h.kill d).add (.cells (putL new cd (len*es)) ((len+n)*es) none false)):=append_own (p:=none) (tg:=none) hs hg hz he hn hr
theorem zBw{n b:Nat}(hn:n<=1000000)(hb:b<=1000):room n b=true:=by
 unfold room;rw[bi_eq,if_pos (Nat.ble_eq.mpr (q0m hn (by decide)))];refine Nat.ble_eq.mpr ?_;have:(2*n+512)*b<=2000512*1000:=Nat.mul_le_mul (by omega) hb;exact q0m this (by decide)
theorem zGm{n:Int}(h1:-9223372036854775808<=n)(h2:n<9223372036854775808):IntKind.i64.wrap n=n:=by
 refine zBu ?_;cases n with
 | ofNat n=>
  have h2:n<9223372036854775808:=by have h2:(n:Int)<9223372036854775808:=h2;omega
  show Nat.ble n (nat_lit 9223372036854775807)=true;exact Nat.ble_eq.mpr (Nat.le_of_lt_succ h2)
 | negSucc n=>
  have h1:n<9223372036854775808:=by omega
  show Nat.ble n (nat_lit 9223372036854775807)=true;exact Nat.ble_eq.mpr (Nat.le_of_lt_succ h1)
theorem zGl{n:Nat}:IntKind.u64.wrap (n:Int)=((n % 18446744073709551616:Nat):Int):=by
 simp[IntKind.wrap,IntKind.signed,IntKind.bits]
end
end Go.Ev
namespace Go.Ev
section
variable{α:Type}{a b:Nat}{f g k:Nat->α}
variable{lt:α->α->Bool}
end
end Go.Ev
namespace Go.Ev
open Go
section
variable{loc:T AV}{tmp:List AV}{h:AH}{tab:Nat->Option AFunc}{d:List AV}{a b:ACode}{Q:Res->Prop}
theorem wrap_add{m n:Nat}(hb:m+n<9223372036854775808):IntKind.i64.wrap ((m:Int)+(n:Int))=((m+n:Nat):Int):=by
 rw[<-Int.natCast_add];exact zFt hb
theorem zK7{m n:Nat}(h1:n<=m)(hb:m<9223372036854775808):IntKind.i64.wrap ((m:Int)-(n:Int))=((m-n:Nat):Int):=by
 rw[show(m:Int)-(n:Int)=((m-n:Nat):Int) by omega];exact zFt (by omega)
theorem wrap_mul{m n:Nat}(hb:m*n<9223372036854775808):IntKind.i64.wrap ((m:Int)*(n:Int))=((m*n:Nat):Int):=by
 rw[<-Int.natCast_mul];exact zFt hb
theorem lt_nat{m n:Nat}:((m:Int)<(n:Int))=(m<n):=by rw[Int.ofNat_lt]
theorem le_nat{m n:Nat}:((m:Int)<=(n:Int))=(m<=n):=by rw[Int.ofNat_le]
theorem eq_nat{m n:Nat}:((m:Int)=(n:Int))=(m=n):=by rw[Int.ofNat_inj]
theorem quo_nat{m n:Nat}(hn:0<n)(hb:m<9223372036854775808):oBin .quo (.c (.int .i64 (m:Int))) (.c (.int .i64 (n:Int))) .leaf [] h=.val (.int .i64 ((m / n:Nat):Int)) h:=by
 rw[bin_quo (by omega),show Int.tdiv (m:Int) (n:Int)=((m / n:Nat):Int) from rfl,zFt (Nat.lt_of_le_of_lt (Nat.div_le_self _ _) hb)]
theorem rem_nat{k:IntKind}{m n:Nat}(hn:0<n):oBin .rem (.c (.int k (m:Int))) (.c (.int k (n:Int))) .leaf [] h=.val (.int k ((m % n:Nat):Int)) h:=by
 rw[bin_rem (by omega)];rfl
theorem obind_ite{α β:Type}{q:Prop}[Decidable q]{a b:α}{dd x:β}:obind (if q then some a else some b) dd (λ_=>x)=x:=by split<;>rfl
structure MoreBut(id:Nat)(h h':AH):Prop where
 next:h.next<=h'.next
 keep:∀k,k<h.next->k≠id->h'.mem.get k=h.mem.get k
theorem MoreBut.refl(id:Nat)(h:AH):MoreBut id h h:=⟨q0c _,λ_ _ _=>rfl⟩
theorem MoreBut.set{id:Nat}{h h':AH}(x:MoreBut id h h')(o:AObj):MoreBut id h (h'.set id o):=⟨by rw[q2b];exact x.next,λk h1 h2=>by rw[q2c,q1a _ _ _ _ (Ne.symm h2),x.keep k h1 h2]⟩
end
def sv(l:List UInt8):AV:=.str l.length (encB l)
section
variable{h:AH}
theorem move_sv{a:List UInt8}:oMove (.c (sv a)) .leaf [] h=.val (sv a) h:=rfl
theorem cells_sv{a:List UInt8}:cellsOf (sv a)=some [sv a]:=rfl
theorem len_sv{a:List UInt8}:oLen .str (.c (sv a)) .leaf [] h=.val (.int .i64 (a.length:Int)) h:=len_str
theorem add_sv{a b:List UInt8}(hl:a.length+b.length<=9223372036854775807):oBin .add (.c (sv a)) (.c (sv b)) .leaf [] h=.val (sv (a++b)) h:=by
 show bi (Nat.ble (a.length+b.length) 9223372036854775807) (fN (a.length+b.length) λn=>fN (Nat.add (encB a) (Nat.mul (encB b) (Nat.pow 256 a.length))) λm=>OR.val (AV.str n m) h) (F 27)=_;rw[bi_eq,if_pos (Nat.ble_eq.mpr hl),fN_eq,fN_eq];unfold sv;rw[zGi,q0o];rfl
theorem sv_iff{a b:List UInt8}:(a.length=b.length/\encB a=encB b)<->a=b:=⟨λh=>zL3 h.1 h.2,λh=>by subst h;exact⟨rfl,rfl⟩⟩
theorem eq_sv{neg:Bool}{a b:List UInt8}:oEq neg .num (.c (sv a)) (.c (sv b)) .leaf [] h=.val (.bool (if neg then !decide (a=b) else decide (a=b))) h:=by
 have e:decide (a.length=b.length/\encB a=encB b)=decide (a=b):=by rw[decide_eq_decide];exact sv_iff
 unfold sv;rw[eq_str,e]
theorem eqS_sv{a b:List UInt8}:eqS .str (sv a) (sv b)=some (decide (a=b)):=by
 have e:decide (a.length=b.length/\encB a=encB b)=decide (a=b):=by rw[decide_eq_decide];exact sv_iff
 show some (bi (Nat.beq a.length b.length) (Nat.beq (encB a) (encB b)) false)=_;rw[<-e,bi_eq,zDc,zDc];by_cases h1:a.length=b.length<;>by_cases h2:encB a=encB b<;>simp[h1,h2]
theorem idx_sv{a:List UInt8}{i:Nat}{k:IntKind}{b:UInt8}(hb:a[i]?=some b):oIdxS (.c (sv a)) (.c (.int k (i:Int))) .leaf [] h=.val (.int .u8 (b.toNat:Int)) h:=by
 have hi:i<a.length:=by
  rcases q0x i a.length with h | h
  ·exact h
  ·rw[q0i h] at hb;cases hb
 have e:encB a / 256 ^ i % 256=b.toNat:=by
  rw[zG5,encB_head,List.getElem?_drop,Nat.add_zero,hb];rfl
 show bi (Nat.ble (Nat.succ i) a.length) _ _=_;rw[bi_eq,if_pos (Nat.ble_eq.mpr hi)];simp only[fN_eq];rw[<-e];rfl
theorem op_sliceS2{loc:T AV}{tmp:List AV}{x lo hi:Opd}:evOp (.sliceS x (some lo) (some hi)) loc tmp h=zEy (.c (ev loc tmp x)) (some (.c (ev loc tmp lo))) (some (.c (ev loc tmp hi))) .leaf [] h:=rfl
theorem op_sliceSl{loc:T AV}{tmp:List AV}{x lo:Opd}:evOp (.sliceS x (some lo) none) loc tmp h=zEy (.c (ev loc tmp x)) (some (.c (ev loc tmp lo))) none .leaf [] h:=rfl
theorem op_sliceSh{loc:T AV}{tmp:List AV}{x hi:Opd}:evOp (.sliceS x none (some hi)) loc tmp h=zEy (.c (ev loc tmp x)) none (some (.c (ev loc tmp hi))) .leaf [] h:=rfl
theorem zKe{a:List UInt8}{lo hi:Nat}(h1:lo<=hi)(h2:hi<=a.length):AV.str (hi-lo) (encB a / 256 ^ lo % 256 ^ (hi-lo))=sv ((a.drop lo).take (hi-lo)):=by
 unfold sv;rw[zG5,encB_take _ _ (by rw[q0Q];omega),q0v,q0Q,Nat.min_eq_left (by omega)]
theorem slice_svl{a:List UInt8}{lo:Nat}{k:IntKind}(h1:lo<=a.length):zEy (.c (sv a)) (some (.c (.int k (lo:Int)))) none .leaf [] h=.val (sv (a.drop lo)) h:=by
 show bi (Nat.ble a.length a.length) (bi (Nat.ble lo a.length) (fN (Nat.sub a.length lo) λn=>fN (Nat.mod (Nat.div (encB a) (Nat.pow 256 lo)) (Nat.pow 256 n)) λm=>OR.val (AV.str n m) h) (F 33)) (F 33)=_;rw[bi_eq,if_pos (Nat.ble_eq.mpr (q0c _)),bi_eq,if_pos (Nat.ble_eq.mpr h1),fN_eq,fN_eq];have:=zKe (a:=a) h1 (q0c _);rw[List.take_of_length_le (by rw[q0Q];omega)] at this;rw[<-this];rfl
theorem slice_svh{a:List UInt8}{hi:Nat}{k:IntKind}(h2:hi<=a.length):zEy (.c (sv a)) none (some (.c (.int k (hi:Int)))) .leaf [] h=.val (sv (a.take hi)) h:=by
 show bi (Nat.ble hi a.length) (bi (Nat.ble 0 hi) (fN (Nat.sub hi 0) λn=>fN (Nat.mod (Nat.div (encB a) (Nat.pow 256 0)) (Nat.pow 256 n)) λm=>OR.val (AV.str n m) h) (F 33)) (F 33)=_;rw[bi_eq,if_pos (Nat.ble_eq.mpr h2),bi_eq,if_pos (Nat.ble_eq.mpr (q0k _)),fN_eq,fN_eq];have:=zKe (a:=a) (q0k hi) h2;rw[List.drop_zero,Nat.sub_zero] at this;rw[<-this];rfl
theorem op_idxS{loc:T AV}{tmp:List AV}{x i:Opd}:evOp (.idxS x i) loc tmp h=oIdxS (.c (ev loc tmp x)) (.c (ev loc tmp i)) .leaf [] h:=rfl
end
variable[Glob]
def EVC:=q0b @Bool.true_eq_false (q0b @Bool.false_eq_true (q0b @Option.getD_some.{0} (q0b @Option.getD_none.{0} (q0b @List.getElem?_cons_zero.{0} (q0b @List.getElem?_cons_succ.{0} (q0b @List.getElem?_nil.{0} (q0b @decide_true (q0b @decide_false (q0b @decide_eq_true_eq (q0b @decide_eq_false_iff_not (q0b @Int.ofNat_eq_natCast (q0b @eq_self.{1} (q0b @true_implies (q0b @true_and (q0b @and_true (q0b @false_implies (q0b @Bool.not_true (q0b @Bool.not_false (q0b @Nat.zero_add (q0b @Nat.add_zero (q0b @List.take_succ_cons.{0} (q0b @List.take_zero.{0} (q0b @List.drop_succ_cons.{0} (q0b @List.drop_nil.{0} (q0b @List.nil_append.{0} (q0b @List.cons_append.{0} (q0b @List.append_nil.{0} (q0b @List.drop_zero.{0} (q0b @Nat.le_refl (q0b @Nat.mul_one (q0b @not_true_eq_false (q0b @not_false_eq_true (@ite_self.{1})))))))))))))))))))))))))))))))))
def EVN:=q0b @wrap_mul (q0b @wrap_add (q0b @zK7 (q0b @zFt (q0b @idx_sl (q0b @quo_nat (@rem_nat))))))
end Go.Ev
namespace Go.Ev
section
variable{α:Type}{lt:α->α->Bool}{a b i j:Nat}{f g:Nat->α}
end
end Go.Ev
namespace Go.Ev
open Go
section
variable{tab:Nat->Option AFunc}{h:AH}
theorem Gives.uniq{f:Nat}{args:List AV}{r r':CR}(x:Gives tab f args h r)(y:Gives tab f args h r'):r=r':=by
 obtain⟨n,hn⟩:=x.at;obtain⟨m,hm⟩:=y.at;rw[<-hn (max n m) (Nat.le_max_left _ _),<-hm (max n m) (Nat.le_max_right _ _)]
variable{h0:AH}{id o n s:Nat}{p:Option Nat}{c0:T AV}{g:Nat->Int}
end
end Go.Ev
namespace Go.Ev
open Go Go.ChangeShapes Go.RowKit
inductive Sh where
 | bool
 | int (k:IntKind)
 | str
 | struct (l:List Sh)
 | arr (n:Nat) (s:Sh)
 | slice (s:Sh)
mutual
def Sh.size:Sh->Nat
 | .bool=>1
 | .int _=>1
 | .str=>1
 | .struct l=>Sh.sizes l
 | .arr n s=>n*s.size
 | .slice _=>1
def Sh.sizes:List Sh->Nat
 | []=>0
 | s::l=>s.size+Sh.sizes l
end
mutual
def ShR(h:AH):Sh->List AV->Prop
 | .bool,cs=>∃b,cs=[.bool b]
 | .int k,cs=>∃n,cs=[.int k n]/\(Lit.int k n).wf=true
 | .str,cs=>∃l:List UInt8,cs=[sv l]/\l.length<=zBq
 | .struct l,cs=>ShRs h l cs
 | .arr n s,cs=>cs.length=n*s.size/\∀i,i<n->ShR h s ((cs.drop (i*s.size)).take s.size)
 | .slice s,cs=>cs=[.nils]\/(∃id off,cs=[.sl id off 0 (.known 0)])\/∃(id off len cap sz:Nat) (c:T AV) (L:Nat->List AV),cs=[.sl id off len (.known cap)]/\len<=cap/\cap<=zBq/\h.mem.get id=some (.cells c sz none true)/\id<h.next/\
   ∀i,i<len->(L i).length=s.size/\(∀j,j<s.size->c.get (off+i*s.size+j)=(L i)[j]?)/\ShR h s (L i)
def ShRs(h:AH):List Sh->List AV->Prop
 | [],cs=>cs=[]
 | s::l,cs=>∃a b,cs=a++b/\a.length=s.size/\ShR h s a/\ShRs h l b
end
mutual
def zC0(P:Program):TypeId->Sh->Bool
 | t,.bool=>(match P.underlying t with | some .bool=>true | _=>false)&&decide (P.cellsOf t=1)
 | t,.int k=>(match P.underlying t with | some (.int k')=>decide (k=k') | _=>false)&&decide (P.cellsOf t=1)
 | t,.str=>(match P.underlying t with | some .string=>true | _=>false)&&decide (P.cellsOf t=1)
 | t,.struct l=>match P.underlying t with | some (.struct fs)=>zLe P fs.toList 0 l&&decide (P.cellsOf t=Sh.sizes l) | _=>false
 | t,.arr n s=>match P.underlying t with | some (.array n' e)=>decide (n=n')&&(zC0 P e s&&decide (P.cellsOf t=n*s.size)) | _=>false
 | t,.slice s=>(match P.underlying t with | some (.slice e)=>zC0 P e s | _=>false)&&decide (P.cellsOf t=1)
def zLe(P:Program):List Field->Nat->List Sh->Bool
 | [],_,[]=>true
 | f::fs,off,s::l=>decide (f.offset=off)&&(zC0 P f.type s&&zLe P fs (off+s.size) l)
 | _,_,_=>false
end
theorem zF9{P:Program}{t:TypeId}{s:Sh}(hb:zC0 P t s=true):P.cellsOf t=s.size:=by
 cases s with
 | bool=>simp only[zC0,q0C,decide_eq_true_eq] at hb;exact hb.2
 | int k=>simp only[zC0,q0C,decide_eq_true_eq] at hb;exact hb.2
 | str=>simp only[zC0,q0C,decide_eq_true_eq] at hb;exact hb.2
 | slice s=>simp only[zC0,q0C,decide_eq_true_eq] at hb;exact hb.2
 | struct l=>
  unfold zC0 at hb;split at hb
  ·rw[q0C,decide_eq_true_eq] at hb;exact hb.2
  ·cases hb
 | arr n s=>
  unfold zC0 at hb;split at hb
  ·simp only[q0C,decide_eq_true_eq] at hb;exact hb.2.2
  ·cases hb
mutual
theorem zFu{P:Program}{h:AH}:∀{t:TypeId} {s:Sh} {l:List AV},zC0 P t s=true->RdD P h t l->ShR h s l
 | t,.bool,l,hb,x=>by
  simp only[zC0,q0C,decide_eq_true_eq] at hb;obtain⟨hb,hc⟩:=hb;split at hb
  ·rename_i hu;cases x<;>(rename_i hu2<;>first | (exact⟨_,rfl⟩) | skip)
   all_goals (simp_all)
  ·cases hb
 | t,.int k,l,hb,x=>by
  simp only[zC0,q0C,decide_eq_true_eq] at hb;obtain⟨hb,hc⟩:=hb;split at hb
  ·rename_i k' hu;have hb:k=k':=of_decide_eq_true hb;subst hb;cases x
   case int k2 n h2 h1=>
    rw[hu] at h1;injection h1 with h1;injection h1 with h1;subst h1;exact⟨_,rfl,h2⟩
   all_goals (simp_all)
  ·cases hb
 | t,.str,l,hb,x=>by
  simp only[zC0,q0C,decide_eq_true_eq] at hb;obtain⟨hb,hc⟩:=hb;split at hb
  ·rename_i hu;cases x
   case str s h2 h1=>exact⟨s.data.toList,rfl,by simpa using h2⟩
   all_goals (simp_all)
  ·cases hb
 | t,.struct ss,l,hb,x=>by
  unfold zC0 at hb;split at hb
  ·rename_i fs hu;rw[q0C,decide_eq_true_eq] at hb;cases x
   case struct fs2 h1 h2 h3=>
    rw[hu] at h1;injection h1 with h1;injection h1 with h1;subst h1;have:=shapes_rd (l:=l) hb.1 (by rw[h3,hb.2];omega) h2
    rwa [List.drop_zero] at this
   all_goals (simp_all)
  ·cases hb
 | t,.arr n s,l,hb,x=>by
  unfold zC0 at hb;split at hb
  ·rename_i n' e hu;simp only[q0C,decide_eq_true_eq] at hb;obtain⟨rfl,hb1,hb2⟩:=hb;have hsz:=zF9 hb1;cases x
   case array n2 e2 h1 h2 h3=>
    rw[hu] at h1;injection h1 with h1;injection h1 with h1 h1';subst h1;subst h1';refine⟨by rw[h3,hb2],λi hi=>?_⟩;have:=h2 i hi;rw[hsz] at this;exact zFu hb1 this
   all_goals (simp_all)
  ·cases hb
 | t,.slice s,l,hb,x=>by
  simp only[zC0,q0C,decide_eq_true_eq] at hb;obtain⟨hb,hc⟩:=hb;split at hb
  ·rename_i e hu;have hsz:=zF9 hb;cases x
   case nils=>exact .inl rfl
   case emp id off h1=>exact .inr (.inl ⟨_,_,rfl⟩)
   case sl e2 id off len cap sz c L h1 h2 h3 h4 h5 h6 h7=>
    rw[hu] at h7;injection h7 with h7;injection h7 with h7;subst h7;rw[hsz] at h5;exact .inr (.inr ⟨id,off,len,cap,sz,c,L,rfl,h1,h2,h3,h4,λi hi=>⟨(h5 i hi).1,(h5 i hi).2,zFu hb (h6 i hi)⟩⟩)
   all_goals (simp_all)
  ·cases hb
theorem shapes_rd{P:Program}{h:AH}{l:List AV}:∀{fs:List Field} {off:Nat} {ss:List Sh},zLe P fs off ss=true->off+Sh.sizes ss=l.length->(∀f∈fs,RdD P h f.type ((l.drop f.offset).take (P.cellsOf f.type)))->ShRs h ss (l.drop off)
 | [],off,[],_,hl,_=>by
  simp only[Sh.sizes] at hl;exact List.drop_eq_nil_of_le (by omega)
 | f::fs,off,s::ss,hb,hl,hx=>by
  simp only[zLe,q0C,decide_eq_true_eq] at hb;obtain⟨ho,hb1,hb2⟩:=hb;have hsz:=zF9 hb1;simp only[Sh.sizes] at hl;have h1:=hx f (by simp);rw[ho,hsz] at h1;refine⟨(l.drop off).take s.size,l.drop (off+s.size),?_,?_,zFu hb1 h1,shapes_rd hb2 (by omega) λg hg=>hx g (by simp[hg])⟩
  ·rw[<-List.drop_drop,List.take_append_drop]
  ·rw[q0v,q0Q];omega
 | [],_,_::_,hb,_,_=>by cases hb
 | _::_,_,[],hb,_,_=>by cases hb
end
inductive SlD{α:Type}(h:AH)(es:Nat)(R:List AV->α->Prop):AV->List α->Prop
 | nils:SlD h es R .nils []
 | emp {id off:Nat}:SlD h es R (.sl id off 0 (.known 0)) []
 | sl {id off cap sz:Nat} {c:T AV} {xs:List α} (E:Nat->List AV):xs.length<=cap->cap<=zBq->h.mem.get id=some (.cells c sz none true)->id<h.next->
   (∀(i:Nat) (hi:i<xs.length),(E i).length=es/\(∀j,j<es->c.get (off+i*es+j)=(E i)[j]?)/\R (E i) xs[i])->SlD h es R (.sl id off xs.length (.known cap)) xs
theorem SlD.of{α:Type}{h:AH}{s:Sh}{R:List AV->α->Prop}{v:AV}(hR:∀cs,ShR h s cs->∃x,R cs x)(x:ShR h (.slice s) [v]):∃xs,SlD h s.size R v xs:=by
 rcases x with x | ⟨id,off,x⟩ | ⟨id,off,len,cap,sz,c,L,x,h1,h2,h3,h4,h5⟩
 ·injection x with x;subst x;exact⟨[],.nils⟩
 ·injection x with x;subst x;exact⟨[],.emp⟩
 ·injection x with x;subst x;have hex:∀i,i<len->∃x,R (L i) x:=λi hi=>hR _ (h5 i hi).2.2;obtain⟨xs,hxl,hx⟩:∃xs:List α,xs.length=len/\∀(i:Nat) (hi:i<xs.length),R (L i) xs[i]:=by
   clear h1 h2 h5;induction len with
   | zero=>exact⟨[],rfl,λi hi=>by cases hi⟩
   | succ n ih=>
    obtain⟨xs,e,hx⟩:=ih λi hi=>hex i (by omega);obtain⟨y,hy⟩:=hex n (by omega);refine⟨xs++[y],by simp[e],λi hi=>?_⟩;by_cases h:i<xs.length
    ·rw[List.getElem_append_left h];exact hx i h
    ·have:i=n:=by simp[e] at hi;omega
     subst this;rw[List.getElem_append_right (by omega)];simpa[e] using hy
  subst hxl;exact⟨xs,.sl L h1 h2 h3 h4 λi hi=>⟨(h5 i hi).1,(h5 i hi).2.1,hx i hi⟩⟩
theorem zK6{h:AH}{es b n id off:Nat}{x:AV}{new:List AV}(hs:∀k,zAv es x h k=k n new)(hn:n≠0)(hr:room n b=true) :
  zA0 none es b (.c (.sl id off 0 (.known 0))) (.c x) .leaf [] h=.val (.sl h.next 0 n (.rest es)) (h.add (.cells (zAa new) (n*es) none false)):=by
 show zAv es x h _=_;rw[hs];show bi (Nat.beq n 0) _ (bi (room n b) (AH.new h (AObj.cells (zAa new) (Nat.mul n es) none false) λid h=>OR.val (AV.sl id 0 n (ACap.rest es)) h) (F 48))=_;have e:Nat.beq n 0=false:=by cases n with | zero=>exact absurd rfl hn | succ n=>rfl
 rw[e,hr];simp only[zA8,zBi,q2k];rfl
end Go.Ev
namespace Go.Ev
open Go
section
variable{tab:Nat->Option AFunc}{loc:T AV}{d tmp:List AV}{h:AH}{a b:ACode}{Q Q1:Res->Prop}
def onCR(Q E:AV->AH->Prop):CR->Prop
 | .ret v h=>Q v h
 | .pan v h=>E v h
 | .fail _=>False
def GE(tab:Nat->Option AFunc)(f:Nat)(args:List AV)(h:AH)(Q E:AV->AH->Prop):Prop:=∃r,Gives tab f args h r/\onCR Q E r
theorem GE.mono{f:Nat}{args:List AV}{Q E Q1 E1:AV->AH->Prop}(x:GE tab f args h Q E)(hq:∀v h1,Q v h1->Q1 v h1)(he:∀v h1,E v h1->E1 v h1):GE tab f args h Q1 E1:=by
 obtain⟨r,g,q⟩:=x;refine⟨r,g,?_⟩;cases r with
 | ret v h1=>exact hq _ _ q
 | pan v h1=>exact he _ _ q
 | fail l=>exact q
theorem GP.ge{f:Nat}{args:List AV}{Q E:AV->AH->Prop}(x:GP tab f args h Q):GE tab f args h Q E:=let⟨v,h1,g,q⟩:=x;⟨.ret v h1,g,q⟩
theorem GE.gp{f:Nat}{args:List AV}{Q E:AV->AH->Prop}(x:GE tab f args h Q E)(he:∀v h1,¬E v h1):GP tab f args h Q:=by
 obtain⟨r,g,q⟩:=x;cases r with
 | ret v h1=>exact⟨v,h1,g,q⟩
 | pan v h1=>exact absurd q (he v h1)
 | fail l=>exact q.elim
theorem ge_rw{f:Nat}{args:List AV}{v0:AV}{h0:AH}(g:GP tab f args h λv h1=>v=v0/\h1=h0){Q E:AV->AH->Prop}:GE tab f args h Q E=Q v0 h0:=by
 obtain⟨v,h1,gi,rfl,rfl⟩:=g;refine propext ⟨λ⟨r,g',q⟩=>?_,λq=>⟨_,gi,q⟩⟩;have:=gi.uniq g';subst this;exact q
def PE(tab:Nat->Option AFunc)(whole:List AOper)(loc0:T AV):List AOper->T AV->List AV->List AV->AH->(Res->Prop)->Prop
 | [],loc,_,d,h,Q=>Q (.norm loc d h)
 | ⟨op,g,out,re⟩::l,loc,tmp,d,h,Q=>
  match zAt loc tmp g with
  | none=>False
  | some q=>(q=false->PE tab whole loc0 l (zAc out (.tup []) loc) (.tup []::tmp) d h Q)/\(q=true->
   match evOp op loc tmp h with
   | .val v h1=>reads loc tmp h1 re=true/\PE tab whole loc0 l (zAc out v loc) (v::tmp) d h1 Q
   | .enter f args=>GE tab f args h (λv h1=>reads loc tmp h1 re=true/\PE tab whole loc0 l (zAc out v loc) (v::tmp) d h1 Q) (λv h1=>Q (.pan v (forget whole loc0) d h1))
   | .pan v=>Q (.pan v (forget whole loc0) d h)
   | .dfr v=>PE tab whole loc0 l (zAc out (.tup []) loc) (.tup []::tmp) (v::d) h Q
   | .fail _=>False)
theorem PE.ok{whole:List AOper}{loc0:T AV}:∀(l:List AOper) (loc:T AV) (tmp d:List AV) (h:AH),PE tab whole loc0 l loc tmp d h Q->
  ∃r,r.good/\Q r/\∃n,∀m,n<=m->evOps (zAw tab (evC tab m)) whole loc0 l loc tmp d h=r
 | [],loc,tmp,d,h,x=>⟨.norm loc d h,trivial,x,0,λ_ _=>rfl⟩
 | ⟨op,g,out,re⟩::l,loc,tmp,d,h,x=>by
  have e:∀k:Nat->List AV->AH->CR,evOps k whole loc0 (⟨op,g,out,re⟩::l) loc tmp d h=obind (zAt loc tmp g) (Res.fail [70]) (λq=>bi q
   (OR.rec (motive:=λ_=>Res)
    (λv h=>bi (reads loc tmp h re) (evOps k whole loc0 l (zAc out v loc) (v::tmp) d h) (Res.fail [71]))
    (λf args=>CR.rec (motive:=λ_=>Res) (λv h=>bi (reads loc tmp h re) (evOps k whole loc0 l (zAc out v loc) (v::tmp) d h) (Res.fail [71])) (λv h=>Res.pan v (forget whole loc0) d h) (λl=>Res.fail l) (k f args h))
    (λv=>Res.pan v (forget whole loc0) d h)
    (λv=>evOps k whole loc0 l (zAc out (AV.tup []) loc) (AV.tup []::tmp) (v::d) h)
    (λn=>Res.fail [n]) (evOp op loc tmp h)) (evOps k whole loc0 l (zAc out (AV.tup []) loc) (AV.tup []::tmp) d h)):=λ_=>rfl
  simp only[PE] at x;cases hg:zAt loc tmp g with
  | none=>rw[hg] at x;exact x.elim
  | some q=>
   rw[hg] at x;cases q with
   | false=>
    obtain⟨r,h1,h2,n,h3⟩:=PE.ok l _ _ _ _ (x.1 rfl);refine⟨r,h1,h2,n,λm hm=>?_⟩;rw[e,hg];exact h3 m hm
   | true=>
    have x:=x.2 rfl;cases ho:evOp op loc tmp h with
    | val v h1=>
     rw[ho] at x;obtain⟨r,g1,g2,n,g3⟩:=PE.ok l _ _ _ _ x.2;refine⟨r,g1,g2,n,λm hm=>?_⟩;rw[e,hg,ho];show bi (reads loc tmp h1 re) _ _=r;rw[x.1];exact g3 m hm
    | enter f args=>
     rw[ho] at x;obtain⟨cr,hc,hq⟩:=x;obtain⟨n1,hc⟩:=hc.at;have e2:∀m,n1<=m->evOps (zAw tab (evC tab m)) whole loc0 (⟨op,g,out,re⟩::l) loc tmp d h=(CR.rec (motive:=λ_=>Res) (λv h=>bi (reads loc tmp h re) (evOps (zAw tab (evC tab m)) whole loc0 l (zAc out v loc) (v::tmp) d h) (Res.fail [71])) (λv h=>Res.pan v (forget whole loc0) d h) (λl=>Res.fail l) cr:Res):=by
      intro m hm;rw[e,hg,ho];show(CR.rec (motive:=λ_=>Res) (λv h=>bi (reads loc tmp h re) (evOps (zAw tab (evC tab m)) whole loc0 l (zAc out v loc) (v::tmp) d h) (Res.fail [71])) (λv h=>Res.pan v (forget whole loc0) d h) (λl=>Res.fail l) (zAw tab (evC tab m) f args h):Res)=_;rw[hc m hm]
     cases cr with
     | fail l=>exact hq.elim
     | pan v h1=>exact⟨Res.pan v (forget whole loc0) d h1,trivial,hq,n1,λm hm=>e2 m hm⟩
     | ret v h1=>
      obtain⟨hre,hx⟩:=hq;obtain⟨r,g1,g2,n,g3⟩:=PE.ok l _ _ _ _ hx;refine⟨r,g1,g2,max n n1,λm hm=>?_⟩;rw[e2 m (q0m (Nat.le_max_right _ _) hm)];show bi (reads loc tmp h1 re) _ _=r;rw[hre];exact g3 m (q0m (Nat.le_max_left _ _) hm)
    | pan v=>
     rw[ho] at x;refine⟨_,?_,x,0,λm _=>?_⟩
     ·trivial
     ·rw[e,hg,ho];rfl
    | dfr v=>
     rw[ho] at x;obtain⟨r,g1,g2,n,g3⟩:=PE.ok l _ _ _ _ x;refine⟨r,g1,g2,n,λm hm=>?_⟩;rw[e,hg,ho];exact g3 m hm
    | fail k=>rw[ho] at x;exact x.elim
theorem wc_opse{l:List AOper}(x:PE tab l loc l loc [] d h Q):WC tab (.ops l) loc d h Q:=by
 obtain⟨r,h1,h2,n,h3⟩:=PE.ok l _ _ _ _ x;exact⟨r,⟨h1,n+1,h3 n (q0c _)⟩,h2⟩
def stepE(tab:Nat->Option AFunc)(whole:List AOper)(loc0:T AV)(l:List AOper)(out:Option Nat)(re:List ARe)(loc:T AV)(tmp d:List AV)(h:AH)(Q:Res->Prop):OR->Prop
 | .val v h1=>reads loc tmp h1 re=true/\PE tab whole loc0 l (zAc out v loc) (v::tmp) d h1 Q
 | .enter f args=>GE tab f args h (λv h1=>reads loc tmp h1 re=true/\PE tab whole loc0 l (zAc out v loc) (v::tmp) d h1 Q) (λv h1=>Q (.pan v (forget whole loc0) d h1))
 | .pan v=>Q (.pan v (forget whole loc0) d h)
 | .dfr v=>PE tab whole loc0 l (zAc out (.tup []) loc) (.tup []::tmp) (v::d) h Q
 | .fail _=>False
def zG0(tab:Nat->Option AFunc)(whole:List AOper)(loc0:T AV)(l:List AOper)(op:AOp)(out:Option Nat)(re:List ARe)(loc:T AV)(tmp d:List AV)(h:AH)(Q:Res->Prop):Option Bool->Prop
 | none=>False
 | some false=>PE tab whole loc0 l (zAc out (.tup []) loc) (.tup []::tmp) d h Q
 | some true=>stepE tab whole loc0 l out re loc tmp d h Q (evOp op loc tmp h)
variable{whole l:List AOper}{loc0:T AV}{op:AOp}{g:Option (Opd×Bool)}{out:Option Nat}{re:List ARe}
theorem PE_nil:PE tab whole loc0 [] loc tmp d h Q=Q (.norm loc d h):=rfl
theorem PE_cons:PE tab whole loc0 (⟨op,g,out,re⟩::l) loc tmp d h Q=zG0 tab whole loc0 l op out re loc tmp d h Q (zAt loc tmp g):=by
 rw[PE];cases zAt loc tmp g with
 | none=>rfl
 | some q=>
  cases q with
  | false=>simp[zG0]
  | true=>simp only[zG0];cases evOp op loc tmp h<;>simp[stepE]
theorem guardE_false:zG0 tab whole loc0 l op out re loc tmp d h Q (some false)=PE tab whole loc0 l (zAc out (.tup []) loc) (.tup []::tmp) d h Q:=rfl
theorem zJo:zG0 tab whole loc0 l op out re loc tmp d h Q (some true)=stepE tab whole loc0 l out re loc tmp d h Q (evOp op loc tmp h):=rfl
theorem stepE_val{v:AV}{h1:AH}:stepE tab whole loc0 l out re loc tmp d h Q (.val v h1)=(reads loc tmp h1 re=true/\PE tab whole loc0 l (zAc out v loc) (v::tmp) d h1 Q):=rfl
def contE(tab:Nat->Option AFunc)(whole:List AOper)(loc0:T AV)(l:List AOper)(out:Option Nat)(re:List ARe)(loc:T AV)(tmp d:List AV)(Q:Res->Prop)(v:AV)(h1:AH):Prop:=
 reads loc tmp h1 re=true/\PE tab whole loc0 l (zAc out v loc) (v::tmp) d h1 Q
abbrev panE(whole:List AOper)(loc0:T AV)(d:List AV)(Q:Res->Prop)(v:AV)(h1:AH):Prop:=Q (.pan v (forget whole loc0) d h1)
theorem contE_eq{Q:Res->Prop}{v:AV}{h1:AH}:contE tab whole loc0 l out re loc tmp d Q v h1=(reads loc tmp h1 re=true/\PE tab whole loc0 l (zAc out v loc) (v::tmp) d h1 Q):=rfl
theorem stepE_enter{f:Nat}{args:List AV}:stepE tab whole loc0 l out re loc tmp d h Q (.enter f args)=GE tab f args h (contE tab whole loc0 l out re loc tmp d Q) (panE whole loc0 d Q):=rfl
theorem stepE_pan{v:AV}:stepE tab whole loc0 l out re loc tmp d h Q (.pan v)=Q (.pan v (forget whole loc0) d h):=rfl
theorem stepE_dfr{v:AV}:stepE tab whole loc0 l out re loc tmp d h Q (.dfr v)=PE tab whole loc0 l (zAc out (.tup []) loc) (.tup []::tmp) (v::d) h Q:=rfl
theorem onNorm_pan{K:T AV->List AV->AH->Prop}{v:AV}{l:T AV}:zC2 K Q (.pan v l d h)=Q (.pan v l d h):=rfl
theorem atBlock_pan{id:Nat}{v:AV}{l:T AV}:zCd id (.pan v l d h)=.pan v l d h:=rfl
def zFi(rs:List ARes)(Q E:AV->AH->Prop):Res->Prop
 | .norm l [] h=>∃vs,results rs l h=some vs/\Q (one vs) h
 | .ret l [] h=>∃vs,results rs l h=some vs/\Q (one vs) h
 | .pan v _ [] h=>E v h
 | _=>False
theorem ge_of{f n:Nat}{body:ACode}{rs:List ARes}{args:List AV}{Q E:AV->AH->Prop}(ht:tab f=some (.mk n body rs))(hn:args.length=n)(x:WC tab body (zAb args) [] h (zFi rs Q E)):GE tab f args h Q E:=by
 obtain⟨r,hr,hq⟩:=x;obtain⟨m,hm⟩:=hr.at;have hm:=hm m (q0c _)
 have e:∀r,evC tab m body (zAb args) [] h=r->evF tab m f args h=(Res.rec (motive:=λ_=>CR) (λloc d h=>runD tab (evC tab m) (zAn rs loc) d Mode.ret h) (λ_ _ _ _=>CR.fail [88]) (λloc d h=>runD tab (evC tab m) (zAn rs loc) d Mode.ret h)
   (λv loc d h=>runD tab (evC tab m) (zAn rs loc) d (Mode.pan v false) h) (λl=>CR.fail (f::l)) r):=by
  intro r hr;subst hr;show obind (tab f) _ _=_;rw[ht];show bi (Nat.beq n (llen args)) _ _=_;rw[zBd,hn,q0K];rfl
 have e:=e r hm;cases r with
 | norm l d1 h1=>
  cases d1 with
  | cons _ _=>exact hq.elim
  | nil=>
   obtain⟨vs,h2,h3⟩:=hq;refine⟨.ret (one vs) h1,⟨trivial,m,?_⟩,h3⟩;rw[e];show obind (results rs l h1) _ _=_;rw[h2];rfl
 | ret l d1 h1=>
  cases d1 with
  | cons _ _=>exact hq.elim
  | nil=>
   obtain⟨vs,h2,h3⟩:=hq;refine⟨.ret (one vs) h1,⟨trivial,m,?_⟩,h3⟩;rw[e];show obind (results rs l h1) _ _=_;rw[h2];rfl
 | exit id l d1 h1=>cases d1<;>exact hq.elim
 | pan v l d1 h1=>
  cases d1 with
  | cons _ _=>exact hq.elim
  | nil=>
   refine⟨.pan v h1,⟨trivial,m,?_⟩,hq⟩;rw[e];rfl
 | fail l=>exact hq.elim
theorem onEndE_ret{rs:List ARes}{Q E:AV->AH->Prop}{l:T AV}:zFi rs Q E (.ret l [] h)=∃vs,results rs l h=some vs/\Q (one vs) h:=rfl
theorem onEndE_norm{rs:List ARes}{Q E:AV->AH->Prop}{l:T AV}:zFi rs Q E (.norm l [] h)=∃vs,results rs l h=some vs/\Q (one vs) h:=rfl
end
structure Rw where
 a:Int
 b:Int
 c:Int
 d:Int
def rl(r:Rw):List AV:=[.int .i64 r.a,.int .i64 r.b,.int .i64 r.c,.int .i64 r.d]
noncomputable def putR(r:Rw)(c:T AV)(k:Nat):T AV:=T.put (some (.int .i64 r.d)) (T.put (some (.int .i64 r.c)) (T.put (some (.int .i64 r.b)) (T.put (some (.int .i64 r.a)) c k) (k+1)) (k+1+1)) (k+1+1+1)
theorem putR_get{r:Rw}{c:T AV}{k j:Nat}:(putR r c k).get j=if k+1+1+1=j then some (.int .i64 r.d) else if k+1+1=j then some (.int .i64 r.c) else if k+1=j then some (.int .i64 r.b) else if k=j then some (.int .i64 r.a) else c.get j:=by
 rw[putR,T.get_put,T.get_put,T.get_put,T.get_put]
section
variable{h h0:AH}{id o n s:Nat}{p:Option Nat}{c0:T AV}{g:Nat->Rw}
end
noncomputable def cvK(v:AV)(l:List AV):OR:=onFn v λf first caps=>OR.enter f (lapp first (lapp l caps))
theorem op_callV{loc:T AV}{tmp:List AV}{h:AH}{f:Opd}{l:List Opd}:evOp (.callV f l) loc tmp h=cvK (ev loc tmp f) (evs loc tmp l):=rfl
theorem cvK_fn{n:Nat}{l:List AV}:cvK (.fn n [] []) l=.enter n l:=by
 show OR.enter n (lapp [] (lapp l []))=_;rw[zCt,zCt,List.append_nil,List.nil_append]
noncomputable def rd1(x:AV)(b:Bool)(r:OR):Bool:=OR.rec (motive:=λ_=>Bool) (λv _=>bi (same v x) b false) (λ_ _=>false) (λ_=>false) (λ_=>false) (λ_=>false) r
theorem reads_c{loc:T AV}{tmp:List AV}{h:AH}{op:AOp}{i:Nat}{l:List ARe}:reads loc tmp h (⟨op,i,none⟩::l)=rd1 (nth tmp i) (reads loc tmp h l) (evOp op loc tmp h):=rfl
theorem rd1_val{x v:AV}{b:Bool}{h':AH}:rd1 x b (.val v h')=bi (same v x) b false:=rfl
theorem ne_1{n:Nat}:(n+1=n)=False:=eq_false (by omega)
theorem ne_2{n:Nat}:(n+1+1=n)=False:=eq_false (by omega)
theorem ne_1'{n:Nat}:(n=n+1)=False:=eq_false (by omega)
theorem ne_2'{n:Nat}:(n=n+1+1)=False:=eq_false (by omega)
theorem move_fn{n:Nat}{a b:List AV}{h:AH}:oMove (.c (.fn n a b)) .leaf [] h=.val (.fn n a b) h:=rfl
section
variable{loc:T AV}{tmp:List AV}{h:AH}
theorem op_mkFn{f:Nat}{a b:List Opd}:evOp (.mkFn f a b) loc tmp h=.val (.fn f (evs loc tmp a) (evs loc tmp b)) h:=rfl
theorem op_mkIfc{t:Nat}{x:Opd}:evOp (.mkIfc t x) loc tmp h=zH3 t (.c (ev loc tmp x)) .leaf [] h:=rfl
theorem op_panic{x:Opd}:evOp (.panic x) loc tmp h=oPanic (.c (ev loc tmp x)) .leaf [] h:=rfl
theorem mkIfc_agg{t:Nat}{l:List AV}:zH3 t (.c (.agg l)) .leaf [] h=.val (.ifc t (.agg l)) h:=rfl
theorem mkIfc_bool{t:Nat}{q:Bool}:zH3 t (.c (.bool q)) .leaf [] h=.val (.ifc t (.bool q)) h:=rfl
theorem panic_ifc{t:Nat}{v:AV}:oPanic (.c (.ifc t v)) .leaf [] h=.pan (.ifc t v):=rfl
def cell1(v:AV):T AV:=.log 1 0 (some v) .leaf
theorem box_ptr{i o:Nat}:oBox (.c (.ptr i o)) .leaf [] h=.val (.ptr h.next 0) (h.add (.cells (.log 1 0 (some (.ptr i o)) .leaf) 1 none false)):=by
 show AH.new h (AObj.cells (T.log 1 0 (some (AV.ptr i o)) .leaf) 1 none false) (λid h=>OR.val (AV.ptr id 0) h)=_;rw[q2k]
theorem box_int{k:IntKind}{n:Int}:oBox (.c (.int k n)) .leaf [] h=.val (.ptr h.next 0) (h.add (.cells (.log 1 0 (some (.int k n)) .leaf) 1 none false)):=by
 show AH.new h (AObj.cells (T.log 1 0 (some (AV.int k n)) .leaf) 1 none false) (λid h=>OR.val (AV.ptr id 0) h)=_;rw[q2k]
theorem box_bool{q:Bool}:oBox (.c (.bool q)) .leaf [] h=.val (.ptr h.next 0) (h.add (.cells (.log 1 0 (some (.bool q)) .leaf) 1 none false)):=by
 show AH.new h (AObj.cells (T.log 1 0 (some (AV.bool q)) .leaf) 1 none false) (λid h=>OR.val (AV.ptr id 0) h)=_;rw[q2k]
theorem box_sv{l:List UInt8}:oBox (.c (sv l)) .leaf [] h=.val (.ptr h.next 0) (h.add (.cells (.log 1 0 (some (sv l)) .leaf) 1 none false)):=by
 show AH.new h (AObj.cells (T.log 1 0 (some (sv l)) .leaf) 1 none false) (λid h=>OR.val (AV.ptr id 0) h)=_;rw[q2k]
theorem box_fn{f:Nat}{a b:List AV}:oBox (.c (.fn f a b)) .leaf [] h=.val (.ptr h.next 0) (h.add (.cells (.log 1 0 (some (.fn f a b)) .leaf) 1 none false)):=by
 show AH.new h (AObj.cells (T.log 1 0 (some (AV.fn f a b)) .leaf) 1 none false) (λid h=>OR.val (AV.ptr id 0) h)=_;rw[q2k]
theorem cells_ptr{i o:Nat}:cellsOf (.ptr i o)=some [.ptr i o]:=rfl
theorem cells_nilp:cellsOf .nilp=some [.nilp]:=rfl
theorem cells_nils:cellsOf .nils=some [.nils]:=rfl
theorem cells_nili:cellsOf .nili=some [.nili]:=rfl
theorem cells_nilf:cellsOf .nilf=some [.nilf]:=rfl
theorem cells_fn{f:Nat}{a b:List AV}:cellsOf (.fn f a b)=some [.fn f a b]:=rfl
theorem move_nilf:oMove (.c .nilf) .leaf [] h=.val .nilf h:=rfl
theorem move_nili:oMove (.c .nili) .leaf [] h=.val .nili h:=rfl
theorem eqp_np{neg:Bool}{i o:Nat}:oEq neg .ptr (.c .nilp) (.c (.ptr i o)) .leaf [] h=.val (.bool neg) h:=by cases neg<;>rfl
theorem eqp_pn{neg:Bool}{i o:Nat}:oEq neg .ptr (.c (.ptr i o)) (.c .nilp) .leaf [] h=.val (.bool neg) h:=by cases neg<;>rfl
theorem eqp_nn{neg:Bool}:oEq neg .ptr (.c .nilp) (.c .nilp) .leaf [] h=.val (.bool (!neg)) h:=by cases neg<;>rfl
theorem eqp_pp{neg:Bool}{i o o':Nat}:oEq neg .ptr (.c (.ptr i o)) (.c (.ptr i o')) .leaf [] h=.val (.bool (if neg then !decide (o=o') else decide (o=o'))) h:=by
 show obind (bi (Nat.beq i i) (some (Nat.beq o o')) _) (F 29) (λq=>Ev.bool (bi neg (bi q false true) q) h)=_;rw[q0K,zA8,zDc];by_cases hc:o=o'<;>cases neg<;>simp[hc]<;>rfl
theorem eqfn_fn{neg:Bool}{f:Nat}{a b:List AV}:oEq neg .fn (.c (.fn f a b)) (.c .nilf) .leaf [] h=.val (.bool neg) h:=by cases neg<;>rfl
theorem eqfn_nf{neg:Bool}:oEq neg .fn (.c .nilf) (.c .nilf) .leaf [] h=.val (.bool (!neg)) h:=by cases neg<;>rfl
theorem same_ptr{i o:Nat}:same (.ptr i o) (.ptr i o)=true:=by
 show bi (Nat.beq i i) (Nat.beq o o) false=true;rw[q0K,q0K];rfl
theorem same_nils:same .nils .nils=true:=rfl
theorem same_nilp:same .nilp .nilp=true:=rfl
theorem same_bool{q:Bool}:same (.bool q) (.bool q)=true:=by cases q<;>rfl
theorem zEb{l:List UInt8}:same (sv l) (sv l)=true:=by
 show bi (Nat.beq l.length l.length) (Nat.beq (encB l) (encB l)) false=true;rw[q0K,q0K];rfl
theorem zHc{i o l:Nat}{c:ACap}:same (.sl i o l c) (.sl i o l c)=true:=by
 cases c with
 | known n=>
  show bi (Nat.beq i i) (bi (Nat.beq o o) (bi (Nat.beq l l) (Nat.beq n n) false) false) false=true;simp only[q0K];rfl
 | rest n=>
  show bi (Nat.beq i i) (bi (Nat.beq o o) (bi (Nat.beq l l) (Nat.beq n n) false) false) false=true;simp only[q0K];rfl
theorem same_agg1{x:AV}:same (.agg [x]) (.agg [x])=same x x:=by
 show bi (same x x) true false=_;cases same x x<;>rfl
theorem cvK2{n:Nat}{a c l:List AV}:cvK (.fn n a c) l=.enter n (lapp a (lapp l c)):=rfl
theorem lapp_nil{l:List AV}:lapp [] l=l:=rfl
theorem lapp_cons{v:AV}{l m:List AV}:lapp (v::l) m=v::lapp l m:=rfl
theorem gv_tup{l:List AV}{want:Bool}:gv (.tup l) want=some false:=rfl
theorem onEndE_val{x:Opd}{l:T AV}{Q E:AV->AH->Prop}:zFi [.val x] Q E (.ret l [] h)=Q (ev l [] x) h:=by
 refine propext ⟨?_,λq=>⟨_,zEw zA5,by rw[zHk];exact q⟩⟩;rintro⟨vs,h1,q⟩;rw[zEw zA5] at h1;injection h1 with h1;subst h1;rwa [zHk] at q
theorem zKp{l:T AV}{Q E:AV->AH->Prop}:zFi [] Q E (.ret l [] h)=Q (.tup []) h:=by
 refine propext ⟨?_,λq=>⟨_,zA5,q⟩⟩;rintro⟨vs,h1,q⟩;rw[zA5] at h1;injection h1 with h1;subst h1;exact q
theorem onEndE_niln{l:T AV}{Q E:AV->AH->Prop}:zFi [] Q E (.norm l [] h)=Q (.tup []) h:=zKp (E:=E)
theorem str0:AV.str 0 0=sv []:=rfl
end
section
variable{tab:Nat->Option AFunc}{loc:T AV}{d:List AV}{h:AH}{b:ACode}{Q:Res->Prop}
end
theorem GP.to{tab:Nat->Option AFunc}{f:Nat}{args:List AV}{h:AH}{Q Q1 E:AV->AH->Prop}(x:GP tab f args h Q)(hq:∀v h1,Q v h1->Q1 v h1):GE tab f args h Q1 E:=(x.mono hq).ge
section
variable{tab:Nat->Option AFunc}{loc loc0:T AV}{tmp d:List AV}{h:AH}{b:ACode}{Q:Res->Prop}{whole l:List AOper}{k:Nat}
end
theorem ite_ne{α:Type}{a b:Nat}{x y:α}(h:a≠b):(if a=b then x else y)=y:=if_neg h
theorem ite_same{α:Type}{a b:Nat}{x y:α}(h:a=b):(if a=b then x else y)=x:=if_pos h
section
variable{h:AH}
theorem move_tup{l:List AV}:oMove (.c (.tup l)) .leaf [] h=.val (.tup l) h:=rfl
theorem move_ifc{t:Nat}{v:AV}:oMove (.c (.ifc t v)) .leaf [] h=.val (.ifc t v) h:=rfl
noncomputable def exV(v:AV)(h:AH):OR:=zD4 0 (.c (.tup [v])) .leaf [] h
theorem ext0{a:AV}{l:List AV}:zD4 0 (.c (.tup (a::l))) .leaf [] h=exV a h:=rfl
theorem ext1{a b:AV}{l:List AV}:zD4 1 (.c (.tup (a::b::l))) .leaf [] h=exV b h:=rfl
theorem ext2{a b c:AV}{l:List AV}:zD4 2 (.c (.tup (a::b::c::l))) .leaf [] h=exV c h:=rfl
theorem exV_int{k:IntKind}{n:Int}:exV (.int k n) h=.val (.int k n) h:=rfl
theorem exV_bool{q:Bool}:exV (.bool q) h=.val (.bool q) h:=rfl
theorem exV_sv{l:List UInt8}:exV (sv l) h=.val (sv l) h:=rfl
theorem exV_nili:exV .nili h=.val .nili h:=rfl
theorem exV_nils:exV .nils h=.val .nils h:=rfl
theorem exV_ifc{t:Nat}{v:AV}:exV (.ifc t v) h=.val (.ifc t v) h:=rfl
theorem exV_sl{i o l:Nat}{c:ACap}:exV (.sl i o l c) h=.val (.sl i o l c) h:=rfl
theorem exV_agg{l:List AV}:exV (.agg l) h=.val (.agg l) h:=rfl
theorem exV_ptr{i o:Nat}:exV (.ptr i o) h=.val (.ptr i o) h:=rfl
theorem eqifc_in{neg:Bool}{t:Nat}{v:AV}:oEq neg .ifc (.c (.ifc t v)) (.c .nili) .leaf [] h=.val (.bool neg) h:=by cases neg<;>rfl
theorem eqifc_nn{neg:Bool}:oEq neg .ifc (.c .nili) (.c .nili) .leaf [] h=.val (.bool (!neg)) h:=by cases neg<;>rfl
end
def EVE:=(q0b @obind_ite (q0b @PE_nil (q0b @PE_cons (q0b @guardE_false (q0b @zJo (q0b @stepE_val (q0b @stepE_enter (q0b @zGh (q0b @gb_any (q0b @gb_bool (q0b @ev_t (q0b @evl (q0b @ev_c (q0b @nth_zero (q0b @nth_succ (q0b @T.get_put (q0b @putOut_none (q0b @zGa (q0b @evs_nil (q0b @evs_cons (q0b @reads_nil (q0b @op_move (q0b @op_pick (q0b @op_load (q0b @op_loadN (q0b @op_store (q0b @op_nil (q0b @op_bin (q0b @op_eq (q0b @op_not (q0b @op_neg (q0b @op_convI (q0b @op_len (q0b @op_idxAddr (q0b @op_fieldAddr (q0b @op_field (q0b @op_extract (q0b @op_callF (q0b @op_alloc (q0b @op_build (q0b @move_int (q0b @move_bool (q0b @move_ptr (q0b @move_nilp (q0b @move_sl (q0b @move_nils (q0b @move_agg (q0b @bin_lss (q0b @bin_leq (q0b @bin_gtr (q0b @bin_geq (q0b @bin_add (q0b @bin_sub (q0b @bin_mul (q0b @eq_int (q0b @eq_bool (q0b @eq_agg (q0b @eqLz (q0b @eqLs (q0b @eqS_int (q0b @eqS_bool (q0b @not_bool (q0b @zGv (q0b @len_nils (q0b @pick_bool (q0b @zL0 (q0b @fill_nil (q0b @zCf (q0b @zBj (q0b @obind_none (q0b @zA8 (q0b @zBi (q0b @load_cells (q0b @loadN_cells (q0b @store_cells (q0b @cells_agg (q0b @cells_int (q0b @loadL_zero (q0b @storeL_nil (q0b @llen_nil (q0b @llen_cons (q0b @zDc (q0b @zGb (q0b @onNorm_ret (q0b @onNorm_exit (q0b @atBlock_norm (q0b @atBlock_ret (q0b @atBlock_exit (q0b @zAe (q0b @AH.add_mem (q0b @AH.add_next (q0b @AH.set_mem (q0b @AH.set_next (q0b @op_max (q0b @op_min (q0b @max_int (q0b @min_int (q0b @convI_int (q0b @nil_ptr (q0b @op_box (q0b @box_agg (q0b @op_bslice (q0b @fill_cons (q0b @op_append (q0b @AH.kill_mem (q0b @AH.kill_next (q0b @zFy (q0b @zIp (q0b @zCt (q0b @ble_nat (q0b @add_nat (q0b @cells_sl (q0b @cells_bool (q0b @lt_nat (q0b @le_nat (q0b @eq_nat (q0b @op_callV (q0b @cvK_fn (q0b @move_fn (q0b @reads_c (q0b @rd1_val (q0b @zGp (q0b @same_agg_nil (q0b @zLf (q0b @ne_1 (q0b @ne_2 (q0b @ne_1' (q0b @ne_2' (q0b @zDv (q0b @move_tup (q0b @move_ifc (q0b @ext0 (q0b @ext1 (q0b @ext2 (q0b @exV_int (q0b @exV_bool (q0b @exV_sv (q0b @exV_nili (q0b @exV_nils (q0b @exV_ifc (q0b @exV_sl (q0b @exV_agg (q0b @exV_ptr (q0b @eqifc_in (q0b @eqifc_nn (q0b @stepE_pan (q0b @contE_eq (q0b @gv_tup (q0b @onEndE_val (q0b @zKp (q0b @onEndE_niln (q0b @onNorm_pan (q0b @atBlock_pan (q0b @op_mkFn (q0b @op_idxS (q0b @op_mkIfc (q0b @op_panic (q0b @mkIfc_agg (q0b @mkIfc_bool (q0b @panic_ifc (q0b @box_ptr (q0b @box_int (q0b @box_bool (q0b @box_sv (q0b @box_fn (q0b @cells_ptr (q0b @cells_nilp (q0b @cells_nils (q0b @cells_nili (q0b @cells_nilf (q0b @cells_fn (q0b @cells_sv (q0b @move_sv (q0b @len_sv (q0b @eq_sv (q0b @eqS_sv (q0b @eqp_np (q0b @eqp_nn (q0b @eqp_pn (q0b @eqp_pp (q0b @eqfn_fn (q0b @eqfn_nf (q0b @same_ptr (q0b @zHc (q0b @same_nils (q0b @same_nilp (q0b @zEb (q0b @same_bool (q0b @cvK2 (q0b @lapp_nil (q0b @lapp_cons (q0b @T.get_log (q0b @T.get_leaf (q0b @move_nilf (q0b @op_sliceS2 (q0b @op_sliceSl (q0b @op_sliceSh (q0b @op_loadN (q0b @same_agg1 (q0b @move_nili (q0b @op_neg (@str0))))))))))))))))))))))))))))))))))))))))))))))))))))))))))))))))))))))))))))))))))))))))))))))))))))))))))))))))))))))))))))))))))))))))))))))))))))))))))))))))))))))))))))))))))))))))))))))))))))))))))
def EE:=q0b EVE (q0b EVN EVC)
section
variable{tab:Nat->Option AFunc}{loc:T AV}{h:AH}{m:Mode}{K:Mode->T AV->AH->Prop}
def WD(tab:Nat->Option AFunc)(c:ACode)(m:Mode)(loc:T AV)(h:AH)(K:Mode->T AV->AH->Prop):Prop:=
 ∃m' loc' h',(∃n,∀k,n<=k->evD (evC tab k) c m loc h=.norm m' loc' h')/\K m' loc' h'
theorem wd_recov_ret{out:Option Nat}(x:K .ret (zAc out .nili loc) h):WD tab (.recov out) .ret loc h K:=⟨_,_,_,⟨0,λ_ _=>rfl⟩,x⟩
theorem wd_recov_pan{out:Option Nat}{v:AV}(x:K (.pan v true) (zAc out v loc) h):WD tab (.recov out) (.pan v false) loc h K:=⟨_,_,_,⟨0,λ_ _=>rfl⟩,x⟩
theorem zJ9{a b:ACode}(x:WD tab a m loc h λm l h=>WD tab b m l h K):WD tab (.seq a b) m loc h K:=by
 obtain⟨m1,l1,h1,⟨n,hn⟩,m2,l2,h2,⟨n',hn'⟩,x⟩:=x;refine⟨m2,l2,h2,⟨n+n',λk hk=>?_⟩,x⟩;have e:∀r,evD (evC tab k) a m loc h=r->evD (evC tab k) (.seq a b) m loc h=DR.rec (motive:=λ_=>DR) (λm loc h=>evD (evC tab k) b m loc h) DR.exit DR.ret DR.fail r:=by
  intro r hr;subst hr;rfl
 rw[e _ (hn k (by omega))];exact hn' k (by omega)
theorem wd_skip(x:K m loc h):WD tab .skip m loc h K:=⟨_,_,_,⟨1,λk hk=>by cases k with | zero=>omega | succ k=>rfl⟩,x⟩
theorem wd_cond{c:Opd}{a b:ACode}{q:Bool}(e:ev loc [] c=.bool q)(x:if q then WD tab a m loc h K else WD tab b m loc h K):WD tab (.cond c a b) m loc h K:=by
 have e':∀v,ev loc [] c=v->∀k,evD (evC tab k) (.cond c a b) m loc h=AV.rec (motive_1:=λ_=>DR) (motive_2:=λ_=>Unit) (DR.fail [82]) (λq=>bi q (evD (evC tab k) a m loc h) (evD (evC tab k) b m loc h)) (λ_ _=>DR.fail [82]) (λ_ _=>DR.fail [82]) (λ_ _=>DR.fail [82]) (DR.fail [82]) (λ_ _ _ _=>DR.fail [82]) (DR.fail [82]) (λ_=>DR.fail [82]) (DR.fail [82]) (λ_ _ _ _ _=>DR.fail [82]) (DR.fail [82]) (λ_ _ _=>DR.fail [82]) (DR.fail [82]) (λ_ _=>DR.fail [82]) (λ_ _=>DR.fail [82]) () (λ_ _ _ _=>()) v:=by
  intro v hv k;subst hv;rfl
 cases q with
 | true=>
  obtain⟨m2,l2,h2,⟨n',hn'⟩,x⟩:=x;exact⟨m2,l2,h2,⟨n',λk hk=>by rw[e' _ e];exact hn' k hk⟩,x⟩
 | false=>
  obtain⟨m2,l2,h2,⟨n',hn'⟩,x⟩:=x;exact⟨m2,l2,h2,⟨n',λk hk=>by rw[e' _ e];exact hn' k hk⟩,x⟩
def onPlain(m:Mode)(K:Mode->T AV->AH->Prop):Res->Prop
 | .norm l [] h=>K m l h
 | _=>False
theorem wd_ops{l:List AOper}(x:WC tab (.ops l) loc [] h (onPlain m K)):WD tab (.ops l) m loc h K:=by
 obtain⟨r,hr,hq⟩:=x;obtain⟨n,hn⟩:=hr.at;cases r with
 | norm l1 d1 h1=>
  cases d1 with
  | cons _ _=>exact hq.elim
  | nil=>
   refine⟨m,l1,h1,⟨n,λk hk=>?_⟩,hq⟩
   have e:∀r,evC tab k (.ops l) loc [] h=r->evD (evC tab k) (.ops l) m loc h=Res.rec (motive:=λ_=>DR) (λloc d h=>List.rec (motive:=λ_=>DR) (DR.norm m loc h) (λ_ _ _=>DR.fail [80]) d) (λid loc d h=>List.rec (motive:=λ_=>DR) (DR.exit id m loc h) (λ_ _ _=>DR.fail [80]) d)
     (λ_ d h=>List.rec (motive:=λ_=>DR) (DR.ret m h) (λ_ _ _=>DR.fail [80]) d) (λ_ _ _ _=>DR.fail [81]) DR.fail r:=by
    intro r hr;subst hr;rfl
   rw[e _ (hn k hk)]
 | fail l=>exact hq.elim
 | exit id l d1 h1=>cases d1<;>exact hq.elim
 | ret l d1 h1=>cases d1<;>exact hq.elim
 | pan v l d1 h1=>cases d1<;>exact hq.elim
def onEndD(tab:Nat->Option AFunc)(rs:List ARes)(Q:AV->AH->Prop):Res->Prop
 | .norm l [.fn f0 first caps] h=>∃n0 body0,tab f0=some (.mk n0 body0 [])/\(lapp first caps).length=n0/\WD tab body0 .ret (zAb (lapp first caps)) h λm _ h2=>m=.ret/\∃vs,results rs l h2=some vs/\Q (one vs) h2
 | .ret l [.fn f0 first caps] h=>∃n0 body0,tab f0=some (.mk n0 body0 [])/\(lapp first caps).length=n0/\WD tab body0 .ret (zAb (lapp first caps)) h λm _ h2=>m=.ret/\∃vs,results rs l h2=some vs/\Q (one vs) h2
 | .pan v l [.fn f0 first caps] h=>∃n0 body0,tab f0=some (.mk n0 body0 [])/\(lapp first caps).length=n0/\WD tab body0 (.pan v false) (zAb (lapp first caps)) h λm _ h2=>(∃w,m=.pan w true)/\∃vs,results rs l h2=some vs/\Q (one vs) h2
 | _=>False
theorem runD_one{evc:ACode->T AV->List AV->AH->Res}{fin:Mode->AH->CR}{f0 n0:Nat}{first caps:List AV}{body0:ACode}{m m':Mode}{l':T AV}{h h':AH}(ht:tab f0=some (.mk n0 body0 []))(hn:(lapp first caps).length=n0)(e:evD evc body0 m (zAb (lapp first caps)) h=.norm m' l' h') :
  runD tab evc fin [.fn f0 first caps] m h=Mode.rec (motive:=λ_=>CR) (fin Mode.ret h') (λv r=>bi r (fin Mode.ret h') (fin (Mode.pan v r) h')) m':=by
 show obind (tab f0) _ _=_;rw[ht];show bi (Nat.beq n0 (llen (lapp first caps))) _ _=_;rw[zBd,hn,q0K];show DR.rec (motive:=λ_=>CR) _ _ _ _ (evD evc body0 m (zAb (lapp first caps)) h)=_;rw[e]
theorem ge_defer{f n:Nat}{body:ACode}{rs:List ARes}{args:List AV}{Q E:AV->AH->Prop}(ht:tab f=some (.mk n body rs))(hn:args.length=n)(x:WC tab body (zAb args) [] h (onEndD tab rs Q)):GE tab f args h Q E:=by
 obtain⟨r,hr,hq⟩:=x;obtain⟨m,hm⟩:=hr.at
 have e:∀k r,evC tab k body (zAb args) [] h=r->evF tab k f args h=(Res.rec (motive:=λ_=>CR) (λloc d h=>runD tab (evC tab k) (zAn rs loc) d Mode.ret h) (λ_ _ _ _=>CR.fail [88]) (λloc d h=>runD tab (evC tab k) (zAn rs loc) d Mode.ret h)
   (λv loc d h=>runD tab (evC tab k) (zAn rs loc) d (Mode.pan v false) h) (λl=>CR.fail (f::l)) r):=by
  intro k r hr;subst hr;show obind (tab f) _ _=_;rw[ht];show bi (Nat.beq n (llen args)) _ _=_;rw[zBd,hn,q0K];rfl
 have fin:∀(l:T AV) (f0:Nat) (first caps:List AV) (h1:AH) (m0:Mode),(∃n0 body0,tab f0=some (.mk n0 body0 [])/\(lapp first caps).length=n0/\WD tab body0 m0 (zAb (lapp first caps)) h1 λm _ h2=>(m=.ret\/∃w,m=.pan w true)/\∃vs,results rs l h2=some vs/\Q (one vs) h2)->
   ∃vs h2,Q (one vs) h2/\∃n,∀k,n<=k->runD tab (evC tab k) (zAn rs l) [.fn f0 first caps] m0 h1=.ret (one vs) h2:=by
  rintro l f0 first caps h1 m0 ⟨n0,body0,t0,hl,m',l',h2,⟨n,hn⟩,hm',vs,hv,hQ⟩
  refine⟨vs,h2,hQ,n,λk hk=>?_⟩;rw[runD_one t0 hl (hn k hk)];rcases hm' with rfl | ⟨w,rfl⟩
  ·show obind (results rs l h2) _ _=_;rw[hv];rfl
  ·show obind (results rs l h2) _ _=_;rw[hv];rfl
 have one_fn:∀(d1:List AV),(∃f0 first caps,d1=[.fn f0 first caps])\/∀l h1 v,¬onEndD tab rs Q (.norm l d1 h1)/\¬onEndD tab rs Q (.ret l d1 h1)/\¬onEndD tab rs Q (.pan v l d1 h1):=by
  intro d1;cases d1 with
  | nil=>exact .inr λ_ _ _=>⟨id,id,id⟩
  | cons a d1=>
   cases d1 with
   | cons b d1=>exact .inr λ_ _ _=>by cases a<;>exact⟨id,id,id⟩
   | nil=>
    cases a with
    | fn f0 fi ca=>exact .inl ⟨f0,fi,ca,rfl⟩
    | _=>exact .inr λ_ _ _=>⟨id,id,id⟩
 cases r with
 | norm l d1 h1=>
  rcases one_fn d1 with⟨f0,first,caps,rfl⟩ | hno
  rotate_left
  ·exact absurd hq (hno l h1 .bad).1
  obtain⟨n0,body0,a1,a2,a3⟩:=hq;obtain⟨m',l',h2,a4,a5,a6⟩:=a3;obtain⟨vs,h3,hQ,n1,hn1⟩:=fin l f0 first caps h1 .ret ⟨n0,body0,a1,a2,m',l',h2,a4,.inl a5,a6⟩
  refine⟨.ret (one vs) h3,⟨trivial,m+n1,?_⟩,hQ⟩;rw[e _ _ (hm (m+n1) (by omega))];exact hn1 _ (by omega)
 | ret l d1 h1=>
  rcases one_fn d1 with⟨f0,first,caps,rfl⟩ | hno
  rotate_left
  ·exact absurd hq (hno l h1 .bad).2.1
  obtain⟨n0,body0,a1,a2,a3⟩:=hq;obtain⟨m',l',h2,a4,a5,a6⟩:=a3;obtain⟨vs,h3,hQ,n1,hn1⟩:=fin l f0 first caps h1 .ret ⟨n0,body0,a1,a2,m',l',h2,a4,.inl a5,a6⟩
  refine⟨.ret (one vs) h3,⟨trivial,m+n1,?_⟩,hQ⟩;rw[e _ _ (hm (m+n1) (by omega))];exact hn1 _ (by omega)
 | pan v l d1 h1=>
  rcases one_fn d1 with⟨f0,first,caps,rfl⟩ | hno
  rotate_left
  ·exact absurd hq (hno l h1 v).2.2
  obtain⟨n0,body0,a1,a2,a3⟩:=hq;obtain⟨m',l',h2,a4,a5,a6⟩:=a3;obtain⟨vs,h3,hQ,n1,hn1⟩:=fin l f0 first caps h1 (.pan v false) ⟨n0,body0,a1,a2,m',l',h2,a4,.inr a5,a6⟩
  refine⟨.ret (one vs) h3,⟨trivial,m+n1,?_⟩,hQ⟩;rw[e _ _ (hm (m+n1) (by omega))];exact hn1 _ (by omega)
 | exit id l d1 h1=>exact hq.elim
 | fail l=>exact hq.elim
end
section
variable{tab:Nat->Option AFunc}
inductive Fr where
 | code (c:ACode)
 | blk (id:Nat)
def onRes(f:T AV->List AV->AH->Prop)(g:Nat->T AV->List AV->AH->Prop)(Q:Res->Prop):Res->Prop
 | .norm l d h=>f l d h
 | .exit id l d h=>g id l d h
 | .ret l d h=>Q (.ret l d h)
 | .pan v l d h=>Q (.pan v l d h)
 | .fail l=>Q (.fail l)
def Rn(tab:Nat->Option AFunc):List Fr->Option Nat->T AV->List AV->AH->(Res->Prop)->Prop
 | [],none,loc,d,h,Q=>Q (.norm loc d h)
 | [],some id,loc,d,h,Q=>Q (.exit id loc d h)
 | .code c::k,none,loc,d,h,Q=>WC tab c loc d h (onRes (λl d h=>Rn tab k none l d h Q) (λid l d h=>Rn tab k (some id) l d h Q) Q)
 | .code _::k,some id,loc,d,h,Q=>Rn tab k (some id) loc d h Q
 | .blk _::k,none,loc,d,h,Q=>Rn tab k none loc d h Q
 | .blk i::k,some id,loc,d,h,Q=>if i=id then Rn tab k none loc d h Q else Rn tab k (some id) loc d h Q
def onK(tab:Nat->Option AFunc)(k:List Fr)(Q:Res->Prop):Res->Prop:=onRes (λl d h=>Rn tab k none l d h Q) (λid l d h=>Rn tab k (some id) l d h Q) Q
variable{loc:T AV}{d tmp:List AV}{h:AH}{a b c:ACode}{Q:Res->Prop}{k:List Fr}{id:Nat}
theorem zD3:onK tab k Q (.norm loc d h)=Rn tab k none loc d h Q:=rfl
theorem zDj:onK tab k Q (.exit id loc d h)=Rn tab k (some id) loc d h Q:=rfl
theorem zGc:onK tab k Q (.ret loc d h)=Q (.ret loc d h):=rfl
theorem zHl{v:AV}:onK tab k Q (.pan v loc d h)=Q (.pan v loc d h):=rfl
theorem run_nil:Rn tab [] none loc d h Q=Q (.norm loc d h):=rfl
theorem run_nilx:Rn tab [] (some id) loc d h Q=Q (.exit id loc d h):=rfl
theorem zA1:Rn tab (.code c::k) none loc d h Q=WC tab c loc d h (onK tab k Q):=rfl
theorem zGq:Rn tab (.code c::k) (some id) loc d h Q=Rn tab k (some id) loc d h Q:=rfl
theorem run_blk{i:Nat}:Rn tab (.blk i::k) none loc d h Q=Rn tab k none loc d h Q:=rfl
theorem zLg{i:Nat}:Rn tab (.blk i::k) (some id) loc d h Q=if i=id then Rn tab k none loc d h Q else Rn tab k (some id) loc d h Q:=rfl
theorem Does.fn{r r':Res}(x:Does tab c loc d h r)(y:Does tab c loc d h r'):r=r':=by
 obtain⟨n,hn⟩:=x.at;obtain⟨m,hm⟩:=y.at;rw[<-hn (max n m) (Nat.le_max_left _ _),hm (max n m) (Nat.le_max_right _ _)]
theorem wc_eq{r:Res}(x:Does tab c loc d h r):WC tab c loc d h Q=Q r:=propext ⟨λ⟨r',y,q⟩=>by rw[x.fn y];exact q,λq=>⟨r,x,q⟩⟩
theorem run_skip:Rn tab (.code .skip::k) none loc d h Q=Rn tab k none loc d h Q:=by rw[zA1,wc_eq does_skip,zD3]
theorem run_ret:Rn tab (.code .ret::k) none loc d h Q=Q (.ret loc d h):=by rw[zA1,wc_eq does_ret,zGc]
theorem run_exit:Rn tab (.code (.exit id)::k) none loc d h Q=Rn tab k (some id) loc d h Q:=by rw[zA1,wc_eq does_exit,zDj]
theorem seq_inv{r:Res}(x:Does tab (.seq a b) loc d h r):∃r1,Does tab a loc d h r1/\((∃l1 d1 h1,r1=.norm l1 d1 h1/\Does tab b l1 d1 h1 r)\/(r1.out/\r1=r)):=by
 obtain⟨hg,n,hn⟩:=x;cases n with
 | zero=>have hn:Res.fail [91]=r:=hn;rw[<-hn] at hg;exact hg.elim
 | succ n=>
  have hn:(Res.rec (motive:=λ_=>Res) (λloc d h=>evC tab n b loc d h) Res.exit Res.ret Res.pan Res.fail (evC tab n a loc d h):Res)=r:=hn;cases e:evC tab n a loc d h with
  | fail l=>rw[e] at hn;have hn:Res.fail l=r:=hn;rw[<-hn] at hg;exact hg.elim
  | norm l1 d1 h1=>rw[e] at hn;have hd:Does tab a loc d h (.norm l1 d1 h1):=⟨trivial,n,e⟩;exact⟨_,hd,.inl ⟨_,_,_,rfl,hg,n,hn⟩⟩
  | exit i l1 d1 h1=>rw[e] at hn;have hd:Does tab a loc d h (.exit i l1 d1 h1):=⟨trivial,n,e⟩;exact⟨_,hd,.inr ⟨trivial,hn⟩⟩
  | ret l1 d1 h1=>rw[e] at hn;have hd:Does tab a loc d h (.ret l1 d1 h1):=⟨trivial,n,e⟩;exact⟨_,hd,.inr ⟨trivial,hn⟩⟩
  | pan v l1 d1 h1=>rw[e] at hn;have hd:Does tab a loc d h (.pan v l1 d1 h1):=⟨trivial,n,e⟩;exact⟨_,hd,.inr ⟨trivial,hn⟩⟩
theorem zC6:Rn tab (.code (.seq a b)::k) none loc d h Q=Rn tab (.code a::.code b::k) none loc d h Q:=by
 rw[zA1,zA1];refine propext ⟨λ⟨r,x,q⟩=>?_,λ⟨r,x,q⟩=>?_⟩
 ·obtain⟨r1,h1,h2 | ⟨ho,rfl⟩⟩:=seq_inv x
  ·obtain⟨l1,d1,h1',rfl,h3⟩:=h2;refine⟨_,h1,?_⟩;rw[zD3,zA1];exact⟨r,h3,q⟩
  ·refine⟨_,h1,?_⟩;cases r1 with
   | norm=>exact ho.elim
   | exit=>rw[zDj,zGq];rw[zDj] at q;exact q
   | ret=>rw[zGc];rw[zGc] at q;exact q
   | pan=>rw[zHl];rw[zHl] at q;exact q
   | fail=>exact x.1.elim
 ·cases r with
  | norm=>
   rw[zD3,zA1] at q;obtain⟨r2,y,q⟩:=q;exact⟨r2,does_seq x y,q⟩
  | exit=>rw[zDj,zGq] at q;exact⟨_,zFq x trivial,by rw[zDj];exact q⟩
  | ret=>rw[zGc] at q;exact⟨_,zFq x trivial,by rw[zGc];exact q⟩
  | pan=>rw[zHl] at q;exact⟨_,zFq x trivial,by rw[zHl];exact q⟩
  | fail=>exact x.1.elim
theorem block_inv{r:Res}(x:Does tab (.block id a) loc d h r):∃r1,Does tab a loc d h r1/\r=zCd id r1:=by
 obtain⟨hg,n,hn⟩:=x;cases n with
 | zero=>have hn:Res.fail [91]=r:=hn;rw[<-hn] at hg;exact hg.elim
 | succ n=>
  cases e:evC tab n a loc d h with
  | fail l=>
   have hn:(Res.rec (motive:=λ_=>Res) Res.norm (λid' loc d h=>bi (Nat.beq id id') (Res.norm loc d h) (Res.exit id' loc d h)) Res.ret Res.pan Res.fail (evC tab n a loc d h):Res)=r:=hn;rw[e] at hn;have hn:Res.fail l=r:=hn;rw[<-hn] at hg;exact hg.elim
  | _=>
   have hd:Does tab a loc d h _:=⟨by rw[e];trivial,n,rfl⟩;rw[e] at hd;exact⟨_,hd,(Does.fn ⟨hg,n+1,hn⟩ (zK2 hd))⟩
theorem run_block:Rn tab (.code (.block id a)::k) none loc d h Q=Rn tab (.code a::.blk id::k) none loc d h Q:=by
 rw[zA1,zA1];have key:∀r:Res,r.good->(onK tab k Q (zCd id r)=onK tab (.blk id::k) Q r):=by
  intro r hr;cases r with
  | norm=>rfl
  | exit i l d h=>
   simp only[zCd];rw[zDj,zLg];split
   ·rw[zD3]
   ·rw[zDj]
  | ret=>rfl
  | pan=>rfl
  | fail=>exact hr.elim
 refine propext ⟨λ⟨r,x,q⟩=>?_,λ⟨r,x,q⟩=>?_⟩
 ·obtain⟨r1,h1,rfl⟩:=block_inv x;exact⟨r1,h1,by rw[<-key r1 h1.1];exact q⟩
 ·exact⟨_,zK2 x,by rw[key r x.1];exact q⟩
def condR(v:AV)(A B:Prop):Prop:=match v with
 | .bool q=>if q=true then A else B
 | _=>False
theorem condR_bool{q:Bool}{A B:Prop}:condR (.bool q) A B=if q=true then A else B:=rfl
theorem cond_inv{o:Opd}{r:Res}(x:Does tab (.cond o a b) loc d h r):∃q,ev loc [] o=.bool q/\Does tab (if q then a else b) loc d h r:=by
 obtain⟨hg,n,hn⟩:=x;cases n with
 | zero=>have hn:Res.fail [91]=r:=hn;rw[<-hn] at hg;exact hg.elim
 | succ n=>
  have hn:AV.on (Res.fail [90]) (λq=>bi q (evC tab n a loc d h) (evC tab n b loc d h)) (λ_ _=>Res.fail [90]) (λ_ _=>Res.fail [90]) (λ_ _=>Res.fail [90]) (Res.fail [90]) (λ_ _ _ _=>Res.fail [90]) (Res.fail [90]) (λ_=>Res.fail [90]) (Res.fail [90]) (λ_ _ _=>Res.fail [90]) (Res.fail [90]) (λ_ _=>Res.fail [90]) (Res.fail [90]) (λ_=>Res.fail [90]) (λ_=>Res.fail [90]) (ev loc [] o)=r:=hn;generalize ev loc [] o=v at hn;cases v<;>try (have hn:Res.fail [90]=r:=hn;rw[<-hn] at hg;exact hg.elim)
  rename_i q;refine⟨q,rfl,hg,n,?_⟩;cases q<;>exact hn
theorem run_cond{o:Opd}:Rn tab (.code (.cond o a b)::k) none loc d h Q=condR (ev loc [] o) (Rn tab (.code a::k) none loc d h Q) (Rn tab (.code b::k) none loc d h Q):=by
 rw[zA1,zA1,zA1];refine propext ⟨λ⟨r,x,q⟩=>?_,λx=>?_⟩
 ·obtain⟨t,ht,y⟩:=cond_inv x;rw[ht];cases t with
  | true=>exact⟨r,by simpa using y,q⟩
  | false=>exact⟨r,by simpa using y,q⟩
 ·cases hv:ev loc [] o<;>rw[hv] at x<;>try exact x.elim
  rename_i t;cases t with
  | true=>obtain⟨r,y,q⟩:=(show WC tab a loc d h _ from x);exact⟨r,does_cond hv (by simpa using y),q⟩
  | false=>obtain⟨r,y,q⟩:=(show WC tab b loc d h _ from x);exact⟨r,does_cond hv (by simpa using y),q⟩
theorem gives_call{f:Nat}{args:List AV}{n:Nat}(hg:(zAw tab (evC tab n) f args h).good):Gives tab f args h (zAw tab (evC tab n) f args h):=⟨hg,n,rfl⟩
theorem PE.back{whole:List AOper}{loc0:T AV}{n:Nat}:∀(l:List AOper) (loc:T AV) (tmp d:List AV) (h:AH),(evOps (zAw tab (evC tab n)) whole loc0 l loc tmp d h).good->Q (evOps (zAw tab (evC tab n)) whole loc0 l loc tmp d h)->PE tab whole loc0 l loc tmp d h Q
 | [],loc,tmp,d,h,_,q=>q
 | ⟨op,g,out,re⟩::l,loc,tmp,d,h,hg,q=>by
  have e:∀k:Nat->List AV->AH->CR,evOps k whole loc0 (⟨op,g,out,re⟩::l) loc tmp d h=obind (zAt loc tmp g) (Res.fail [70]) (λq=>bi q
   (OR.rec (motive:=λ_=>Res)
    (λv h=>bi (reads loc tmp h re) (evOps k whole loc0 l (zAc out v loc) (v::tmp) d h) (Res.fail [71]))
    (λf args=>CR.rec (motive:=λ_=>Res) (λv h=>bi (reads loc tmp h re) (evOps k whole loc0 l (zAc out v loc) (v::tmp) d h) (Res.fail [71])) (λv h=>Res.pan v (forget whole loc0) d h) (λl=>Res.fail l) (k f args h))
    (λv=>Res.pan v (forget whole loc0) d h)
    (λv=>evOps k whole loc0 l (zAc out (AV.tup []) loc) (AV.tup []::tmp) (v::d) h)
    (λn=>Res.fail [n]) (evOp op loc tmp h)) (evOps k whole loc0 l (zAc out (AV.tup []) loc) (AV.tup []::tmp) d h)):=λ_=>rfl
  rw[e] at hg q;simp only[PE];cases hgd:zAt loc tmp g with
  | none=>rw[hgd] at hg;exact hg.elim
  | some t=>
   rw[hgd] at hg q;cases t with
   | false=>exact⟨λ_=>PE.back l _ _ _ _ hg q,λx=>by cases x⟩
   | true=>
    refine⟨λx=>(by cases x),λ_=>?_⟩;have val:∀v h',(bi (reads loc tmp h' re) (evOps (zAw tab (evC tab n)) whole loc0 l (zAc out v loc) (v::tmp) d h') (Res.fail [71])).good->Q (bi (reads loc tmp h' re) (evOps (zAw tab (evC tab n)) whole loc0 l (zAc out v loc) (v::tmp) d h') (Res.fail [71]))->reads loc tmp h' re=true/\PE tab whole loc0 l (zAc out v loc) (v::tmp) d h' Q:=by
     intro v h' hg q;cases hr:reads loc tmp h' re with
     | false=>rw[hr] at hg;exact hg.elim
     | true=>rw[hr] at hg q;exact⟨rfl,PE.back l _ _ _ _ hg q⟩
    cases ho:evOp op loc tmp h with
    | val v h'=>rw[ho] at hg q;exact val v h' hg q
    | enter f args=>
     rw[ho] at hg q;have hg:(CR.rec (motive:=λ_=>Res) (λv h=>bi (reads loc tmp h re) (evOps (zAw tab (evC tab n)) whole loc0 l (zAc out v loc) (v::tmp) d h) (Res.fail [71])) (λv h=>Res.pan v (forget whole loc0) d h) (λl=>Res.fail l) (zAw tab (evC tab n) f args h):Res).good:=hg;have q:Q (CR.rec (motive:=λ_=>Res) (λv h=>bi (reads loc tmp h re) (evOps (zAw tab (evC tab n)) whole loc0 l (zAc out v loc) (v::tmp) d h) (Res.fail [71])) (λv h=>Res.pan v (forget whole loc0) d h) (λl=>Res.fail l) (zAw tab (evC tab n) f args h):Res):=q;have gc:(zAw tab (evC tab n) f args h).good->Gives tab f args h (zAw tab (evC tab n) f args h):=gives_call;cases hc:zAw tab (evC tab n) f args h with
     | fail l=>rw[hc] at hg;exact hg.elim
     | ret v h'=>rw[hc] at hg q gc;exact⟨_,gc trivial,val v h' hg q⟩
     | pan v h'=>rw[hc] at q gc;exact⟨_,gc trivial,q⟩
    | pan v=>rw[ho] at q;exact q
    | dfr v=>rw[ho] at hg q;exact PE.back l _ _ _ _ hg q
    | fail m=>rw[ho] at hg;exact hg.elim
theorem run_ops{l:List AOper}:Rn tab (.code (.ops l)::k) none loc d h Q=PE tab l loc l loc [] d h (onK tab k Q):=by
 rw[zA1];refine propext ⟨λ⟨r,⟨hg,n,hn⟩,q⟩=>?_,wc_opse⟩;cases n with
 | zero=>have hn:Res.fail [91]=r:=hn;rw[<-hn] at hg;exact hg.elim
 | succ n=>
  have hn:evOps (zAw tab (evC tab n)) l loc l loc [] d h=r:=hn;rw[<-hn] at hg q;exact PE.back l _ _ _ _ hg q
def onLoop(inv:Nat->T AV->List AV->AH->Prop)(m:Nat)(R:Res->Prop):Res->Prop:=onRes (λl d h=>∃m',m'<m/\inv m' l d h) (λid l d h=>R (.exit id l d h)) R
theorem zJa{inv:Nat->T AV->List AV->AH->Prop}{m:Nat}{R:Res->Prop}:onLoop inv m R (.norm loc d h)=∃m',m'<m/\inv m' loc d h:=rfl
theorem zJb{inv:Nat->T AV->List AV->AH->Prop}{m:Nat}{R:Res->Prop}:onLoop inv m R (.exit id loc d h)=R (.exit id loc d h):=rfl
theorem zKn{inv:Nat->T AV->List AV->AH->Prop}{m:Nat}{R:Res->Prop}:onLoop inv m R (.ret loc d h)=R (.ret loc d h):=rfl
theorem zKo{inv:Nat->T AV->List AV->AH->Prop}{m:Nat}{R:Res->Prop}{v:AV}:onLoop inv m R (.pan v loc d h)=R (.pan v loc d h):=rfl
theorem onK_nil:onK tab [] Q=Q:=by funext r;cases r<;>rfl
theorem zAd(inv:Nat->T AV->List AV->AH->Prop)(step:∀m l d h,inv m l d h->Rn tab [.code a] none l d h (onLoop inv m (onK tab k Q)))(n:Nat)(x:inv n loc d h):Rn tab (.code (.loop a)::k) none loc d h Q:=by
 rw[zA1];refine wc_while inv (λm l d h hi=>?_) n x;have:=step m l d h hi;rw[zA1,onK_nil] at this;refine this.mono λr q=>?_;cases r<;>exact q
def onMid(I:T AV->List AV->AH->Prop)(R:Res->Prop):Res->Prop:=onRes I (λid l d h=>R (.exit id l d h)) R
theorem zKl{I:T AV->List AV->AH->Prop}{R:Res->Prop}:onMid I R (.norm loc d h)=I loc d h:=rfl
theorem zKm{I:T AV->List AV->AH->Prop}{R:Res->Prop}:onMid I R (.exit id loc d h)=R (.exit id loc d h):=rfl
theorem onMid_ret{I:T AV->List AV->AH->Prop}{R:Res->Prop}:onMid I R (.ret loc d h)=R (.ret loc d h):=rfl
theorem onMid_pan{I:T AV->List AV->AH->Prop}{R:Res->Prop}{v:AV}:onMid I R (.pan v loc d h)=R (.pan v loc d h):=rfl
theorem zAi{f n:Nat}{body:ACode}{rs:List ARes}{args:List AV}{R E:AV->AH->Prop}(ht:tab f=some (.mk n body rs))(hn:args.length=n)(x:Rn tab [.code body] none (zAb args) [] h (zFi rs R E)):GE tab f args h R E:=by
 rw[zA1,onK_nil] at x;exact ge_of ht hn x
theorem gpr{f n:Nat}{body:ACode}{rs:List ARes}{args:List AV}{R:AV->AH->Prop}(ht:tab f=some (.mk n body rs))(x:Rn tab [.code body] none (zAb args) [] h (zFi rs R λ_ _=>False))(hn:args.length=n:=by rfl):GP tab f args h R:=GE.gp (zAi ht hn x) λ_ _=>id
def onVs(x:Option (List AV))(K:List AV->Prop):Prop:=match x with | some vs=>K vs | none=>False
theorem onVs_some{vs:List AV}{K:List AV->Prop}:onVs (some vs) K=K vs:=rfl
theorem end_ret{rs:List ARes}{R E:AV->AH->Prop}:zFi rs R E (.ret loc [] h)=onVs (results rs loc h) λvs=>R (one vs) h:=by
 rw[onEndE_ret];cases results rs loc h with
 | none=>exact propext ⟨λ⟨_,x,_⟩=>(by cases x),λx=>x.elim⟩
 | some vs=>exact propext ⟨λ⟨_,x,q⟩=>by injection x with x;rw[x];exact q,λq=>⟨vs,rfl,q⟩⟩
theorem end_norm{rs:List ARes}{R E:AV->AH->Prop}:zFi rs R E (.norm loc [] h)=onVs (results rs loc h) λvs=>R (one vs) h:=by
 rw[onEndE_norm];cases results rs loc h with
 | none=>exact propext ⟨λ⟨_,x,_⟩=>(by cases x),λx=>x.elim⟩
 | some vs=>exact propext ⟨λ⟨_,x,q⟩=>by injection x with x;rw[x];exact q,λq=>⟨vs,rfl,q⟩⟩
def consO(v:AV):Option (List AV)->Option (List AV)
 | some l=>some (v::l)
 | none=>none
theorem zK4{v:AV}{l:List AV}:consO v (some l)=some (v::l):=rfl
theorem results_v{x:Opd}{rs:List ARes}:results (.val x::rs) loc h=consO (ev loc [] x) (results rs loc h):=by
 show obind (results rs loc h) Option.none _=_;cases results rs loc h<;>rfl
def consC(o:OR)(l:Option (List AV)):Option (List AV):=match o with
 | .val v _=>consO v l
 | _=>none
theorem consC_val{v:AV}{l:Option (List AV)}:consC (.val v h) l=consO v l:=rfl
theorem zKj{n:Nat}{x:Opd}{rs:List ARes}:results (.cellN n x::rs) loc h=consC (zAy n (.c (ev loc [] x)) .leaf [] h) (results rs loc h):=by
 have e:∀v l,ev loc [] x=v->results rs loc h=l->results (.cellN n x::rs) loc h=obind l Option.none λl=>AV.rec (motive_1:=λ_=>Option (List AV)) (motive_2:=λ_=>Unit) Option.none (λ_=>Option.none) (λ_ _=>Option.none) (λ_ _=>Option.none) (λid off=>obind (AH.get h id) Option.none λo=>AObj.rec (motive:=λ_=>Option (List AV)) (λc _ _ _=>obind (loadL c n off) Option.none λv=>some (AV.agg v::l)) (λ_ _=>Option.none) (λ_ _ _ _=>Option.none) o) Option.none (λ_ _ _ _=>Option.none) Option.none (λ_=>Option.none) Option.none (λ_ _ _ _ _=>Option.none) Option.none (λ_ _ _=>Option.none) Option.none (λ_ _=>Option.none) (λ_ _=>Option.none) () (λ_ _ _ _=>()) v:=by
  intro v l hv hl;subst hv;subst hl;rfl
 have o:∀id off,zAy n (.c (.ptr id off)) .leaf [] h=zAq (AH.get h id) λc _ _ _=>obind (loadL c n off) (F 18) λl=>OR.val (.agg l) h:=λ_ _=>rfl;generalize hv:ev loc [] x=v;generalize hl:results rs loc h=l;rw[e v l hv hl];cases v with
 | ptr id off=>
  rw[o,q2f];cases l with
  | none=>cases hg:h.mem.get id with
   | none=>rfl
   | some ob=>cases ob with
    | cells c s p r=>show _=consC (obind (loadL c n off) (F 18) _) none;cases loadL c n off<;>rfl
    | _=>rfl
  | some l=>
   cases hg:h.mem.get id with
   | none=>show obind (AH.get h id) none _=_;rw[q2f,hg];rfl
   | some ob=>
    show obind (AH.get h id) none _=_;rw[q2f,hg];cases ob with
    | cells c s p r=>show obind (loadL c n off) none _=consC (obind (loadL c n off) (F 18) _) (some l);cases loadL c n off<;>rfl
    | _=>rfl
 | _=>cases l<;>rfl
theorem results_c{x:Opd}{rs:List ARes}:results (.cell x::rs) loc h=consC (oLoad (.c (ev loc [] x)) .leaf [] h) (results rs loc h):=by
 have e:∀v l,ev loc [] x=v->results rs loc h=l->results (.cell x::rs) loc h=obind l Option.none λl=>AV.rec (motive_1:=λ_=>Option (List AV)) (motive_2:=λ_=>Unit) Option.none (λ_=>Option.none) (λ_ _=>Option.none) (λ_ _=>Option.none) (λid off=>obind (AH.get h id) Option.none λo=>AObj.rec (motive:=λ_=>Option (List AV)) (λc _ _ _=>obind (T.get c off) Option.none λv=>some (v::l)) (λ_ _=>Option.none) (λ_ _ _ _=>Option.none) o) Option.none (λ_ _ _ _=>Option.none) Option.none (λ_=>Option.none) Option.none (λ_ _ _ _ _=>Option.none) Option.none (λ_ _ _=>Option.none) Option.none (λ_ _=>Option.none) (λ_ _=>Option.none) () (λ_ _ _ _=>()) v:=by
  intro v l hv hl;subst hv;subst hl;rfl
 have o:∀id off,oLoad (.c (.ptr id off)) .leaf [] h=zAq (AH.get h id) λc _ _ _=>obind (T.get c off) (F 17) λv=>OR.val v h:=λ_ _=>rfl;generalize hv:ev loc [] x=v;generalize hl:results rs loc h=l;rw[e v l hv hl];cases v with
 | ptr id off=>
  rw[o,q2f];cases l with
  | none=>cases hg:h.mem.get id with
   | none=>rfl
   | some ob=>cases ob with
    | cells c s p r=>show _=consC (obind (T.get c off) (F 17) _) none;cases T.get c off<;>rfl
    | _=>rfl
  | some l=>
   cases hg:h.mem.get id with
   | none=>show obind (AH.get h id) none _=_;rw[q2f,hg];rfl
   | some ob=>
    show obind (AH.get h id) none _=_;rw[q2f,hg];cases ob with
    | cells c s p r=>show obind (T.get c off) none _=consC (obind (T.get c off) (F 17) _) (some l);cases T.get c off<;>rfl
    | _=>rfl
 | _=>cases l<;>rfl
noncomputable def nh(tab:Nat->Option AFunc)(f:Nat)(args:List AV)(h:AH):AH:=open Classical in if H:∃h1,More h h1/\∃v,Gives tab f args h (.ret v h1) then Classical.choose H else h
theorem zHm{f:Nat}{args:List AV}:More h (nh tab f args h):=by
 unfold nh;split
 ·rename_i H;exact(Classical.choose_spec H).1
 ·exact q2o h
theorem nh_eq{f:Nat}{args:List AV}{v:AV}{h1:AH}(m:More h h1)(g:Gives tab f args h (.ret v h1)):nh tab f args h=h1:=by
 have H:∃h1,More h h1/\∃v,Gives tab f args h (.ret v h1):=⟨h1,m,v,g⟩;have e:nh tab f args h=Classical.choose H:=by unfold nh;rw[dif_pos H]
 rw[e];obtain⟨_,v',g'⟩:=Classical.choose_spec H;have:=g'.uniq g;injection this
theorem ge_nh{f:Nat}{args:List AV}{v0:AV}{R E:AV->AH->Prop}(g:GP tab f args h λv h1=>v=v0/\More h h1):GE tab f args h R E=R v0 (nh tab f args h):=by
 obtain⟨v,h1,gi,rfl,m⟩:=g;rw[nh_eq m gi];refine propext ⟨λ⟨r,g',q⟩=>?_,λq=>⟨_,gi,q⟩⟩;have:=gi.uniq g';subst this;exact q
class MoreC(h h':AH):Prop where
 m:More h h'
instance:MoreC h h:=⟨q2o h⟩
instance{h':AH}{f:Nat}{args:List AV}[x:MoreC h h']:MoreC h (nh tab f args h'):=⟨x.m.trans zHm⟩
instance{h':AH}{o:AObj}[x:MoreC h h']:MoreC h (h'.add o):=⟨x.m.trans (q2g _ _)⟩
theorem moreT{h':AH}[x:MoreC h h']:More h h'=True:=eq_true x.m
theorem kp{h':AH}{o:Option AObj}(g:h.mem.get id=o)(hi:id<h.next)[x:MoreC h h']:h'.mem.get id=o:=(x.m.keep id hi).trans g
end
theorem guardE_i{tab:Nat->Option AFunc}{whole l:List AOper}{loc0 loc:T AV}{op:AOp}{out:Option Nat}{re:List ARe}{tmp d:List AV}{h:AH}{Q:Res->Prop}{q:Bool}:zG0 tab whole loc0 l op out re loc tmp d h Q (some q)=if q=true then stepE tab whole loc0 l out re loc tmp d h Q (evOp op loc tmp h) else PE tab whole loc0 l (zAc out (.tup []) loc) (.tup []::tmp) d h Q:=by
 cases q<;>simp[zG0]
def zJ7(tab:Nat->Option AFunc)(v:AV)(a b:ACode)(k:List Fr)(loc:T AV)(d:List AV)(h:AH)(Q:Res->Prop):Prop:=condR v (Rn tab (.code a::k) none loc d h Q) (Rn tab (.code b::k) none loc d h Q)
section
variable{tab:Nat->Option AFunc}{a b:ACode}{k:List Fr}{loc:T AV}{d:List AV}{h:AH}{Q:Res->Prop}
theorem run_condD{o:Opd}:Rn tab (.code (.cond o a b)::k) none loc d h Q=zJ7 tab (ev loc [] o) a b k loc d h Q:=run_cond
theorem cond_t:zJ7 tab (.bool true) a b k loc d h Q=Rn tab (.code a::k) none loc d h Q:=rfl
theorem cond_f:zJ7 tab (.bool false) a b k loc d h Q=Rn tab (.code b::k) none loc d h Q:=rfl
theorem cond_not{q:Bool}:zJ7 tab (.bool (!q)) a b k loc d h Q=zJ7 tab (.bool q) b a k loc d h Q:=by cases q<;>rfl
theorem cond_by{p:Prop}[Decidable p](x:p->Rn tab (.code a::k) none loc d h Q)(y:¬p->Rn tab (.code b::k) none loc d h Q):zJ7 tab (.bool (decide p)) a b k loc d h Q:=by
 unfold zJ7;by_cases h:p
 ·simp only[condR,h,decide_true,if_true];exact x h
 ·simp only[condR,h,decide_false];exact y h
end
theorem guardE_by{tab:Nat->Option AFunc}{whole l:List AOper}{loc0 loc:T AV}{op:AOp}{out:Option Nat}{re:List ARe}{tmp d:List AV}{h:AH}{Q:Res->Prop}{p:Prop}[Decidable p](x:p->stepE tab whole loc0 l out re loc tmp d h Q (evOp op loc tmp h))(y:¬p->PE tab whole loc0 l (zAc out (.tup []) loc) (.tup []::tmp) d h Q):zG0 tab whole loc0 l op out re loc tmp d h Q (some (decide p)):=by
 rw[guardE_i];by_cases h:p
 ·simp only[h,decide_true,if_true];exact x h
 ·simp only[h,decide_false];exact y h
theorem not_dec{p:Prop}[Decidable p]:(!decide p)=decide (¬p):=(decide_not ..).symm
theorem zIa{tab:Nat->Option AFunc}{whole l:List AOper}{loc0 loc:T AV}{op:AOp}{out:Option Nat}{re:List ARe}{tmp d:List AV}{h:AH}{Q:Res->Prop}{q:Bool}(x:q=true->stepE tab whole loc0 l out re loc tmp d h Q (evOp op loc tmp h))(y:q=false->PE tab whole loc0 l (zAc out (.tup []) loc) (.tup []::tmp) d h Q):zG0 tab whole loc0 l op out re loc tmp d h Q (some q):=by
 rw[guardE_i];cases q;exact y rfl;exact x rfl
def RN:=q0b EE (q0b @zC6 (q0b @run_ops (q0b @run_cond (q0b @run_block (q0b @run_skip (q0b @run_ret (q0b @run_exit (q0b @run_blk (q0b @zLg (q0b @zGq (q0b @run_nil (q0b @run_nilx (q0b @zD3 (q0b @zDj (q0b @zGc (q0b @zHl (q0b @zJa (q0b @zJb (q0b @zKn (q0b @zKo (q0b @zKl (q0b @zKm (q0b @onMid_ret (q0b @onMid_pan (q0b @condR_bool (q0b @end_ret (q0b @end_norm (q0b @onVs_some (q0b @zK4 (q0b @results_v (q0b @zA5 (q0b @results_c (q0b @zKj (q0b @consC_val (q0b @zHk (q0b @one_nil (q0b @one_more (q0b @decide_eq_true_eq (q0b @decide_true (q0b @decide_false (q0b @eq_self.{1} (q0b @true_and @and_true))))))))))))))))))))))))))))))))))))))))))
def RB:=q0b EE (q0b @zC6 (q0b @run_ops (q0b @run_condD (q0b @run_block (q0b @run_skip (q0b @run_ret (q0b @run_exit (q0b @run_blk (q0b @zLg (q0b @zGq (q0b @run_nil (q0b @run_nilx (q0b @zD3 (q0b @zDj (q0b @zGc (q0b @zHl (q0b @zJa (q0b @zJb (q0b @zKn (q0b @zKo (q0b @zKl (q0b @zKm (q0b @onMid_ret (q0b @onMid_pan (q0b @end_ret (q0b @end_norm (q0b @onVs_some (q0b @zK4 (q0b @results_v (q0b @zA5 (q0b @results_c (q0b @zKj (q0b @consC_val (q0b @zHk (q0b @one_nil (q0b @one_more (q0b @decide_eq_true_eq (q0b @decide_true (q0b @decide_false (q0b @eq_self.{1} (q0b @true_and (q0b @and_true (q0b @cond_t (q0b @cond_f (q0b @cond_not (q0b @not_dec (q0b @Classical.not_not (q0b @not_true_eq_false (q0b @not_false_eq_true (q0b @Bool.not_true (q0b @Bool.not_false (q0b @Bool.false_eq_true (q0b @Bool.true_eq_false (q0b @and_false (q0b @false_and (q0b @or_true (q0b @true_or (q0b @or_false (q0b @false_or (q0b @or_self @and_self))))))))))))))))))))))))))))))))))))))))))))))))))))))))))))
structure InsD where
 op:Int
 typ:List UInt8
 args:List Int
 n:Int
 name:List UInt8
structure BlkD where
 list:List Int
 jump:Int
 arg:Int
 to0:Int
 to1:Int
structure FunD where
 name:List UInt8
 params:List (List UInt8)
 result:List UInt8
 slots:List (List UInt8)
 ins:List InsD
 blocks:List BlkD
structure FieldD where
 name:List UInt8
 typ:List UInt8
structure zA9 where
 name:List UInt8
 fields:List FieldD
structure ProgD where
 structs:List zA9
 globals:List FieldD
 funs:List FunD
def I64(z:Int):Prop:=-9223372036854775808<=z/\z<9223372036854775808
theorem zH9{z:Int}(h:(Lit.int .i64 z).wf=true):I64 z:=by
 simp[Lit.wf,IntKind.min,IntKind.max,IntKind.signed,IntKind.bits] at h;unfold I64;omega
def IntR(cs:List AV)(z:Int):Prop:=cs=[.int .i64 z]/\I64 z
def StrR(cs:List AV)(l:List UInt8):Prop:=cs=[sv l]/\l.length<=maxLen
def InsR(h:AH)(cs:List AV)(x:InsD):Prop:=∃va,cs=[.int .i64 x.op,sv x.typ,va,.int .i64 x.n,sv x.name]/\SlD h 1 IntR va x.args/\I64 x.op/\I64 x.n/\x.typ.length<=maxLen/\x.name.length<=zBq
def BlkR(h:AH)(cs:List AV)(x:BlkD):Prop:=∃vl,cs=[vl,.int .i64 x.jump,.int .i64 x.arg,.int .i64 x.to0,.int .i64 x.to1]/\SlD h 1 IntR vl x.list/\I64 x.jump/\I64 x.arg/\I64 x.to0/\I64 x.to1
def FunR(h:AH)(cs:List AV)(x:FunD):Prop:=∃vp vs vi vb,cs=[sv x.name,vp,sv x.result,vs,vi,vb]/\SlD h 1 StrR vp x.params/\SlD h 1 StrR vs x.slots/\SlD h 5 (InsR h) vi x.ins/\SlD h 5 (BlkR h) vb x.blocks/\x.name.length<=maxLen/\x.result.length<=maxLen
def zDg(cs:List AV)(x:FieldD):Prop:=cs=[sv x.name,sv x.typ]/\x.name.length<=maxLen/\x.typ.length<=maxLen
def StructR(h:AH)(cs:List AV)(x:zA9):Prop:=∃vf,cs=[sv x.name,vf]/\SlD h 2 zDg vf x.fields/\x.name.length<=maxLen
def ProgR(h:AH)(cs:List AV)(x:ProgD):Prop:=∃vs vg vf,cs=[vs,vg,vf]/\SlD h 2 (StructR h) vs x.structs/\SlD h 2 zDg vg x.globals/\SlD h 6 (FunR h) vf x.funs
def sInt:Sh:=.int .i64
def sIns:Sh:=.struct [sInt,.str,.slice sInt,sInt,.str]
def sBlk:Sh:=.struct [.slice sInt,sInt,sInt,.arr 2 sInt]
def sFun:Sh:=.struct [.str,.slice .str,.str,.slice .str,.slice sIns,.slice sBlk]
def sField:Sh:=.struct [.str,.str]
def sStruct:Sh:=.struct [.str,.slice sField]
def sProg:Sh:=.struct [.slice sStruct,.slice sField,.slice sFun]
section
variable{h:AH}{cs:List AV}
theorem zEd{α:Type}{l:List α}(h:l.length=1):∃x,l=[x]:=by
 cases l with
 | nil=>cases h
 | cons x l=>cases l with
  | nil=>exact⟨x,rfl⟩
  | cons y l=>simp at h
theorem int_in(x:ShR h sInt cs):∃z,IntR cs z:=by
 obtain⟨n,rfl,hw⟩:=x;exact⟨n,rfl,zH9 hw⟩
theorem zGf{n:Nat}(h:n<=zBq):n<=maxLen:=q0m h (by decide)
theorem str_in(x:ShR h .str cs):∃l,StrR cs l:=let⟨l,e,h⟩:=x;⟨l,e,zGf h⟩
theorem field_in(x:ShR h sField cs):∃f,zDg cs f:=by
 obtain⟨a,b,rfl,_,⟨n,rfl,hn⟩,⟨a2,b2,rfl,_,⟨t,rfl,ht⟩,rfl⟩⟩:=x;exact⟨⟨n,t⟩,rfl,zGf hn,zGf ht⟩
theorem struct_in(x:ShR h sStruct cs):∃s,StructR h cs s:=by
 obtain⟨a,b,rfl,_,⟨n,rfl,hn⟩,⟨a2,b2,rfl,h2,hs,rfl⟩⟩:=x;obtain⟨v,rfl⟩:=zEd h2;obtain⟨fs,hf⟩:=SlD.of (λcs=>field_in) hs;exact⟨⟨n,fs⟩,v,rfl,hf,zGf hn⟩
theorem ins_in(x:ShR h sIns cs):∃i,InsR h cs i:=by
 obtain⟨a,b,rfl,_,⟨o,rfl,ho⟩,⟨a2,b2,rfl,_,⟨t,rfl,ht⟩,⟨a3,b3,rfl,h3,hs,⟨a4,b4,rfl,_,⟨n,rfl,hn⟩,⟨a5,b5,rfl,_,⟨m,rfl,hm⟩,rfl⟩⟩⟩⟩⟩:=x;obtain⟨v,rfl⟩:=zEd h3;obtain⟨as,hf⟩:=SlD.of (λcs=>int_in) hs;exact⟨⟨o,t,as,n,m⟩,v,rfl,hf,zH9 ho,zH9 hn,zGf ht,hm⟩
theorem blk_in(x:ShR h sBlk cs):∃i,BlkR h cs i:=by
 obtain⟨a,b,rfl,h1,hs,⟨a2,b2,rfl,_,⟨j,rfl,hj⟩,⟨a3,b3,rfl,_,⟨g,rfl,hg⟩,⟨a4,b4,rfl,h4,⟨_,ha⟩,rfl⟩⟩⟩⟩:=x;obtain⟨v,rfl⟩:=zEd h1;obtain⟨ls,hf⟩:=SlD.of (λcs=>int_in) hs;have h4:a4.length=2:=h4
 match a4,h4 with
 | [p,q],_=>
  obtain⟨t0,e0,w0⟩:=ha 0 (by omega);obtain⟨t1,e1,w1⟩:=ha 1 (by omega);have q0:p=.int .i64 t0:=(List.cons.inj (show[p]=[AV.int .i64 t0] from e0)).1;have q1:q=.int .i64 t1:=(List.cons.inj (show[q]=[AV.int .i64 t1] from e1)).1;subst q0;subst q1;exact⟨⟨ls,j,g,t0,t1⟩,v,rfl,hf,zH9 hj,zH9 hg,zH9 w0,zH9 w1⟩
theorem fun_in(x:ShR h sFun cs):∃f,FunR h cs f:=by
 obtain⟨a,b,rfl,_,⟨n,rfl,hn⟩,⟨a2,b2,rfl,h2,hp,⟨a3,b3,rfl,_,⟨r,rfl,hr⟩,⟨a4,b4,rfl,h4,hs,⟨a5,b5,rfl,h5,hi,⟨a6,b6,rfl,h6,hb,rfl⟩⟩⟩⟩⟩⟩:=x;obtain⟨v2,rfl⟩:=zEd h2;obtain⟨v4,rfl⟩:=zEd h4;obtain⟨v5,rfl⟩:=zEd h5;obtain⟨v6,rfl⟩:=zEd h6;obtain⟨ps,hp⟩:=SlD.of (λcs=>str_in) hp;obtain⟨ss,hs⟩:=SlD.of (λcs=>str_in) hs;obtain⟨is,hi⟩:=SlD.of (λcs=>ins_in) hi;obtain⟨bs,hb⟩:=SlD.of (λcs=>blk_in) hb;exact⟨⟨n,ps,r,ss,is,bs⟩,v2,v4,v5,v6,rfl,hp,hs,hi,hb,zGf hn,zGf hr⟩
theorem prog_in(x:ShR h sProg cs):∃p,ProgR h cs p:=by
 obtain⟨a,b,rfl,h1,hs,⟨a2,b2,rfl,h2,hg,⟨a3,b3,rfl,h3,hf,rfl⟩⟩⟩:=x;obtain⟨v1,rfl⟩:=zEd h1;obtain⟨v2,rfl⟩:=zEd h2;obtain⟨v3,rfl⟩:=zEd h3;obtain⟨ss,hs⟩:=SlD.of (λcs=>struct_in) hs;obtain⟨gs,hg⟩:=SlD.of (λcs=>field_in) hg;obtain⟨fs,hf⟩:=SlD.of (λcs=>fun_in) hf;exact⟨⟨ss,gs,fs⟩,v1,v2,v3,rfl,hs,hg,hf⟩
end
end Go.Ev
namespace Go.Ev
abbrev o1(x:AOp):AOper:=.mk x none none []
abbrev o2(x:AOp)(k:Nat):AOper:=.mk x none (some k) []
abbrev o3(x:AOp)(i:Nat)(b:Bool):AOper:=.mk x (some (.t i,b)) none []
def iz(n:Nat):AV:=.int .i64 (.ofNat n)
abbrev ml(k:Nat):AOper:=.mk (.move (.l k)) none none []
abbrev m0:AOper:=.mk (.move (.t 0)) none none []
abbrev mt(i k:Nat):AOper:=.mk (.move (.t i)) none (some k) []
abbrev mc(v:AV)(k:Nat):AOper:=.mk (.move (.c v)) none (some k) []
abbrev ox(i:Nat):AOper:=.mk (.extract i (.t i)) none none []
abbrev sq(l:List AOper)(c:ACode):ACode:=.seq (.ops l) c
abbrev ad(x y:Opd):AOp:=.bin .add x y
abbrev sb(x y:Opd):AOp:=.bin .sub x y
abbrev ls(x y:Opd):AOp:=.bin .lss x y
abbrev gt(x y:Opd):AOp:=.bin .gtr x y
abbrev le(x y:Opd):AOp:=.bin .leq x y
abbrev ge(x y:Opd):AOp:=.bin .geq x y
abbrev en(x y:Opd):AOp:=.eq false .num x y
abbrev nn(x y:Opd):AOp:=.eq true .num x y
abbrev fa(n:Nat)(x:Opd):AOp:=.fieldAddr n x
abbrev ia(n:Nat)(x y:Opd):AOp:=.idxAddr n x y
abbrev lN(n:Nat)(x:Opd):AOp:=.loadN n x
abbrev ld(x:Opd):AOp:=.load x
abbrev nc(x:Opd):AOp:=.nilCheck x
abbrev cf(f:Nat)(l:List Opd):AOp:=.callF f l
abbrev ll(x:Opd):AOp:=.len .sl x
abbrev lt(x:Opd):AOp:=.len .str x
abbrev st(n:Nat)(x y:Opd):AOp:=.store n x y
abbrev pk(x y z:Opd):AOp:=.pick x y z
abbrev ap(a b:Nat)(x y:Opd):AOp:=.append a b x y
abbrev xt(a:Nat)(x:Opd):AOp:=.extract a x
abbrev u0:Opd:=.t 0
abbrev u1:Opd:=.t 1
abbrev u2:Opd:=.t 2
abbrev u3:Opd:=.t 3
abbrev u4:Opd:=.t 4
abbrev u5:Opd:=.t 5
abbrev u6:Opd:=.t 6
abbrev u7:Opd:=.t 7
abbrev u8:Opd:=.t 8
abbrev u9:Opd:=.t 9
abbrev u10:Opd:=.t 10
abbrev u11:Opd:=.t 11
abbrev u12:Opd:=.t 12
abbrev u13:Opd:=.t 13
abbrev u14:Opd:=.t 14
abbrev u15:Opd:=.t 15
abbrev u16:Opd:=.t 16
abbrev u17:Opd:=.t 17
abbrev u18:Opd:=.t 18
abbrev u19:Opd:=.t 19
abbrev u21:Opd:=.t 21
abbrev k0:Opd:=.l 0
abbrev k1:Opd:=.l 1
abbrev k2:Opd:=.l 2
abbrev k3:Opd:=.l 3
abbrev k4:Opd:=.l 4
abbrev k5:Opd:=.l 5
abbrev k6:Opd:=.l 6
abbrev k7:Opd:=.l 7
abbrev k8:Opd:=.l 8
abbrev k9:Opd:=.l 9
abbrev k10:Opd:=.l 10
abbrev k11:Opd:=.l 11
abbrev k12:Opd:=.l 12
abbrev k13:Opd:=.l 13
abbrev k14:Opd:=.l 14
abbrev k15:Opd:=.l 15
abbrev k16:Opd:=.l 16
abbrev k18:Opd:=.l 18
abbrev k20:Opd:=.l 20
abbrev k21:Opd:=.l 21
abbrev k23:Opd:=.l 23
abbrev k24:Opd:=.l 24
abbrev k25:Opd:=.l 25
end Go.Ev
namespace Go.Ev
open Go
section
variable{tab:Nat->Option AFunc}{loc:T AV}{d:List AV}{h:AH}{a b:ACode}{Q:Res->Prop}{k:List Fr}
theorem zDx:∀(pre:List Fr) (k:List Fr) (o:Option Nat) (loc:T AV) (d:List AV) (h:AH),Rn tab (pre++k) o loc d h Q=Rn tab pre o loc d h (onK tab k Q)
 | [],k,none,loc,d,h=>rfl
 | [],k,some id,loc,d,h=>rfl
 | .code c::pre,k,none,loc,d,h=>by
  show WC tab c loc d h (onRes (λl d h=>Rn tab (pre++k) none l d h Q) (λid l d h=>Rn tab (pre++k) (some id) l d h Q) Q)=WC tab c loc d h (onRes (λl d h=>Rn tab pre none l d h (onK tab k Q)) (λid l d h=>Rn tab pre (some id) l d h (onK tab k Q)) (onK tab k Q));congr 1;funext r;cases r with
  | norm l d h=>exact zDx pre k none l d h
  | exit id l d h=>exact zDx pre k (some id) l d h
  | _=>rfl
 | .code _::pre,k,some id,loc,d,h=>zDx pre k (some id) loc d h
 | .blk _::pre,k,none,loc,d,h=>zDx pre k none loc d h
 | .blk i::pre,k,some id,loc,d,h=>by
  show(if i=id then Rn tab (pre++k) none loc d h Q else Rn tab (pre++k) (some id) loc d h Q)=(if i=id then Rn tab pre none loc d h (onK tab k Q) else Rn tab pre (some id) loc d h (onK tab k Q));rw[zDx pre k none,zDx pre k (some id)]
theorem wc_to{tab:Nat->Option AFunc}{c:ACode}{loc:T AV}{d:List AV}{h:AH}{Q Q':Res->Prop}(x:WC tab c loc d h Q)(hq:∀r,Q r->Q' r):WC tab c loc d h Q':=x.mono hq
theorem zEv{Q Q':Res->Prop}(hq:∀r,Q r->Q' r):∀(k:List Fr) (o:Option Nat) (loc:T AV) (d:List AV) (h:AH),Rn tab k o loc d h Q->Rn tab k o loc d h Q'
 | [],none,_,_,_,x=>hq _ x
 | [],some _,_,_,_,x=>hq _ x
 | .code c::k,none,loc,d,h,x=>by
  refine wc_to (show WC tab c loc d h (onRes (λl d h=>Rn tab k none l d h Q) (λid l d h=>Rn tab k (some id) l d h Q) Q) from x) λr q=>?_;cases r with
  | norm l d h=>exact zEv hq k none l d h q
  | exit id l d h=>exact zEv hq k (some id) l d h q
  | ret=>exact hq _ q
  | pan=>exact hq _ q
  | fail=>exact hq _ q
 | .code _::k,some id,loc,d,h,x=>zEv hq k (some id) loc d h x
 | .blk _::k,none,loc,d,h,x=>zEv hq k none loc d h x
 | .blk i::k,some id,loc,d,h,x=>by
  have x:if i=id then Rn tab k none loc d h Q else Rn tab k (some id) loc d h Q:=x;show if i=id then Rn tab k none loc d h Q' else Rn tab k (some id) loc d h Q';split
  ·rename_i e;rw[if_pos e] at x;exact zEv hq k none loc d h x
  ·rename_i e;rw[if_neg e] at x;exact zEv hq k (some id) loc d h x
theorem zKh{f:Fr}:Rn tab (f::.code (.seq a b)::k) none loc d h Q=Rn tab (f::.code a::.code b::k) none loc d h Q:=by
 rw[show f::.code (.seq a b)::k=[f]++(.code (.seq a b)::k) from rfl,show f::.code a::.code b::k=[f]++(.code a::.code b::k) from rfl,zDx,zDx];congr 1;funext r;cases r with
 | norm=>exact zC6
 | _=>rfl
theorem run_s3{f g:Fr}:Rn tab (f::g::.code (.seq a b)::k) none loc d h Q=Rn tab (f::g::.code a::.code b::k) none loc d h Q:=by
 rw[show f::g::.code (.seq a b)::k=[f,g]++(.code (.seq a b)::k) from rfl,show f::g::.code a::.code b::k=[f,g]++(.code a::.code b::k) from rfl,zDx,zDx];congr 1;funext r;cases r with
 | norm=>exact zC6
 | _=>rfl
theorem run_cut(pre:List Fr)(I:T AV->List AV->AH->Prop)(x:Rn tab pre none loc d h (onMid I (onK tab k Q)))(y:∀l d h,I l d h->Rn tab k none l d h Q):Rn tab (pre++k) none loc d h Q:=by
 rw[zDx];refine zEv (λr q=>?_) pre none loc d h x;cases r with
 | norm l d h=>exact y l d h q
 | _=>exact q
theorem run_cut1{f1:Fr}(I:T AV->List AV->AH->Prop)(x:Rn tab [f1] none loc d h (onMid I (onK tab k Q)))(y:∀l d h,I l d h->Rn tab k none l d h Q):Rn tab (f1::k) none loc d h Q:=run_cut [f1] I x y
theorem zIk{f1 f2:Fr}(I:T AV->List AV->AH->Prop)(x:Rn tab [f1,f2] none loc d h (onMid I (onK tab k Q)))(y:∀l d h,I l d h->Rn tab k none l d h Q):Rn tab (f1::f2::k) none loc d h Q:=run_cut [f1,f2] I x y
theorem run_cut3{f1 f2 f3:Fr}(I:T AV->List AV->AH->Prop)(x:Rn tab [f1,f2,f3] none loc d h (onMid I (onK tab k Q)))(y:∀l d h,I l d h->Rn tab k none l d h Q):Rn tab (f1::f2::f3::k) none loc d h Q:=run_cut [f1,f2,f3] I x y
instance{h h':AH}{o o2:AObj}[x:MoreC h h']:MoreC h ((h'.add o).set h'.next o2):=⟨x.m.trans ((q2g _ _).set (q0c _) _)⟩
instance{h h':AH}{o o1 o2:AObj}[x:MoreC h h']:MoreC h (((h'.add o).add o1).set (h'.next+1) o2):=⟨x.m.trans (((q2g _ _).trans (q2g _ _)).set (q0w _) _)⟩
theorem zCu{f:Nat}{args:List AV}{h0:AH}{R E:AV->AH->Prop}(x:∀hB,hB=h0->GE tab f args hB R E):GE tab f args h0 R E:=x _ rfl
theorem zHf{h0:AH}(x:∀hB,hB=h0->Rn tab k none loc d hB Q):Rn tab k none loc d h0 Q:=x _ rfl
end
theorem op_lookup{kt:KT}{z:AV}{ok:Bool}{m k:Opd}{loc:T AV}{tmp:List AV}{h:AH}:evOp (.lookup kt z ok m k) loc tmp h=zEc kt z ok (.c (ev loc tmp m)) (.c (ev loc tmp k)) .leaf [] h:=rfl
theorem op_mapUpd{kt:KT}{m k x:Opd}{loc:T AV}{tmp:List AV}{h:AH}:evOp (.mapUpd kt m k x) loc tmp h=zJe kt (.c (ev loc tmp m)) (.c (ev loc tmp k)) (.c (ev loc tmp x)) .leaf [] h:=rfl
theorem op_mkMap{loc:T AV}{tmp:List AV}{h:AH}:evOp .mkMap loc tmp h=.val (.mp h.next) (h.add (.map [] 0)):=by
 show AH.new h (AObj.map [] 0) (λid h=>OR.val (AV.mp id) h)=_;rw[q2k]
section
variable{α β:Type}[DecidableEq α]{kt:KT}{ek:α->AV}{ev':β->AV}
def encE(ek:α->AV)(ev':β->AV)(es:List (α×β×Nat)):List (AV×AV×Nat):=es.map λe=>(ek e.1,ev' e.2.1,e.2.2)
def getE(k:α)(es:List (α×β×Nat)):Option β:=(es.find? λe=>decide (k=e.1)).map λe=>e.2.1
def setE(k:α)(x:β)(clock:Nat):List (α×β×Nat)->List (α×β×Nat)×Bool
 | []=>([(k,x,clock)],true)
 | e::r=>if k=e.1 then((k,x,e.2.2)::r,false) else(e::(setE k x clock r).1,(setE k x clock r).2)
theorem find_enc(hk:∀a b,keyEq kt (ek a) (ek b)=some (decide (a=b)))(k:α):∀(es:List (α×β×Nat)),find kt (ek k) (encE ek ev' es)=some ((getE k es).map ev')
 | []=>rfl
 | e::es=>by
  have ih:=find_enc hk k es;show obind (keyEq kt (ek k) (ek e.1)) none (λq=>bi q (some (some (ev' e.2.1))) (find kt (ek k) (encE ek ev' es)))=_;rw[hk,zBj,bi_eq,ih];unfold getE;rw[List.find?_cons];by_cases h:k=e.1
  ·rw[if_pos (decide_eq_true h),decide_eq_true h];rfl
  ·rw[if_neg (by rw[decide_eq_false h];decide),decide_eq_false h]
theorem put_enc(hk:∀a b,keyEq kt (ek a) (ek b)=some (decide (a=b)))(k:α)(x:β)(clock:Nat):∀(es:List (α×β×Nat)),putE kt (ek k) (ev' x) clock (encE ek ev' es)=some (encE ek ev' (setE k x clock es).1,(setE k x clock es).2)
 | []=>rfl
 | e::es=>by
  have ih:=put_enc hk k x clock es;show obind (keyEq kt (ek k) (ek e.1)) none (λq=>bi q (some ((ek k,ev' x,e.2.2)::encE ek ev' es,false)) (obind (putE kt (ek k) (ev' x) clock (encE ek ev' es)) none λp=>Prod.rec (motive:=λ_=>Option (List (AV×AV×Nat)×Bool)) (λl b=>some ((ek e.1,ev' e.2.1,e.2.2)::l,b)) p))=_;rw[hk,zBj,bi_eq,ih,zBj,show setE k x clock (e::es)=if k=e.1 then((k,x,e.2.2)::es,false) else(e::(setE k x clock es).1,(setE k x clock es).2) from rfl];by_cases h:k=e.1
  ·rw[if_pos (decide_eq_true h),if_pos h];rfl
  ·rw[if_neg (by rw[decide_eq_false h];decide),if_neg h];rfl
theorem getE_set(k:α)(x:β)(clock:Nat)(n:α):∀(es:List (α×β×Nat)),getE n (setE k x clock es).1=if n=k then some x else getE n es
 | []=>by
  unfold getE setE;rw[List.find?_cons];by_cases h:n=k
  ·rw[if_pos h,decide_eq_true h];rfl
  ·rw[if_neg h,decide_eq_false h]
 | e::es=>by
  have ih:=getE_set k x clock n es;rw[show setE k x clock (e::es)=if k=e.1 then((k,x,e.2.2)::es,false) else(e::(setE k x clock es).1,(setE k x clock es).2) from rfl];by_cases h:k=e.1
  ·rw[if_pos h];unfold getE;rw[List.find?_cons,List.find?_cons];by_cases h2:n=k
   ·rw[if_pos h2,decide_eq_true h2];rfl
   ·rw[if_neg h2,decide_eq_false h2,decide_eq_false (show ¬n=e.1 from λe'=>h2 (e'.trans h.symm))]
  ·rw[if_neg h];unfold getE at ih ⊢;rw[List.find?_cons,List.find?_cons];by_cases h3:n=e.1
   ·have h2:¬n=k:=λe'=>h (e'.symm.trans h3);rw[decide_eq_true h3,if_neg h2]
   ·rw[decide_eq_false h3];exact ih
theorem look_enc(hk:∀a b,keyEq kt (ek a) (ek b)=some (decide (a=b))){h:AH}{id:Nat}{es:List (α×β×Nat)}{clock:Nat}{z:AV}(g:h.mem.get id=some (.map (encE ek ev' es) clock))(k:α):zEc kt z false (.c (.mp id)) (.c (ek k)) .leaf [] h=.val (((getE k es).map ev').getD z) h:=by
 show zDf (AH.get h id) (λes _=>obind (keyEq kt (ek k) (ek k)) (F 55) λ_=>obind (find kt (ek k) es) (F 55) λr=>Option.rec (motive:=λ_=>OR) (bi false (OR.val (AV.tup [z,AV.bool false]) h) (OR.val z h)) (λv=>bi false (OR.val (AV.tup [v,AV.bool true]) h) (OR.val v h)) r)=_;rw[q2f,g];show obind (keyEq kt (ek k) (ek k)) (F 55) (λ_=>obind (find kt (ek k) (encE ek ev' es)) (F 55) _)=_;rw[hk,zBj,find_enc hk,zBj];cases getE k es<;>rfl
theorem upd_enc(hk:∀a b,keyEq kt (ek a) (ek b)=some (decide (a=b))){h:AH}{id:Nat}{es:List (α×β×Nat)}{clock:Nat}(g:h.mem.get id=some (.map (encE ek ev' es) clock))(k:α)(x:β)(mv:(ev' x).mv=true):zJe kt (.c (.mp id)) (.c (ek k)) (.c (ev' x)) .leaf [] h=.val (.tup []) (h.set id (.map (encE ek ev' (setE k x clock es).1) (if(setE k x clock es).2=true then clock+1 else clock))):=by
 show zDf (AH.get h id) (λes clock=>obind (keyEq kt (ek k) (ek k)) (F 56) λ_=>OR.rec (motive:=λ_=>OR) (λx _=>obind (putE kt (ek k) x clock es) (F 56) λp=>Prod.rec (motive:=λ_=>OR) (λl b=>OR.val (AV.tup []) (AH.set h id (AObj.map l (bi b (Nat.succ clock) clock)))) p) (λ_ _=>F 56) (λ_=>F 56) (λ_=>F 56) OR.fail (oMove (.c (ev' x)) .leaf [] h))=_;rw[q2f,g,zAg mv];show obind (keyEq kt (ek k) (ek k)) (F 56) (λ_=>obind (putE kt (ek k) (ev' x) clock (encE ek ev' es)) (F 56) _)=_;rw[hk,zBj,put_enc hk,zBj];show OR.val (AV.tup []) (AH.set h id (AObj.map (encE ek ev' (setE k x clock es).1) (bi (setE k x clock es).2 (Nat.succ clock) clock)))=_;rw[bi_eq]
end
theorem key_str(a b:List UInt8):keyEq (.one .str) (sv a) (sv b)=some (decide (a=b)):=eqS_sv
theorem key_int(a b:Int):keyEq (.one .int) (.int .i64 a) (.int .i64 b)=some (decide (a=b)):=by
 show eqS .int (.int .i64 a) (.int .i64 b)=_;exact eqS_int
variable[Glob]
section
variable{P:Program}
def isNext:AOp->Bool
 | .next _=>true
 | _=>false
theorem cOp_next{cx:Operand->Option Opd}{kill:Bool}{op:Op}{x:Opd}(h:cOp P cx kill op=some (.next x)):∃it,op=.next it false/\cx it=some x:=by
 have key:∀ao,cOp P cx kill op=some ao->isNext ao=true->∃it,op=.next it false/\(cx it).map AOp.next=some ao:=by
  intro ao h hn;unfold cOp at h;split at h
  all_goals (try (exact⟨_,rfl,h⟩))
  all_goals exfalso
  all_goals repeat' (first
   | (cases h;done)
   | (injection h with h;subst h;cases hn;done)
   | (obtain⟨_,_,rfl⟩:=mapS h;cases hn;done)
   | (obtain⟨_,_,h⟩:=bindS h)
   | split at h)
 obtain⟨it,e,hm⟩:=key _ h rfl;obtain⟨y,hy,e2⟩:=mapS hm;injection e2 with e2;subst e2;exact⟨it,e,hy⟩
theorem run_choose{w:World}{k:Nat}(hk:0<k):∃c w2,(choose (.mapNext k)).run P w=.ok c w2/\c<k/\w2.heap=w.heap/\Same w w2:=by
 by_cases h:k<=1
 ·refine⟨0,w,?_,hk,rfl,.refl w⟩;simp[choose,Sem.run,Question.forced,h]
 ·refine⟨_,{w with drawn:=w.drawn+1},?_,Nat.mod_lt (w.tape w.drawn (.mapNext k)) hk,rfl,⟨rfl,rfl,rfl⟩⟩;simp[choose,Sem.run,Question.forced,h,Question.cut]
theorem ERs.mem{ρ:Rho}:∀{l:List (AV×AV×Nat)} {l':List MapEntry},ERs ρ l l'->∀e∈l',∃a x n,(a,x,n)∈l/\VR ρ a e.key/\VR ρ x e.val/\e.born=n
 | _,_,.nil,e,h=>by cases h
 | _,_,.cons a b c r,e,h=>by
  rcases List.mem_cons.mp h with rfl | h
  ·exact⟨_,_,_,q0H ..,a,b,c⟩
  ·obtain⟨a,x,n,h1,h2⟩:=r.mem e h;exact⟨a,x,n,q0s _ h1,h2⟩
theorem ERs.back{ρ:Rho}:∀{l:List (AV×AV×Nat)} {l':List MapEntry},ERs ρ l l'->∀p∈l,∃e∈l',e.born=p.2.2
 | _,_,.nil,e,h=>by cases h
 | _,_,.cons a b c r,e,h=>by
  rcases List.mem_cons.mp h with rfl | h
  ·exact⟨_,q0H ..,c⟩
  ·obtain⟨e,h1,h2⟩:=r.back e h;exact⟨e,q0s _ h1,h2⟩
theorem older_run'{ρ:Rho}{last:Nat}{es:List (AV×AV×Nat)}{es':Array MapEntry}{seen:List Nat}(he:ERs ρ es es'.toList)(ok:seen=[]\/es=[]\/older last es=true):(!seen.reverse.toArray.isEmpty&&!es'.isEmpty&&es'.all (λx=>decide (x.born>=last)))=false:=by
 rcases ok with rfl | rfl | h
 ·simp
 ·have:=ERs_nil he;have he0:es'=#[]:=by apply Array.ext';simpa using this
  rw[he0];simp
 ·have:=zJd he h;have h2:es'.all (λx=>decide (x.born>=last))=false:=by rw[<-Array.all_toList];exact this
  rw[h2,q0N]
theorem next_any{ρ:Rho}{h:AH}{w:World}{ty:TypeId}{vi:Value}{id m since last clock:Nat}{seen:List Nat}{es:List (AV×AV×Nat)}(W:WR ρ h w)(hi:VR ρ (.ptr id 0) vi)(g1:h.mem.get id=some (.iter (some m) since seen last))(g2:h.mem.get m=some (.map es clock))
  (ok:seen=[]\/es=[]\/older last es=true) (old:∀e∈es,e.2.2∉seen->e.2.2<since) :
  ∃v v' w' h',(Instr.next vi false ty).run P w=.ok v' w'/\VR ρ v v'/\WR ρ h' w'/\Step ρ h w ρ h' w'/\((v=.tup [.bool false]/\h'=h/\∀e∈es,e.2.2∈seen)\/∃a x n,(a,x,n)∈es/\n∉seen/\v=.tup [.bool true,a,x]/\h'=h.set id (.iter (some m) since (n::seen) clock)):=by
 cases hi with
 | ptr hrho hp=>
  obtain⟨y,hy,hyr⟩:=W.obj g1 hrho;subst hp;cases hyr with
  | iter hm hseen=>
   rename_i ib isz seen2 blk sblk;subst hseen;obtain⟨es',hb,he,_⟩:=W.getMap g2 hm;have htest:=older_run' he ok;have hnew:(es'.filter λe=>!seen.reverse.toArray.contains e.born).filter (λe=>decide (e.born>=since))=#[]:=by
    apply Array.ext';simp only[Array.toList_filter,List.filter_filter,List.filter_eq_nil_iff,q0C,decide_eq_true_eq,Bool.not_eq_true',not_and];intro e hm he2;obtain⟨a,x,n,h1,_,_,h4⟩:=he.mem e hm;simp only[List.contains_toArray,List.contains_eq_mem,decide_eq_false_iff_not];intro hns;have:=old _ h1 (by rw[<-h4];simpa using hns);simp only at this;omega
   have hold:(es'.filter λe=>!seen.reverse.toArray.contains e.born).filter (λe=>decide (e.born<since))=es'.filter λe=>!seen.reverse.toArray.contains e.born:=by
    apply Array.ext';simp only[Array.toList_filter,List.filter_filter];apply List.filter_congr;intro e hm;obtain⟨a,x,n,h1,_,_,h4⟩:=he.mem e hm;cases hc:seen.reverse.toArray.contains e.born with
    | true=>simp
    | false=>
     have:e.born<since:=by
      have:=old _ h1 (by rw[<-h4];simpa using hc);simp only at this;omega
     simp[this]
   have hy':=zDt (P:=P) hy (λ_ _ _=>Obj.noConfusion);rcases Nat.eq_zero_or_pos (es'.filter λe=>!seen.reverse.toArray.contains e.born).size with hz | hpos
   ·have hl:(es'.filter λe=>!seen.reverse.toArray.contains e.born)=#[]:=Array.size_eq_zero_iff.mp hz;refine⟨.tup [.bool false],.tuple #[.bool false],w,h,?_,.tup (.cons (.bool _) .nil) rfl,W,.refl _ _ _,.inl ⟨rfl,rfl,λe hme=>?_⟩⟩
    ·simp only[Instr.next,Sem.run_bind,hy',Result.andThen_ok,MapKept.run_getObj_map hb,htest,q0G,if_false,hl];simp[choose,Sem.run,Question.forced]
    ·obtain⟨e2,h1,h2⟩:=he.back e hme;have:e2∉(es'.filter λe=>!seen.reverse.toArray.contains e.born).toList:=by rw[hl];simp
     rw[<-h2];simp only[Array.toList_filter,List.mem_filter,not_and] at this;have:=this h1;simpa using this
   ·obtain⟨c,w2,hr,hc,hh,hs⟩:=run_choose (P:=P) (w:=w) hpos;generalize hL:(es'.filter λe=>!seen.reverse.toArray.contains e.born)=L at *;have hEm:∀e,e∈L->e∈es'.toList/\e.born∉seen:=by
     intro e hm2;rw[<-hL] at hm2;simpa using hm2
    obtain⟨hE1,hE2⟩:=hEm _ (Array.getElem_mem hc);obtain⟨a,x,n,h1,h2,h3,h4⟩:=he.mem _ hE1;have hn:n∉seen:=by rw[<-h4];exact hE2
    have W2:=W.of_heap hh;have S2:Step ρ h w ρ h w2:=Step.of_heap hh hs;have hy2:w2.heap[ib]?=some (.mapIter (some blk) since seen.reverse.toArray last):=by rw[hh];exact hy
    have hset:=W2.set (o':=.iter (some m) since (n::seen) clock) (x:=.mapIter (some blk) since (seen.reverse.toArray.push L[c].born) clock) (w':={w2 with heap:=w2.heap.setIfInBounds ib (.mapIter (some blk) since (seen.reverse.toArray.push L[c].born) clock)}) g1 rfl hrho rfl (.iter hm (by simp[h4])) (MapKept.heap_set hy2).1 (λk hk=>(MapKept.heap_set hy2).2 k hk) (by simp) ⟨rfl,rfl,rfl⟩;refine⟨.tup [.bool true,a,x],.tuple #[.bool true,L[c].key,L[c].val],_,h.set id (.iter (some m) since (n::seen) clock),?_,.tup (.cons (.bool _) (.cons h2 (.cons h3 .nil))) rfl,hset.1,S2.trans hset.2,.inr ⟨a,x,n,h1,hn,rfl,rfl⟩⟩;have hne:L.isEmpty=false:=by simpa[Array.isEmpty_iff] using λe=>by rw[e] at hpos;simp at hpos
    have hcand:((if L.isEmpty=true then #[none] else #[])++(L++#[]).map some:Array (Option MapEntry))=L.map some:=by rw[hne];simp
    simp only[Instr.next,Sem.run_bind,hy',Result.andThen_ok,MapKept.run_getObj_map hb,htest,q0G,if_false,hL,hold,hnew];simp only[hcand,Array.size_map,hr,Result.andThen_ok];have hget:(L.map some)[c]?=some (some L[c]):=by simp[hc]
    simp only[hget];have hy2':w2.heap[ib]?=some (.mapIter (some blk) since seen.reverse.toArray last):=hy2;simp[setObj,Sem.run,hy2']
end
def NextN(o:Opd)(j:Nat)(loc:T AV)(d:List AV)(h:AH)(Q:Res->Prop):Prop:=
 ∃id m since last clock seen es,ev loc [] o=.ptr id 0/\h.mem.get id=some (.iter (some m) since seen last)/\h.mem.get m=some (.map es clock)/\(seen=[]\/es=[]\/older last es=true)/\(∀e∈es,e.2.2∉seen->e.2.2<since)/\
  ((∀e∈es,e.2.2∈seen)->Q (.norm (T.put (some (.bool false)) loc j) d h))/\∀a x n,(a,x,n)∈es->n∉seen->Q (.norm (T.put (some (.bool true)) loc j) d (h.set id (.iter (some m) since (n::seen) clock)))
def NCf(tab:Nat->Option AFunc):Nat->ACode->T AV->List AV->AH->(Res->Prop)->Prop
 | 0,_,_,_,_,_=>False
 | n+1,c,loc,d,h,Q=>(∃r,Does tab c loc d h r/\Q r)\/match c with
  | .seq a b=>NCf tab n a loc d h (zC2 (λl d h=>NCf tab n b l d h Q) Q)
  | .cond o a b=>∃q,ev loc [] o=.bool q/\(q=true->NCf tab n a loc d h Q)/\(q=false->NCf tab n b loc d h Q)
  | .block id a=>NCf tab n a loc d h λr=>Q (zCd id r)
  | .loop a=>NCf tab n a loc d h (zC2 (λl d h=>NCf tab n (.loop a) l d h Q) Q)
  | .ops [⟨.next o,none,none,[]⟩,⟨.extract 0 (.t 0),none,some j,[]⟩]=>NextN o j loc d h Q
  | _=>False
def zCn:Code->Bool
 | .region _ ops draw=>!draw||ops.all λo=>match o.op with | .next ..=>false | _=>true
 | .seq a b | .cond _ a b=>zCn a&&zCn b
 | .block _ a | .loop a=>zCn a
 | _=>true
section
variable{P:Program}{tab:Nat->Option AFunc}
def QN(ρ:Rho)(h:AH)(w:World)(m:List Nat)(n:Nat)(Q:Res->Prop)(e:Exit)(a:Act)(w':World):Prop:=∃r,Q r/\QRes ρ h w m n r e a w'
theorem QN.trans{ρ0 ρ:Rho}{h0 h:AH}{w0 w:World}{m:List Nat}{n:Nat}{Q:Res->Prop}{e:Exit}{a':Act}{w':World}(S:Step ρ0 h0 w0 ρ h w)(p:QN ρ h w m n Q e a' w'):QN ρ0 h0 w0 m n Q e a' w':=by
 obtain⟨r,q,x⟩:=p;exact⟨r,q,x.trans S⟩
def NCode(P:Program)(tab:Nat->Option AFunc)(n:Nat):Prop:=∀(m:List Nat) (N:Nat) (c:Code) (c':ACode),cCode P m c=some c'->dstOk N c=true->zCn c=true->∀(loc:T AV) (d:List AV) (h:AH) (Q:Res->Prop),NCf tab n c' loc d h Q->
 ∀(ρ:Rho) (a:Act) (w:World),LocR ρ m loc a->WR ρ h w->DefsR ρ d a.defers->N<=a.tmps.size->c.wp P (QN ρ h w m a.tmps.size Q) a w
def NLoop(P:Program)(tab:Nat->Option AFunc)(n:Nat):Prop:=∀(m:List Nat) (N:Nat) (c:Code) (c':ACode),cCode P m c=some c'->dstOk N c=true->zCn c=true->∀(loc:T AV) (d:List AV) (h:AH) (Q:Res->Prop),NCf tab n (.loop c') loc d h Q->
 ∀(ρ:Rho) (a:Act) (w:World),LocR ρ m loc a->WR ρ h w->DefsR ρ d a.defers->N<=a.tmps.size->wpL P c (QN ρ h w m a.tmps.size Q) a w
theorem thenN{ρ:Rho}{h:AH}{w:World}{m:List Nat}{n:Nat}{Q:Res->Prop}{K:T AV->List AV->AH->Prop}{G:Act->World->Prop}(hn:∀loc d h' a' w',K loc d h'->Post ρ h w m n loc d h' a' w'->G a' w') :
  ∀e a' w',QN ρ h w m n (zC2 K Q) e a' w'->Exit.then G (QN ρ h w m n Q) e a' w':=by
 rintro e a' w' ⟨r,q,x⟩;cases r with
 | norm loc d h'=>cases e<;>first | exact x.elim | exact hn _ _ _ _ _ q x
 | exit id loc d h'=>cases e<;>first | exact x.elim | exact⟨_,q,x⟩
 | ret loc d h'=>cases e<;>first | exact x.elim | exact⟨_,q,x⟩
 | pan v loc d h'=>cases e<;>first | exact x.elim | exact⟨_,q,x⟩
 | fail l=>cases e<;>exact x.elim
theorem zH6{Q Q':Exit->Act->World->Prop}(hq:∀e a w,Q e a w->Q' e a w)(x:LetsOut Q):LetsOut Q':=let⟨a,w,q⟩:=x;⟨a,w,hq _ _ _ q⟩
theorem oper_monoQ{o:Oper}{a:Act}{w:World}{K K':Act->World->Prop}{Q Q':Exit->Act->World->Prop}(hk:∀a w,K a w->K' a w)(hq:∀e a w,Q e a w->Q' e a w)(hh:o.wp P a w K Q):o.wp P a w K' Q':=by
 unfold Oper.wp at *;generalize (execOp a.eval o).run P w=r at *;cases r with
 | ok n w'=>
  cases n<;>simp only[Oper.upon] at hh ⊢ <;>
   first
    | exact hk _ _ hh
    | exact Calls.mono hh (λe w'' he=>by cases e<;>first | exact hk _ _ he | exact hq _ _ _ he | exact zH6 hq he)
    | exact Rows.mono hh (λ_ _ he=>hk _ _ he)
 | halt x w'=>cases x<;>simp only[Oper.upon] at hh ⊢<;>first | exact hq _ _ _ hh | exact hh
theorem zEp{ops:Array Oper}{Q Q':Exit->Act->World->Prop}(hq:∀e a w,Q e a w->Q' e a w):∀(l:List Nat) (a:Act) (w:World),wpOps P ops Q l a w->wpOps P ops Q' l a w
 | [],a,w,h=>hq _ _ _ h
 | i::l,a,w,h=>by
  unfold wpOps at h ⊢;cases ho:ops[i]? with
  | none=>rw[ho] at h;exact zEp hq l a w h
  | some o=>
   rw[ho] at h;simp only at h ⊢;split
   ·rename_i hw;rw[if_pos hw] at h;rcases h with h | ⟨h1,h2⟩
    ·exact .inl (oper_monoQ (λa w=>zEp hq l a w) hq h)
    ·exact .inr ⟨h1,zH6 hq h2⟩
   ·rename_i hw;rw[if_neg hw] at h;exact zEp hq l _ w h
theorem next_region{m:List Nat}{N id:Nat}{ops:Array Oper}{o:Opd}{j:Nat}{loc:T AV}{d:List AV}{h:AH}{Q:Res->Prop}(htab:TabOK P tab)(hm:P.follows .mixedOrders=true)(hc:zIf P m ops ops.toList []=some [⟨.next o,none,none,[]⟩,⟨.extract 0 (.t 0),none,some j,[]⟩])
  (hd:∀o∈ops,∀x,o.dst=some x->x<N) (hx:NextN o j loc d h Q) {ρ:Rho} {a:Act} {w:World} (L:LocR ρ m loc a) (W:WR ρ h w) (D:DefsR ρ d a.defers) (hN:N<=a.tmps.size) :
  (Code.region id ops false).wp P (QN ρ h w m a.tmps.size Q) a w:=by
 obtain⟨ii,mm,since,last,clock,seen,es,e0,g1,g2,ok,old,hend,hone⟩:=hx;cases hl:ops.toList with
 | nil=>rw[hl] at hc;cases hc
 | cons o0 rest=>
  rw[hl] at hc;obtain⟨ao,hao,hc⟩:=bindS hc;obtain⟨aos',haos,hc⟩:=bindS hc;injection hc with hc;injection hc with hc1 hc2;subst hc1;subst hc2;obtain⟨op,hop,hao⟩:=bindS hao;obtain⟨g,hg,hao⟩:=bindS hao;injection hao with hao;injection hao with e1 e2 e3 e4;subst e1;subst e2;obtain⟨it,hit,hcx⟩:=cOp_next hop;have hk:ops[0]?=some o0:=by
   have:ops.toList[0]?=some o0:=by rw[hl];rfl
   simpa using this
  have hmem:o0∈ops:=Array.mem_of_getElem? hk;have hdo:∀x,o0.dst=some x->x<a.tmps.size:=λx hx=>q0d (hd o0 hmem x hx) hN;have X:=zHj (ρ:=ρ) (tmp:=[]) (ts:=[]) L zHa;refine wp_region ?_;have hrange:List.range ops.size=0::List.range' 1 rest.length:=by
   have:ops.size=rest.length+1:=by rw[<-Array.length_toList,hl];rfl
   rw[this,List.range_eq_range',List.range'_succ]
  rw[hrange];unfold wpOps;rw[hk];simp only;rw[if_pos (zFn (loc:=loc) (tmp:=[]) hg (λgi want dd y _ _ h3=>X _ _ h3) rfl)];left;have hv:VR ρ (.ptr ii 0) (a.eval it):=by have:=X _ _ hcx;rw[e0] at this;exact this
  obtain⟨v,v',w',h',hrun,hvr,W',S',hres⟩:=next_any (P:=P) (ty:=o0.type) W hv g1 g2 ok old;have hexec:(execOp a.eval o0).run P w=.ok (.value v') w':=by
   unfold execOp;rw[hit];exact zAf hrun
  unfold Oper.wp;rw[hexec];show wpOps P ops _ (List.range' 1 rest.length) (a.put o0.dst v') w';have hdf:(a.put o0.dst v').defers=a.defers:=by cases o0.dst<;>rfl
  have hL:=LocR.put hdo hvr (L.mono S'.le);rw[e3] at hL;have hT:TmpR ρ [o0.dst] [v] (a.put o0.dst v'):=TmpR.put hdo hvr zHa;have hcall:zG9 P (zAw tab (evC tab 0)):=call_ok htab (all_ok hm htab 0).1;have fin:∀b h2,(∃l,v=.tup (.bool b::l))->h'=h2->Q (.norm (T.put (some (.bool b)) loc j) d h2)->wpOps P ops (QN ρ h w m a.tmps.size Q) (List.range' 1 rest.length) (a.put o0.dst v') w':=by
   intro b h2 hb hh hq;subst hh;have ho:evOps (zAw tab (evC tab 0)) [⟨.extract 0 (.t 0),none,some j,[]⟩] loc [⟨.extract 0 (.t 0),none,some j,[]⟩] loc [v] d h'=.norm (T.put (some (.bool b)) loc j) d h':=by
    obtain⟨l,hb⟩:=hb;rw[hb];rfl
   have key:=zGr (P:=P) (m:=m) (ops:=ops) (call:=zAw tab (evC tab 0)) (whole:=[⟨.extract 0 (.t 0),none,some j,[]⟩]) (loc0:=loc) (ρ0:=ρ) (h0:=h) (w0:=w) (n:=a.tmps.size) hcall (λo ho x hx=>q0d (hd o ho x hx) hN)
    rest 1 [o0.dst] _ loc [v] d h' ρ (a.put o0.dst v') w' _ (by rw[hl];rfl) haos ho trivial hL hT W' (by rw[hdf];exact D) S' (by rw[zEs]) (λo ho k hk=>List.mem_filterMap.2 ⟨o,ho,hk⟩) (λ_ _=>rfl)
   exact zEp (λe a2 w2 q=>⟨_,hq,q⟩) _ _ _ key
  rcases hres with⟨rfl,rfl,hall⟩ | ⟨k,x,n,hin,hns,rfl,rfl⟩
  ·exact fin false h' ⟨_,rfl⟩ rfl (hend hall)
  ·exact fin true _ ⟨_,rfl⟩ rfl (hone _ _ _ hin hns)
theorem zDp{m:List Nat}{ops:Array Oper}{draw:Bool}{c:ACode}(h:zDz P m ops draw=some c):(∃l,c=.ops l)\/∃o,c=.recov o:=by
 unfold zDz at h;split at h
 ·obtain⟨ord,_,h⟩:=bindS h;split at h
  ·obtain⟨aos,_,h⟩:=bindS h;injection h with h;exact .inl ⟨_,h.symm⟩
  ·cases h
 ·split at h
  ·obtain⟨s,_,h⟩:=bindS h;split at h
   ·cases h
   ·injection h with h;exact .inr ⟨_,h.symm⟩
  ·obtain⟨aos,_,h⟩:=bindS h;injection h with h;exact .inl ⟨_,h.symm⟩
theorem draw_calm{m:List Nat}{ops:Array Oper}{o:Opd}{l:List AOper}(h:zDz P m ops true=some (.ops (⟨.next o,none,none,[]⟩::l)))(hc:(ops.all λo=>match o.op with | .next ..=>false | _=>true)=true):False:=by
 have h:(do let ord <-order ops (ancs ops) ops.size [];if zK1 ops (ancs ops) ord then(do some (ACode.ops (<-cDraw P m ops (ancs ops) ord [] []))) else none)=some (ACode.ops (⟨.next o,none,none,[]⟩::l)):=h;obtain⟨ord,_,h⟩:=bindS h;split at h
 ·obtain⟨aos,haos,h⟩:=bindS h;injection h with h;injection h with h;subst h;cases ord with
  | nil=>cases haos
  | cons j0 ord=>
   obtain⟨o0,ho0,haos⟩:=bindS haos;have key:∀re,(do let a <-cOper P m ops false [] o0 re;let r <-cDraw P m ops (ancs ops) ord [j0] [o0.dst];some (a::r))=some (⟨.next o,none,none,[]⟩::l)->False:=by
    intro re haos;obtain⟨ao,hao,haos⟩:=bindS haos;obtain⟨aos',_,haos⟩:=bindS haos;injection haos with haos;injection haos with e1 e2;subst e1;obtain⟨op,hop,hao⟩:=bindS hao;obtain⟨g,hg,hao⟩:=bindS hao;injection hao with hao;injection hao with e1 _ _ _;subst e1;obtain⟨it,hit,_⟩:=cOp_next hop;have:=Array.all_eq_true_iff_forall_mem.1 hc o0 (Array.mem_of_getElem? ho0);rw[hit] at this;cases this
   by_cases h3:clsO o0.op=3
   ·have haos:(if clsO o0.op=3 then(do let re <-zIe P m ops (ancs ops) [] [] j0;let a <-cOper P m ops false [] o0 re;let r <-cDraw P m ops (ancs ops) ord [j0] [o0.dst];some (a::r)) else(do let a <-cOper P m ops false [] o0 [];let r <-cDraw P m ops (ancs ops) ord [j0] [o0.dst];some (a::r)))=some (⟨.next o,none,none,[]⟩::l):=haos;rw[if_pos h3] at haos;obtain⟨re,_,haos⟩:=bindS haos;exact key re haos
   ·have haos:(if clsO o0.op=3 then(do let re <-zIe P m ops (ancs ops) [] [] j0;let a <-cOper P m ops false [] o0 re;let r <-cDraw P m ops (ancs ops) ord [j0] [o0.dst];some (a::r)) else(do let a <-cOper P m ops false [] o0 [];let r <-cDraw P m ops (ancs ops) ord [j0] [o0.dst];some (a::r)))=some (⟨.next o,none,none,[]⟩::l):=haos;rw[if_neg h3] at haos;exact key [] haos
 ·cases h
theorem ncode_step(hm:P.follows .mixedOrders=true)(htab:TabOK P tab){n:Nat}(A:NCode P tab n)(B:NLoop P tab n):NCode P tab (n+1)/\NLoop P tab (n+1):=by
 have det:∀{m:List Nat} {N:Nat} {c:Code} {c':ACode} {loc:T AV} {d:List AV} {h:AH} {Q:Res->Prop},cCode P m c=some c'->dstOk N c=true->(∃r,Does tab c' loc d h r/\Q r)->∀{ρ:Rho} {a:Act} {w:World},LocR ρ m loc a->WR ρ h w->DefsR ρ d a.defers->N<=a.tmps.size->c.wp P (QN ρ h w m a.tmps.size Q) a w:=by
  intro m N c c' loc d h Q hc hd ⟨r,hr,hq⟩ ρ a w L W D hN;obtain⟨k,hk⟩:=hr.at;exact wp_mono ((all_ok hm htab k).1 m N c c' hc hd loc d h r (hk k (q0c _)) hr.1 ρ a w L W D hN) λe a' w' q=>⟨r,hq,q⟩
 have loopOK:NLoop P tab (n+1):=by
  intro m N c c' hc hd hcalm loc d h Q hx ρ a w L W D hN;rcases hx with⟨r,hr,hq⟩ | hx
  ·obtain⟨k,hk⟩:=hr.at;intro b kk cs;obtain⟨e,a',w',q,rr⟩:=(all_ok hm htab k).2 m N c c' hc hd loc d h r (hk k (q0c _)) hr.1 ρ a w L W D hN b kk cs;exact⟨e,a',w',⟨r,hq,q⟩,rr⟩
  ·refine wpL_of (wp_mono (A m N c c' hc hd hcalm loc d h _ hx ρ a w L W D hN) (thenN λloc2 d2 h2 a2 w2 hk p=>?_));obtain⟨ρ2,L2,D2,W2,S2,N2⟩:=p;have:=B m N c c' hc hd hcalm _ _ _ Q hk ρ2 a2 w2 L2 W2 D2 (by omega);intro b k cs;obtain⟨e,a',w',q,rr⟩:=this b k cs;refine⟨e,a',w',?_,rr⟩;rw[N2] at q;exact q.trans S2
 refine⟨?_,loopOK⟩;intro m N c c' hc hd hcalm loc d h Q hx ρ a w L W D hN;have hx0:=hx;rcases hx with hx | hx
 ·exact det hc hd hx L W D hN
 cases c with
 | skip=>cases hc;exact hx.elim
 | ret=>cases hc;exact hx.elim
 | exit id=>cases hc;exact hx.elim
 | seq x y=>
  obtain⟨x',hx',hc⟩:=bindS hc;obtain⟨y',hy',hc⟩:=bindS hc;cases hc;have hd:(dstOk N x&&dstOk N y)=true:=hd;have hcalm:(zCn x&&zCn y)=true:=hcalm;rw[q0C] at hd hcalm;refine wp_seq (wp_mono (A m N x x' hx' hd.1 hcalm.1 loc d h _ hx ρ a w L W D hN) (thenN λloc2 d2 h2 a2 w2 hk p=>?_));obtain⟨ρ2,L2,D2,W2,S2,N2⟩:=p;have:=A m N y y' hy' hd.2 hcalm.2 _ _ _ Q hk ρ2 a2 w2 L2 W2 D2 (by omega);rw[N2] at this;exact wp_mono this λe a' w' q=>q.trans S2
 | cond cc x y=>
  obtain⟨o,ho,hc⟩:=bindS hc;obtain⟨x',hx',hc⟩:=bindS hc;obtain⟨y',hy',hc⟩:=bindS hc;cases hc;have hd:(dstOk N x&&dstOk N y)=true:=hd;have hcalm:(zCn x&&zCn y)=true:=hcalm;rw[q0C] at hd hcalm;obtain⟨q,hq,h1,h2⟩:=hx;have hv:=zHj (ρ:=ρ) (tmp:=[]) (ts:=[]) L zHa _ _ ho;rw[hq] at hv;generalize hae:a.eval cc=u at hv;cases hv;refine wp_cond hae ?_;cases q with
  | true=>exact A m N x x' hx' hd.1 hcalm.1 loc d h Q (h1 rfl) ρ a w L W D hN
  | false=>exact A m N y y' hy' hd.2 hcalm.2 loc d h Q (h2 rfl) ρ a w L W D hN
 | block id x=>
  obtain⟨x',hx',hc⟩:=bindS hc;cases hc;refine wp_block ?_;refine wp_mono (A m N x x' hx' hd hcalm loc d h _ hx ρ a w L W D hN) λe a' w' q=>?_;obtain⟨r,hq,q⟩:=q;cases r with
  | norm l1 d1 hh1=>cases e<;>first | exact q.elim | exact⟨_,hq,q⟩
  | ret l1 d1 hh1=>cases e<;>first | exact q.elim | exact⟨_,hq,q⟩
  | pan v l1 d1 hh1=>cases e<;>first | exact q.elim | exact⟨_,hq,q⟩
  | fail l=>cases e<;>exact q.elim
  | exit id' l1 d1 hh1=>
   cases e<;>try exact q.elim
   rename_i id2;obtain⟨e1,p⟩:=q;subst e1;show if id'=id then _ else _;have hat:zCd id (.exit id' l1 d1 hh1)=if id=id' then .norm l1 d1 hh1 else .exit id' l1 d1 hh1:=by
    simp only[zCd]
   rw[hat] at hq;by_cases hid:id'=id
   ·subst hid;rw[if_pos rfl] at hq;rw[if_pos rfl];exact⟨_,hq,p⟩
   ·rw[if_neg (λe=>hid e.symm)] at hq;rw[if_neg hid];exact⟨_,hq,rfl,p⟩
 | loop x=>
  obtain⟨x',hx',hc⟩:=bindS hc;cases hc;exact wp_of_wpL (loopOK m N x x' hx' hd hcalm loc d h Q hx0 ρ a w L W D hN)
 | region id ops draw=>
  have hdst:∀o∈ops,∀x,o.dst=some x->x<N:=by
   intro o ho x hx;have hd:(ops.all λo=>match o.dst with | some d=>decide (d<N) | none=>true)=true:=hd;have:=Array.all_eq_true_iff_forall_mem.1 hd o ho;rw[hx] at this;exact of_decide_eq_true this
  have hc:(match zDz P m ops draw with | some c=>some c | none=>some zKd)=some c':=hc;cases hcr:zDz P m ops draw with
  | none=>rw[hcr] at hc;cases hc;exact hx.elim
  | some c1=>
  rw[hcr] at hc;cases hc;split at hx
  ·rcases zDp hcr with⟨l,e⟩ | ⟨o,e⟩<;>cases e
  ·rcases zDp hcr with⟨l,e⟩ | ⟨o,e⟩<;>cases e
  ·rcases zDp hcr with⟨l,e⟩ | ⟨o,e⟩<;>cases e
  ·rcases zDp hcr with⟨l,e⟩ | ⟨o,e⟩<;>cases e
  ·rename_i o j;cases draw with
   | false=>
    have hc:(if(ops.toList.any λo=>zFm o.op) then(do let r <-zEi ops.toList;if(zAk m r.1).isSome then none else some (ACode.recov (zAk m r.2))) else(do some (ACode.ops (<-zIf P m ops ops.toList []))))=some (ACode.ops [⟨.next o,none,none,[]⟩,⟨.extract 0 (.t 0),none,some j,[]⟩]):=hcr;split at hc
    ·obtain⟨s,hs,hc⟩:=bindS hc;split at hc<;>cases hc
    ·obtain⟨aos,haos,hc⟩:=bindS hc;injection hc with hc;cases hc;exact next_region htab hm haos hdst hx L W D hN
   | true=>exact(draw_calm hcr hcalm).elim
  ·exact hx.elim
 | _=>cases hc;exact hx.elim
theorem ncode_all(hm:P.follows .mixedOrders=true)(htab:TabOK P tab):∀n,NCode P tab n/\NLoop P tab n
 | 0=>⟨λm N c c' hc hd hcalm loc d h Q hx=>hx.elim,λm N c c' hc hd hcalm loc d h Q hx=>hx.elim⟩
 | n+1=>let⟨A,B⟩:=ncode_all hm htab n;ncode_step hm htab A B
def zGt(rs:List ARes)(R:AV->AH->Prop):Res->Prop
 | .norm l [] h=>∃vs,results rs l h=some vs/\R (one vs) h
 | .ret l [] h=>∃vs,results rs l h=some vs/\R (one vs) h
 | _=>False
def calmF(P:Program)(f:Nat):Bool:=match P.funcs[f]? with | some fn=>(match fn.body with | some c=>zCn c | none=>false) | none=>false
theorem ncall_ok(hm:P.follows .mixedOrders=true)(htab:TabOK P tab){f n k:Nat}{body:ACode}{rs:List ARes}(hcf:cFunc P f=some (.mk n body rs))(hcalm:calmF P f=true){args:List AV}(hlen:args.length=n){h:AH}{R:AV->AH->Prop}
  (hx:NCf tab k body (zAb args) [] h (zGt rs R)) {ρ:Rho} {w:World} {args':List Value} (ha:VRs ρ args args') (W:WR ρ h w) :
  Calls P f args'.toArray w λe w'=>∃v h',R v h'/\RC ρ h w (.ret v h') e w':=by
 obtain⟨fn,c,hfn,hbody,hdst,hcb,hna,hcode,hres⟩:=zH0 hcf;have hna:n=fn.params.size+fn.nfree:=hna;have hcalm':zCn c=true:=by unfold calmF at hcalm;rw[hfn] at hcalm;simp only[hbody] at hcalm;exact hcalm
 have L1:=zHs (fn:=fn) (c:=c) (ρ:=ρ) (args':=args') (by omega) ha;refine calls_of_wp_defers hfn hbody ?_;refine wp_mono ((ncode_all hm htab k).1 (slots fn c) fn.ntmps c body hcode hdst hcalm' (zAb args) [] h _ hx ρ (zEk fn args') w L1 W .nil (zCv _ _)) λe a' w' q=>?_;obtain⟨r,hq,q⟩:=q;have fin:∀l d h1,Post ρ h w (slots fn c) (zEk fn args').tmps.size l d h1 a' w'->(∃vs,results rs l h1=some vs/\R (one vs) h1)->d=[]->Leaves P fn a'.tmps (λe w'=>∃v h',R v h'/\RC ρ h w (.ret v h') e w') a'.defers .returning w':=by
  intro l d h1 hp hv hd;subst hd;obtain⟨vs,hvs,hr⟩:=hv;obtain⟨ρ1,q1,q2,q3,q4,q5⟩:=hp;obtain⟨v,hrun,hvr⟩:=zKi q1 q3 hres hvs;rw[defs_nil q2];exact⟨v,hrun,_,_,hr,ρ1,v,rfl,hvr,q3,q4⟩
 cases r with
 | norm l d h1=>
  cases d with
  | cons _ _=>exact hq.elim
  | nil=>cases e<;>first | exact q.elim | exact fin l [] h1 q hq rfl
 | ret l d h1=>
  cases d with
  | cons _ _=>exact hq.elim
  | nil=>cases e<;>first | exact q.elim | exact fin l [] h1 q hq rfl
 | exit _ _ d _=>cases d<;>exact hq.elim
 | pan _ _ d _=>cases d<;>exact hq.elim
 | fail _=>exact hq.elim
end
end Go.Ev
