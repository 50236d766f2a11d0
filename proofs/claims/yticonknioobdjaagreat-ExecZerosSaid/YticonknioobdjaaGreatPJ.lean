/- ExW1 ExW2 ExW3 ExW4 ExW5 ExW6 ExW7 ExW8 ExW9 ExX1 ExX2 ExX3 ExX4 -/
import Derived.Test.YticonknioobdjaaGreatPI
import Derived.Test.YticonknioobdjaaGreatPF
set_option linter.unusedSimpArgs false
set_option linter.unusedVariables false
set_option linter.unusedSectionVars false
set_option linter.defProp false
set_option maxRecDepth 100000
set_option maxHeartbeats 4000000
namespace Go.Ev
open Go
abbrev stopV(e f:Nat):AV:=.ifc 146 (.agg [nv e,nv f])
theorem endP{rs:List ARes}{R E:AV->AH->Prop}{v:AV}{l:T AV}{h:AH}:zFi rs R E (.pan v l [] h)=E v h:=rfl
section
variable{tab:Nat->Option AFunc}(H:PV tab)
include H in
theorem step_ge{hd h:AH}{lab:Nat->Lab}{M S:Nat}{K:MK}{V:MV}{s:MSt}(X:MacS hd h lab M S K V s)(hs:s.steps<1000000)(hf:s.fuel<1000000):GE tab 174 [.ptr M 0] h (λ_ h1=>∃k,s.fuel=k+1/\MacS hd h1 lab M S K V {s with fuel:=k,steps:=s.steps+1}/\FrK lab h lab h1) (λv h1=>s.fuel=0/\v=stopV 3 0/\h1=h):=by
 have i0:zAb [.ptr M 0]=zAa [.ptr M 0]:=rfl;refine zAi H.t174 rfl ?_;cases hk:s.fuel with
 | zero=>
  obtain⟨c,g,hl,hi,hc⟩:=X.pm id;have c7:c.get 7=some (nv 0):=by rw[hc 7 (by decide),<-hk];rfl
  simp(disch:=omega)only[RL,↓reduceIte,Nat.reduceEqDiff,Nat.reduceAdd,Nat.reduceLeDiff,i0,g,c7,endP]
 | succ k=>
  obtain⟨c,g,c7,c11,X2,f2⟩:=op_step X hk;have n0:¬(((k+1:Nat)):Int)=((0:Nat):Int):=by omega
  simp(disch:=omega)only[RL,↓reduceIte,Nat.reduceEqDiff,Nat.reduceAdd,Nat.reduceLeDiff,i0,g,c7,c11,n0,Nat.add_sub_cancel];exact⟨k,rfl,X2,f2⟩
include H in
theorem zIu{h:AH}{e:Nat}:GE tab 196 [nv e] h (λ_ h1=>e=0/\h1=h) (λv h1=>e≠0/\v=stopV (if e=14 then 4 else 2) e/\h1=h):=by
 have i0:zAb [nv e]=zAa [nv e]:=rfl;refine zAi H.t196 rfl ?_;by_cases h0:e=0
 ·subst h0;simp only[RL,↓reduceIte,Nat.reduceEqDiff,Nat.reduceAdd,Nat.reduceLeDiff,i0]
 ·have n0:¬(e:Int)=((0:Nat):Int):=by omega
  by_cases h1:e=14
  ·subst h1;simp only[RL,↓reduceIte,Nat.reduceEqDiff,Nat.reduceAdd,Nat.reduceLeDiff,i0,n0,endP];exact by decide
  ·have n1:¬(e:Int)=((14:Nat):Int):=by omega
   simp only[RL,↓reduceIte,Nat.reduceEqDiff,Nat.reduceAdd,Nat.reduceLeDiff,i0,n0,n1,h1,endP];exact h0
include H in
theorem zLt{h:AH}{t:Str}(ht:t.length<=maxLen):GP tab 170 [sv t] h λv h1=>v=.bool (elemS t).isSome/\More h h1:=by
 have i0:zAb [sv t]=zAa [sv t]:=rfl;refine gpr H.t170 ?_;simp only[RL,↓reduceIte,i0];refine(elem_gp H ht).to λw h2 q=>?_;obtain⟨rfl,m2⟩:=q;simp only[RL,↓reduceIte];exact m2
include H in
theorem zLb{hd h:AH}{lab:Nat->Lab}{M S:Nat}{K:MK}{V:MV}{s:MSt}(X:MacS hd h lab M S K V s){a b c d e:AV}:GP tab 78 [.ptr M 0,a,b,c,d,e] h λ_ h1=>More h h1:=by
 have i0:zAb [.ptr M 0,a,b,c,d,e]=zAa [.ptr M 0,a,b,c,d,e]:=rfl;obtain⟨cM,g,hl,hi,hc⟩:=X.pm id;have c15:cM.get 15=some .nilf:=hc 15 (by decide);have nM:¬h.next=M:=by omega
 refine gpr H.t78 ?_;simp only[RL,↓reduceIte,Nat.reduceEqDiff,i0,g,c15,nM,moreT]
include H in
theorem zI6{h:AH}{v:AV}{xs:List Int}{f:Nat}{caps:List AV}(a:SlV h 1 IntR v xs)(hx:xs.length<=100000)(hq:∀h1,More h h1->∀i,i<xs.length->∃t:Str,t.length<=maxLen/\GP tab f (nv i::caps) h1 λw h2=>w=sv t/\More h1 h2):GP tab 132 [v,.fn f [] caps] h λw h1=>(∃cs,cs.length<=xs.length/\Arr h1 (λk=>h.next<=k) w cs)/\More h h1:=by
 have i0:zAb [v,.fn f [] caps]=zAa [v,.fn f [] caps]:=rfl;have mv:=a.mv;have ln:=a.len;have hb:=a.bound;unfold maxLen at hb;refine gpr H.t132 ?_;simp(disch:=omega)only[RL,↓reduceIte,Nat.reduceEqDiff,i0,mv,ln];refine zAd (λm l d h1=>∃k w cs,m=xs.length-k/\k<=xs.length/\d=[]/\More h h1/\Arr h1 (λq=>h.next<=q) w cs/\cs.length<=k/\l.get 1=some (.fn f [] caps)/\l.get 2=some (.int .i64 (k:Int))/\l.get 3=some (.int .i64 (xs.length:Int))/\l.get 5=some v/\l.get 8=some w) ?_ (xs.length-0) ⟨0,.nils,[],rfl,q0k _,rfl,q2o h,.nils,q0c _,rfl,rfl,rfl,rfl,rfl⟩;rintro m l d h1 ⟨k,w,cs,rfl,hk,rfl,m1,ra,hcs,l1,l2,l3,l5,l8⟩;haveI:MoreC h h1:=⟨m1⟩;by_cases hlt:k<xs.length
 ·obtain⟨id,o,E,ix,e1,⟨rfl,_⟩,ld,lw⟩:=a.at hlt;have lw:oLoad (.c (.ptr id o)) .leaf [] h1=.val (.int .i64 xs[k]) h1:=lw 0 _ rfl h1;obtain⟨t,ht,hg⟩:=hq h1 m1 k hlt;simp(disch:=omega)only[RL,↓reduceIte,Nat.reduceEqDiff,l1,l2,l3,l5,hlt,ix,lw];refine hg.to λw2 h2 q=>?_;obtain⟨rfl,m2⟩:=q;simp(disch:=omega)only[RL];refine(zLt H ht).to λw3 h3 q=>?_;obtain⟨rfl,m3⟩:=q;have m23:=m2.trans m3;have ra3:=ra.keep ⟨m23.next,λid _ hi=>m23.keep id hi⟩ λ_ f _=>f;have mw:∀h',oMove (.c w) .leaf [] h'=.val w h':=λ_=>zAg ra3.mv;cases hp:(elemS t).isSome with
  | false=>
   simp(disch:=omega)only[RL,↓reduceIte,Nat.reduceEqDiff,l1,l2,l3,l5,l8];exact⟨_,by omega,k+1,w,cs,rfl,by omega,m1.trans m23,ra3,by omega,rfl,rfl⟩
  | true=>
   obtain⟨v',h',ap,ra',nx,kp'⟩:=ra3.pushG 8 (by decide) (x:=iv xs[k]) (by omega);simp(disch:=omega)only[RL,↓reduceIte,Nat.reduceEqDiff,l1,l2,l3,l5,l8,mw,ap,show ∀h',oMove (.c v') .leaf [] h'=.val v' h' from λ_=>zAg ra'.mv];have M3:=m1.trans m23;exact⟨_,by omega,k+1,v',_,rfl,by omega,⟨by have:=M3.next;omega,λq hq=>by rw[kp' q (q0d hq M3.next) λl n e=>by subst e;have:=ra3.isF;omega,M3.keep q hq]⟩,ra'.wk λq l n _ e=>by have:=M3.next;omega,by simp;omega,rfl,rfl⟩
 ·have mw:∀h',oMove (.c w) .leaf [] h'=.val w h':=λ_=>zAg ra.mv;simp(disch:=omega)only[RL,↓reduceIte,Nat.reduceEqDiff,l2,l3,l5,l8,hlt,mw];exact⟨⟨cs,by omega,ra⟩,m1⟩
end
section
variable{tab:Nat->Option AFunc}(H:PV tab){hd h:AH}{lab:Nat->Lab}{M S:Nat}{K:MK}{V:MV}{s:MSt}
include H in
theorem zJj(X:MacS hd h lab M S K V s)(hf:s.frames.length<1000000){fr:Int}:GP tab 199 [.ptr S 0,iv fr] h λv h1=>v=.bool (openS s fr)/\h1=h:=by
 have i0:zAb [.ptr S 0,iv fr]=zAa [.ptr S 0,iv fr]:=rfl;obtain⟨c,g,hl,hi,hc⟩:=X.ps id;have c2:c.get 2=some V.frames:=hc 2 (by decide);have a:Arr h (λk=>lab k=.frames) V.frames (s.frames.map AV.bool):=X.part .frames id;have mv:∀h',oMove (.c V.frames) .leaf [] h'=.val V.frames h':=λ_=>zAg a.mv;have ln:∀h',oLen .sl (.c V.frames) .leaf [] h'=.val (nv s.frames.length) h':=λh'=>by rw[a.len (h':=h'),q0j]
 refine gpr H.t199 ?_;unfold openS;by_cases z0:((1:Nat):Int)<=fr
 ·rw[decide_eq_true (show 1<=fr from z0),q0E];by_cases z1:fr<=(s.frames.length:Int)
  ·rw[decide_eq_true z1,q0E];obtain⟨y,rfl⟩:∃y:Nat,fr=y:=⟨fr.toNat,by omega⟩;have hy:y-1<s.frames.length:=by omega
   obtain⟨id,sz,ca,cap,e,-,-,ga,hca⟩:=a.open (i:=y-1) (by rw[q0j];exact hy);rw[q0j] at e;have hca:ca.get (y-1)=some (.bool (s.frames.getD (y-1) false)):=by rw[hca,q0t,q0e,q0a hy];rfl
   rw[q0n];rw[e] at c2 mv ln;simp(disch:=omega)only[RL,↓reduceIte,i0,g,c2,ln,z0,z1,ga,hca]
  ·rw[decide_eq_false z1,q0D];simp(disch:=omega)only[RL,↓reduceIte,i0,g,c2,ln,z0,z1]
 ·rw[decide_eq_false (show ¬1<=fr from z0),q0D];simp(disch:=omega)only[RL,↓reduceIte,i0,z0]
include H in
theorem is_gp'(X:MacS hd h lab M S K V s){z:Int}:GP tab 229 [.ptr S 0,iv z] h λv h1=>v=.bool (decide (1<=z)&&decide (z<=(s.objs.length:Int)))/\h1=h:=by
 have i0:zAb [.ptr S 0,iv z]=zAa [.ptr S 0,iv z]:=rfl;obtain⟨c,g,hl,hi,hc⟩:=X.ps id;have c1:c.get 1=some V.list:=hc 1 (by decide);have a:ArrN h (λk=>lab k=.list) 3 V.list (zBo s.objs V.fl):=X.part .list (λe=>e);have mv:∀h',oMove (.c V.list) .leaf [] h'=.val V.list h':=λ_=>zAg a.mv;have ln:∀h',oLen .sl (.c V.list) .leaf [] h'=.val (nv s.objs.length) h':=λh'=>by rw[a.len h',zA6 X.fll]
 refine gpr H.t229 ?_;by_cases z0:((1:Nat):Int)<=z
 ·rw[decide_eq_true (show 1<=z from z0),q0E];simp only[RL,↓reduceIte,i0,g,c1,ln,z0]
 ·rw[decide_eq_false (show ¬1<=z from z0),q0D];simp only[RL,↓reduceIte,i0,z0]
include H in
theorem isFreed_gp(X:MacS hd h lab M S K V s)(hf:s.frames.length<1000000)(ho:s.objs.length<1000000){i:Nat}(hi:i<s.objs.length):GP tab 230 [.ptr S 0,nv (i+1)] h λv h1=>v=.bool (freedS s s.objs[i])/\h1=h:=by
 have i0:zAb [.ptr S 0,nv (i+1)]=zAa [.ptr S 0,nv (i+1)]:=rfl;obtain⟨c,g,hl,hiS,hc⟩:=X.ps (λe=>e);have c1:c.get 1=some V.list:=hc 1 (by decide);obtain⟨lid,lc,lsz,f,le,lg,-,l0,l1,l2,-⟩:=X.obj hi;rw[le] at c1;have eo:∀{fr:Int} {R E:AV->AH->Prop},GE tab 199 [.ptr S 0,.int .i64 fr] h R E=R (.bool (openS s fr)) h:=ge_rw (zJj H X hf);refine gpr H.t230 ?_;unfold freedS;by_cases z0:s.objs[i].frame=((0:Nat):Int)
 ·rw[decide_eq_false (show ¬s.objs[i].frame≠0 from λe=>e z0),q0D];simp+decide(disch:=omega)only[RL,↓reduceIte,i0,g,c1,Nat.add_sub_cancel,lg,l1,z0]
 ·rw[decide_eq_true (show s.objs[i].frame≠0 from z0),q0E];simp+decide(disch:=omega)only[RL,↓reduceIte,i0,g,c1,Nat.add_sub_cancel,lg,l1,z0,eo]
include H in
theorem check_gp'(X:MacS hd h lab M S K V s)(hf:s.frames.length<1000000)(ho:s.objs.length<1000000){z k:Int}:GP tab 214 [.ptr S 0,iv z,iv k] h λv h1=>v=nv (chkS s z k)/\h1=h:=by
 have i0:zAb [.ptr S 0,iv z,iv k]=zAa [.ptr S 0,iv z,iv k]:=rfl;obtain⟨c,g,hl,hiS,hc⟩:=X.ps (λe=>e);have c1:c.get 1=some V.list:=hc 1 (by decide);have ei:∀{R E:AV->AH->Prop},GE tab 229 [.ptr S 0,.int .i64 z] h R E=R _ h:=ge_rw (is_gp' H X);refine gpr H.t214 ?_;unfold chkS;by_cases z0:z=((0:Nat):Int)
 ·rw[if_pos (show z=0 from z0)];subst z0;simp+decide(disch:=omega)only[RL,↓reduceIte,i0]
 rw[if_neg (show ¬z=0 from z0)];by_cases z1:1<=z
 ·rw[if_pos z1];rw[decide_eq_true z1] at ei;by_cases z2:z<=(s.objs.length:Int)
  ·rw[decide_eq_true z2] at ei;obtain⟨i,rfl⟩:∃i:Nat,z=((i+1:Nat):Int):=⟨z.toNat-1,by omega⟩;have hi:i<s.objs.length:=by omega
   rw[q0n,Nat.add_sub_cancel,q0a hi];dsimp only;obtain⟨lid,lc,lsz,f,le,lg,-,l0,l1,l2,af⟩:=X.obj hi;rw[le] at c1;have ef:∀{R E:AV->AH->Prop},GE tab 230 [.ptr S 0,nv (i+1)] h R E=R _ h:=ge_rw (isFreed_gp H X hf ho hi);cases hfr:freedS s s.objs[i] with
   | true=>
    rw[hfr] at ef;simp+decide(disch:=omega)only[RL,↓reduceIte,i0,z0,ei,ef,Bool.and_true]
   | false=>
    rw[hfr] at ef;have lnf:∀h',oLen .sl (.c f) .leaf [] h'=.val (nv s.objs[i].fields.length) h':=λh'=>by rw[af.len (h':=h'),q0j]
    have mvf:∀h',oMove (.c f) .leaf [] h'=.val f h':=λ_=>zAg af.mv;rw[if_neg (by decide)];by_cases z3:k<((0:Nat):Int)
    ·rw[if_neg (λe=>by omega)];simp+decide(disch:=omega)only[RL,↓reduceIte,i0,z0,ei,ef,Bool.and_true,z3]
    by_cases z4:(s.objs[i].fields.length:Int)<=k
    ·rw[if_neg (λe=>by omega)];simp+decide(disch:=omega)only[RL,↓reduceIte,i0,z0,ei,ef,Bool.and_true,z3,g,c1,Nat.add_sub_cancel,lg,l2,lnf,z4]
    ·rw[if_pos ⟨by omega,by omega⟩];simp+decide(disch:=omega)only[RL,↓reduceIte,i0,z0,ei,ef,Bool.and_true,z3,g,c1,Nat.add_sub_cancel,lg,l2,lnf,z4]
  ·rw[decide_eq_false z2] at ei;rw[q0i (by omega)];simp+decide(disch:=omega)only[RL,↓reduceIte,i0,z0,ei,q0N]
 ·rw[if_neg z1];rw[decide_eq_false z1,q0D] at ei;simp+decide(disch:=omega)only[RL,↓reduceIte,i0,z0,ei]
theorem zL6{s:MSt}{z k:Int}(h:chkS s z k=0):∃(i j:Nat) (hi:i<s.objs.length),z=((i+1:Nat):Int)/\k=(j:Int)/\j<s.objs[i].fields.length:=by
 unfold chkS at h;split at h
 ·cases h
 split at h
 ·rename_i h0 h1;rcases q0x (z.toNat-1) s.objs.length with hi | hi
  ·rw[q0a hi] at h;dsimp only at h;split at h
   ·cases h
   ·split at h
    ·rename_i h3;exact⟨z.toNat-1,k.toNat,hi,by omega,by omega,by omega⟩
    ·cases h
  ·rw[q0i hi] at h;cases h
 ·cases h
include H in
theorem get_gp'(X:MacS hd h lab M S K V s)(hf:s.frames.length<1000000)(ho:s.objs.length<1000000){z k:Int}:GP tab 195 [.ptr S 0,iv z,iv k] h λv h1=>v=.tup [iv (if chkS s z k=0 then getS s z k else 0),nv (chkS s z k)]/\h1=h:=by
 have i0:zAb [.ptr S 0,iv z,iv k]=zAa [.ptr S 0,iv z,iv k]:=rfl;obtain⟨c,g,hl,hiS,hc⟩:=X.ps (λe=>e);have c1:c.get 1=some V.list:=hc 1 (by decide);have ei:∀{R E:AV->AH->Prop},GE tab 214 [.ptr S 0,.int .i64 z,.int .i64 k] h R E=R _ h:=ge_rw (check_gp' H X hf ho);refine gpr H.t195 ?_;by_cases h0:chkS s z k=0
 ·rw[if_pos h0];obtain⟨i,j,hi,rfl,rfl,hj⟩:=zL6 h0;rw[h0] at ei ⊢;obtain⟨lid,lc,lsz,f,le,lg,-,-,-,l2,af⟩:=X.obj hi;rw[le] at c1;obtain⟨id,sz,cf,cap,e,-,-,gf,hcf⟩:=af.open (i:=j) (by rw[q0j];exact hj);rw[q0j] at e;rw[e] at l2;have hcf:cf.get j=some (iv s.objs[i].fields[j]):=by rw[hcf,q0t,q0a hj];rfl
  have eg:getS s ((i+1:Nat):Int) (j:Int)=s.objs[i].fields[j]:=by
   unfold getS;rw[q0n,Nat.add_sub_cancel,q0a hi];dsimp only;rw[q0n,q0e,q0a hj];rfl
  rw[eg];simp+decide(disch:=omega)only[RL,↓reduceIte,i0,ei,g,c1,Nat.add_sub_cancel,lg,l2,gf,hcf]
 ·have h0':¬((chkS s z k:Nat):Int)=((0:Nat):Int):=by omega
  rw[if_neg h0];simp+decide(disch:=omega)only[RL,↓reduceIte,i0,ei,h0'];rfl
include H in
theorem set_gp'(X:MacS hd h lab M S K V s)(hf:s.frames.length<1000000)(ho:s.objs.length<1000000){z k y:Int}(hy:I64 y):GP tab 215 [.ptr S 0,iv z,iv k,iv y] h λv h1=>v=nv (chkS s z k)/\MacS hd h1 lab M S K V (if chkS s z k=0 then setS s z k y else s)/\FrK lab h lab h1:=by
 have i0:zAb [.ptr S 0,iv z,iv k,iv y]=zAa [.ptr S 0,iv z,iv k,iv y]:=rfl;obtain⟨c,g,hl,hiS,hc⟩:=X.ps (λe=>e);have c1:c.get 1=some V.list:=hc 1 (by decide);have ei:∀{R E:AV->AH->Prop},GE tab 214 [.ptr S 0,.int .i64 z,.int .i64 k] h R E=R _ h:=ge_rw (check_gp' H X hf ho);refine gpr H.t215 ?_;by_cases h0:chkS s z k=0
 ·rw[if_pos h0];obtain⟨i,j,hi,rfl,rfl,hj⟩:=zL6 h0;rw[h0] at ei ⊢;obtain⟨lid,lc,lsz,id,sz,cf,cap,le,lg,l2,gf,hcf,X2,f2⟩:=op_setF X hi hj y hy;rw[le] at c1;have eg:setS s ((i+1:Nat):Int) (j:Int) y={s with objs:=setO s.objs i j y}:=by
   unfold setS;rw[q0n,Nat.add_sub_cancel,q0n]
  rw[eg];simp+decide(disch:=omega)only[RL,↓reduceIte,i0,ei,g,c1,Nat.add_sub_cancel,lg,l2,gf,hcf];exact⟨X2,f2⟩
 ·have h0':¬((chkS s z k:Nat):Int)=((0:Nat):Int):=by omega
  rw[if_neg h0];simp+decide(disch:=omega)only[RL,↓reduceIte,i0,ei,h0'];exact⟨X,FrK.refl _ _⟩
include H in
theorem enter_gp(X:MacS hd h lab M S K V s)(hf:s.frames.length<1000000):GP tab 136 [.ptr S 0] h λv h1=>v=nv (s.frames.length+1)/\∃lab' V',V'.depth=V.depth/\MacS hd h1 lab' M S K V' {s with frames:=s.frames++[true]}/\FrK lab h lab' h1:=by
 have i0:zAb [.ptr S 0]=zAa [.ptr S 0]:=rfl;obtain⟨c,v',h1,g,hi,c2,mv,ap,mv',ln',cl',g1,lab',X2,f2⟩:=op_enter X hf;have nS:¬h.next=S:=by omega
 refine gpr H.t136 ?_;simp+decide only[RL,↓reduceIte,i0,g,c2,ap,ln',cl',g1];exact⟨lab',{V with frames:=v'},rfl,X2,f2⟩
include H in
theorem leave_gp(X:MacS hd h lab M S K V s)(hf:s.frames.length<1000000){fr:Nat}:GP tab 177 [.ptr S 0,nv fr] h λ_ h1=>MacS hd h1 lab M S K V (if openS s fr=true then{s with frames:=s.frames.set (fr-1) false} else s)/\FrK lab h lab h1:=by
 have i0:zAb [.ptr S 0,nv fr]=zAa [.ptr S 0,nv fr]:=rfl;obtain⟨c,g,hl,hiS,hc⟩:=X.ps (λe=>e);have c2:c.get 2=some V.frames:=hc 2 (by decide);have eo:∀{R E:AV->AH->Prop},GE tab 199 [.ptr S 0,nv fr] h R E=R (.bool (openS s fr)) h:=ge_rw (zJj H X hf);refine gpr H.t177 ?_;cases ho:openS s fr with
 | false=>
  rw[if_neg (by decide)];simp+decide(disch:=omega)only[RL,↓reduceIte,i0,eo,ho];exact⟨X,FrK.refl _ _⟩
 | true=>
  rw[if_pos rfl];unfold openS at ho;simp at ho;have h1:1<=fr:=by omega
  have hi:fr-1<s.frames.length:=by omega
  obtain⟨id,sz,cf,cap,e,gf,hcf,nS,X2,f2⟩:=op_leave X hi;have eo':openS s fr=true:=by unfold openS;simp;omega
  rw[e] at c2;simp+decide(disch:=omega)only[RL,↓reduceIte,i0,eo,eo',g,c2,gf,hcf];exact⟨X2,f2⟩
end
structure DatK(hd:AH)(p:ProgD)(K:MK):Prop where
 s1:SlV hd 2 (StructV hd) K.vs p.structs
 s2:SlV hd 2 zDg K.vg p.globals
 s3:SlV hd 6 (FunV hd) K.vf p.funs
 sa:SlV hd 1 (λE (f:FunD)=>∃w,E=[w]/\SlV hd 1 (λE xs=>∃w,E=[w]/\SlV hd 1 IntR w xs) w (ledS f)) K.va p.funs
 st:SlV hd 2 (StructV hd) K.vstr p.structs
structure Sml(B:Nat)(s:MSt):Prop where
 frames:s.frames.length+s.fuel<=B
 objs:s.objs.length+s.fuel<=B
 out:s.out.length+s.fuel<=B
 steps:s.steps+s.fuel<=100000
 framed:s.framed<=s.objs.length
section
variable{tab:Nat->Option AFunc}(H:PV tab){hd h:AH}{lab:Nat->Lab}{M S:Nat}{K:MK}{V:MV}{s:MSt}{p:ProgD}
include H in
theorem Make_gp(D:DatK hd p K)(X:MacS hd h lab M S K V s){B:Nat}(hB:B<=100000)(L:Sml B s){name:Str}{fr:Int}(hfn:∀x∈p.structs,x.fields.length<=100000):GP tab 231 [.ptr S 0,sv name,iv fr] h λv h1=>v=.tup [iv (makeS p s name fr).1,nv (makeS p s name fr).2.1]/\∃lab' V',V'.depth=V.depth/\V'.rows=V.rows/\MacS hd h1 lab' M S K V' (makeS p s name fr).2.2/\FrK lab h lab' h1:=by
 have i0:zAb [.ptr S 0,sv name,iv fr]=zAa [.ptr S 0,sv name,iv fr]:=rfl;obtain⟨c,g,hl,hiS,hc⟩:=X.ps id;have c0:c.get 0=some K.vstr:=hc 0 (by decide);have hfr:=L.frames;have hob:=L.objs;have ms:=D.st.mv;refine gpr H.t231 ?_;simp+decide(disch:=omega)only[RL,↓reduceIte,i0,g,c0];refine(zLy H (D.st.sub X.sub λ_ _ r=>r)).to λw h2 q=>?_;obtain⟨rfl,m2⟩:=q;have X2:=X.more m2;have fm:=FrK.more (lab:=lab) m2;obtain⟨c,g,hl,hiS,hc⟩:=X2.ps (λe=>e);have c0:c.get 0=some K.vstr:=hc 0 (by decide);have c1:c.get 1=some V.list:=hc 1 (by decide);have c3:c.get 3=some (nv s.framed):=hc 3 (by decide);have eo:∀{R E:AV->AH->Prop},GE tab 199 [.ptr S 0,.int .i64 fr] h2 R E=R (.bool (openS s fr)) h2:=ge_rw (zJj H X2 (by omega));unfold makeS;cases hf:findS p.structs name with
 | none=>
  simp+decide(disch:=omega)only[RL,↓reduceIte,q0M];exact⟨rfl,lab,V,rfl,rfl,X2,fm⟩
 | some k=>
  dsimp only;have hk:k<p.structs.length:=(List.findIdx?_eq_some_iff_getElem.mp hf).1;by_cases c1':fr≠0/\openS s fr=false
  ·rw[if_pos c1'];have z0:¬fr=((0:Nat):Int):=c1'.1;have ho:=c1'.2;simp+decide(disch:=omega)only[RL,↓reduceIte,q0J,z0,eo,ho];exact⟨rfl,lab,V,rfl,rfl,X2,fm⟩
  rw[if_neg c1',if_neg (show ¬s.objs.length=131072 by omega)];have a:ArrN h2 (λk=>lab k=.list) 3 V.list (zBo s.objs V.fl):=X2.part .list (λe=>e);have ln:∀h',oLen .sl (.c V.list) .leaf [] h'=.val (nv s.objs.length) h':=λh'=>by rw[a.len h',zA6 X2.fll]
  have mv:∀h',oMove (.c V.list) .leaf [] h'=.val V.list h':=λ_=>zAg a.mv;have nfull:¬(s.objs.length:Int)=((131072:Nat):Int):=by omega
  have hstr:=D.st.sub X2.sub λ_ _ r=>r;obtain⟨ik,ok,Ek,jk,ek,⟨vfl,rfl,sf,hnl⟩,-,lk⟩:=hstr.at hk;have lk1:∀(h':AH) [MoreC h2 h'],oLoad (.c (.ptr ik (ok+1))) .leaf [] h'=.val vfl h':=lk 1 _ rfl;have lnf:=sf.len;have mvf:=sf.mv;have hfl:=hfn _ (q0l hk);rw[q0a hk];dsimp only;obtain⟨c',v',h3,g',hi',c1'',mv',ap,mv3,ln3,cl3,g3,lab',X3,f3⟩:=op_make X2 p.structs[k].fields.length k fr (by omega) (by omega);rw[g] at g';injection g' with g';injection g' with g' _ _ _;subst g';have mks:∀h':AH,zB0 [.int .i64 ((0:Nat):Int)] 8 (.c (.int .i64 (p.structs[k].fields.length:Int))) (.c (.int .i64 (p.structs[k].fields.length:Int))) .leaf [] h'=_:=λh'=>zD6 (by omega) (by omega);have nS1:¬h2.next=S:=by omega
  have nS2:¬h2.next+1=S:=by omega
  have z1:fr=((0:Nat):Int)\/¬fr=((0:Nat):Int):=Classical.em _;rcases z1 with z0 | z0
  ·subst z0;rw[if_neg (λe=>e rfl)];simp+decide(disch:=omega)only[RL,↓reduceIte,q0J,g,c0,c1,ln,nfull,jk,lk1,lnf,zBz,mks,ap,ln3,cl3,g3];exact⟨by rw[show(((s.objs.length+1:Nat)):Int)=(s.objs.length:Int)+1 from rfl],lab',_,by exact rfl,by exact rfl,X3,fm.trans f3⟩
  ·have ho:openS s fr=true:=by cases e:openS s fr with | true=>rfl | false=>exact absurd ⟨z0,e⟩ c1'
   rw[if_pos (show fr≠0 from z0)];obtain⟨c4,g4,hi4,c43,X4,f4⟩:=op_framed X3;rw[q2d] at g4;injection g4 with g4;injection g4 with g4 _ _ _;subst g4;have hfm:=L.framed;simp+decide(disch:=omega)only[RL,↓reduceIte,q0J,z0,eo,ho,g,c0,c1,c3,ln,nfull,jk,lk1,lnf,zBz,mks,ap,ln3,cl3,g3];exact⟨by rw[show(((s.objs.length+1:Nat)):Int)=(s.objs.length:Int)+1 from rfl],lab',_,by exact rfl,by exact rfl,X4,(fm.trans f3).trans f4⟩
end
structure AI where
 A:Nat
 I1:Nat
 I2:Nat
 I3:Nat
 va:AV
 vv:AV
 vd:AV
 vs:AV
structure ActS(hn:Nat)(h:AH)(lab:Nat->Lab)(I:AI)(a:ActD)(n:Nat):Prop where
 obj:∃c,h.mem.get I.A=some (.cells c 6 none false)/\c.get 0=some (nv a.fn)/\c.get 1=some (nv a.frame)/\c.get 2=some I.va/\c.get 3=some I.vv/\c.get 4=some I.vd/\c.get 5=some I.vs
 lA:lab I.A=.no/\I.A<h.next
 l1:lab I.I1=.no/\I.I1<h.next/\hn<=I.I1
 l2:lab I.I2=.no/\I.I2<h.next/\hn<=I.I2
 l3:lab I.I3=.no/\I.I3<h.next/\hn<=I.I3
 nA:I.A≠I.I1/\I.A≠I.I2/\I.A≠I.I3
 ne:I.I1≠I.I2/\I.I1≠I.I3/\I.I2≠I.I3
 vals:Arr h (λk=>k=I.I1) I.vv (a.vals.map iv)
 done:∃ds,ds.length=n/\Arr h (λk=>k=I.I2) I.vd ds
 slots:Arr h (λk=>k=I.I3) I.vs (a.slots.map iv)
 args:Arr h (λk=>lab k=.no/\k≠I.I1/\k≠I.I2/\k≠I.I3) I.va (a.args.map iv)
 vl:a.vals.length=n
 ival:∀z∈a.vals,I64 z
 isl:∀z∈a.slots,I64 z
 iar:∀z∈a.args,I64 z
section
variable{hn:Nat}{h h':AH}{lab lab':Nat->Lab}{I:AI}{a:ActD}{n:Nat}
theorem ActS.fr(x:ActS hn h lab I a n)(f:FrK lab h lab' h'):ActS hn h' lab' I a n:=by
 have k:=λk (h1:lab k=.no) (h2:k<h.next)=>f.2 k h2 h1;obtain⟨c,g,hc⟩:=x.obj;obtain⟨ds,hd,hA⟩:=x.done;have one:∀{i:Nat} {v:AV} {cs:List AV},lab i=.no->i<h.next->Arr h (λk=>k=i) v cs->Arr h' (λk=>k=i) v cs:=λh1 h2 a=>a.to f.1 λq e _=>⟨e,by rw[e];exact(k _ h1 h2).2⟩;exact⟨⟨c,(k _ x.lA.1 x.lA.2).2.trans g,hc⟩,⟨(k _ x.lA.1 x.lA.2).1,q0d x.lA.2 f.1⟩,⟨(k _ x.l1.1 x.l1.2.1).1,q0d x.l1.2.1 f.1,x.l1.2.2⟩,⟨(k _ x.l2.1 x.l2.2.1).1,q0d x.l2.2.1 f.1,x.l2.2.2⟩,⟨(k _ x.l3.1 x.l3.2.1).1,q0d x.l3.2.1 f.1,x.l3.2.2⟩,x.nA,x.ne,one x.l1.1 x.l1.2.1 x.vals,⟨ds,hd,one x.l2.1 x.l2.2.1 hA⟩,one x.l3.1 x.l3.2.1 x.slots,x.args.to f.1 λq e hl=>⟨⟨(k q e.1 hl).1,e.2⟩,(k q e.1 hl).2⟩,x.vl,x.ival,x.isl,x.iar⟩
theorem ActS.more(x:ActS hn h lab I a n)(m:More h h'):ActS hn h' lab I a n:=x.fr (FrK.more m)
theorem Arr.at'{F:Nat->Prop}{v:AV}{xs:List Int}(x:Arr h F v (xs.map iv)){i:Nat}(hi:i<xs.length):∃id s c cap,v=.sl id 0 xs.length cap/\F id/\id<h.next/\h.mem.get id=some (.cells c s none false)/\c.get i=some (iv (xs.getD i 0)):=by
 obtain⟨id,s,c,cap,e,f,hl,g,hc⟩:=x.open (i:=i) (by rw[q0j];exact hi);rw[q0j] at e;exact⟨id,s,c,cap,e,f,hl,g,by rw[hc,q0t,q0e,q0a hi];rfl⟩
end
section
variable{tab:Nat->Option AFunc}(H:PV tab){hd h:AH}{lab:Nat->Lab}{M S:Nat}{K:MK}{V:MV}{s:MSt}{p:ProgD}{hn:Nat}{I:AI}{a:ActD}{n:Nat}
include H in
theorem of_gp(A:ActS hn h lab I a n){E:List AV}{x:InsD}(r:InsV h E x)(hx:x.args.length<=100000)(ha:∀z∈x.args,InN z n):GP tab 192 [.ptr I.A 0,.agg E] h λv h1=>Arr h1 (λk=>h.next<=k) v ((x.args.map λi=>a.vals.getD i.toNat 0).map iv)/\More h h1:=by
 obtain⟨op,typ,xa,nn,name⟩:=x;obtain⟨vx,rfl,sx,j0,j1,j2,j3⟩:=r;dsimp only at *;have i0:zAb [.ptr I.A 0,.agg [.int .i64 op,sv typ,vx,.int .i64 nn,sv name]]=zAa [.ptr I.A 0,.agg [.int .i64 op,sv typ,vx,.int .i64 nn,sv name]]:=rfl;have mx:=sx.mv;have lx:=sx.len;obtain⟨c,g,-,-,-,c3,-⟩:=A.obj;have hlA:=A.lA.2;have hl1:=A.l1.2.1;refine gpr H.t192 ?_;simp+decide(disch:=omega)only[RL,↓reduceIte,i0,lx];refine zHf λhB eB=>?_;have mB:More h hB:=by rw[eB];exact q2g _ _
 clear eB;refine zAd (λm l d h1=>∃k w,m=xa.length-k/\k<=xa.length/\d=[]/\More h h1/\Arr h1 (λq=>h.next<=q) w (((xa.take k).map λi=>a.vals.getD i.toNat 0).map iv)/\l.get 0=some (.ptr I.A 0)/\l.get 3=some (.int .i64 (k:Int))/\l.get 4=some (.int .i64 (xa.length:Int))/\l.get 6=some vx/\l.get 7=some w) ?_ (xa.length-0) ⟨0,.nils,rfl,q0k _,rfl,mB,.nils,rfl,rfl,rfl,rfl,rfl⟩;rintro m l d h1 ⟨k,w,rfl,hk,rfl,m1,ra,l0,l3,l4,l6,l7⟩;haveI:MoreC h h1:=⟨m1⟩;have mw:∀h',oMove (.c w) .leaf [] h'=.val w h':=λ_=>zAg ra.mv;by_cases hlt:k<xa.length
 ·obtain⟨id,o,E,ix,e1,⟨rfl,_⟩,ld,lw⟩:=sx.at hlt;obtain⟨y,hy1,hy2⟩:=ha _ (q0l hlt);have lw:oLoad (.c (.ptr id o)) .leaf [] h1=.val (.int .i64 (y:Int)) h1:=by rw[<-hy1];exact lw 0 _ rfl h1
  obtain⟨vid,vsz,vc,vcap,ev,ei,hvl,gv,hvc⟩:=A.vals.at' (i:=y) (by rw[A.vl];exact hy2);have hy3:y<a.vals.length:=by rw[A.vl];exact hy2
  have g1:=(m1.keep _ hlA).trans g;have gv1:=(m1.keep _ hvl).trans gv;rw[ev] at c3;obtain⟨v',h',ap,ra',nx,kp'⟩:=ra.pushG 8 (by decide) (x:=iv (a.vals.getD y 0)) (by rw[q0j,q0j,q0v];omega);simp+decide(disch:=omega)only[RL,↓reduceIte,l0,l3,l4,l6,l7,hlt,ix,lw,g1,c3,gv1,hvc,mw,ap,show ∀h',oMove (.c v') .leaf [] h'=.val v' h' from λ_=>zAg ra'.mv];refine⟨_,by omega,k+1,v',rfl,by omega,⟨by have:=m1.next;omega,λq hq=>by rw[kp' q (q0d hq m1.next) λl n e=>by subst e;have:=ra.isF;omega,m1.keep q hq]⟩,?_,rfl,rfl⟩;have e:((xa.take (k+1)).map λi=>a.vals.getD i.toNat 0).map iv=((xa.take k).map λi=>a.vals.getD i.toNat 0).map iv++[iv (a.vals.getD y 0)]:=by
   rw[List.take_succ_eq_append_getElem hlt,q0O,q0O,hy1];rfl
  rw[e];exact ra'.wk λq l n _ e=>by have:=m1.next;omega
 ·obtain rfl:k=xa.length:=by omega
  rw[List.take_length] at ra;simp(disch:=omega)only[RL,↓reduceIte,l3,l4,l6,l7,hlt,mw];exact⟨ra,m1⟩
include H in
theorem read_gp(X:MacS hd h lab M S K V s):GP tab 217 [.ptr M 0] h λv h1=>v=iv (K.L.getD s.pos 0)/\∃V',V'.depth=V.depth/\V'.rows=V.rows/\MacS hd h1 lab M S K V' {s with pos:=s.pos+1}/\FrK lab h lab h1:=by
 have i0:zAb [.ptr M 0]=zAa [.ptr M 0]:=rfl;obtain⟨c,g,hlM,hi,hc⟩:=X.pm id;have c6:c.get 6=some V.inp:=hc 6 (by decide);have kinds:(∀h',oLen .sl (.c V.inp) .leaf [] h'=.val (nv (K.L.drop s.pos).length) h')/\∀h',oMove (.c V.inp) .leaf [] h'=.val V.inp h':=by
  cases ho:K.own with
  | false=>exact⟨(X.inp ho).len,λ_=>zAg (X.inp ho).mv⟩
  | true=>
   have x:InpO h (λk=>lab k=.inp) V.inp (K.L.drop s.pos):=X.part .inp (λe=>e) ho;exact⟨x.len,λ_=>zAg x.mv⟩
 obtain⟨ln,mv⟩:=kinds;refine gpr H.t217 ?_;cases e:K.L.drop s.pos with
 | nil=>
  rw[e] at ln;have hp:K.L.length<=s.pos:=by have:=congrArg List.length e;rw[q0Q] at this;simp at this;omega
  have ln:∀h',oLen .sl (.c V.inp) .leaf [] h'=.val (nv 0) h':=ln;simp+decide only[RL,↓reduceIte,i0,g,c6,ln];refine⟨by rw[q0e,q0i hp];rfl,V,rfl,rfl,?_,FrK.refl _ _⟩;have ed:K.L.drop (s.pos+1)=K.L.drop s.pos:=by rw[e];exact List.drop_eq_nil_of_le (by omega)
  exact⟨X.sub,X.dis,X.new,λr hr=>by
   have:=X.part r hr;cases r with
   | inp=>exact λho=>by rw[show K.L.drop (s.pos+1)=_ from ed];exact this ho
   | _=>exact this,X.fll,λho=>by rw[show K.L.drop (s.pos+1)=_ from ed];exact X.inp ho,X.iglob,X.ifld,X.dep,X.sit⟩
 | cons z xs=>
  obtain⟨c',id,off,v',h1,g',c6',ix,⟨ci,sz,pp,ro,gi,hci⟩,sl,cl,g1,X2,f2⟩:=op_read X e;rw[g] at g';injection g' with g';injection g' with g' _ _ _;subst g';rw[e] at ln;have n0:¬(((z::xs).length:Nat):Int)=((0:Nat):Int):=by simp;omega
  have ld:oLoad (.c (.ptr id off)) .leaf [] h=.val (iv z) h:=zBa gi hci;have ez:K.L.getD s.pos 0=z:=by
   have hp:s.pos<K.L.length:=by
    rcases q0x s.pos K.L.length with h | h
    ·exact h
    ·rw[List.drop_eq_nil_of_le h] at e;cases e
   have e2:K.L[s.pos]=z:=by have:=List.drop_eq_getElem_cons hp;rw[e] at this;injection this with this;exact this.symm
   rw[q0e,q0a hp,e2];rfl
  rw[ez];have osl:∀{kill:Bool} {n:Nat} {x lo:Opd} {loc:T AV} {tmp:List AV} {h':AH},evOp (.sliceV kill n x (some lo) none none) loc tmp h'=zAs kill n (.c (ev loc tmp x)) (some (.c (ev loc tmp lo))) none none .leaf [] h':=rfl;simp+decide only[RL,↓reduceIte,i0,g,c6,ln,n0,ix,ld,osl,sl,cl,g1];exact⟨{V with inp:=v'},rfl,rfl,X2,f2⟩
include H in
theorem reckon_ge{v:AV}{F:Nat->Prop}{args:List Int}(ra:Arr h F v (args.map iv))(hl:1<=args.length)(h64:∀z∈args,I64 z){op:Int}:GE tab 193 [.int .i64 op,v] h (λw h1=>(doS tab op (args.getD 0 0) (args.getD (args.length-1) 0)).2=0/\w=iv (doS tab op (args.getD 0 0) (args.getD (args.length-1) 0)).1/\h1=h) (λw h1=>(doS tab op (args.getD 0 0) (args.getD (args.length-1) 0)).2≠0/\w=stopV (if(doS tab op (args.getD 0 0) (args.getD (args.length-1) 0)).2=14 then 4 else 2) (doS tab op (args.getD 0 0) (args.getD (args.length-1) 0)).2/\h1=h):=by
 have i0:zAb [.int .i64 op,v]=zAa [.int .i64 op,v]:=rfl;have mv:∀h',oMove (.c v) .leaf [] h'=.val v h':=λ_=>zAg ra.mv;have ln:∀h',oLen .sl (.c v) .leaf [] h'=.val (nv args.length) h':=λh'=>by rw[ra.len (h':=h'),q0j]
 obtain⟨id,sz,c,cap,ev,-,hlt,g,hc0⟩:=ra.at' (i:=0) hl;obtain⟨id2,sz2,c2,cap2,ev2,-,hlt2,g2,hc1⟩:=ra.at' (i:=args.length-1) (by omega);rw[ev] at ev2;injection ev2 with e1 _ _ e4;subst e1;subst e4;rw[g] at g2;injection g2 with g2;injection g2 with g2 _ _ _;subst g2;have hsm:=ra.small;rw[q0j] at hsm;have m1:∀i,i<args.length->I64 (args.getD i 0):=λi hi=>by rw[q0e,q0a hi];exact h64 _ (q0l hi)
 obtain⟨hr,hdo⟩:=do_gp H (op:=op) (m1 0 hl) (m1 (args.length-1) (by omega));have ed:∀{R E:AV->AH->Prop},GE tab 212 [.int .i64 op,.int .i64 (args.getD 0 0),.int .i64 (args.getD (args.length-1) 0)] h R E=R _ h:=ge_rw (hdo h);have h0:0<args.length:=hl;have h1:args.length-1<args.length:=by omega
 rw[ev] at mv ln;rw[ev] at i0;refine zAi H.t193 (by rfl) ?_;rw[ev];simp+decide(disch:=omega)only[RL,↓reduceIte,i0,mv,ln,g,hc0,hc1,ed];refine(zIu H).mono (λv h2 q=>?_) (λv h2 q=>?_)
 ·obtain⟨q1,rfl⟩:=q;simp(disch:=omega)only[RL,↓reduceIte];exact q1
 ·exact q
end
section
variable{tab:Nat->Option AFunc}(H:PV tab){hd h:AH}{lab:Nat->Lab}{M S:Nat}{K:MK}{V:MV}{s:MSt}{p:ProgD}{I:AI}{a:ActD}{n:Nat}{f:FunD}
theorem zF4(D:DatK hd p K)(Sb:Sub hd h){k:Nat}(hf:p.funs[k]?=some f):∃id o vp vl vi vb,(∀h' kk,zCx 6 (.c K.vf) (.c (.int kk (k:Int))) .leaf [] h'=.val (.ptr id o) h')/\(∀(h':AH) [MoreC h h'],zAy 6 (.c (.ptr id o)) .leaf [] h'=.val (.agg [sv f.name,vp,sv f.result,vl,vi,vb]) h')/\(∀(h':AH) [MoreC h h'],oLoad (.c (.ptr id (o+1))) .leaf [] h'=.val vp h')/\(∀(h':AH) [MoreC h h'],oLoad (.c (.ptr id (o+3))) .leaf [] h'=.val vl h')/\(∀(h':AH) [MoreC h h'],oLoad (.c (.ptr id (o+4))) .leaf [] h'=.val vi h')/\(∀(h':AH) [MoreC h h'],oLoad (.c (.ptr id (o+5))) .leaf [] h'=.val vb h')/\
  SlV h 1 StrR vp f.params/\SlV h 1 StrR vl f.slots/\SlV h 5 (InsV hd) vi f.ins/\SlV h 5 (BlkV hd) vb f.blocks/\f.result.length<=maxLen/\SlV hd 5 (InsV hd) vi f.ins/\SlV hd 5 (BlkV hd) vb f.blocks/\SlV hd 1 StrR vp f.params:=by
 obtain⟨hk,e⟩:=List.getElem?_eq_some_iff.mp hf;obtain⟨id,o,E,ix,e1,⟨vp,vl,vi,vb,rfl,t1,t2,t3,t4,w1,w2⟩,ld,lw⟩:=((D.s3.sub Sb λ_ _ r=>r):SlV h 6 (FunV hd) K.vf p.funs).at hk;rw[e] at ld lw t1 t2 t3 t4 w2;exact⟨id,o,vp,vl,vi,vb,ix,ld,lw 1 _ rfl,lw 3 _ rfl,lw 4 _ rfl,lw 5 _ rfl,t1.sub Sb λ_ _ r=>r,t2.sub Sb λ_ _ r=>r,t3.sub Sb λ_ _ r=>r,t4.sub Sb λ_ _ r=>r,w2,t3,t4,t1⟩
def MPost(hd h:AH)(lab:Nat->Lab)(M S:Nat)(K:MK)(V:MV)(s':MSt)(h1:AH):Prop:=∃lab' V',V'.depth=V.depth/\MacS hd h1 lab' M S K V' s'/\FrK lab h lab' h1
include H in
theorem make_ge(D:DatK hd p K)(X:MacS hd h lab M S K V s){B:Nat}(hB:B<=100000)(L:Sml B s)(hfn:∀x∈p.structs,x.fields.length<=100000){hn:Nat}(A:ActS hn h lab I a n)(hf:p.funs[a.fn]?=some f){i:Nat}(hi:i<f.ins.length)(hnn:f.ins[i].n=0\/f.ins[i].n=1)(hfr:a.frame<=1000000):GE tab 216 [.ptr M 0,.ptr I.A 0,nv i] h
  (λv h1=>(makeS p s f.ins[i].name ((a.frame:Int)*f.ins[i].n)).2.1=0/\v=iv (makeS p s f.ins[i].name ((a.frame:Int)*f.ins[i].n)).1/\MPost hd h lab M S K V (makeS p s f.ins[i].name ((a.frame:Int)*f.ins[i].n)).2.2 h1)
  (λv h1=>(makeS p s f.ins[i].name ((a.frame:Int)*f.ins[i].n)).2.1≠0/\v=stopV (if(makeS p s f.ins[i].name ((a.frame:Int)*f.ins[i].n)).2.1=14 then 4 else 2) (makeS p s f.ins[i].name ((a.frame:Int)*f.ins[i].n)).2.1/\MPost hd h lab M S K V (makeS p s f.ins[i].name ((a.frame:Int)*f.ins[i].n)).2.2 h1):=by
 have i0:zAb [.ptr M 0,.ptr I.A 0,nv i]=zAa [.ptr M 0,.ptr I.A 0,nv i]:=rfl;obtain⟨c,g,hl,hM,hc⟩:=X.pm id;have c2:c.get 2=some K.vf:=hc 2 (by decide);have c5:c.get 5=some (.ptr S 0):=hc 5 (by decide);have mf:=D.s3.mv;obtain⟨ca,ga,a0,a1,-⟩:=A.obj;have lA:=A.lA.2;obtain⟨fid,fo,vp,vl,vi,vb,fix_,-,-,-,fi4,-,-,-,s6,-,-⟩:=zF4 D X.sub hf;have mi:=s6.mv;obtain⟨ii,oi,Ei,ji,ei,r,ldi,-⟩:=s6.at hi;have hsm:=L.frames;have hob:=L.objs;generalize f.ins[i]=x at *;obtain⟨op,typ,xa,nn,name⟩:=x;obtain⟨vx,rfl,sx,j0,j1,j2,j3⟩:=r;dsimp only at *;have em:IntKind.i64.wrap ((a.frame:Int)*nn)=(a.frame:Int)*nn:=zGm (by rcases hnn with rfl | rfl<;>omega) (by rcases hnn with rfl | rfl<;>omega);refine zAi H.t216 rfl ?_;have nM:¬h.next=M:=by omega
 have nA:¬h.next=I.A:=by omega
 simp+decide only[RL,↓reduceIte,i0,g,c2,c5,ga,a0,a1,fix_,fi4,ji,ldi,nM,nA,em];refine zCu λhB' eB=>?_;have mB:More h hB':=by rw[eB];exact(q2g _ _).set (q0c _) _
 clear eB;refine(Make_gp H D (X.more mB) hB L hfn).to λw h2 q=>?_;obtain⟨rfl,lab2,V2,d2,r2,X2,f2⟩:=q;have F2:=(FrK.more (lab:=lab) mB).trans f2;have g2:=λk (h1:k<h.next) (h0:lab k=.no)=>F2.2 k h1 h0;simp only[RL,↓reduceIte];refine(zIu H).mono (λv h3 q=>?_) (λv h3 q=>?_)
 ·obtain⟨q1,rfl⟩:=q;have hmk:(makeS p s name ((a.frame:Int)*nn)).2.2.objs.length=s.objs.length+1:=by
   unfold makeS at q1 ⊢;cases hfS:findS p.structs name with
   | none=>rw[hfS] at q1;cases q1
   | some k=>
    rw[hfS] at q1;dsimp only at q1 ⊢;split at q1
    ·cases q1
    ·split at q1
     ·cases q1
     ·rename_i n1 n2;rw[if_neg n1,if_neg n2];simp
  have hrows:=X.sit;obtain⟨c',v',h4,g',hM',c14,mv',ap,mv4,cl4,g4,lab4,rows,X4,f4⟩:=op_site X2 (nv a.fn) (nv i) (by rw[r2];omega) (by rw[hmk,r2];omega);obtain⟨ga2l,ga2⟩:=g2 I.A lA A.lA.1;rw[ga] at ga2;have nM2:¬h3.next=M:=by omega
  have nA2:¬h3.next=I.A:=by have:=F2.1;omega
  have neMA:¬M=I.A:=λe=>by have:=A.lA.1;rw[<-e,hl] at this;cases this
  simp+decide only[RL,↓reduceIte,g',c14,ga2,a0,ap,cl4,g4];exact⟨q1,lab4,{V2 with sites:=v',rows:=rows},d2,X4,F2.trans f4⟩
 ·obtain⟨q1,q2,rfl⟩:=q;exact⟨q1,q2,lab2,V2,d2,X2,F2⟩
def NPost{α:Type}(hd h:AH)(lab:Nat->Lab)(M S:Nat)(K:MK)(V:MV)(spec:Rz α)(Q:α->AV->Prop)(v:AV)(h1:AH):Prop:=∃z s',spec=.ok z s'/\Q z v/\MPost hd h lab M S K V s' h1
def EPost{α:Type}(hd h:AH)(lab:Nat->Lab)(M S:Nat)(K:MK)(V:MV)(spec:Rz α)(v:AV)(h1:AH):Prop:=∃e f s',spec=.stop e f s'/\v=stopV e f/\MPost hd h lab M S K V s' h1
def numQ(z:Int)(v:AV):Prop:=I64 z/\v=iv z
theorem MPost.more{h1:AH}(X:MacS hd h lab M S K V s)(m:More h h1):MPost hd h lab M S K V s h1:=⟨lab,V,rfl,X.more m,FrK.more m⟩
def leafV(p:ProgD)(rd:Nat->Int)(a:ActD)(x:InsD)(s:MSt):Rz Int:=
 if x.op=20 then .ok (a.args.getD x.n.toNat 0) s
 else if x.op=21\/x.op=22 then .ok x.n s
 else if x.op=24 then
  (let r:=makeS p s x.name ((a.frame:Int)*x.n)
   zAz r.2.1 r.2.2 λs=>.ok r.1 s)
 else if x.op=27 then .ok (a.slots.getD x.n.toNat 0) s
 else if x.op=29 then .ok (s.glob.getD x.n.toNat 0) s
 else if x.op=33 then .ok (rd s.pos) {s with pos:=s.pos+1}
 else .ok 0 s
theorem zDb{l:List Int}{i:Nat}(h:∀z∈l,I64 z):I64 (l.getD i 0):=by
 rw[q0e];cases e:l[i]? with
 | none=>exact⟨by decide,by decide⟩
 | some z=>exact h z (q0L e)
theorem makeS_in{name:Str}{fr:Int}(h:s.objs.length<=1000000):I64 (makeS p s name fr).1:=by
 have z:I64 0:=⟨by decide,by decide⟩;unfold makeS;cases findS p.structs name with
 | none=>exact z
 | some k=>
  dsimp only;split
  ·exact z
  ·split
   ·exact z
   ·exact⟨by show _<=(s.objs.length:Int)+1;omega,by show(s.objs.length:Int)+1<_;omega⟩
include H in
theorem leaf_ge(D:DatK hd p K)(X:MacS hd h lab M S K V s){B:Nat}(hB:B<=100000)(L:Sml B s)(hfn:∀x∈p.structs,x.fields.length<=100000){hn:Nat}(A:ActS hn h lab I a n)(hf:p.funs[a.fn]?=some f){i:Nat}(hi:i<f.ins.length)(hfr:a.frame<=1000000){b:Nat}(ok:OkI p f b f.ins[i])(hpar:a.args.length=f.params.length)(hsl:a.slots.length=f.slots.length)(hgl:s.glob.length=p.globals.length)(hL:∀z∈K.L,I64 z):GE tab 198 [.ptr M 0,.ptr I.A 0,nv i] h
  (NPost hd h lab M S K V (leafV p (λi=>K.L.getD i 0) a f.ins[i] s) numQ) (EPost hd h lab M S K V (leafV p (λi=>K.L.getD i 0) a f.ins[i] s)):=by
 have i0:zAb [.ptr M 0,.ptr I.A 0,nv i]=zAa [.ptr M 0,.ptr I.A 0,nv i]:=rfl;obtain⟨c,g,hl,hM,hc⟩:=X.pm id;have c2:c.get 2=some K.vf:=hc 2 (by decide);have c4:c.get 4=some V.glob:=hc 4 (by decide);have mf:=D.s3.mv;obtain⟨ca,ga,a0,a1,a2,a3,a4,a5⟩:=A.obj;have lA:=A.lA.2;obtain⟨fid,fo,vp,vl,vi,vb,fix_,-,-,-,fi4,-,-,-,s6,-,-⟩:=zF4 D X.sub hf;have mi:=s6.mv;obtain⟨ii,oi,Ei,ji,ei,r,ldi,-⟩:=s6.at hi;have hmake:=λh' (X':MacS hd h' lab M S K V s) (A':ActS hn h' lab I a n) hnn=>make_ge H D X' hB L hfn A' hf hi hnn hfr;have hob:=L.objs;generalize f.ins[i]=x at *;obtain⟨op,typ,xa,nn,name⟩:=x;obtain⟨vx,rfl,sx,j0,j1,j2,j3⟩:=r;dsimp only at *;refine zAi H.t198 rfl ?_;have nM:¬h.next=M:=by omega
 have nA:¬h.next=I.A:=by omega
 have m3:∀o1 o2,MPost hd h lab M S K V s ((h.add o1).set h.next o2):=λo1 o2=>MPost.more X ((q2g _ _).set (q0c _) _);unfold leafV;dsimp only;by_cases c20:op=((20:Nat):Int)
 ·subst c20;rw[if_pos (show((20:Nat):Int)=20 from rfl)];obtain⟨y,rfl,hy⟩:=ok.par rfl;obtain⟨aid,asz,ac,acap,ea,-,hal,gaa,hac⟩:=A.args.at' (i:=y) (by omega);rw[ea] at a2;have hy2:y<a.args.length:=by omega
  have na:¬h.next=aid:=by omega
  rw[q0n];simp+decide(disch:=omega)only[RL,↓reduceIte,i0,g,c2,ga,a0,a2,fix_,fi4,ji,ldi,nM,nA,gaa,hac,na];exact⟨_,s,rfl,⟨zDb A.iar,rfl⟩,m3 _ _⟩
 rw[if_neg (show ¬op=20 from c20)];by_cases c21:op=21\/op=22
 ·rw[if_pos c21];rcases c21 with c | c
  ·have c:op=((21:Nat):Int):=c;subst c;simp+decide(disch:=omega)only[RL,↓reduceIte,i0,g,c2,ga,a0,fix_,fi4,ji,ldi,nM,nA,q0p,Nat.reduceEqDiff];exact⟨_,s,rfl,⟨j1,rfl⟩,m3 _ _⟩
  ·have c:op=((22:Nat):Int):=c;subst c;simp+decide(disch:=omega)only[RL,↓reduceIte,i0,g,c2,ga,a0,fix_,fi4,ji,ldi,nM,nA,q0p,Nat.reduceEqDiff];exact⟨_,s,rfl,⟨j1,rfl⟩,m3 _ _⟩
 rw[if_neg c21];have n21:¬op=((21:Nat):Int):=λe=>c21 (.inl e);have n22:¬op=((22:Nat):Int):=λe=>c21 (.inr e);by_cases c24:op=((24:Nat):Int)
 ·subst c24;rw[if_pos (show((24:Nat):Int)=24 from rfl)];simp+decide(disch:=omega)only[RL,↓reduceIte,i0,g,c2,ga,a0,fix_,fi4,ji,ldi,nM,nA,q0p,Nat.reduceEqDiff];refine zCu λhB' eB=>?_;have mB:More h hB':=by rw[eB];exact(q2g _ _).set (q0c _) _
  clear eB;have FB:=FrK.more (lab:=lab) mB;refine(hmake hB' (X.more mB) (A.more mB) (ok.new rfl)).mono (λv h2 q=>?_) (λv h2 q=>?_)
  ·obtain⟨q1,rfl,lab2,V2,d2,X2,f2⟩:=q;simp(disch:=omega)only[RL,↓reduceIte];unfold zAz;rw[if_pos q1];exact⟨_,_,rfl,⟨makeS_in (by omega),rfl⟩,lab2,V2,d2,X2,FB.trans f2⟩
  ·obtain⟨q1,rfl,lab2,V2,d2,X2,f2⟩:=q;unfold zAz;rw[if_neg q1];refine⟨_,_,(makeS p s name (↑a.frame*nn)).2.2,?_,rfl,lab2,V2,d2,X2,FB.trans f2⟩;split
   ·rename_i e;rw[e]
   ·rfl
 rw[if_neg (show ¬op=24 from c24)];by_cases c27:op=((27:Nat):Int)
 ·subst c27;rw[if_pos (show((27:Nat):Int)=27 from rfl)];obtain⟨y,rfl,hy⟩:=ok.slot (.inl rfl);obtain⟨aid,asz,ac,acap,ea,-,hal,gaa,hac⟩:=A.slots.at' (i:=y) (by omega);rw[ea] at a5;have hy2:y<a.slots.length:=by omega
  have na:¬h.next=aid:=by omega
  rw[q0n];simp+decide(disch:=omega)only[RL,↓reduceIte,i0,g,c2,ga,a0,a5,fix_,fi4,ji,ldi,nM,nA,gaa,hac,na,q0p,Nat.reduceEqDiff];exact⟨_,s,rfl,⟨zDb A.isl,rfl⟩,m3 _ _⟩
 rw[if_neg (show ¬op=27 from c27)];by_cases c29:op=((29:Nat):Int)
 ·subst c29;rw[if_pos (show((29:Nat):Int)=29 from rfl)];obtain⟨y,rfl,hy⟩:=ok.glob (.inl rfl);have aG:Arr h (λk=>lab k=.glob) V.glob (s.glob.map iv):=X.part .glob (λe=>e);obtain⟨aid,asz,ac,acap,ea,-,hal,gaa,hac⟩:=aG.at' (i:=y) (by omega);rw[ea] at c4;have hy2:y<s.glob.length:=by omega
  have na:¬h.next=aid:=by omega
  rw[q0n];simp+decide(disch:=omega)only[RL,↓reduceIte,i0,g,c2,c4,ga,a0,fix_,fi4,ji,ldi,nM,nA,gaa,hac,na,q0p,Nat.reduceEqDiff];exact⟨_,s,rfl,⟨zDb X.iglob,rfl⟩,m3 _ _⟩
 rw[if_neg (show ¬op=29 from c29)];by_cases c33:op=((33:Nat):Int)
 ·subst c33;rw[if_pos (show((33:Nat):Int)=33 from rfl)];simp+decide(disch:=omega)only[RL,↓reduceIte,i0,g,c2,ga,a0,fix_,fi4,ji,ldi,nM,nA,q0p,Nat.reduceEqDiff];refine zCu λhB' eB=>?_;have mB:More h hB':=by rw[eB];exact(q2g _ _).set (q0c _) _
  clear eB;refine(read_gp H (X.more mB)).to λv h2 q=>?_;obtain⟨rfl,V2,d2,r2,X2,f2⟩:=q;simp(disch:=omega)only[RL,↓reduceIte];exact⟨_,_,rfl,⟨zDb hL,rfl⟩,lab,V2,d2,X2,(FrK.more mB).trans f2⟩
 rw[if_neg (show ¬op=33 from c33)];simp+decide(disch:=omega)only[RL,↓reduceIte,i0,g,c2,ga,a0,fix_,fi4,ji,ldi,nM,nA,c20,n21,n22,c24,c27,c29,c33];exact⟨_,s,rfl,⟨⟨by decide,by decide⟩,rfl⟩,m3 _ _⟩
end
def putV(a:ActD)(x:InsD)(args:List Int)(s:MSt):Rz ActD:=
 if x.op=28 then .ok {a with slots:=a.slots.set x.n.toNat (args.getD (args.length-1) 0)} s
 else if x.op=26 then zAz (chkS s (args.getD 0 0) x.n) s λs=>.ok a (setS s (args.getD 0 0) x.n (args.getD (args.length-1) 0))
 else if x.op=30 then .ok a {s with glob:=s.glob.set x.n.toNat (args.getD (args.length-1) 0)}
 else .ok a s
def FrA(I:AI)(lab:Nat->Lab)(h:AH)(lab':Nat->Lab)(h':AH):Prop:=h.next<=h'.next/\∀k,k<h.next->lab k=.no->lab' k=.no/\(k≠I.I1->k≠I.I2->k≠I.I3->h'.mem.get k=h.mem.get k)
theorem FrK.a{I:AI}{lab lab':Nat->Lab}{h h':AH}(f:FrK lab h lab' h'):FrA I lab h lab' h':=⟨f.1,λk h1 h2=>⟨(f.2 k h1 h2).1,λ_ _ _=>(f.2 k h1 h2).2⟩⟩
theorem FrA.trans{I:AI}{l1 l2 l3:Nat->Lab}{h1 h2 h3:AH}(a:FrA I l1 h1 l2 h2)(b:FrA I l2 h2 l3 h3):FrA I l1 h1 l3 h3:=⟨q0m a.1 b.1,λk hk hl=>by
 have x:=a.2 k hk hl;have y:=b.2 k (q0d hk a.1) x.1;exact⟨y.1,λn1 n2 n3=>(y.2 n1 n2 n3).trans (x.2 n1 n2 n3)⟩⟩
def APost(hd h:AH)(lab:Nat->Lab)(M S:Nat)(K:MK)(V:MV)(I:AI)(n:Nat)(a':ActD)(s':MSt)(h1:AH):Prop:=∃lab' V',V'.depth=V.depth/\MacS hd h1 lab' M S K V' s'/\ActS hd.next h1 lab' I a' n/\FrA I lab h lab' h1
section
variable{tab:Nat->Option AFunc}(H:PV tab){hd h:AH}{lab:Nat->Lab}{M S:Nat}{K:MK}{V:MV}{s:MSt}{p:ProgD}{I:AI}{a:ActD}{n:Nat}{f:FunD}
theorem op_slot(X:MacS hd h lab M S K V s)(A:ActS hd.next h lab I a n){i:Nat}(hi:i<a.slots.length)(z:Int)(hz:I64 z):∃sz c cap,I.vs=.sl I.I3 0 a.slots.length cap/\h.mem.get I.I3=some (.cells c sz none false)/\c.get i=some (iv (a.slots.getD i 0))/\
  MacS hd (h.set I.I3 (.cells (T.put (some (iv z)) c i) sz none false)) lab M S K V s/\ActS hd.next (h.set I.I3 (.cells (T.put (some (iv z)) c i) sz none false)) lab I {a with slots:=a.slots.set i z} n/\FrA I lab h lab (h.set I.I3 (.cells (T.put (some (iv z)) c i) sz none false)):=by
 obtain⟨id,sz,c,cap,e,e1,hlt,g,hc,a'⟩:=A.slots.set (x:=iv z) (i:=i) (by rw[q0j];exact hi);rw[q0j] at e;have e1:id=I.I3:=e1;subst e1;obtain⟨ca,ga,hca⟩:=A.obj;obtain⟨ds,hd',hA⟩:=A.done;have off:∀{F:Nat->Prop} {v:AV} {cs:List AV},¬F I.I3->Arr h F v cs->Arr (h.set I.I3 (.cells (T.put (some (iv z)) c i) sz none false)) F v cs:=λhF x=>x.keep (Stay.set (Stay.refl _ _) (λ_=>hF) _) λ_ f _=>f;refine⟨sz,c,cap,e,g,by rw[hc,q0t,q0e,q0a hi];rfl,X.off A.l3.1 A.l3.2.2 _,⟨⟨ca,by rw[q2c,q1a _ _ _ _ A.nA.2.2.symm];exact ga,hca⟩,⟨A.lA.1,by rw[q2b];exact A.lA.2⟩,⟨A.l1.1,by rw[q2b];exact A.l1.2.1,A.l1.2.2⟩,⟨A.l2.1,by rw[q2b];exact A.l2.2.1,A.l2.2.2⟩,⟨A.l3.1,by rw[q2b];exact A.l3.2.1,A.l3.2.2⟩,A.nA,A.ne,off (λe=>A.ne.2.1 e.symm) A.vals,⟨ds,hd',off (λe=>A.ne.2.2 e.symm) hA⟩,by rw[List.map_set];exact a',off (λe=>e.2.2.2 rfl) A.args,A.vl,A.ival,λy hy=>?_,A.iar⟩,by rw[q2b];exact q0c _,λk hk hl=>⟨hl,λ_ _ n3=>by rw[q2c,q1a _ _ _ _ (Ne.symm n3)]⟩⟩;rcases List.mem_or_eq_of_mem_set hy with h | h
 ·exact A.isl y h
 ·exact h▸hz
include H in
theorem put_ge(D:DatK hd p K)(X:MacS hd h lab M S K V s){B:Nat}(hB:B<=100000)(L:Sml B s)(A:ActS hd.next h lab I a n)(hf:p.funs[a.fn]?=some f)(hni:n=f.ins.length){b:Nat}{x:InsD}(ok:OkI p f b x){E:List AV}(r:InsV hd E x)(hsl:a.slots.length=f.slots.length)(hgl:s.glob.length=p.globals.length){v:AV}{F:Nat->Prop}{args:List Int}(ra:Arr h F v (args.map iv))(hF:F=λk=>k<h.next/\lab k=.no/\k≠I.I1/\k≠I.I2/\k≠I.I3)(hal:args.length=x.args.length)(h0:0<args.length)(h64:∀z∈args,I64 z):GE tab 197 [.ptr M 0,.ptr I.A 0,.agg E,v] h
  (λ_ h1=>∃a' s',putV a x args s=.ok a' s'/\APost hd h lab M S K V I n a' s' h1) (EPost hd h lab M S K V (putV a x args s)):=by
 subst hF;obtain⟨op,typ,xa,nn,name⟩:=x;obtain⟨vx,rfl,sx,j0,j1,j2,j3⟩:=r;dsimp only at *;have hsm:=ra.small;rw[q0j] at hsm;obtain⟨id,sz,cv,cap,ev,hidF,hlt,gv,hc0⟩:=ra.at' (i:=0) h0;obtain⟨id2,sz2,c2',cap2,ev2,-,hlt2,g2,hc1⟩:=ra.at' (i:=args.length-1) (by omega);rw[ev] at ev2;injection ev2 with e1 _ _ e4;subst e1;subst e4;subst ev;rw[gv] at g2;injection g2 with g2;injection g2 with g2 _ _ _;subst g2;have i0:zAb [.ptr M 0,.ptr I.A 0,.agg [.int .i64 op,sv typ,vx,.int .i64 nn,sv name],.sl id 0 args.length cap]=zAa [.ptr M 0,.ptr I.A 0,.agg [.int .i64 op,sv typ,vx,.int .i64 nn,sv name],.sl id 0 args.length cap]:=rfl;have mv:∀h',oMove (.c (.sl id 0 args.length cap)) .leaf [] h'=.val (.sl id 0 args.length cap) h':=λ_=>zAg ra.mv;have ln:∀h',oLen .sl (.c (.sl id 0 args.length cap)) .leaf [] h'=.val (nv args.length) h':=λh'=>by rw[ra.len (h':=h'),q0j]
 have hl0:0<args.length:=h0;have hl1:args.length-1<args.length:=by omega
 have iy:I64 (args.getD (args.length-1) 0):=zDb h64;refine zAi H.t197 rfl ?_;obtain⟨c,g,hlM,hM,hc⟩:=X.pm (λe=>e);have c2:c.get 2=some K.vf:=hc 2 (by decide);have c4:c.get 4=some V.glob:=hc 4 (by decide);have c5:c.get 5=some (.ptr S 0):=hc 5 (by decide);obtain⟨ca,ga,a0,a1,a2,a3,a4,a5⟩:=A.obj;have lA:=A.lA.2;have nM:¬h.next=M:=by omega
 have nA:¬h.next=I.A:=by omega
 have ni:¬h.next=id:=by omega
 have MB:=q2g h (.cells (zAa [.int .i64 op,sv typ,vx,.int .i64 nn,sv name]) 5 none false);rw[zC6,zKh,run_s3];refine run_cut3 (λl d h1=>d=[]/\l.get 0=some (.ptr M 0)/\l.get 1=some (.ptr I.A 0)/\l.get 3=some (.sl id 0 args.length cap)/\l.get 4=some (.ptr h.next 0)/\h1.mem.get h.next=some (.cells (zAa [.int .i64 op,sv typ,vx,.int .i64 nn,sv name]) 5 none false)/\h.next<h1.next/\∃s',putV a ⟨op,typ,xa,nn,name⟩ args s=.ok a s'/\∃lab' V',V'.depth=V.depth/\MacS hd h1 lab' M S K V' s'/\FrK lab h lab' h1) ?_ ?_
 ·unfold putV;dsimp only;by_cases c28:op=((28:Nat):Int)
  ·subst c28;rw[if_pos (show((28:Nat):Int)=28 from rfl)];obtain⟨y,rfl,hy⟩:=ok.slot (.inr rfl);have hy2:y<a.slots.length:=by omega
   obtain⟨sz3,c3,cap3,e3,g3,hc3,X3,A3,f3⟩:=op_slot (X.more MB) (A.more MB) hy2 _ iy;rw[e3] at a5;have n3:¬h.next=I.I3:=by have:=A.l3.2.1;omega
   rw[q2a,q1a _ _ _ _ n3] at g3;rw[q0n];simp+decide(disch:=omega)only[RL,↓reduceIte,i0,mv,ln,gv,hc1,ni,ga,a5,nA,g3,hc3,n3];exact⟨_,s,rfl,lab,V,rfl,X3,A3,(FrK.more MB).a.trans f3⟩
  rw[if_neg (show ¬op=28 from c28)];by_cases c26:op=((26:Nat):Int)
  ·subst c26;rw[if_pos (show((26:Nat):Int)=26 from rfl)];simp+decide(disch:=omega)only[RL,↓reduceIte,i0,mv,ln,gv,hc0,hc1,ni,g,c5,nM,q0p,Nat.reduceEqDiff];refine(set_gp' H (X.more MB) (by have:=L.frames;omega) (by have:=L.objs;omega) iy).to λw h2 q=>?_;obtain⟨rfl,X2,f2⟩:=q;have F2:=(FrK.more (lab:=lab) MB).trans f2;simp(disch:=omega)only[RL];unfold zAz;refine(zIu H).mono (λw h3 q=>?_) (λw h3 q=>?_)
   ·obtain⟨q1,rfl⟩:=q;rw[if_pos q1] at X2 ⊢;have gb:h3.mem.get h.next=some (.cells (zAa [.int .i64 ((26:Nat):Int),sv typ,vx,.int .i64 nn,sv name]) 5 none false):=by rw[(f2.2 h.next (q0h _) (X.new _ (q0c _))).2,q2a,q1b]
    have nb:h.next<h3.next:=q0d (q0h _) f2.1;simp+decide(disch:=omega)only[RL,↓reduceIte];exact⟨gb,nb,_,rfl,lab,V,rfl,X2,F2⟩
   ·obtain⟨q1,rfl,rfl⟩:=q;rw[if_neg q1] at X2 ⊢;refine⟨_,_,s,?_,rfl,lab,V,rfl,X2,F2⟩;split
    ·rename_i e;rw[e]
    ·rfl
  rw[if_neg (show ¬op=26 from c26)];by_cases c30:op=((30:Nat):Int)
  ·subst c30;rw[if_pos (show((30:Nat):Int)=30 from rfl)];obtain⟨y,rfl,hy⟩:=ok.glob (.inr rfl);have hy2:y<s.glob.length:=by omega
   obtain⟨gid,gsz,gc,gcap,ge,gg,hgc,nMg,X3,f3⟩:=op_glob (X.more MB) hy2 _ iy;rw[ge] at c4;have n3:¬h.next=gid:=by
    rintro rfl;have this:Arr h (λk=>lab k=.glob) V.glob (s.glob.map iv):=X.part .glob (λe=>e);rw[ge] at this;have:=this.isF.2;omega
   have n4:¬gid=h.next:=λe=>n3 e.symm;rw[q2a,q1a _ _ _ _ n3] at gg;rw[q0n];simp+decide(disch:=omega)only[RL,↓reduceIte,i0,mv,ln,gv,hc1,ni,g,c4,nM,gg,hgc,n3,n4,q0p,Nat.reduceEqDiff];exact⟨q0h _,_,rfl,lab,V,rfl,X3,(FrK.more MB).trans f3⟩
  rw[if_neg (show ¬op=30 from c30)];simp+decide(disch:=omega)only[RL,↓reduceIte,i0,mv,ln,gv,hc1,ni,c28,c26,c30];exact⟨q0h _,s,rfl,lab,V,rfl,X.more MB,FrK.more MB⟩
 ·rintro l d h1 ⟨rfl,l0,l1,l3,l4,gb,nb,s',hs',lab',V',d',X',f'⟩;have A':=A.fr f';obtain⟨c',g',hlM',hM',hc'⟩:=X'.pm (λe=>e);have c2':c'.get 2=some K.vf:=hc' 2 (by decide);have c13':c'.get 13=some V'.acts:=hc' 13 (by decide);have aS:Stk h1 (λk=>lab' k=.acts) V'.acts V'.depth:=X'.part .acts (λe=>e);have mvA:∀h',oMove (.c V'.acts) .leaf [] h'=.val V'.acts h':=λ_=>zAg aS.mv;obtain⟨ca',ga',b0,b1,-⟩:=A'.obj;have mf:=D.s3.mv;obtain⟨fid,fo,vp,vl,vi,vb,fix_,-,-,-,fi4,-,-,-,s6,-,-⟩:=zF4 D X'.sub hf;have mi:=s6.mv;have lxx:=sx.len;have mxx:=sx.mv;have hx1:xa.length-1<xa.length:=by omega
  have sxh:=sx.sub X'.sub λ_ _ r=>r;obtain⟨xi,xo,xE,xix,xe,⟨rfl,_⟩,-,xlw⟩:=sxh.at hx1;obtain⟨y,hy1,hy2⟩:=ok.args _ (q0l hx1);have xix:∀h' k,zCx 1 (.c vx) (.c (.int k ((args.length-1:Nat):Int))) .leaf [] h'=.val (.ptr xi xo) h':=by rw[hal];exact xix
  have xlw:oLoad (.c (.ptr xi xo)) .leaf [] h1=.val (.int .i64 (y:Int)) h1:=by rw[<-hy1];exact xlw 0 _ rfl h1
  have hyi:y<f.ins.length:=by omega
  obtain⟨ii,oi,Ei,ji,ei,⟨vxx,rfl,-,-,-,jt,-⟩,-,lwi⟩:=s6.at hyi;have lw1:oLoad (.c (.ptr ii (oi+1))) .leaf [] h1=.val (sv f.ins[y].typ) h1:=lwi 1 _ rfl h1;simp(disch:=omega)only[RL,l0,l1,l3,l4,g',c2',ga',b0,fix_,fi4,gb,mv,ln,xix,xlw,ji,lw1];refine(zLt H jt).to λw h2 q=>?_;obtain⟨rfl,m2⟩:=q;have X2:=X'.more m2;have A2:=A'.more m2;have F2:=f'.trans (FrK.more (lab:=lab') m2);cases hp:(elemS f.ins[y].typ).isSome with
  | false=>
   simp+decide(disch:=omega)only[RL,↓reduceIte,l0];exact⟨a,s',hs',lab',V',d',X2,A2,F2.a⟩
  | true=>
   have g2:=(m2.keep _ hM').trans g';have ga2:=(m2.keep _ A'.lA.2).trans ga';simp+decide(disch:=omega)only[RL,↓reduceIte,l0,l1,g2,ga2,b0,b1,c13'];refine(zLb H X2).to λw h3 m3=>?_;simp(disch:=omega)only[RL];exact⟨a,s',hs',lab',V',d',X2.more m3,A2.more m3,(F2.trans (FrK.more m3)).a⟩
end
structure OkP(p:ProgD):Prop where
 fn:∀f∈p.funs,OkF p f
 grt:Grt p
 fields:∀x∈p.structs,x.fields.length<=100000
 slots:∀f∈p.funs,f.slots.length<=100000
 params:∀f∈p.funs,f.params.length<=100000
def GoodM(B:Nat)(s s':MSt):Prop:=Sml B s'/\s'.glob.length=s.glob.length/\s'.fuel<=s.fuel
def NPost'(B:Nat)(hd h:AH)(lab:Nat->Lab)(M S:Nat)(K:MK)(V:MV)(s:MSt)(spec:Rz Int)(v:AV)(h1:AH):Prop:=∃z s',spec=.ok z s'/\numQ z v/\GoodM B s s'/\MPost hd h lab M S K V s' h1
def EPost'{α:Type}(B:Nat)(hd h:AH)(lab:Nat->Lab)(M S:Nat)(K:MK)(V:MV)(spec:Rz α)(v:AV)(h1:AH):Prop:=∃e f s',spec=.stop e f s'/\v=stopV e f/\Sml B s'/\∃lab' V',MacS hd h1 lab' M S K V' s'/\FrK lab h lab' h1
def RunOK(tab:Nat->Option AFunc)(p:ProgD)(hd:AH)(M S:Nat)(K:MK)(n:Nat):Prop:=∀(h:AH) (lab:Nat->Lab) (V:MV) (s:MSt) (B fn:Nat) (f:FunD) (v:AV) (args:List Int),DatK hd p K->MacS hd h lab M S K V s->B<100000->Sml B s->2*s.fuel+2<=n->p.funs[fn]?=some f->args.length=f.params.length->Arr h (λk=>lab k=.no) v (args.map iv)->(∀z∈args,I64 z)->s.glob.length=p.globals.length->V.depth<=s.frames.length->
 GE tab 79 [.ptr M 0,nv fn,v] h (NPost' (B+1) hd h lab M S K V s (runV p (doS tab) (λi=>K.L.getD i 0) n fn args s)) (EPost' (B+1) hd h lab M S K V (runV p (doS tab) (λi=>K.L.getD i 0) n fn args s))
section
variable{tab:Nat->Option AFunc}(H:PV tab){hd h:AH}{lab:Nat->Lab}{M S:Nat}{K:MK}{V:MV}{s:MSt}{p:ProgD}{I:AI}{a:ActD}{n:Nat}{f:FunD}
include H in
theorem call1_gp(D:DatK hd p K)(X:MacS hd h lab M S K V s){E:List AV}{x:InsD}{h0:AH}(r:InsV h0 E x){k:Nat}(hk:x.n=k){g:FunD}(hg:p.funs[k]?=some g){i:Nat}(hi:i<g.params.length){b1 b2:Nat}(g1:h.mem.get b1=some (.cells (zAa [.ptr M 0]) 1 none false))(g2:h.mem.get b2=some (.cells (zAa E) 5 none false)):GP tab 213 [nv i,.ptr b1 0,.ptr b2 0] h λv h1=>v=sv g.params[i]/\More h h1:=by
 have i0:zAb [nv i,.ptr b1 0,.ptr b2 0]=zAa [nv i,.ptr b1 0,.ptr b2 0]:=rfl;obtain⟨c,gM,hlM,hM,hc⟩:=X.pm id;have c2:c.get 2=some K.vf:=hc 2 (by decide);have mf:=D.s3.mv;obtain⟨vx,rfl,-⟩:=r;rw[hk] at g2;obtain⟨fid,fo,vp,vl,vi,vb,fix_,-,fp,-,-,-,t1,-⟩:=zF4 D X.sub hg;have mp:=t1.mv;obtain⟨pi,po,pE,pix,pe,⟨rfl,_⟩,-,plw⟩:=t1.at hi;have plw:oLoad (.c (.ptr pi po)) .leaf [] h=.val (sv g.params[i]) h:=plw 0 _ rfl h;refine gpr H.t213 ?_;simp+decide only[RL,↓reduceIte,i0,g1,g2,gM,c2,fix_,fp,pix,plw,moreT]
include H in
theorem call_ge(P:OkP p)(R:RunOK tab p hd M S K n)(D:DatK hd p K)(X:MacS hd h lab M S K V s){B:Nat}(hB:B<100000)(L:Sml B s)(hn:2*s.fuel+2<=n){hx:Nat}{m:Nat}(A:ActS hx h lab I a m){E:List AV}{x:InsD}{h0:AH}(r:InsV h0 E x){k:Nat}(hk:x.n=k){g:FunD}(hg:p.funs[k]?=some g){args:List Int}(hal:args.length=g.params.length){v:AV}(ra:Arr h (λk=>lab k=.no) v (args.map iv))(h64:∀z∈args,I64 z)(hgl:s.glob.length=p.globals.length):GE tab 194 [.ptr M 0,.ptr I.A 0,.agg E,v] h (NPost' (B+1) hd h lab M S K V s (runV p (doS tab) (λi=>K.L.getD i 0) n k args s)) (EPost' (B+1) hd h lab M S K V (runV p (doS tab) (λi=>K.L.getD i 0) n k args s)):=by
 obtain⟨op,typ,xa,nn,name⟩:=x;dsimp only at hk;subst hk;have r0:=r;obtain⟨vx,rfl,-⟩:=r;dsimp only at *;have i0:zAb [.ptr M 0,.ptr I.A 0,.agg [.int .i64 op,sv typ,vx,.int .i64 (k:Int),sv name],v]=zAa [.ptr M 0,.ptr I.A 0,.agg [.int .i64 op,sv typ,vx,.int .i64 (k:Int),sv name],v]:=rfl;have mv:∀h',oMove (.c v) .leaf [] h'=.val v h':=λ_=>zAg ra.mv;have hgp:=P.params g (q0L hg);refine zAi H.t194 rfl ?_;simp+decide only[RL,↓reduceIte,i0,mv];refine zCu λhB' eB=>?_;have mB:More h hB':=by rw[eB];exact(q2g _ _).trans (q2g _ _)
 have nB:h.next+1<hB'.next:=by rw[eB];exact q0h _
 have g2:hB'.mem.get (h.next+1)=some (.cells (zAa [.int .i64 op,sv typ,vx,.int .i64 (k:Int),sv name]) 5 none false):=by rw[eB,q2a];exact q1b _ _ _
 have g1:hB'.mem.get h.next=some (.cells (zAa [.ptr M 0]) 1 none false):=by rw[eB,q2a,q1a _ _ _ _ (by rw[q2e];omega),q2a,q1b];rfl
 clear eB;have raB:=ra.keep ⟨mB.next,λid _ hi=>mB.keep id hi⟩ λ_ f _=>f;refine(zI6 H (raB.slG (el:=iv) λz hz=>⟨rfl,h64 z hz⟩) (by omega) λh1 m i hi=>⟨g.params[i],?_,?_⟩).to λw h2 q=>?_
 ·obtain⟨fid,fo,vp,vl,vi,vb,-,-,-,-,-,-,t1,-⟩:=zF4 D X.sub hg;exact t1.str (q0l _)
 ·exact call1_gp H D ((X.more mB).more m) r0 rfl hg (by omega) ((m.keep _ (by omega)).trans g1) ((m.keep _ nB).trans g2)
 obtain⟨⟨cs,-,ap⟩,m2⟩:=q;have M2:=mB.trans m2;have X2:=X.more M2;have A2:=A.more M2;have raM:=raB.keep ⟨m2.next,λid _ hi=>m2.keep id hi⟩ λ_ f _=>f;obtain⟨c,gM,hlM,hM,hc⟩:=X2.pm (λe=>e);have c13:c.get 13=some V.acts:=hc 13 (by decide);have aS:Stk h2 (λk=>lab k=.acts) V.acts V.depth:=X2.part .acts (λe=>e);have mvA:∀h',oMove (.c V.acts) .leaf [] h'=.val V.acts h':=λ_=>zAg aS.mv;have mvw:∀h',oMove (.c w) .leaf [] h'=.val w h':=λ_=>zAg ap.mv;obtain⟨ca,ga,a0,a1,-⟩:=A2.obj;have g12:=(m2.keep _ (by omega:h.next<hB'.next)).trans g1;have g22:=(m2.keep _ nB).trans g2;simp+decide only[RL,↓reduceIte,g12,ga,a0,a1,gM,c13,mvw];refine(zLb H X2).to λw2 h3 m3=>?_;have g13:=(m3.keep _ (by have:=m2.next;omega)).trans g12;have g23:=(m3.keep _ (by have:=m2.next;omega)).trans g22;have M3:=M2.trans m3;have ra3:=raM.keep ⟨m3.next,λid _ hi=>m3.keep id hi⟩ λ_ f _=>f;simp+decide only[RL,↓reduceIte,g13,g23,mv];refine(R h3 lab V s B k g v args D (X.more M3) hB L hn hg hal ra3 h64 hgl X.dep).mono (λw h4 q=>?_) (λw h4 q=>?_)
 ·obtain⟨z,s',e,⟨q1,rfl⟩,q2,lab4,V4,d4,X4,f4⟩:=q;simp only[RL,↓reduceIte];exact⟨z,s',e,⟨q1,rfl⟩,q2,lab4,V4,d4,X4,(FrK.more M3).trans f4⟩
 ·obtain⟨e',f',s',e,rfl,q2,lab4,V4,X4,f4⟩:=q;exact⟨e',f',s',e,rfl,q2,lab4,V4,X4,(FrK.more M3).trans f4⟩
end
def SameA(a a':ActD):Prop:=a'.fn=a.fn/\a'.frame=a.frame/\a'.args=a.args/\a'.vals.length=a.vals.length/\a'.slots.length=a.slots.length
theorem SameA.refl(a:ActD):SameA a a:=⟨rfl,rfl,rfl,rfl,rfl⟩
theorem SameA.trans{a b c:ActD}(x:SameA a b)(y:SameA b c):SameA a c:=⟨y.1.trans x.1,y.2.1.trans x.2.1,y.2.2.1.trans x.2.2.1,y.2.2.2.1.trans x.2.2.2.1,y.2.2.2.2.trans x.2.2.2.2⟩
theorem Sml.up{B B':Nat}{s:MSt}(L:Sml B s)(h:B<=B'):Sml B' s:=⟨q0m L.frames h,q0m L.objs h,q0m L.out h,L.steps,L.framed⟩
theorem leaf_good{p:ProgD}{rd:Nat->Int}{a:ActD}{x:InsD}{s s':MSt}{z:Int}{B:Nat}(e:leafV p rd a x s=.ok z s')(L:Sml B s):GoodM (B+1) s s':=by
 have L1:=L.up (q0w B);unfold leafV at e;have k0:∀{z0:Int},(Rz.ok z0 s:Rz Int)=.ok z s'->GoodM (B+1) s s':=λe=>by injection e with _ e;subst e;exact⟨L1,rfl,q0c _⟩
 split at e
 ·exact k0 e
 split at e
 ·exact k0 e
 split at e
 ·dsimp only at e;generalize (a.frame:Int)*x.n=fr0 at e;unfold zAz at e;split at e
  ·rename_i h0;injection e with _ e;subst e;revert h0;unfold makeS;cases findS p.structs x.name with
   | none=>intro h0;cases h0
   | some k=>
    dsimp only;split
    ·intro h0;cases h0
    ·split
     ·intro h0;cases h0
     ·intro _;refine⟨⟨L1.frames,?_,L1.out,L1.steps,?_⟩,rfl,q0c _⟩
      ·have:=L.objs;show(s.objs++[_]).length+s.fuel<=B+1;rw[q0o,List.length_singleton];omega
      ·have hF:=L.framed;have key:(if fr0≠0 then s.framed+1 else s.framed)<=s.objs.length+1:=by
        by_cases hz:fr0≠0
        ·rw[if_pos hz];omega
        ·rw[if_neg hz];omega
       show(if fr0≠0 then s.framed+1 else s.framed)<=(s.objs++[_]).length;rw[q0o,List.length_singleton];exact key
  ·split at e<;>cases e
 split at e
 ·exact k0 e
 split at e
 ·exact k0 e
 split at e
 ·injection e with _ e;subst e;exact⟨⟨L1.frames,L1.objs,L1.out,L1.steps,L1.framed⟩,rfl,q0c _⟩
 ·exact k0 e
theorem makeS_bad{p:ProgD}{s:MSt}{n:Str}{fr:Int}(h:(makeS p s n fr).2.1≠0):(makeS p s n fr).2.2=s:=by
 revert h;unfold makeS;cases findS p.structs n with
 | none=>intro _;rfl
 | some k=>
  dsimp only;split
  ·intro _;rfl
  ·split
   ·intro _;rfl
   ·intro h;exact absurd rfl h
theorem zKy{α:Type}{e:Nat}{s s':MSt}{k:MSt->Rz α}{x y:Nat}(h:zAz e s k=.stop x y s')(hk:∀s x y t,k s≠.stop x y t):e≠0/\s'=s:=by
 unfold zAz at h;split at h
 ·exact absurd h (hk _ _ _ _)
 ·rename_i h0;split at h<;>(injection h with _ _ h;exact⟨h0,h.symm⟩)
theorem leaf_bad{p:ProgD}{rd:Nat->Int}{a:ActD}{x:InsD}{s s':MSt}{e f:Nat}(h:leafV p rd a x s=.stop e f s'):s'=s:=by
 unfold leafV at h;split at h
 ·cases h
 split at h
 ·cases h
 split at h
 ·obtain⟨h0,h1⟩:=zKy h (λ_ _ _ _ e=>by cases e);rw[h1];exact makeS_bad h0
 split at h
 ·cases h
 split at h
 ·cases h
 split at h<;>cases h
theorem zKz{α:Type}{e:Nat}{s:MSt}{k:MSt->Rz α}(h:e≠0):zAz e s k=.stop (if e=14 then 4 else 2) e s:=by
 unfold zAz;rw[if_neg h];by_cases h1:e=14
 ·rw[if_pos h1,if_pos h1,h1]
 ·rw[if_neg h1,if_neg h1]
theorem setS_len{s:MSt}{z k v:Int}:(setS s z k v).objs.length=s.objs.length:=by
 unfold setS setO;cases s.objs[z.toNat-1]? with
 | none=>rfl
 | some o=>simp
theorem put_good{a a':ActD}{x:InsD}{args:List Int}{s s':MSt}{B:Nat}(e:putV a x args s=.ok a' s')(L:Sml B s):GoodM (B+1) s s'/\SameA a a'/\a'.vals=a.vals:=by
 have L1:=L.up (q0w B);unfold putV at e;split at e
 ·injection e with e1 e;subst e;subst e1;exact⟨⟨L1,rfl,q0c _⟩,⟨rfl,rfl,rfl,rfl,by simp⟩,rfl⟩
 split at e
 ·unfold zAz at e;split at e
  ·injection e with e1 e;subst e;subst e1;exact⟨⟨⟨L1.frames,by rw[setS_len];exact L1.objs,L1.out,L1.steps,by rw[setS_len];exact L1.framed⟩,rfl,q0c _⟩,SameA.refl _,rfl⟩
  ·split at e<;>cases e
 split at e
 ·injection e with e1 e;subst e;subst e1;exact⟨⟨⟨L1.frames,L1.objs,L1.out,L1.steps,L1.framed⟩,by simp,q0c _⟩,SameA.refl _,rfl⟩
 ·injection e with e1 e;subst e;subst e1;exact⟨⟨L1,rfl,q0c _⟩,SameA.refl _,rfl⟩
theorem put_bad{a:ActD}{x:InsD}{args:List Int}{s s':MSt}{e f:Nat}(h:putV a x args s=.stop e f s'):s'=s:=by
 unfold putV at h;split at h
 ·cases h
 split at h
 ·exact(zKy h (λ_ _ _ _ e=>by cases e)).2
 split at h<;>cases h
theorem insV_eq{p:ProgD}{nd:Int->Int->Int->Int×Nat}{rd:Nat->Int}{call:Nat->List Int->MSt->Rz Int}{f:FunD}{a:ActD}{op nn:Int}{typ name:Str}{xa:List Int}{s:MSt}:insV p nd rd call f a ⟨op,typ,xa,nn,name⟩ s=(if op<=18 then zAz (nd op ((xa.map λi=>a.vals.getD i.toNat 0).getD 0 0) ((xa.map λi=>a.vals.getD i.toNat 0).getD ((xa.map λi=>a.vals.getD i.toNat 0).length-1) 0)).2 s λs=>.ok ((nd op ((xa.map λi=>a.vals.getD i.toNat 0).getD 0 0) ((xa.map λi=>a.vals.getD i.toNat 0).getD ((xa.map λi=>a.vals.getD i.toNat 0).length-1) 0)).1,a) s
  else if op=31 then(call nn.toNat (xa.map λi=>a.vals.getD i.toNat 0) s).bind λv s=>.ok (v,a) s
  else if op=32 then .ok (0,a) {s with out:=s.out++[(xa.map λi=>a.vals.getD i.toNat 0).getD 0 0]}
  else if op=25 then zAz (chkS s ((xa.map λi=>a.vals.getD i.toNat 0).getD 0 0) nn) s λs=>.ok (getS s ((xa.map λi=>a.vals.getD i.toNat 0).getD 0 0) nn,a) s
  else if 0<(xa.map λi=>a.vals.getD i.toNat 0).length then(putV a ⟨op,typ,xa,nn,name⟩ (xa.map λi=>a.vals.getD i.toNat 0) s).bind λa s=>.ok (0,a) s
  else(leafV p rd a ⟨op,typ,xa,nn,name⟩ s).bind λv s=>.ok (v,a) s):=by
 unfold insV putV leafV;dsimp only;generalize (xa.map λi=>a.vals.getD i.toNat 0)=args;refine ite_congr rfl (λ_=>rfl) λ_=>ite_congr rfl (λ_=>rfl) λ_=>ite_congr rfl (λ_=>rfl) λ_=>ite_congr rfl (λ_=>rfl) λ_=>ite_congr rfl (λ_=>?_) λ_=>?_
 ·by_cases c1:op=28
  ·rw[if_pos c1,if_pos c1];rfl
  rw[if_neg c1,if_neg c1];by_cases c2:op=26
  ·rw[if_pos c2,if_pos c2];unfold zAz;split
   ·rfl
   ·split<;>rfl
  rw[if_neg c2,if_neg c2];split<;>rfl
 ·by_cases c1:op=20
  ·rw[if_pos c1,if_pos c1];rfl
  rw[if_neg c1,if_neg c1];by_cases c2:op=21\/op=22
  ·rw[if_pos c2,if_pos c2];rfl
  rw[if_neg c2,if_neg c2];by_cases c3:op=24
  ·rw[if_pos c3,if_pos c3];unfold zAz;split
   ·rfl
   ·split<;>rfl
  rw[if_neg c3,if_neg c3];by_cases c4:op=27
  ·rw[if_pos c4,if_pos c4];rfl
  rw[if_neg c4,if_neg c4];by_cases c5:op=29
  ·rw[if_pos c5,if_pos c5];rfl
  rw[if_neg c5,if_neg c5];split<;>rfl
section
variable{tab:Nat->Option AFunc}(H:PV tab){hd h:AH}{lab:Nat->Lab}{M S:Nat}{K:MK}{V:MV}{s:MSt}{p:ProgD}{I:AI}{a:ActD}{n:Nat}{f:FunD}
include H in
theorem ins_ge(P:OkP p)(R:RunOK tab p hd M S K n)(D:DatK hd p K)(X:MacS hd h lab M S K V s){B:Nat}(hB:B<100000)(L:Sml B s)(hn:2*s.fuel+2<=n)(A:ActS hd.next h lab I a f.ins.length)(hf:p.funs[a.fn]?=some f){i:Nat}(hi:i<f.ins.length)(hfr:a.frame<=1000000){b:Nat}(ok:OkI p f b f.ins[i])(h34:f.ins[i].op≠34)(hpar:a.args.length=f.params.length)(hsl:a.slots.length=f.slots.length)(hgl:s.glob.length=p.globals.length)(hL:∀z∈K.L,I64 z):GE tab 175 [.ptr M 0,.ptr I.A 0,nv i] h
  (λv h1=>∃z a' s',insV p (doS tab) (λi=>K.L.getD i 0) (runV p (doS tab) (λi=>K.L.getD i 0) n) f a f.ins[i] s=.ok (z,a') s'/\numQ z v/\GoodM (B+1) s s'/\SameA a a'/\a'.vals=a.vals/\APost hd h lab M S K V I f.ins.length a' s' h1)
  (EPost' (B+1) hd h lab M S K V (insV p (doS tab) (λi=>K.L.getD i 0) (runV p (doS tab) (λi=>K.L.getD i 0) n) f a f.ins[i] s)):=by
 have i0:zAb [.ptr M 0,.ptr I.A 0,nv i]=zAa [.ptr M 0,.ptr I.A 0,nv i]:=rfl;obtain⟨c,g,hl,hM,hc⟩:=X.pm id;have c2:c.get 2=some K.vf:=hc 2 (by decide);have mf:=D.s3.mv;obtain⟨ca,ga,a0,a1,a2,a3,a4,a5⟩:=A.obj;have lA:=A.lA.2;obtain⟨fid,fo,vp,vl,vi,vb,fix_,-,-,-,fi4,-,-,-,s6,-,-⟩:=zF4 D X.sub hf;have mi:=s6.mv;obtain⟨ii,oi,Ei,ji,ei,r,ldi,-⟩:=s6.at hi;have hleaf:=λh' (X':MacS hd h' lab M S K V s) (A':ActS hd.next h' lab I a f.ins.length)=>leaf_ge H D X' (Nat.le_of_lt hB) L P.fields A' hf hi hfr ok hpar hsl hgl hL;have hxa:=(P.grt f (q0L hf)).2.2 _ (q0l hi);generalize f.ins[i]=x at *;have r0:=r;obtain⟨op,typ,xa,nn,name⟩:=x;obtain⟨vx,rfl,sx,j0,j1,j2,j3⟩:=r;dsimp only at *;have ldi:zAy 5 (.c (.ptr ii oi)) .leaf [] h=.val (.agg [.int .i64 op,sv typ,vx,.int .i64 nn,sv name]) h:=ldi h;refine zAi H.t175 rfl ?_;have nM:¬h.next=M:=by omega
 have nA:¬h.next=I.A:=by omega
 obtain⟨cB,eB⟩:∃cB,cB=T.put (some (sv name)) (T.put (some (.int .i64 nn)) (T.put (some vx) (T.put (some (sv typ)) (T.put (some (.int .i64 op)) (zAa [.int .i64 ((0:Nat):Int),sv [],.nils,.int .i64 ((0:Nat):Int),sv []]) 0) 1) 2) 3) 4:=⟨_,rfl⟩;have lB5:loadL cB 5 0=some [.int .i64 op,sv typ,vx,.int .i64 nn,sv name]:=by rw[eB];rfl
 rw[eB] at lB5;simp+decide only[RL,↓reduceIte,i0,g,c2,ga,a0,fix_,fi4,ji,ldi,lB5];rw[<-eB] at lB5;refine zCu λhB' eh=>?_;rw[<-eB] at eh;have gB:hB'.mem.get h.next=some (.cells cB 5 none false):=by rw[eh,q2d]
 have mB:More h hB':=by rw[eh];exact(q2g _ _).set (q0c _) _
 have nB:h.next<hB'.next:=by rw[eh];exact q0h _
 clear eh;refine(of_gp H (A.more mB) ((r0.sub X.sub).more mB) hxa ok.args).to λw h2 q=>?_;obtain⟨ra,m2⟩:=q;dsimp only at ra;have M2:=mB.trans m2;have X2:=X.more M2;have A2:=A.more M2;have F2:=FrK.more (lab:=lab) M2;have gB2:=(m2.keep _ nB).trans gB;have nB2:=q0d nB m2.next;have ld0:∀(h':AH) [MoreC h2 h'],oLoad (.c (.ptr h.next 0)) .leaf [] h'=.val (.int .i64 op) h':=λh' _=>zBa (kp gB2 nB2) (by rw[eB];rfl);have ld3:∀(h':AH) [MoreC h2 h'],oLoad (.c (.ptr h.next 3)) .leaf [] h'=.val (.int .i64 nn) h':=λh' _=>zBa (kp gB2 nB2) (by rw[eB];rfl);have ldA:∀(h':AH) [MoreC h2 h'],zAy 5 (.c (.ptr h.next 0)) .leaf [] h'=.val (.agg [.int .i64 op,sv typ,vx,.int .i64 nn,sv name]) h':=λh' _=>zAp (kp gB2 nB2) lB5;obtain⟨args,ea⟩:∃args,args=xa.map λi=>a.vals.getD i.toNat 0:=⟨_,rfl⟩;rw[<-ea] at ra;have hal:args.length=xa.length:=by rw[ea,q0j]
 have h64:∀z∈args,I64 z:=λz hz=>by rw[ea] at hz;obtain⟨y,-,rfl⟩:=List.mem_map.mp hz;exact zDb A.ival
 have ranew:Arr h2 (λk=>k<h2.next/\lab k=.no/\k≠I.I1/\k≠I.I2/\k≠I.I3) w (args.map iv):=ra.to (q0c _) λk (hk:hB'.next<=k) hlt=>⟨⟨hlt,X.new k (by omega),by have:=A.l1.2.1;omega,by have:=A.l2.2.1;omega,by have:=A.l3.2.1;omega⟩,rfl⟩;have ralab:Arr h2 (λk=>lab k=.no) w (args.map iv):=ranew.to (q0c _) λk hk _=>⟨hk.2.1,rfl⟩;have mvw:∀h',oMove (.c w) .leaf [] h'=.val w h':=λ_=>zAg ra.mv;have lnw:∀h',oLen .sl (.c w) .leaf [] h'=.val (nv args.length) h':=λh'=>by rw[ra.len (h':=h'),q0j]
 have hE:insV p (doS tab) (λi=>K.L.getD i 0) (runV p (doS tab) (λi=>K.L.getD i 0) n) f a ⟨op,typ,xa,nn,name⟩ s=(if op<=18 then zAz (doS tab op (args.getD 0 0) (args.getD (args.length-1) 0)).2 s λs=>.ok ((doS tab op (args.getD 0 0) (args.getD (args.length-1) 0)).1,a) s
  else if op=31 then(runV p (doS tab) (λi=>K.L.getD i 0) n nn.toNat args s).bind λv s=>.ok (v,a) s
  else if op=32 then .ok (0,a) {s with out:=s.out++[args.getD 0 0]}
  else if op=25 then zAz (chkS s (args.getD 0 0) nn) s λs=>.ok (getS s (args.getD 0 0) nn,a) s
  else if 0<args.length then(putV a ⟨op,typ,xa,nn,name⟩ args s).bind λa s=>.ok (0,a) s
  else(leafV p (λi=>K.L.getD i 0) a ⟨op,typ,xa,nn,name⟩ s).bind λv s=>.ok (v,a) s):=by
  rw[ea];exact insV_eq
 rw[hE];have aR:∀{lab2:Nat->Lab} {V2:MV} {s2:MSt} {h3:AH},V2.depth=V.depth->MacS hd h3 lab2 M S K V2 s2->FrK lab h lab2 h3->APost hd h lab M S K V I f.ins.length a s2 h3:=λd X f=>⟨_,_,d,X,A.fr f,f.a⟩;by_cases c18:op<=((18:Nat):Int)
 ·rw[if_pos (show op<=18 from c18)];have hl1:1<=xa.length:=ok.low c18;simp+decide only[RL,↓reduceIte,ld0,c18,mvw];refine(reckon_ge H ra (by omega) h64).mono (λv h3 q=>?_) (λv h3 q=>?_)
  ·obtain⟨q1,rfl,rfl⟩:=q;unfold zAz;rw[if_pos q1];simp only[RL,↓reduceIte];obtain⟨hr,-⟩:=do_gp H (op:=op) (zDb h64 (i:=0)) (zDb h64 (i:=args.length-1));exact⟨_,a,s,rfl,⟨hr,rfl⟩,⟨L.up (q0w B),rfl,q0c _⟩,SameA.refl a,rfl,aR rfl X2 F2⟩
  ·obtain⟨q1,rfl,rfl⟩:=q;exact⟨_,_,s,zKz q1,rfl,L.up (q0w B),lab,V,X2,F2⟩
 rw[if_neg (show ¬op<=18 from c18)];by_cases c31:op=((31:Nat):Int)
 ·subst c31;rw[if_pos (show((31:Nat):Int)=31 from rfl)];obtain⟨k,gg,e1,e2,e3⟩:=ok.call rfl;have e1:nn=(k:Int):=e1;subst e1;rw[q0n];simp+decide only[RL,↓reduceIte,ld0,c18,mvw,ldA];refine(call_ge H P R D X2 hB L hn A2 (r0:InsV hd _ _) rfl e2 (by rw[hal];exact e3) ralab h64 hgl).mono (λv h3 q=>?_) (λv h3 q=>?_)
  ·obtain⟨z,s',e,⟨q1,rfl⟩,q2,lab4,V4,d4,X4,f4⟩:=q;simp only[RL,↓reduceIte];exact⟨z,a,s',by rw[e];rfl,⟨q1,rfl⟩,q2,SameA.refl a,rfl,aR d4 X4 (F2.trans f4)⟩
  ·obtain⟨e',f',s',e,rfl,q2,lab4,V4,X4,f4⟩:=q;exact⟨e',f',s',by rw[e];rfl,rfl,q2,lab4,V4,X4,F2.trans f4⟩
 rw[if_neg (show ¬op=31 from c31)];by_cases c32:op=((32:Nat):Int)
 ·subst c32;rw[if_pos (show((32:Nat):Int)=32 from rfl)];have hl1:args.length=1:=by rw[hal];exact ok.one (.inr (.inr (.inr rfl)))
  obtain⟨wid,wsz,wc,wcap,we,-,wlt,wg,wh⟩:=ra.at' (i:=0) (by omega);subst we;have hl0:0<args.length:=by omega
  obtain⟨c',v',h3,g',hM',c8,mv',ap,mv3,cl3,g3,lab3,X3,f3⟩:=op_out X2 (args.getD 0 0) (by have:=L.out;omega);simp+decide only[RL,↓reduceIte,ld0,c18,q0p,Nat.reduceEqDiff,mvw,g',c8,hl0,wg,wh,ap,cl3,g3];have L1:=L.up (q0w B);exact⟨_,a,_,rfl,⟨⟨by decide,by decide⟩,rfl⟩,⟨⟨L1.frames,L1.objs,by have:=L.out;show(s.out++[_]).length+s.fuel<=B+1;rw[q0o,List.length_singleton];omega,L1.steps,L1.framed⟩,rfl,q0c _⟩,SameA.refl a,rfl,aR (by exact rfl) X3 (F2.trans f3)⟩
 rw[if_neg (show ¬op=32 from c32)];by_cases c25:op=((25:Nat):Int)
 ·subst c25;rw[if_pos (show((25:Nat):Int)=25 from rfl)];have hl1:args.length=1:=by rw[hal];exact ok.one (.inl rfl)
  obtain⟨wid,wsz,wc,wcap,we,-,wlt,wg,wh⟩:=ra.at' (i:=0) (by omega);subst we;have hl0:0<args.length:=by omega
  obtain⟨c',g',hl',hM',hc'⟩:=X2.pm (λe=>e);have c5':c'.get 5=some (.ptr S 0):=hc' 5 (by decide);have eg:∀{R E:AV->AH->Prop},GE tab 195 [.ptr S 0,.int .i64 (args.getD 0 0),.int .i64 nn] h2 R E=R _ h2:=ge_rw (get_gp' H X2 (by have:=L.frames;omega) (by have:=L.objs;omega));simp+decide only[RL,↓reduceIte,ld0,ld3,c18,q0p,Nat.reduceEqDiff,mvw,g',c5',hl0,wg,wh,eg];refine(zIu H).mono (λv h3 q=>?_) (λv h3 q=>?_)
  ·obtain⟨q1,rfl⟩:=q;unfold zAz;rw[if_pos q1];simp only[RL,↓reduceIte,q1];refine⟨_,a,s,rfl,⟨?_,rfl⟩,⟨L.up (q0w B),rfl,q0c _⟩,SameA.refl a,rfl,aR rfl X2 F2⟩;obtain⟨i',j',hi',e1,e2,hj'⟩:=zL6 q1;unfold getS;rw[e1,q0n,Nat.add_sub_cancel,q0a hi'];exact zDb (X.ifld _ (q0l hi'))
  ·obtain⟨q1,rfl,rfl⟩:=q;exact⟨_,_,s,zKz q1,rfl,L.up (q0w B),lab,V,X2,F2⟩
 rw[if_neg (show ¬op=25 from c25)];by_cases hpos:0<args.length
 ·rw[if_pos hpos];have hpos':((0:Nat):Int)<(args.length:Int):=by omega
  simp+decide only[RL,↓reduceIte,ld0,c18,c31,c32,c25,mvw,lnw,hpos',ldA];refine(put_ge H D X2 (Nat.le_of_lt hB) L A2 hf rfl ok r0 hsl hgl ranew rfl hal hpos h64).mono (λv h3 q=>?_) (λv h3 q=>?_)
  ·obtain⟨a',s',e,lab3,V3,d3,X3,A3,f3⟩:=q;obtain⟨q2,q3,q4⟩:=put_good e L;simp only[RL,↓reduceIte];exact⟨0,a',s',by rw[e];rfl,⟨⟨by decide,by decide⟩,rfl⟩,q2,q3,q4,lab3,V3,d3,X3,A3,F2.a.trans f3⟩
  ·obtain⟨e',f',s',e,rfl,lab3,V3,d3,X3,f3⟩:=q;exact⟨e',f',s',by rw[e];rfl,rfl,by rw[put_bad e];exact L.up (q0w B),lab3,V3,X3,F2.trans f3⟩
 ·rw[if_neg hpos];have hpos':¬((0:Nat):Int)<(args.length:Int):=by omega
  simp+decide only[RL,↓reduceIte,ld0,c18,c31,c32,c25,mvw,lnw,hpos',ldA];refine(hleaf h2 X2 A2).mono (λv h3 q=>?_) (λv h3 q=>?_)
  ·obtain⟨z,s',e,⟨q1,rfl⟩,lab3,V3,d3,X3,f3⟩:=q;simp only[RL,↓reduceIte];exact⟨z,a,s',by rw[e];rfl,⟨q1,rfl⟩,leaf_good e L,SameA.refl a,rfl,aR d3 X3 (F2.trans f3)⟩
  ·obtain⟨e',f',s',e,rfl,lab3,V3,d3,X3,f3⟩:=q;exact⟨e',f',s',by rw[e];rfl,rfl,by rw[leaf_bad e];exact L.up (q0w B),lab3,V3,X3,F2.trans f3⟩
end
def zJ3(p:ProgD)(nd:Int->Int->Int->Int×Nat)(rd:Nat->Int)(call:Nat->List Int->MSt->Rz Int)(f:FunD)(a:ActD)(b:Nat)(from_:Int)(s:MSt):Rz (ActD×Option Nat×Int):=
 (rowV p nd rd call f (listB f b) {a with vals:=phiV f b from_ a.vals} s).bind λa s=>(zA3 s).bind λ_ s=>match f.blocks[b]? with
  | some y=>.ok (a,jumpV y a) s
  | none=>.stop 3 0 s
def EPostA{α:Type}(B:Nat)(I:AI)(hd h:AH)(lab:Nat->Lab)(M S:Nat)(K:MK)(spec:Rz α)(v:AV)(h1:AH):Prop:=∃e f s',spec=.stop e f s'/\v=stopV e f/\Sml B s'/\∃lab' V',MacS hd h1 lab' M S K V' s'/\FrA I lab h lab' h1
def zIh(tab:Nat->Option AFunc):Prop:=∀(hd h:AH) (lab:Nat->Lab) (M S:Nat) (K:MK) (V:MV) (s:MSt) (p:ProgD) (I:AI) (a:ActD) (f:FunD) (b:Nat) (from_:Int),OkP p->DatK hd p K->MacS hd h lab M S K V s->ActS hd.next h lab I a f.ins.length->p.funs[a.fn]?=some f->b<f.blocks.length->I64 from_->
 GP tab 173 [.ptr M 0,.ptr I.A 0,nv b,iv from_] h λ_ h1=>APost hd h lab M S K V I f.ins.length {a with vals:=phiV f b from_ a.vals} s h1
theorem Sml.step{B k:Nat}{s:MSt}(L:Sml (B+1) s)(hf:s.fuel=k+1):Sml B {s with fuel:=k,steps:=s.steps+1}:=by
 obtain⟨a,b,c,d,e⟩:=L;rw[hf] at a b c d;exact⟨by show s.frames.length+k<=B;omega,by show s.objs.length+k<=B;omega,by show s.out.length+k<=B;omega,by show s.steps+1+k<=100000;omega,e⟩
theorem zHh{f:FunD}{b:Nat}{from_:Int}{vals:List Int}:(phiV f b from_ vals).length=vals.length:=by
 unfold phiV;generalize listB f b=l;have:∀(l:List Int) (acc:List Int),(l.foldl (λacc z=>match f.ins[z.toNat]? with | some x=>if x.op=34/\from_∈ledB f b then acc.set z.toNat (vals.getD (x.args.getD ((ledB f b).idxOf from_) 0).toNat 0) else acc | none=>acc) acc).length=acc.length:=by
  intro l;induction l with
  | nil=>intro acc;rfl
  | cons z l ih=>
   intro acc;rw[List.foldl_cons,ih];cases f.ins[z.toNat]? with
   | none=>rfl
   | some x=>dsimp only;split<;>simp
 exact this l vals
section
variable{tab:Nat->Option AFunc}(H:PV tab){hd h:AH}{lab:Nat->Lab}{M S:Nat}{K:MK}{V:MV}{s:MSt}{p:ProgD}{I:AI}{a:ActD}{n:Nat}{f:FunD}
theorem op_val(X:MacS hd h lab M S K V s)(A:ActS hd.next h lab I a n){i:Nat}(hi:i<a.vals.length)(z:Int)(hz:I64 z):∃sz c cap,I.vv=.sl I.I1 0 a.vals.length cap/\h.mem.get I.I1=some (.cells c sz none false)/\c.get i=some (iv (a.vals.getD i 0))/\
  MacS hd (h.set I.I1 (.cells (T.put (some (iv z)) c i) sz none false)) lab M S K V s/\ActS hd.next (h.set I.I1 (.cells (T.put (some (iv z)) c i) sz none false)) lab I {a with vals:=a.vals.set i z} n/\FrA I lab h lab (h.set I.I1 (.cells (T.put (some (iv z)) c i) sz none false)):=by
 obtain⟨id,sz,c,cap,e,e1,hlt,g,hc,a'⟩:=A.vals.set (x:=iv z) (i:=i) (by rw[q0j];exact hi);rw[q0j] at e;have e1:id=I.I1:=e1;subst e1;obtain⟨ca,ga,hca⟩:=A.obj;obtain⟨ds,hd',hA⟩:=A.done;have off:∀{F:Nat->Prop} {v:AV} {cs:List AV},¬F I.I1->Arr h F v cs->Arr (h.set I.I1 (.cells (T.put (some (iv z)) c i) sz none false)) F v cs:=λhF x=>x.keep (Stay.set (Stay.refl _ _) (λ_=>hF) _) λ_ f _=>f;refine⟨sz,c,cap,e,g,by rw[hc,q0t,q0e,q0a hi];rfl,X.off A.l1.1 A.l1.2.2 _,⟨⟨ca,by rw[q2c,q1a _ _ _ _ A.nA.1.symm];exact ga,hca⟩,⟨A.lA.1,by rw[q2b];exact A.lA.2⟩,⟨A.l1.1,by rw[q2b];exact A.l1.2.1,A.l1.2.2⟩,⟨A.l2.1,by rw[q2b];exact A.l2.2.1,A.l2.2.2⟩,⟨A.l3.1,by rw[q2b];exact A.l3.2.1,A.l3.2.2⟩,A.nA,A.ne,by rw[List.map_set];exact a',⟨ds,hd',off (λe=>A.ne.1 e) hA⟩,off (λe=>A.ne.2.1 e) A.slots,off (λe=>e.2.1 rfl) A.args,by simpa using A.vl,λy hy=>?_,A.isl,A.iar⟩,by rw[q2b];exact q0c _,λk hk hl=>⟨hl,λn1 _ _=>by rw[q2c,q1a _ _ _ _ (Ne.symm n1)]⟩⟩;rcases List.mem_or_eq_of_mem_set hy with h | h
 ·exact A.ival y h
 ·exact h▸hz
theorem op_done(X:MacS hd h lab M S K V s)(A:ActS hd.next h lab I a n){i:Nat}(hi:i<n)(z:AV):∃sz c cap w,I.vd=.sl I.I2 0 n cap/\h.mem.get I.I2=some (.cells c sz none false)/\c.get i=some w/\
  MacS hd (h.set I.I2 (.cells (T.put (some z) c i) sz none false)) lab M S K V s/\ActS hd.next (h.set I.I2 (.cells (T.put (some z) c i) sz none false)) lab I a n/\FrA I lab h lab (h.set I.I2 (.cells (T.put (some z) c i) sz none false)):=by
 obtain⟨ds,hd',hA⟩:=A.done;obtain⟨id,sz,c,cap,e,e1,hlt,g,hc,a'⟩:=hA.set (x:=z) (i:=i) (by omega);rw[hd'] at e;have e1:id=I.I2:=e1;subst e1;obtain⟨ca,ga,hca⟩:=A.obj;have off:∀{F:Nat->Prop} {v:AV} {cs:List AV},¬F I.I2->Arr h F v cs->Arr (h.set I.I2 (.cells (T.put (some z) c i) sz none false)) F v cs:=λhF x=>x.keep (Stay.set (Stay.refl _ _) (λ_=>hF) _) λ_ f _=>f;exact⟨sz,c,cap,ds[i]'(by omega),e,g,by rw[hc,q0a (by omega)],X.off A.l2.1 A.l2.2.2 _,⟨⟨ca,by rw[q2c,q1a _ _ _ _ A.nA.2.1.symm];exact ga,hca⟩,⟨A.lA.1,by rw[q2b];exact A.lA.2⟩,⟨A.l1.1,by rw[q2b];exact A.l1.2.1,A.l1.2.2⟩,⟨A.l2.1,by rw[q2b];exact A.l2.2.1,A.l2.2.2⟩,⟨A.l3.1,by rw[q2b];exact A.l3.2.1,A.l3.2.2⟩,A.nA,A.ne,off (λe=>A.ne.1 e.symm) A.vals,⟨_,by simpa using hd',a'⟩,off (λe=>A.ne.2.2 e) A.slots,off (λe=>e.2.2.1 rfl) A.args,A.vl,A.ival,A.isl,A.iar⟩,by rw[q2b];exact q0c _,λk hk hl=>⟨hl,λ_ n2 _=>by rw[q2c,q1a _ _ _ _ (Ne.symm n2)]⟩⟩
include H in
theorem block_ge(Ph:zIh tab)(P:OkP p)(R:RunOK tab p hd M S K n)(D:DatK hd p K)(X:MacS hd h lab M S K V s){B:Nat}(hB:B<100000)(L:Sml (B+1) s)(hn:2*s.fuel<=n)(A:ActS hd.next h lab I a f.ins.length)(hf:p.funs[a.fn]?=some f)(hfr:a.frame<=1000000){b:Nat}(hb:b<f.blocks.length){from_:Int}(hfrom:I64 from_)(hpar:a.args.length=f.params.length)(hsl:a.slots.length=f.slots.length)(hgl:s.glob.length=p.globals.length)(hL:∀z∈K.L,I64 z):GE tab 137 [.ptr M 0,.ptr I.A 0,nv b,iv from_] h
  (λv h1=>∃a' j s',zJ3 p (doS tab) (λi=>K.L.getD i 0) (runV p (doS tab) (λi=>K.L.getD i 0) n) f a b from_ s=.ok (a',j) s'/\v=.tup [iv (match j.1 with | some c=>(c:Int) | none=>-1),iv j.2]/\I64 j.2/\(∀c,j.1=some c->c<f.blocks.length)/\GoodM (B+1) s s'/\s'.fuel<s.fuel/\SameA a a'/\APost hd h lab M S K V I f.ins.length a' s' h1)
  (EPostA (B+1) I hd h lab M S K (zJ3 p (doS tab) (λi=>K.L.getD i 0) (runV p (doS tab) (λi=>K.L.getD i 0) n) f a b from_ s)):=by
 have i0:zAb [.ptr M 0,.ptr I.A 0,nv b,iv from_]=zAa [.ptr M 0,.ptr I.A 0,nv b,iv from_]:=rfl;have hF:=P.fn f (q0L hf);refine zAi H.t137 rfl ?_;simp+decide(disch:=omega)only[RL,↓reduceIte,i0];refine(Ph hd h lab M S K V s p I a f b from_ P D X A hf hb hfrom).to λw h1 q=>?_;obtain⟨lab1,V1,d1,X1,A1,F1⟩:=q;obtain⟨c,g,hl,hM,hc⟩:=X1.pm id;have c2:c.get 2=some K.vf:=hc 2 (by decide);have mf:=D.s3.mv;obtain⟨ca,ga,a0,-⟩:=A1.obj;have a0:ca.get 0=some (nv a.fn):=a0;obtain⟨fid,fo,vp,vl,vi,vb,fix_,fN,-,-,fi4,fi5,-,-,s6,s7,-,s6d,-,-⟩:=zF4 D X1.sub hf;have nM:¬h1.next=M:=by omega
 have nA:¬h1.next=I.A:=by have:=A1.lA.2;omega
 obtain⟨ib,ob,Eb,jb,eb,⟨vli,rfl,sl,q0,q1,q2,q3⟩,ldb,-⟩:=s7.at hb;have mb:=s7.mv;have ml:=sl.mv;have ll:=sl.len;obtain⟨cF,eF⟩:∃cF,cF=T.put (some vb) (T.put (some vi) (T.put (some vl) (T.put (some (sv f.result)) (T.put (some vp) (T.put (some (sv f.name)) (zAa [sv [],AV.nils,sv [],AV.nils,AV.nils,AV.nils]) 0) 1) 2) 3) 4) 5:=⟨_,rfl⟩;have cF4:cF.get 4=some vi:=by rw[eF];rfl
 have cF5:cF.get 5=some vb:=by rw[eF];rfl
 rw[eF] at cF4 cF5;simp+decide(disch:=omega)only[RL,↓reduceIte,g,c2,ga,a0,fix_,fN,jb,ldb,ll];rw[<-eF] at cF4 cF5;refine zHf λhA eA=>?_;obtain⟨cb,mA,nA',gF,gb,cb1,cb2,cb3,cb4⟩:∃cb,More h1 hA/\hA.next=h1.next+2/\hA.mem.get h1.next=some (.cells cF 6 none false)/\hA.mem.get (h1.next+1)=some (.cells cb 5 none false)/\cb.get 1=some (iv f.blocks[b].jump)/\cb.get 2=some (iv f.blocks[b].arg)/\cb.get 3=some (iv f.blocks[b].to0)/\cb.get 4=some (iv f.blocks[b].to1):=by
  refine⟨T.put (some (iv f.blocks[b].to1)) (T.put (some (iv f.blocks[b].to0)) (T.put (some (iv f.blocks[b].arg)) (T.put (some (iv f.blocks[b].jump)) (T.put (some vli) (zAa [.nils,nv 0,nv 0,nv 0,nv 0]) 0) 1) 2) 3) 4,?_,?_,?_,?_,rfl,rfl,rfl,rfl⟩
  ·rw[eA];exact(((q2g _ _).set (q0c _) _).trans (q2g _ _)).set (q0w _) _
  ·rw[eA];rfl
  ·rw[eA,q2c,q1a _ _ _ _ (by omega),q2a,q1a _ _ _ _ (by rw[q2b,q2e];omega),q2d,eF]
  ·rw[eA];exact q2d
 clear eA;have XA:=X1.more mA;have AA:=A1.more mA;have FA:=F1.trans (FrK.more (lab:=lab1) mA).a;have hbl:=sl.bound;unfold maxLen at hbl;have eL:=zIn hb;have hLB:=eL▸hF.list b hb;obtain⟨a1,ea1⟩:∃a1,a1={a with vals:=phiV f b from_ a.vals}:=⟨_,rfl⟩;rw[<-ea1] at AA;have sa1:SameA a a1:=by rw[ea1];exact⟨rfl,rfl,rfl,zHh,rfl⟩
 have hspec0:zJ3 p (doS tab) (λi=>K.L.getD i 0) (runV p (doS tab) (λi=>K.L.getD i 0) n) f a b from_ s=(rowV p (doS tab) (λi=>K.L.getD i 0) (runV p (doS tab) (λi=>K.L.getD i 0) n) f f.blocks[b].list a1 s).bind λa s=>(zA3 s).bind λ_ s=>.ok (a,jumpV f.blocks[b] a) s:=by
  unfold zJ3;rw[eL,<-ea1,q0a hb]
 rw[hspec0];clear hspec0;refine zAd (λm l d h2=>∃k a2 s2 lab2 V2,m=f.blocks[b].list.length-k/\k<=f.blocks[b].list.length/\d=[]/\V2.depth=V.depth/\MacS hd h2 lab2 M S K V2 s2/\ActS hd.next h2 lab2 I a2 f.ins.length/\FrA I lab1 hA lab2 h2/\Sml (B+1) s2/\s2.fuel<=s.fuel/\s2.glob.length=s.glob.length/\SameA a1 a2/\rowV p (doS tab) (λi=>K.L.getD i 0) (runV p (doS tab) (λi=>K.L.getD i 0) n) f f.blocks[b].list a1 s=rowV p (doS tab) (λi=>K.L.getD i 0) (runV p (doS tab) (λi=>K.L.getD i 0) n) f (f.blocks[b].list.drop k) a2 s2/\l.get 0=some (.ptr M 0)/\l.get 1=some (.ptr I.A 0)/\l.get 4=some (.ptr h1.next 0)/\l.get 5=some (.ptr (h1.next+1) 0)/\l.get 6=some (.int .i64 (k:Int))/\l.get 7=some (.int .i64 (f.blocks[b].list.length:Int))/\l.get 9=some vli) ?_ (f.blocks[b].list.length-0) ⟨0,a1,s,lab1,V1,rfl,q0k _,rfl,d1,XA,AA,(FrK.refl _ _).a,L,q0c _,rfl,SameA.refl _,rfl,rfl,rfl,rfl,rfl,rfl,rfl,rfl⟩;rintro m l d h2 ⟨k,a2,s2,lab2,V2,rfl,hk,rfl,d2,X2,A2,F2,L2,hfu,hg2,sa2,hsp,l0,l1,l4,l5,l6,l7,l9⟩;have nl1:lab1 h1.next=.no:=X1.new _ (q0c _);have nl2:lab1 (h1.next+1)=.no:=X1.new _ (q0w _);have hlI1:=A1.l1.2.1;have hlI2:=A1.l2.2.1;have hlI3:=A1.l3.2.1;have box:∀{lab3:Nat->Lab} {h3:AH},FrA I lab1 hA lab3 h3->h3.mem.get h1.next=some (.cells cF 6 none false)/\h3.mem.get (h1.next+1)=some (.cells cb 5 none false):=λF3=>⟨((F3.2 h1.next (by omega) nl1).2 (by omega) (by omega) (by omega)).trans gF,((F3.2 (h1.next+1) (by omega) nl2).2 (by omega) (by omega) (by omega)).trans gb⟩
 obtain⟨gF2,gb2⟩:=box F2;by_cases hlt:k<f.blocks[b].list.length
 ·have slh:=sl.sub X2.sub λ_ _ r=>r;obtain⟨id,o,E,ix,e1,⟨rfl,_⟩,ld,lw⟩:=slh.at hlt;obtain⟨y,hy1,hy2⟩:=hLB _ (q0l hlt);have lw:oLoad (.c (.ptr id o)) .leaf [] h2=.val (.int .i64 (y:Int)) h2:=by rw[<-hy1];exact lw 0 _ rfl h2
  have s6h:=s6d.sub X2.sub λ_ _ r=>r;have mi:=s6h.mv;obtain⟨ii,oi,Ei,ji,ei,⟨vxx,rfl,-⟩,-,lwi⟩:=s6h.at hy2;have lw0:oLoad (.c (.ptr ii oi)) .leaf [] h2=.val (iv f.ins[y].op) h2:=lwi 0 _ rfl h2;have hyx:f.ins[y]?=some f.ins[y]:=q0a hy2;have hz:(f.blocks[b].list[k]).toNat=y:=by rw[hy1];exact q0n _
  have hdrop:f.blocks[b].list.drop k=f.blocks[b].list[k]::f.blocks[b].list.drop (k+1):=List.drop_eq_getElem_cons hlt;by_cases c34:f.ins[y].op=((34:Nat):Int)
  ·have hrow:rowV p (doS tab) (λi=>K.L.getD i 0) (runV p (doS tab) (λi=>K.L.getD i 0) n) f (f.blocks[b].list.drop k) a2 s2=rowV p (doS tab) (λi=>K.L.getD i 0) (runV p (doS tab) (λi=>K.L.getD i 0) n) f (f.blocks[b].list.drop (k+1)) a2 s2:=by
    rw[hdrop];show(match f.ins[(f.blocks[b].list[k]).toNat]? with | some x=>_ | none=>_)=_;rw[hz,hyx];exact if_pos c34
   simp+decide(disch:=omega)only[RL,↓reduceIte,l0,l1,l4,l5,l6,l7,l9,hlt,ix,lw,gF2,cF4,ji,lw0,c34];exact⟨_,by omega,k+1,a2,s2,lab2,⟨V2,rfl,by omega,d2,X2,A2,F2,L2,hfu,hg2,sa2,hsp.trans hrow,rfl⟩⟩
  ·have hrow:rowV p (doS tab) (λi=>K.L.getD i 0) (runV p (doS tab) (λi=>K.L.getD i 0) n) f (f.blocks[b].list.drop k) a2 s2=(zA3 s2).bind λ_ s=>(insV p (doS tab) (λi=>K.L.getD i 0) (runV p (doS tab) (λi=>K.L.getD i 0) n) f a2 f.ins[y] s).bind λr s=>rowV p (doS tab) (λi=>K.L.getD i 0) (runV p (doS tab) (λi=>K.L.getD i 0) n) f (f.blocks[b].list.drop (k+1)) {r.2 with vals:=r.2.vals.set y r.1} s:=by
    rw[hdrop];show(match f.ins[(f.blocks[b].list[k]).toNat]? with | some x=>_ | none=>_)=_;rw[hz,hyx];exact if_neg c34
   have hst:=L2.steps;have hfr2:=L2.frames;simp+decide(disch:=omega)only[RL,↓reduceIte,l0,l1,l4,l5,l6,l7,l9,hlt,ix,lw,gF2,cF4,ji,lw0,c34];refine(step_ge H X2 (by omega) (by omega)).mono (λv h3 q=>?_) (λv h3 q=>?_)
   rotate_left
   ·obtain⟨q1,rfl,rfl⟩:=q;refine⟨3,0,s2,?_,rfl,L2,lab2,V2,X2,(F1.trans (FrK.more (lab:=lab1) mA).a).trans F2⟩;rw[hsp,hrow];unfold zA3;rw[if_pos q1];rfl
   ·obtain⟨kf,q1,X3,f3⟩:=q;have A3:=A2.fr f3;have L3:=L2.step q1;have hst3:zA3 s2=.ok () {s2 with fuel:=kf,steps:=s2.steps+1}:=by
     unfold zA3;rw[if_neg (by omega),q1];rfl
    obtain⟨ca3,ga3,e0,e1',e2,e3,e4,e5⟩:=A3.obj;have hfn:p.funs[a2.fn]?=some f:=by rw[sa2.1,sa1.1];exact hf
    obtain⟨vid,vsz,vc,vcap,ev,-,hvl,gv,hvc⟩:=A3.vals.at' (i:=y) (by rw[A3.vl];exact hy2);have ev1:I.vv.mv=true:=by rw[ev];rfl
    have mvv:∀h',oMove (.c I.vv) .leaf [] h'=.val I.vv h':=λ_=>zAg ev1;simp+decide(disch:=omega)only[RL,↓reduceIte,l0,l1,ga3,e3];refine(ins_ge H P R D X3 (by omega) L3 (by show 2*kf+2<=n;omega) A3 hfn hy2 (by rw[sa2.2.1,sa1.2.1];exact hfr) (hF.ins b hb _ (by rw[eL];exact q0l hlt) _ (by rw[hz];exact hyx)) (λe=>c34 e) (by rw[sa2.2.2.1,sa1.2.2.1];exact hpar) (by rw[sa2.2.2.2.2,sa1.2.2.2.2];exact hsl) (by show s2.glob.length=_;rw[hg2];exact hgl) hL).mono (λv h4 q=>?_) (λv h4 q=>?_)
    ·obtain⟨z,a4,s4,hins,⟨iz,rfl⟩,⟨L4,hg4,hf4⟩,sa4,hv4,lab4,V4,d4,X4,A4,F4⟩:=q;have hvl4:y<a4.vals.length:=by rw[A4.vl];exact hy2
     obtain⟨ca4,ga4,-,-,-,p3,p4,-⟩:=A4.obj;obtain⟨sz5,c5,cap5,ev5,g5,hc5,X5,A5,F5⟩:=op_val X4 A4 hvl4 z iz;obtain⟨sz6,c6,cap6,w6,ev6,g6,hc6,X6,A6,F6⟩:=op_done X5 A5 hy2 (.bool true);have n12:¬I.I1=I.I2:=A4.ne.1;have n1A:¬I.I1=I.A:=λe=>A4.nA.1 e.symm;rw[q2c,q1a _ _ _ _ n12] at g6;rw[ev5] at p3;rw[ev6] at p4;have hvl4':=hvl4;rw[A4.vl] at ev5 hvl4' p3;have mvd:∀h':AH,oMove (.c (.sl I.I2 0 f.ins.length cap6)) .leaf [] h'=.val _ h':=λ_=>rfl;simp+decide(disch:=omega)only[RL,↓reduceIte,l0,l1,l4,l5,l6,l7,l9,ga4,p3,p4,ev5,g5,hc5,n12,n1A,g6,hc6];refine⟨_,by omega,k+1,_,s4,lab4,V4,rfl,by omega,d4.trans d2,X6,A6,F2.trans ((f3.a.trans F4).trans (F5.trans F6)),L4,?_,by rw[hg4];exact hg2,sa2.trans (sa4.trans ⟨rfl,rfl,rfl,by simp,rfl⟩),?_,rfl⟩
     ·have hf4:s4.fuel<=kf:=hf4;omega
     ·rw[hsp,hrow,hst3];show Rz.bind (insV _ _ _ _ _ _ _ _) _=_;rw[hins];rfl
    ·obtain⟨e,f',s4,hins,rfl,L4,lab4,V4,X4,f4⟩:=q;refine⟨e,f',s4,?_,rfl,L4,lab4,V4,X4,((F1.trans (FrK.more (lab:=lab1) mA).a).trans F2).trans (f3.trans f4).a⟩;rw[hsp,hrow,hst3];show Rz.bind (Rz.bind (insV _ _ _ _ _ _ _ _) _) _=_;rw[hins];rfl
 ·obtain rfl:k=f.blocks[b].list.length:=by omega
  have hend:rowV p (doS tab) (λi=>K.L.getD i 0) (runV p (doS tab) (λi=>K.L.getD i 0) n) f f.blocks[b].list a1 s=.ok a2 s2:=by
   rw[hsp,List.drop_length];rfl
  have hst:=L2.steps;have hfr2:=L2.frames;simp+decide(disch:=omega)only[RL,↓reduceIte,l0,l6,l7,l9,hlt];refine(step_ge H X2 (by omega) (by omega)).mono (λv h3 q=>?_) (λv h3 q=>?_)
  rotate_left
  ·obtain⟨q1,rfl,rfl⟩:=q;refine⟨3,0,s2,?_,rfl,L2,lab2,V2,X2,(F1.trans (FrK.more (lab:=lab1) mA).a).trans F2⟩;rw[hend];show Rz.bind (zA3 s2) _=_;unfold zA3;rw[if_pos q1];rfl
  ·obtain⟨kf,q1,X3,f3⟩:=q;have A3:=A2.fr f3;have L3:=L2.step q1;have F3:=F2.trans f3.a;obtain⟨gF3,gb3⟩:=box F3;have FF:=(F1.trans (FrK.more (lab:=lab1) mA).a).trans F3;obtain⟨ca3,ga3,-,-,-,e3,-⟩:=A3.obj;have hst3:zA3 s2=.ok () {s2 with fuel:=kf,steps:=s2.steps+1}:=by
    unfold zA3;rw[if_neg (by omega),q1];rfl
   have hfin:((rowV p (doS tab) (λi=>K.L.getD i 0) (runV p (doS tab) (λi=>K.L.getD i 0) n) f f.blocks[b].list a1 s).bind λa s=>(zA3 s).bind λ_ s=>.ok (a,jumpV f.blocks[b] a) s)=(Rz.ok (a2,jumpV f.blocks[b] a2) {s2 with fuel:=kf,steps:=s2.steps+1}:Rz (ActD×Option Nat×Int)):=by
    rw[hend];show Rz.bind (zA3 s2) _=_;rw[hst3];rfl
   have okB:=hF.blk b _ (q0a hb);have hpost:APost hd h lab M S K V I f.ins.length a2 {s2 with fuel:=kf,steps:=s2.steps+1} h3:=⟨lab2,V2,d2,X3,A3,FF⟩;have hgood:GoodM (B+1) s {s2 with fuel:=kf,steps:=s2.steps+1}:=⟨L3.up (q0w B),hg2,by show kf<=s.fuel;omega⟩;have hlt':kf<s.fuel:=by omega
   have hsa:=sa1.trans sa2;have z0:I64 0:=⟨by decide,by decide⟩;rw[hfin];have ax:∀{id o:Nat} {h'},zCi 2 1 (.c (.ptr id o)) (.c (.int .i64 ((0:Nat):Int))) .leaf [] h'=.val (.ptr id (o+0)) h':=rfl;have ay:∀{id o:Nat} {h'},zCi 2 1 (.c (.ptr id o)) (.c (.int .i64 ((1:Nat):Int))) .leaf [] h'=.val (.ptr id (o+1)) h':=rfl;generalize f.blocks[b]=Y at *;obtain⟨Yl,Yj,Ya,Y0,Y1⟩:=Y;dsimp only at *;by_cases j1:Yj=((1:Nat):Int)
   ·subst j1;obtain⟨t,rfl,ht⟩:=okB.to0 (.inl rfl);have hj:jumpV ⟨Yl,((1:Nat):Int),Ya,(t:Int),Y1⟩ a2=(some t,0):=by unfold jumpV;rw[if_pos (.inl rfl)];simp
    simp+decide(disch:=omega)only[RL,↓reduceIte,l5,gb3,cb1,cb3,zAr,ax,ay];exact⟨a2,(some t,0),_,by rw[hj],rfl,z0,λc e=>by injection e with e;omega,hgood,hlt',hsa,hpost⟩
   ·by_cases j2:Yj=((2:Nat):Int)
    ·subst j2;obtain⟨y,rfl,hy⟩:=okB.arg (.inl rfl);obtain⟨t,rfl,ht⟩:=okB.to0 (.inr rfl);obtain⟨t1,rfl,ht1⟩:=okB.to1 rfl;obtain⟨vid,vsz,vc,vcap,ev,-,hvl,gv,hvc⟩:=A3.vals.at' (i:=y) (by rw[A3.vl];exact hy);have hyv:y<a2.vals.length:=by rw[A3.vl];exact hy
     rw[ev] at e3;by_cases hv:a2.vals.getD y 0=((0:Nat):Int)
     ·have hj:jumpV ⟨Yl,((2:Nat):Int),(y:Int),(t:Int),(t1:Int)⟩ a2=(some t1,0):=by
       unfold jumpV;dsimp only;rw[if_neg (by rw[q0n];intro e;rcases e with e | e;exact absurd e (by decide);exact e.2 hv),if_pos (show((2:Nat):Int)=2 from rfl),q0n]
      simp+decide(disch:=omega)only[RL,↓reduceIte,l1,l5,gb3,cb1,cb2,cb3,cb4,zAr,ax,ay,ga3,e3,gv,hvc,hv,q0p,Nat.reduceEqDiff];exact⟨a2,(some t1,0),_,by rw[hj],rfl,z0,λc e=>by injection e with e;omega,hgood,hlt',hsa,hpost⟩
     ·have hj:jumpV ⟨Yl,((2:Nat):Int),(y:Int),(t:Int),(t1:Int)⟩ a2=(some t,0):=by
       unfold jumpV;dsimp only;rw[if_pos (.inr ⟨rfl,by rw[q0n];exact hv⟩),q0n]
      simp+decide(disch:=omega)only[RL,↓reduceIte,l1,l5,gb3,cb1,cb2,cb3,cb4,zAr,ax,ay,ga3,e3,gv,hvc,hv,q0p,Nat.reduceEqDiff];exact⟨a2,(some t,0),_,by rw[hj],rfl,z0,λc e=>by injection e with e;omega,hgood,hlt',hsa,hpost⟩
    ·have j3:Yj=((3:Nat):Int):=by rcases okB.jump with e | e | e;exact absurd e j1;exact absurd e j2;exact e
     subst j3;by_cases hneg:((0:Nat):Int)<=Ya
     ·obtain⟨y,rfl,hy⟩:=okB.arg (.inr ⟨rfl,hneg⟩);obtain⟨vid,vsz,vc,vcap,ev,-,hvl,gv,hvc⟩:=A3.vals.at' (i:=y) (by rw[A3.vl];exact hy);have hyv:y<a2.vals.length:=by rw[A3.vl];exact hy
      rw[ev] at e3;have hj:jumpV ⟨Yl,((3:Nat):Int),(y:Int),Y0,Y1⟩ a2=(none,a2.vals.getD y 0):=by
       unfold jumpV;dsimp only;rw[if_neg (by intro e;rcases e with e | e;exact absurd e (by decide);exact absurd e.1 (by decide)),if_neg (by decide),if_pos (by omega),q0n]
      simp+decide(disch:=omega)only[RL,↓reduceIte,l1,l5,gb3,cb1,cb2,ga3,e3,gv,hvc,hneg,neg1,q0p,Nat.reduceEqDiff];exact⟨a2,(none,a2.vals.getD y 0),_,by rw[hj],rfl,zDb A3.ival,λc e=>(by cases e),hgood,hlt',hsa,hpost⟩
     ·have hj:jumpV ⟨Yl,((3:Nat):Int),Ya,Y0,Y1⟩ a2=(none,0):=by
       unfold jumpV;dsimp only;rw[if_neg (by intro e;rcases e with e | e;exact absurd e (by decide);exact absurd e.1 (by decide)),if_neg (by decide),if_neg (by omega)]
      simp+decide(disch:=omega)only[RL,↓reduceIte,l1,l5,gb3,cb1,cb2,hneg,neg1,q0p,Nat.reduceEqDiff];exact⟨a2,(none,0),_,by rw[hj],rfl,z0,λc e=>(by cases e),hgood,hlt',hsa,hpost⟩
end
section
variable{tab:Nat->Option AFunc}(H:PV tab){hd h:AH}{lab:Nat->Lab}{M S:Nat}{K:MK}{V:MV}{s:MSt}{p:ProgD}{I:AI}{a:ActD}{n:Nat}{f:FunD}
include H in
theorem back1_gp{vp:AV}(sp:SlV h 1 StrR vp f.params){i:Nat}(hi:i<f.params.length){b:Nat}{c:T AV}(g:h.mem.get b=some (.cells c 6 none false))(c1:c.get 1=some vp):GP tab 176 [nv i,.ptr b 0] h λv h1=>v=sv f.params[i]/\More h h1:=by
 have i0:zAb [nv i,.ptr b 0]=zAa [nv i,.ptr b 0]:=rfl;have mp:=sp.mv;obtain⟨pi,po,pE,pix,pe,⟨rfl,_⟩,-,plw⟩:=sp.at hi;have plw:oLoad (.c (.ptr pi po)) .leaf [] h=.val (sv f.params[i]) h:=plw 0 _ rfl h;refine gpr H.t176 ?_;simp only[RL,↓reduceIte,i0,g,c1,pix,plw,moreT]
include H in
theorem back_gp(P:OkP p)(D:DatK hd p K)(X:MacS hd h lab M S K V s){B:Nat}(hB:B<=100000)(L:Sml B s)(A:ActS hd.next h lab I a f.ins.length)(hf:p.funs[a.fn]?=some f)(hpar:a.args.length=f.params.length){d:Nat}(hd':V.depth=d+1){z:Int}:GP tab 138 [.ptr M 0,.ptr I.A 0,iv z] h λ_ h1=>∃lab' V',V'.depth=d/\MacS hd h1 lab' M S K V' (backS a s)/\FrK lab h lab' h1:=by
 have i0:zAb [.ptr M 0,.ptr I.A 0,iv z]=zAa [.ptr M 0,.ptr I.A 0,iv z]:=rfl;obtain⟨c,g,hl,hM,hc⟩:=X.pm id;have c2:c.get 2=some K.vf:=hc 2 (by decide);have mf:=D.s3.mv;obtain⟨ca,ga,a0,a1,a2,-⟩:=A.obj;have lA:=A.lA.2;obtain⟨fid,fo,vp,vl,vi,vb,fix_,fN,-,-,-,-,sp,-,-,-,hres,-,-,spd⟩:=zF4 D X.sub hf;have nM:¬h.next=M:=by omega
 have nA:¬h.next=I.A:=by omega
 have mva:∀h',oMove (.c I.va) .leaf [] h'=.val I.va h':=λ_=>zAg A.args.mv;obtain⟨cF,eF⟩:∃cF,cF=T.put (some vb) (T.put (some vi) (T.put (some vl) (T.put (some (sv f.result)) (T.put (some vp) (T.put (some (sv f.name)) (zAa [sv [],AV.nils,sv [],AV.nils,AV.nils,AV.nils]) 0) 1) 2) 3) 4) 5:=⟨_,rfl⟩;refine gpr H.t138 ?_;simp+decide only[RL,↓reduceIte,i0,g,c2,ga,a0,a2,fix_,fN,nA];refine zCu λhB' eB=>?_;rw[<-eF] at eB;have cF1:cF.get 1=some vp:=by rw[eF];rfl
 have cF2:cF.get 2=some (sv f.result):=by rw[eF];rfl
 have mB:More h hB':=by rw[eB];exact(q2g _ _).set (q0c _) _
 have gB:hB'.mem.get h.next=some (.cells cF 6 none false):=by rw[eB,q2d]
 have nB:h.next<hB'.next:=by rw[eB];exact q0h _
 clear eB;have raB:Arr hB' (λk=>lab k=.no/\k≠I.I1/\k≠I.I2/\k≠I.I3) I.va (a.args.map iv):=(A.more mB).args;have hgp:=P.params f (q0L hf);refine(zI6 H (raB.slG (el:=iv) λz hz=>⟨rfl,A.iar z hz⟩) (by omega) λh1 m i hi=>⟨f.params[i],(spd.str (q0l _)),back1_gp H ((sp.more mB λ_ _ r=>r).more m λ_ _ r=>r) (by omega) ((m.keep _ nB).trans gB) cF1⟩).to λw h2 q=>?_;obtain⟨⟨cs,hcs,ap⟩,m2⟩:=q;have gB2:=(m2.keep _ nB).trans gB;have nB2:=q0d nB m2.next;have M2:=mB.trans m2;have mvw:∀h',oMove (.c w) .leaf [] h'=.val w h':=λ_=>zAg ap.mv;simp only[RL,↓reduceIte,gB2,cF2,mvw];refine(zLt H hres).to λw2 h3 q=>?_;obtain⟨rfl,m3⟩:=q;have M3:=M2.trans m3;have ap3:=ap.keep ⟨m3.next,λid _ hi=>m3.keep id hi⟩ λ_ f _=>f;have gB3:=(m3.keep _ nB2).trans gB2;cases hp:(elemS f.result).isSome with
 | false=>
  obtain⟨h4,e4⟩:∃h4,h4=h3:=⟨_,rfl⟩;have M4:More h h4:=e4▸M3;subst e4;simp+decide only[RL,↓reduceIte,mvw];have X4:=X.more M4;have A4:=A.more M4;obtain⟨c4,va,g4,hM4,c13,mva4,lna,sla,mva5,cl5,X5,f5⟩:=op_pop X4 hd';obtain⟨ca4,ga4,b0,b1,-⟩:=A4.obj;have hcc:∀j,j<16->c4.get j=(macL K V S s)[j]?:=by
   obtain⟨c',g',-,-,hc'⟩:=X4.pm (λe=>e);rw[g4] at g';injection g' with g';injection g' with g' _ _ _;subst g';exact hc'
  have c5:c4.get 5=some (.ptr S 0):=hcc 5 (by decide);have osl:∀{kill:Bool} {n:Nat} {x hi:Opd} {loc:T AV} {tmp:List AV} {h':AH},evOp (.sliceV kill n x none (some hi) none) loc tmp h'=zAs kill n (.c (ev loc tmp x)) none (some (.c (ev loc tmp hi))) none .leaf [] h':=rfl;have nMA:¬M=I.A:=λe=>by have:=A.lA.1;rw[<-e,hl] at this;cases this
  have hdd:=X.dep;have hsf:=L.frames;have e1:IntKind.i64.wrap (((d+1:Nat):Int)-((1:Nat):Int))=((d:Nat):Int):=zK7 (by omega) (by omega);obtain⟨h5,eh5⟩:∃h5,h5=h4.set M (.cells (T.put (some va) c4 13) 16 none false):=⟨_,rfl⟩;have g5:h5.mem.get M=some (.cells (T.put (some va) c4 13) 16 none false):=by rw[eh5];exact q2d
  have ga5:h5.mem.get I.A=some (.cells ca4 6 none false):=by rw[eh5,q2c,q1a _ _ _ _ nMA];exact ga4
  rw[<-eh5] at X5 f5;have d13:(T.put (some va) c4 13).get 13=some va:=q1b _ _ _;have d5:(T.put (some va) c4 13).get 5=some (.ptr S 0):=(q1a _ _ _ _ (by decide)).trans c5;simp+decide only[RL,↓reduceIte,g4,c13,lna,e1,osl,sla,cl5,<-eh5,g5,ga5,b0,b1,d13,mvw];refine(zLb H X5).to λw5 h6 m6=>?_;have X6:=X5.more m6;have g6:=(m6.keep _ (by rw[eh5,q2b];exact hM4)).trans g5;have ga6:=(m6.keep _ (by rw[eh5,q2b];exact A4.lA.2)).trans ga5;simp+decide only[RL,↓reduceIte,g6,d5,ga6,b1];refine(leave_gp H X6 (by omega)).to λw7 h7 q=>?_;simp only[RL];obtain⟨X7,f7⟩:=q;exact⟨lab,_,rfl,X7,((FrK.more M4).trans f5).trans ((FrK.more m6).trans f7)⟩
 | true=>
  obtain⟨v',h4,ap4,a4,nx4,k4⟩:=ap3.pushG 8 (by decide) (x:=iv z) (by omega);have M4:More h h4:=⟨by have:=M3.next;omega,λk hk=>by rw[k4 k (q0d hk M3.next) λl n e=>by subst e;have:=ap3.isF.1;have:=mB.next;omega];exact M3.keep k hk⟩;have mv4:∀h',oMove (.c v') .leaf [] h'=.val v' h':=λ_=>zAg a4.mv;have cl4:=a4.cells;have e4:h4=h4:=rfl;simp+decide only[RL,↓reduceIte,mvw,ap4,mv4];have X4:=X.more M4;have A4:=A.more M4;obtain⟨c4,va,g4,hM4,c13,mva4,lna,sla,mva5,cl5,X5,f5⟩:=op_pop X4 hd';obtain⟨ca4,ga4,b0,b1,-⟩:=A4.obj;have hcc:∀j,j<16->c4.get j=(macL K V S s)[j]?:=by
   obtain⟨c',g',-,-,hc'⟩:=X4.pm (λe=>e);rw[g4] at g';injection g' with g';injection g' with g' _ _ _;subst g';exact hc'
  have c5:c4.get 5=some (.ptr S 0):=hcc 5 (by decide);have osl:∀{kill:Bool} {n:Nat} {x hi:Opd} {loc:T AV} {tmp:List AV} {h':AH},evOp (.sliceV kill n x none (some hi) none) loc tmp h'=zAs kill n (.c (ev loc tmp x)) none (some (.c (ev loc tmp hi))) none .leaf [] h':=rfl;have nMA:¬M=I.A:=λe=>by have:=A.lA.1;rw[<-e,hl] at this;cases this
  have hdd:=X.dep;have hsf:=L.frames;have e1:IntKind.i64.wrap (((d+1:Nat):Int)-((1:Nat):Int))=((d:Nat):Int):=zK7 (by omega) (by omega);obtain⟨h5,eh5⟩:∃h5,h5=h4.set M (.cells (T.put (some va) c4 13) 16 none false):=⟨_,rfl⟩;have g5:h5.mem.get M=some (.cells (T.put (some va) c4 13) 16 none false):=by rw[eh5];exact q2d
  have ga5:h5.mem.get I.A=some (.cells ca4 6 none false):=by rw[eh5,q2c,q1a _ _ _ _ nMA];exact ga4
  rw[<-eh5] at X5 f5;have d13:(T.put (some va) c4 13).get 13=some va:=q1b _ _ _;have d5:(T.put (some va) c4 13).get 5=some (.ptr S 0):=(q1a _ _ _ _ (by decide)).trans c5;simp+decide only[RL,↓reduceIte,g4,c13,lna,e1,osl,sla,cl5,<-eh5,g5,ga5,b0,b1,d13,mv4];refine(zLb H X5).to λw5 h6 m6=>?_;have X6:=X5.more m6;have g6:=(m6.keep _ (by rw[eh5,q2b];exact hM4)).trans g5;have ga6:=(m6.keep _ (by rw[eh5,q2b];exact A4.lA.2)).trans ga5;simp+decide only[RL,↓reduceIte,g6,d5,ga6,b1];refine(leave_gp H X6 (by omega)).to λw7 h7 q=>?_;simp only[RL];obtain⟨X7,f7⟩:=q;exact⟨lab,_,rfl,X7,((FrK.more M4).trans f5).trans ((FrK.more m6).trans f7)⟩
end
theorem blocksV_eq{p:ProgD}{nd:Int->Int->Int->Int×Nat}{rd:Nat->Int}{n:Nat}{f:FunD}{a:ActD}{b:Nat}{from_:Int}{s:MSt}:zBn p nd rd (n+1) f a b from_ s=(zJ3 p nd rd (runV p nd rd n) f a b from_ s).bind λr s=>match r.2 with
  | (some c,_)=>zBn p nd rd n f r.1 c b s
  | (none,v)=>.ok v (backS r.1 s):=by
 show(rowV p nd rd (runV p nd rd n) f (listB f b) {a with vals:=phiV f b from_ a.vals} s).bind _=Rz.bind (zJ3 _ _ _ _ _ _ _ _ _) _;unfold zJ3;cases rowV p nd rd (runV p nd rd n) f (listB f b) {a with vals:=phiV f b from_ a.vals} s with
 | stop e f s=>rfl
 | ok a s=>
  show Rz.bind (zA3 s) _=Rz.bind (Rz.bind (zA3 s) _) _;cases zA3 s with
  | stop e f s=>rfl
  | ok u s=>
   show(match f.blocks[b]? with | some y=>_ | none=>_)=Rz.bind (match f.blocks[b]? with | some y=>_ | none=>_) _;cases f.blocks[b]? with
   | none=>rfl
   | some y=>rfl
theorem runV_eq{p:ProgD}{nd:Int->Int->Int->Int×Nat}{rd:Nat->Int}{n fn:Nat}{f:FunD}{args:List Int}{s:MSt}(hf:p.funs[fn]?=some f):runV p nd rd (n+1) fn args s=zBn p nd rd n f ⟨fn,s.frames.length+1,args,List.replicate f.ins.length 0,List.replicate f.slots.length 0⟩ 0 (-1) {s with frames:=s.frames++[true]}:=by
 show(match p.funs[fn]? with | some f=>_ | none=>_)=_;rw[hf]
theorem frA_K{I:AI}{l1 l2 l3:Nat->Lab}{h1 h2 h3:AH}(a:FrK l1 h1 l2 h2)(b:FrA I l2 h2 l3 h3)(e1:h1.next<=I.I1)(e2:h1.next<=I.I2)(e3:h1.next<=I.I3):FrK l1 h1 l3 h3:=⟨q0m a.1 b.1,λk hk hl=>by
 have x:=a.2 k hk hl;have y:=b.2 k (q0d hk a.1) x.1;exact⟨y.1,(y.2 (by omega) (by omega) (by omega)).trans x.2⟩⟩
section
variable{tab:Nat->Option AFunc}(H:PV tab){hd:AH}{M S:Nat}{K:MK}{p:ProgD}
include H in
theorem run_ok(Ph:zIh tab)(P:OkP p)(hL:∀z∈K.L,I64 z)(n:Nat):RunOK tab p hd M S K n:=by
 induction n using Nat.strongRecOn with
 | _ N ih=>
 intro h lab V s B fn f v args D X hB L hn hf hal ra h64 hgl hdep;obtain⟨N,rfl⟩:∃N',N=N'+1:=⟨N-1,by omega⟩;rw[runV_eq hf];have i0:zAb [.ptr M 0,nv fn,v]=zAa [.ptr M 0,nv fn,v]:=rfl;have mv:∀h',oMove (.c v) .leaf [] h'=.val v h':=λ_=>zAg ra.mv;obtain⟨c,g,hl,hM,hc⟩:=X.pm id;have c2:c.get 2=some K.vf:=hc 2 (by decide);have c5:c.get 5=some (.ptr S 0):=hc 5 (by decide);have mf:=D.s3.mv;obtain⟨fid,fo,vp,vl,vi,vb,fix_,fN,-,-,-,-,t1,t2,t3,t4,hres,-,-,spd⟩:=zF4 D X.sub hf;have ml:=t2.mv;have mi:=t3.mv;have ll:=t2.len;have li:=t3.len;have hmem:=q0L hf;have hsl:=P.slots f hmem;have hpl:=P.params f hmem;have hil:=(P.grt f hmem).2.1;have nM:¬h.next=M:=by omega
 have hsf:=L.frames;have mks:∀(h':AH) (n:Nat),n<=1000000->zB0 [.int .i64 ((0:Nat):Int)] 8 (.c (.int .i64 (n:Int))) (.c (.int .i64 (n:Int))) .leaf [] h'=_:=λh' n hn=>zD6 hn (by omega);have mkb:∀(h':AH) (n:Nat),n<=1000000->zB0 [.bool false] 1 (.c (.int .i64 (n:Int))) (.c (.int .i64 (n:Int))) .leaf [] h'=_:=λh' n hn=>zD6 hn (by omega);refine zAi H.t79 rfl ?_;simp+decide(disch:=omega)only[RL,↓reduceIte,i0,mv,g,c2,c5,fix_,fN,nM,zBz,ll,li,mks,mkb];obtain⟨cF,eF⟩:∃cF,cF=T.put (some vb) (T.put (some vi) (T.put (some vl) (T.put (some (sv f.result)) (T.put (some vp) (T.put (some (sv f.name)) (zAa [sv [],AV.nils,sv [],AV.nils,AV.nils,AV.nils]) 0) 1) 2) 3) 4) 5:=⟨_,rfl⟩;have cF3:cF.get 3=some vl:=by rw[eF];rfl
 have cF4:cF.get 4=some vi:=by rw[eF];rfl
 refine zCu λhB' eB=>?_;rw[<-eF] at eB;have mB:More h hB':=by rw[eB];exact((((q2g _ _).set (q0c _) _).trans (q2g _ _)).trans (q2g _ _)).trans (q2g _ _)
 have nB:hB'.next=h.next+4:=by rw[eB];rfl
 have gB:hB'.mem.get h.next=some (.cells cF 6 none false):=by
  rw[eB];rw[q2a,q1a _ _ _ _ (by rw[q2e,q2e,q2b,q2e];omega),q2a,q1a _ _ _ _ (by rw[q2e,q2b,q2e];omega),q2a,q1a _ _ _ _ (by rw[q2b,q2e];omega),q2d]
 obtain⟨h1,eh1⟩:∃h1,h1=(h.add (AObj.cells (zAa [sv [],AV.nils,sv [],AV.nils,AV.nils,AV.nils]) 6 none false)).set h.next (.cells cF 6 none false):=⟨_,rfl⟩;have n1:h1.next=h.next+1:=by rw[eh1];rfl
 rw[<-eh1] at eB;have A1:Arr hB' (λk=>k=h.next+1) (.sl (h.next+1) 0 f.ins.length (.known f.ins.length)) (List.replicate f.ins.length (nv 0)):=by
  have x:=Arr.mk h1 (nv 0) (n:=f.ins.length) (by omega);rw[n1] at x;rw[eB];exact x.keep (Stay.add (Stay.add (Stay.refl _ _) _) _) λ_ f _=>f
 have A2:Arr hB' (λk=>k=h.next+2) (.sl (h.next+2) 0 f.ins.length (.known f.ins.length)) (List.replicate f.ins.length (.bool false)):=by
  have x:=Arr.mk (h1.add (.cells (zAa (List.replicate f.ins.length (nv 0))) f.ins.length none false)) (.bool false) (n:=f.ins.length) (by omega);rw[q2e,n1] at x;rw[eB];exact x.keep (Stay.add (Stay.refl _ _) _) λ_ f _=>f
 have A3:Arr hB' (λk=>k=h.next+3) (.sl (h.next+3) 0 f.slots.length (.known f.slots.length)) (List.replicate f.slots.length (nv 0)):=by
  have x:=Arr.mk ((h1.add (.cells (zAa (List.replicate f.ins.length (nv 0))) f.ins.length none false)).add (.cells (zAa (List.replicate f.ins.length (.bool false))) f.ins.length none false)) (nv 0) (n:=f.slots.length) (by omega);rw[q2e,q2e,n1] at x;rw[eB];exact x
 clear eB;refine(enter_gp H (X.more mB) (by omega)).to λw h2 q=>?_;obtain⟨rfl,lab2,V2,d2,X2,f2⟩:=q;have nl:∀k,h.next<=k->k<hB'.next->lab2 k=.no/\h2.mem.get k=hB'.mem.get k:=λk h1 h3=>f2.2 k h3 (X.new k h1);have g2:h2.mem.get h.next=some (.cells cF 6 none false):=(nl _ (q0c _) (by omega)).2.trans gB;have kk:∀{i:Nat} {v:AV} {cs:List AV},h.next<=i->i<hB'.next->Arr hB' (λk=>k=i) v cs->Arr h2 (λk=>k=i) v cs:=λh3 h4 x=>x.to f2.1 λq e _=>⟨e,by rw[e];exact(nl _ h3 h4).2⟩;have B1:=kk (by omega) (by omega) A1;have B2:=kk (by omega) (by omega) A2;have B3:=kk (by omega) (by omega) A3;have raB:Arr h2 (λk=>lab2 k=.no/\k<h.next) v (args.map iv):=((ra.keep ⟨mB.next,λid _ hi=>mB.keep id hi⟩ λk f hk=>⟨f,hk⟩:Arr hB' (λk=>lab k=.no/\k<h.next) v (args.map iv))).to f2.1 λk e hk=>⟨⟨(f2.2 k hk e.1).1,e.2⟩,(f2.2 k hk e.1).2⟩;have cv:=ra.cells;have sm1:=t2.same;have sm2:=t3.same;have hal':fn=fn:=rfl;obtain⟨hC,eC⟩:∃hC,h2.add (.cells (zAa [nv fn,nv (s.frames.length+1),v,.sl (h.next+1) 0 f.ins.length (.known f.ins.length),.sl (h.next+1+1) 0 f.ins.length (.known f.ins.length),.sl (h.next+1+1+1) 0 f.slots.length (.known f.slots.length)]) 6 none false)=hC:=⟨_,rfl⟩;have mC:More h2 hC:=by rw[<-eC];exact q2g _ _
 have nC:hC.next=h2.next+1:=by rw[<-eC];rfl
 have gC:hC.mem.get h2.next=some (.cells (zAa [nv fn,nv (s.frames.length+1),v,.sl (h.next+1) 0 f.ins.length (.known f.ins.length),.sl (h.next+2) 0 f.ins.length (.known f.ins.length),.sl (h.next+3) 0 f.slots.length (.known f.slots.length)]) 6 none false):=by rw[<-eC,q2a];exact q1b _ _ _
 have hn2:=f2.1;have hnd:=X.sub.next;have l2:∀k,h2.next<=k->lab2 k=.no:=X2.new;have AC:ActS hd.next hC lab2 ⟨h2.next,h.next+1,h.next+2,h.next+3,v,.sl (h.next+1) 0 f.ins.length (.known f.ins.length),.sl (h.next+2) 0 f.ins.length (.known f.ins.length),.sl (h.next+3) 0 f.slots.length (.known f.slots.length)⟩ ⟨fn,s.frames.length+1,args,List.replicate f.ins.length 0,List.replicate f.slots.length 0⟩ f.ins.length:=by
  have kC:∀{F:Nat->Prop} {v:AV} {cs:List AV},Arr h2 F v cs->Arr hC F v cs:=λx=>x.keep ⟨mC.next,λid _ hi=>mC.keep id hi⟩ λ_ f _=>f;refine⟨⟨_,gC,rfl,rfl,rfl,rfl,rfl,rfl⟩,⟨l2 _ (q0c _),by show h2.next<_;omega⟩,⟨(nl (h.next+1) (by omega) (by omega)).1,by show h.next+1<_;omega,by show hd.next<=h.next+1;omega⟩,⟨(nl (h.next+2) (by omega) (by omega)).1,by show h.next+2<_;omega,by show hd.next<=h.next+2;omega⟩,⟨(nl (h.next+3) (by omega) (by omega)).1,by show h.next+3<_;omega,by show hd.next<=h.next+3;omega⟩,⟨by show h2.next≠h.next+1;omega,by show h2.next≠h.next+2;omega,by show h2.next≠h.next+3;omega⟩,⟨by show h.next+1≠h.next+2;omega,by show h.next+1≠h.next+3;omega,by show h.next+2≠h.next+3;omega⟩,by rw[List.map_replicate];exact kC B1,⟨_,q0q,kC B2⟩,by rw[List.map_replicate];exact kC B3,(kC raB).keep (Stay.refl _ _) λk e _=>⟨e.1,by show k≠h.next+1;omega,by show k≠h.next+2;omega,by show k≠h.next+3;omega⟩,q0q,λz hz=>by rw[(List.mem_replicate.mp hz).2];exact⟨by decide,by decide⟩,λz hz=>by rw[(List.mem_replicate.mp hz).2];exact⟨by decide,by decide⟩,h64⟩
 have XC:=X2.more mC;have hsl2:V2.depth<(s.frames++[true]).length:=by rw[d2,q0o];simp;omega
 obtain⟨c3,va,h3,g3,hM3,c13,mva,ap,mv',cl',g3',lab3,X3,f3⟩:=op_push XC (.ptr h2.next 0) (by rw[d2];omega) hsl2;have A3:=AC.fr f3;have nM2:¬hC.next=M:=by omega
 have cv:=ra.cells;have sm1:=t2.same;have sm2:=t3.same;simp+decide(disch:=omega)only[RL,↓reduceIte,g2,cF3,cF4,ll,li,sm1,sm2,cv,eC,g3,c13,ap,cl',g3'];have F4:=((FrK.more (lab:=lab) mB).trans f2).trans ((FrK.more (lab:=lab2) mC).trans f3);obtain⟨h4,eh4⟩:∃h4,h4=h3.set M (.cells (T.put (some va) c3 13) 16 none false):=⟨_,rfl⟩;rw[<-eh4] at X3 A3 F4 ⊢;clear eh4 f3;obtain⟨I,eI⟩:∃I:AI,I=⟨h2.next,h.next+1,h.next+2,h.next+3,v,.sl (h.next+1) 0 f.ins.length (.known f.ins.length),.sl (h.next+2) 0 f.ins.length (.known f.ins.length),.sl (h.next+3) 0 f.slots.length (.known f.slots.length)⟩:=⟨_,rfl⟩;rw[<-eI] at A3;have eA:h2.next=I.A:=by rw[eI]
 have k1:h.next<=I.I1:=by rw[eI];exact Nat.le_add_right _ 1
 have k2:h.next<=I.I2:=by rw[eI];exact Nat.le_add_right _ 2
 have k3:h.next<=I.I3:=by rw[eI];exact Nat.le_add_right _ 3
 rw[eA];obtain⟨a0,ea0⟩:∃a0:ActD,a0=⟨fn,s.frames.length+1,args,List.replicate f.ins.length 0,List.replicate f.slots.length 0⟩:=⟨_,rfl⟩;have q1:a0.fn=fn:=by rw[ea0]
 have q2:a0.frame=s.frames.length+1:=by rw[ea0]
 have q3:a0.args=args:=by rw[ea0]
 have q4:a0.slots.length=f.slots.length:=by rw[ea0];exact q0q
 rw[<-ea0] at A3 ⊢;have L1:Sml (B+1) {s with frames:=s.frames++[true]}:=⟨by show(s.frames++[true]).length+s.fuel<=_;rw[q0o];simp;omega,Nat.le_succ_of_le L.objs,Nat.le_succ_of_le L.out,L.steps,L.framed⟩;obtain⟨s1,es1⟩:∃s1:MSt,s1={s with frames:=s.frames++[true]}:=⟨_,rfl⟩;have p1:s1.fuel=s.fuel:=by rw[es1]
 have p2:s1.glob=s.glob:=by rw[es1]
 have es1':s1={glob:=s.glob,objs:=s.objs,frames:=s.frames++[true],framed:=s.framed,pos:=s.pos,fuel:=s.fuel,out:=s.out,steps:=s.steps}:=es1;rw[<-es1'] at X3 L1 ⊢;obtain⟨R,eR⟩:∃R,R=zBn p (doS tab) (λi=>K.L.getD i 0) N f a0 0 (-1) s1:=⟨_,rfl⟩;rw[<-eR];have hF:=P.fn f hmem;have hb0:0<f.blocks.length:=hF.pos;have hbm:=(P.grt f hmem).1;refine zAd (λm l d h5=>∃a2 s2 lab5 V5,d=[]/\V5.depth=V.depth+1/\MacS hd h5 lab5 M S K V5 s2/\ActS hd.next h5 lab5 I a2 f.ins.length/\FrA I lab3 h4 lab5 h5/\GoodM (B+1) s1 s2/\SameA a0 a2/\l.get 0=some (.ptr M 0)/\l.get 4=some (.ptr I.A 0)/\((∃k b from_,m=s2.fuel+1/\R=zBn p (doS tab) (λi=>K.L.getD i 0) k f a2 b from_ s2/\2*s2.fuel+1<=k/\k<=N/\b<f.blocks.length/\I64 from_/\l.get 5=some (.int .i64 ((b:Nat):Int))/\l.get 7=some (iv from_))\/(∃z,m=0/\I64 z/\R=.ok z (backS a2 s2)/\l.get 5=some (iv (-1))/\l.get 9=some (iv z)))) ?_ (s1.fuel+1) ⟨a0,s1,lab3,_,rfl,by show V2.depth+1=_;rw[d2],X3,A3,(FrK.refl _ _).a,⟨L1,rfl,q0c _⟩,SameA.refl _,rfl,rfl,.inl ⟨N,0,-1,rfl,eR,by omega,q0c _,hb0,⟨by decide,by decide⟩,rfl,by rfl⟩⟩;rintro m l d h5 ⟨a2,s2,lab5,V5,rfl,d5,X5,A5,F5,G5,S5,l0,l4,hcase⟩;have hfn:p.funs[a2.fn]?=some f:=by rw[S5.1,q1];exact hf
 have hfr:a2.frame=s.frames.length+1:=S5.2.1.trans q2;have hpa:a2.args.length=f.params.length:=by rw[S5.2.2.1,q3];exact hal
 rcases hcase with⟨k,b,from_,rfl,hR,hk,hkN,hb,hfrom,l5,l7⟩ | ⟨z,rfl,hz,hR,l5,l9⟩
 ·obtain⟨k,rfl⟩:∃k',k=k'+1:=⟨k-1,by omega⟩;have h0b:0<=b:=q0k b;simp+decide(disch:=omega)only[RL,↓reduceIte,l0,l4,l5,l7,h0b];have hg5:s2.glob.length=p.globals.length:=by rw[G5.2.1,p2];exact hgl
  have hf5:=G5.2.2;rw[blocksV_eq] at hR;refine(block_ge H Ph P (ih k (by omega)) D X5 hB G5.1 (by omega) A5 hfn (by omega) hb hfrom hpa (S5.2.2.2.2.trans q4) hg5 hL).mono (λw h6 q=>?_) (λw h6 q=>?_)
  ·obtain⟨a',j,s',e,rfl,hj,hcb,G6,hlt,S6,lab6,V6,d6,X6,A6,F6⟩:=q;rw[e] at hR;have G7:GoodM (B+1) s1 s':=⟨G6.1,G6.2.1.trans G5.2.1,q0m G6.2.2 hf5⟩;obtain⟨j1,j2⟩:=j;cases j1 with
   | some c=>
    simp+decide(disch:=omega)only[RL,↓reduceIte,l0,l4];exact⟨s'.fuel+1,by omega,a',s',lab6,V6,d6.trans d5,X6,A6,F5.trans F6,G7,S5.trans S6,.inl ⟨k,c,b,rfl,hR,by omega,by omega,hcb c rfl,⟨by omega,by omega⟩,rfl,rfl⟩⟩
   | none=>
    simp+decide(disch:=omega)only[RL,↓reduceIte,l0,l4];exact⟨0,by omega,a',s',lab6,V6,d6.trans d5,X6,A6,F5.trans F6,G7,S5.trans S6,.inr ⟨j2,rfl,hj,hR,rfl⟩⟩
  ·obtain⟨e',f',s',e,rfl,q2,lab6,V6,X6,F6⟩:=q;rw[e] at hR;exact⟨e',f',s',hR,rfl,q2,lab6,V6,X6,frA_K F4 (F5.trans F6) k1 k2 k3⟩
 ·have hneg:¬((0:Nat):Int)<=-1:=by decide
  simp+decide(disch:=omega)only[RL,↓reduceIte,l0,l4,l5,l9,hneg];refine(back_gp H P D X5 (by omega) G5.1 A5 hfn hpa d5).to λw h6 q=>?_;obtain⟨lab6,V6,d6,X6,F6⟩:=q;simp+decide(disch:=omega)only[RL,↓reduceIte,l9];refine⟨z,_,hR,⟨hz,rfl⟩,?_,lab6,V6,d6,X6,(frA_K F4 F5 k1 k2 k3).trans F6⟩;have G6:GoodM (B+1) s s2:=⟨G5.1,G5.2.1.trans (by rw[p2]),by rw[<-p1];exact G5.2.2⟩;unfold backS;split
  ·obtain⟨⟨x1,x2,x3,x4,x5⟩,y,z⟩:=G6;exact⟨⟨by show(s2.frames.set _ false).length+_<=_;rw[List.length_set];exact x1,x2,x3,x4,x5⟩,y,z⟩
  ·exact G6
end
theorem zKf(k x:Int)(clock:Nat):∀es:List (Int×Int×Nat),((setE k x clock es).2=true/\(setE k x clock es).1=es++[(k,x,clock)])\/((setE k x clock es).2=false/\∃es1 e es2,es=es1++e::es2/\e.1=k/\(setE k x clock es).1=es1++(k,x,e.2.2)::es2)
 | []=>.inl ⟨rfl,rfl⟩
 | e::es=>by
  rw[show setE k x clock (e::es)=if k=e.1 then((k,x,e.2.2)::es,false) else(e::(setE k x clock es).1,(setE k x clock es).2) from rfl];by_cases h:k=e.1
  ·rw[if_pos h];exact .inr ⟨rfl,[],e,es,rfl,h.symm,rfl⟩
  ·rw[if_neg h];rcases zKf k x clock es with⟨a,b⟩ | ⟨a,es1,e',es2,rfl,c,d⟩
   ·exact .inl ⟨a,by show e::_=_;rw[b];rfl⟩
   ·exact .inr ⟨a,e::es1,e',es2,rfl,c,by show e::_=_;rw[d];rfl⟩
theorem rev_ind{α:Type}{P:List α->Prop}(h0:P [])(h1:∀l a,P l->P (l++[a]))(l:List α):P l:=by
 have:∀l:List α,P l.reverse:=by
  intro l;induction l with
  | nil=>exact h0
  | cons a l ih=>rw[List.reverse_cons];exact h1 _ _ ih
 simpa using this l.reverse
section
variable(f:FunD)(b:Nat)(from_:Int)(vals:List Int)
def zE8(z:Int):Prop:=∃x,f.ins[z.toNat]?=some x/\x.op=34/\from_∈ledB f b
def zD1(i:Nat):Int:=match f.ins[i]? with
 | some x=>vals.getD (x.args.getD ((ledB f b).idxOf from_) 0).toNat 0
 | none=>0
def phiK(i:Nat):Prop:=∃z∈listB f b,z.toNat=i/\zE8 f b from_ z
open Classical in
noncomputable def entS(es:List (Int×Int×Nat)×Nat)(z:Int):List (Int×Int×Nat)×Nat:=if zE8 f b from_ z then((setE z (zD1 f b from_ vals z.toNat) es.2 es.1).1,if(setE z (zD1 f b from_ vals z.toNat) es.2 es.1).2=true then es.2+1 else es.2) else es
structure EntOK(l:List Int)(es:List (Int×Int×Nat)×Nat):Prop where
 lt:∀e∈es.1,e.2.2<es.2
 nd:(es.1.map λe=>e.2.2).Nodup
 is:∀e∈es.1,e.1∈l/\zE8 f b from_ e.1/\e.2.1=zD1 f b from_ vals e.1.toNat
 all:∀z∈l,zE8 f b from_ z->∃e∈es.1,e.1=z
theorem ent_ok(l:List Int):EntOK f b from_ vals l (l.foldl (entS f b from_ vals) ([],0)):=by
 refine rev_ind (P:=λl=>EntOK f b from_ vals l (l.foldl (entS f b from_ vals) ([],0))) ?_ (λl z ih=>?_) l
 ·exact⟨λe h=>(by cases h),List.nodup_nil,λe h=>(by cases h),λz h=>(by cases h)⟩
 ·rw[List.foldl_append];show EntOK f b from_ vals _ (entS f b from_ vals (l.foldl (entS f b from_ vals) ([],0)) z);generalize l.foldl (entS f b from_ vals) ([],0)=t at ih;obtain⟨es,clock⟩:=t;obtain⟨h1,h2,h3,h4⟩:=ih;unfold entS;by_cases hz:zE8 f b from_ z
  ·rw[if_pos hz];dsimp only;rcases zKf z (zD1 f b from_ vals z.toNat) clock es with⟨a,e⟩ | ⟨a,es1,e',es2,rfl,c,e⟩
   ·rw[if_pos a,e];refine⟨λe he=>?_,?_,λe he=>?_,λy hy hp=>?_⟩
    ·rcases List.mem_append.mp he with he | he
     ·exact Nat.lt_succ_of_lt (h1 e he)
     ·rw[List.mem_singleton.mp he];exact q0h _
    ·dsimp only;rw[q0O];refine List.nodup_append.mpr ⟨h2,by simp,λa ha b hb=>?_⟩;obtain⟨e,he,rfl⟩:=List.mem_map.mp ha;have:=h1 e he;simp at hb;subst hb;exact Nat.ne_of_lt this
    ·rcases List.mem_append.mp he with he | he
     ·obtain⟨p,q,r⟩:=h3 e he;exact⟨List.mem_append.mpr (.inl p),q,r⟩
     ·rw[List.mem_singleton.mp he];exact⟨List.mem_append.mpr (.inr (List.mem_singleton.mpr rfl)),hz,rfl⟩
    ·rcases List.mem_append.mp hy with hy | hy
     ·obtain⟨e,he,r⟩:=h4 y hy hp;exact⟨e,List.mem_append.mpr (.inl he),r⟩
     ·rw[List.mem_singleton.mp hy];exact⟨_,List.mem_append.mpr (.inr (List.mem_singleton.mpr rfl)),rfl⟩
   ·rw[a,e];rw[if_neg (by decide)];have hb:(es1++(z,zD1 f b from_ vals z.toNat,e'.2.2)::es2).map (λe=>e.2.2)=(es1++e'::es2).map λe=>e.2.2:=by simp
    refine⟨λe he=>?_,by dsimp only;rw[hb];exact h2,λe he=>?_,λy hy hp=>?_⟩
    ·rcases List.mem_append.mp he with he | he
     ·exact h1 e (List.mem_append.mpr (.inl he))
     ·rcases List.mem_cons.mp he with rfl | he
      ·exact h1 e' (by simp)
      ·exact h1 e (by simp[he])
    ·rcases List.mem_append.mp he with he | he
     ·obtain⟨p,q,r⟩:=h3 e (List.mem_append.mpr (.inl he));exact⟨List.mem_append.mpr (.inl p),q,r⟩
     ·rcases List.mem_cons.mp he with rfl | he
      ·exact⟨by simp,hz,rfl⟩
      ·obtain⟨p,q,r⟩:=h3 e (by simp[he]);exact⟨List.mem_append.mpr (.inl p),q,r⟩
    ·by_cases hyz:y=z
     ·subst hyz;exact⟨_,List.mem_append.mpr (.inr (q0H ..)),rfl⟩
     ·rcases List.mem_append.mp hy with hy | hy
      ·obtain⟨e,he,r⟩:=h4 y hy hp;rcases List.mem_append.mp he with he | he
       ·exact⟨e,List.mem_append.mpr (.inl he),r⟩
       ·rcases List.mem_cons.mp he with rfl | he
        ·exact absurd (r.symm.trans c) hyz
        ·exact⟨e,by simp[he],r⟩
      ·exact absurd (List.mem_singleton.mp hy) hyz
  ·rw[if_neg hz];exact⟨h1,h2,λe he=>by obtain⟨p,q,r⟩:=h3 e he;exact⟨List.mem_append.mpr (.inl p),q,r⟩,λy hy hp=>by
    rcases List.mem_append.mp hy with hy | hy
    ·exact h4 y hy hp
    ·rw[List.mem_singleton.mp hy] at hp;exact absurd hp hz⟩
open Classical in
theorem zI7(i:Nat)(hi:i<vals.length):(phiV f b from_ vals).getD i 0=if phiK f b from_ i then zD1 f b from_ vals i else vals.getD i 0:=by
 unfold phiV phiK;generalize listB f b=l;have key:∀(l:List Int) (acc:List Int),i<acc.length->(l.foldl (λacc z=>match f.ins[z.toNat]? with | some x=>if x.op=34/\from_∈ledB f b then acc.set z.toNat (vals.getD (x.args.getD ((ledB f b).idxOf from_) 0).toNat 0) else acc | none=>acc) acc).getD i 0=if(∃z∈l,z.toNat=i/\zE8 f b from_ z) then zD1 f b from_ vals i else acc.getD i 0:=by
  intro l;induction l with
  | nil=>intro acc _;rw[if_neg (λ⟨z,h,_⟩=>by cases h)];rfl
  | cons z l ih=>
   intro acc ha;rw[List.foldl_cons];by_cases hz:zE8 f b from_ z
   ·obtain⟨x,hx,h34,hl⟩:=hz;have e:(match f.ins[z.toNat]? with | some x=>if x.op=34/\from_∈ledB f b then acc.set z.toNat (vals.getD (x.args.getD ((ledB f b).idxOf from_) 0).toNat 0) else acc | none=>acc)=acc.set z.toNat (vals.getD (x.args.getD ((ledB f b).idxOf from_) 0).toNat 0):=by
     rw[hx];exact if_pos ⟨h34,hl⟩
    rw[e,ih _ (by rw[List.length_set];exact ha)];by_cases hl2:∃z∈l,z.toNat=i/\zE8 f b from_ z
    ·rw[if_pos hl2,if_pos (by obtain⟨y,hy,r⟩:=hl2;exact⟨y,q0s _ hy,r⟩)]
    ·rw[if_neg hl2];by_cases hzi:z.toNat=i
     ·rw[if_pos ⟨z,q0H ..,hzi,x,hx,h34,hl⟩,hzi,q0e,List.getElem?_set_self ha];unfold zD1;rw[<-hzi,hx];rfl
     ·rw[if_neg (λ⟨y,hy,r1,r2⟩=>by
       rcases List.mem_cons.mp hy with rfl | hy
       ·exact hzi r1
       ·exact hl2 ⟨y,hy,r1,r2⟩),q0e,List.getElem?_set_ne hzi,<-q0e]
   ·have e:(match f.ins[z.toNat]? with | some x=>if x.op=34/\from_∈ledB f b then acc.set z.toNat (vals.getD (x.args.getD ((ledB f b).idxOf from_) 0).toNat 0) else acc | none=>acc)=acc:=by
     cases hx:f.ins[z.toNat]? with
     | none=>rfl
     | some x=>exact if_neg λhh=>hz ⟨x,hx,hh⟩
    rw[e,ih _ ha];by_cases hl2:∃z∈l,z.toNat=i/\zE8 f b from_ z
    ·rw[if_pos hl2,if_pos (by obtain⟨y,hy,r⟩:=hl2;exact⟨y,q0s _ hy,r⟩)]
    ·rw[if_neg hl2,if_neg (λ⟨y,hy,r1,r2⟩=>by
       rcases List.mem_cons.mp hy with rfl | hy
       ·exact hz r2
       ·exact hl2 ⟨y,hy,r1,r2⟩)]
 exact(key l vals hi).trans (by congr)
end
section
variable{tab:Nat->Option AFunc}{h:AH}(H:PV tab)
include H in
theorem indexN_gp{α:Type}{R:List AV->α->Prop}{v x:AV}{xs:List α}{p:α->Bool}(a:SlV h 1 R v xs)(mx:x.mv=true)(hq:∀E y,R E y->∃w,E=[w]/\∀h',oEq false .num (.c x) (.c w) .leaf [] h'=.val (.bool (p y)) h'):GP tab 191 [v,x] h λw h1=>w=.int .i64 (idxP xs p)/\h1=h:=by
 have i0:zAb [v,x]=zAa [v,x]:=rfl;have mv:=a.mv;have ln:=a.len;have hb:=a.bound;have mx:∀h',oMove (.c x) .leaf [] h'=.val x h':=λh'=>zAg mx;unfold maxLen at hb;refine gpr H.t191 ?_;simp+decide(disch:=omega)only[RL,↓reduceIte,i0,mv,ln];refine zAd (λm l d1 h1=>∃k,m=xs.length-k/\k<=xs.length/\d1=[]/\h1=h/\l.get 0=some v/\l.get 1=some x/\l.get 2=some (.int .i64 (k:Int))/\l.get 3=some (.int .i64 (xs.length:Int))/\∀i,i<k->(hi:i<xs.length)->p xs[i]=false) ?_ (xs.length-0) ⟨0,rfl,q0k _,rfl,rfl,rfl,rfl,rfl,rfl,λi hi=>by omega⟩;rintro m l d1 h1 ⟨k,rfl,hk,rfl,rfl,l0,l1,l2,l3,hall⟩;by_cases hlt:k<xs.length
 ·obtain⟨id,o,E,ix,e1,r,ld,lw⟩:=a.at hlt;obtain⟨w,rfl,eq⟩:=hq _ _ r;have lw0:∀h' [MoreC h1 h'],oLoad (.c (.ptr id o)) .leaf [] h'=.val w h':=lw 0 w rfl;cases he:p xs[k] with
  | true=>
   have hi:=zEe hlt hall he;simp+decide(disch:=omega)only[RL,↓reduceIte,l0,l1,l2,l3,hlt,mv,mx,ix,lw0,eq,he,hi]
  | false=>
   simp+decide(disch:=omega)only[RL,↓reduceIte,l0,l1,l2,l3,hlt,mv,mx,ix,lw0,eq,he];refine⟨xs.length-(k+1),by omega,k+1,rfl,hlt,rfl,λi hi hi'=>?_⟩;by_cases e:i=k
   ·subst e;exact he
   ·exact hall i (by omega) hi'
 ·have hn:=zB5 λi hi=>hall i (by omega) hi;simp+decide(disch:=omega)only[RL,↓reduceIte,l2,l3,hlt,neg1,hn]
end
theorem zJn{y:Int}:∀{xs:List Int} {i:Nat} (hi:i<xs.length),i<xs.idxOf y->xs[i]≠y
 | [],i,hi,_=>by cases hi
 | x::xs,i,hi,hlt=>by
  rw[List.idxOf_cons] at hlt;by_cases e:x=y
  ·rw[show(x == y)=true from by simpa using e] at hlt;exact absurd hlt (Nat.not_lt_zero _)
  ·rw[show(x == y)=false from by simpa using e] at hlt;cases i with
   | zero=>exact e
   | succ i=>
    have hlt:i+1<xs.idxOf y+1:=hlt;exact zJn (xs:=xs) (by simpa using hi) (Nat.lt_of_succ_lt_succ hlt)
theorem idxP_idx{xs:List Int}{y:Int}:idxP xs (λz=>decide (y=z))=if y∈xs then((xs.idxOf y:Nat):Int) else -1:=by
 by_cases h:y∈xs
 ·rw[if_pos h];have hl:=List.idxOf_lt_length_of_mem h;refine zEe hl (λi hi hi'=>?_) (by rw[List.getElem_idxOf hl];exact decide_eq_true rfl);exact decide_eq_false λe=>zJn hi' hi e.symm
 ·rw[if_neg h];exact zB5 λi hi=>decide_eq_false λe=>h (e▸q0l hi)
theorem op_range{x:Opd}{loc:T AV}{tmp:List AV}{h:AH}:evOp (.range x) loc tmp h=oRange (.c (ev loc tmp x)) .leaf [] h:=rfl
theorem op_entry{x:Opd}{loc:T AV}{tmp:List AV}{h:AH}:evOp (.entry x) loc tmp h=oEntry (.c (ev loc tmp x)) .leaf [] h:=rfl
theorem range_mp{h:AH}{id clock:Nat}{es:List (AV×AV×Nat)}(g:h.mem.get id=some (.map es clock)):oRange (.c (.mp id)) .leaf [] h=.val (.ptr h.next 0) (h.add (.iter (some id) clock [] clock)):=by
 show zDf (AH.get h id) (λ_ clock=>AH.new h (AObj.iter (some id) clock [] clock) λit h=>OR.val (AV.ptr it 0) h)=_;rw[q2f,g];show AH.new h (AObj.iter (some id) clock [] clock) (λit h=>OR.val (AV.ptr it 0) h)=_;rw[q2k]
theorem findB_in:∀{es:List (AV×AV×Nat)},(es.map λe=>e.2.2).Nodup->∀{a x:AV} {n:Nat},(a,x,n)∈es->findB n es=some (.tup [a,x])
 | [],_,a,x,n,h=>by cases h
 | e::es,nd,a,x,n,h=>by
  rw[List.map_cons,List.nodup_cons] at nd;show bi (Nat.beq n e.2.2) (some (AV.tup [e.1,e.2.1])) (findB n es)=_;rw[zDc,bi_eq];rcases List.mem_cons.mp h with rfl | h
  ·rw[if_pos (decide_eq_true rfl)]
  ·rw[if_neg (by
    rw[decide_eq_true_eq];intro e';exact nd.1 (List.mem_map.mpr ⟨_,h,e'⟩)),findB_in nd.2 h]
theorem entry_it{h:AH}{it m since clock n:Nat}{seen:List Nat}{es:List (AV×AV×Nat)}(g1:h.mem.get it=some (.iter (some m) since (n::seen) clock))(g2:h.mem.get m=some (.map es clock))(nd:(es.map λe=>e.2.2).Nodup){a x:AV}(hin:(a,x,n)∈es):oEntry (.c (.ptr it 0)) .leaf [] h=.val (.tup [a,x]) h:=by
 show onIter (AH.get h it) (λm _ seen last=>Option.rec (motive:=λ_=>OR) (F 64) (λm=>List.rec (motive:=λ_=>OR) (F 64) (λn _ _=>zDf (AH.get h m) λes clock=>bi (Nat.beq clock last) (obind (findB n es) (F 64) λv=>OR.val v h) (F 64)) seen) m)=_;rw[q2f,g1];show zDf (AH.get h m) (λes clock'=>bi (Nat.beq clock' clock) (obind (findB n es) (F 64) λv=>OR.val v h) (F 64))=_;rw[q2f,g2];show bi (Nat.beq clock clock) (obind (findB n es) (F 64) λv=>OR.val v h) (F 64)=_;rw[zDc,decide_eq_true rfl,zA8,findB_in nd hin,zBj]
theorem wc_rn{tab:Nat->Option AFunc}{c:ACode}{loc:T AV}{d:List AV}{h:AH}{Q:Res->Prop}(x:Rn tab [.code c] none loc d h Q):WC tab c loc d h Q:=by
 rw[zA1] at x;exact x.mono λr q=>by cases r<;>exact q
end Go.Ev
