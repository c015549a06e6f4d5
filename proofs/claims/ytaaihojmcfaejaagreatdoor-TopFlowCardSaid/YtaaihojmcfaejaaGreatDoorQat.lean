/- Lemmas for the tops: the walk of the house and its laws. No condition is added. -/
import Derived.Test.YtaaihojmcfaejaaGreatDoorQas
import Derived.Test.YtaaihojmcfaejaaGreatDoorQah
import Derived.Test.YtaaihojmcfaejaaGreatDoorQaq
import Derived.Test.YtaaihojmcfaejaaGreatDoorQap
import Derived.Test.YtaaihojmcfaejaaGreatDoorQaf
set_option linter.all false
namespace Go.Proofs.YtaaihojmcfaejaaGreatDoor
open Go Go.RowKit Tryz
variable{r:A5}{af:Array Edge}{s:E1}{O2 first tx:Int}{P0 S0:List A5}{L R:List HP}{P1:List oa}{l:N7}{E4 S b cap i m n sz w9:Nat}{y:Operand}{ρ:Operand->Value}{g:Option (Nat×Bool)}{a a2:Option Addr}{dst:Option Nat}{db:String}{α σ:Type}{e t ti:TypeId}{z:Value}{K:Value->Prop}{c w:World}{PQ:Y5}{xs:List α}{E:Qb α}
theorem aaO{P:Prop}(h:P:=by intro a h1 h2 h3;have:¬pl P1.length s.num=pl P1.length a:=λe=>h3 (adp h.s1 e.symm h1 h2);simp[List.getD,List.getElem?_set_ne this]):P:=h
def pl(S:Nat)(n:Int):Nat:=((n-1)%(S:Int)).toNat
theorem cB(h:1<=S)(n:Int):pl S n<S:=by unfold pl;have a:=cL (n-1) (b:=(S:Int)) m4;omega
theorem adq(h:1<=S){a b:Int}(e:pl S a=pl S b):∃k:Int,a-b=(S:Int)*k:=by
 unfold pl at e;have g:=tz (a-1) (b:=(S:Int)) m4;have f:=tz (b-1) (b:=(S:Int)) m4;have i:(a-1)%(S:Int)=(b-1)%(S:Int):=m4
 refine⟨(a-1)/(S:Int)-(b-1)/(S:Int),?_⟩;have d:=oL (a-1) (S:Int);have c:=oL (b-1) (S:Int);grind
theorem pS(h:1<=S){a b:Int}(e:pl S a=pl S b)(c:b<a):b+S<=a:=by
 obtain⟨k,d⟩:=adq h e;have:1<=k:=Hs λf=>by have:=mV (show k<=0 by omega) (show(0:Int)<=S by omega);omega
 have:=mV this (show(0:Int)<=S by omega);omega
theorem adp(h:1<=S){a b:Int}(e:pl S a=pl S b)(f:a-b<S)(d:b-a<S):a=b:=by
 rcases Int.lt_trichotomy a b with c|c|c
 ·have:=pS h e.symm c;omega
 ·exact c
 ·have:=pS h e c;omega
theorem adr(a:Int):pl S (a+S)=pl S a:=by
 unfold pl;have:a+(S:Int)-1=(a-1)+(S:Int)*1:=m4
 simp[*]
theorem kW(h:1<=S)(N0:Int)(c:i<S):∃a,N0<=a∧a<N0+S∧pl S a=i:=by
 refine⟨(i:Int)+1+(S:Int)*(-(((i:Int)+1-N0)/(S:Int))),?_⟩;have f:=tz ((i:Int)+1-N0) (b:=(S:Int)) m4;have e:=cL ((i:Int)+1-N0) (b:=(S:Int)) m4;have d:=oL ((i:Int)+1-N0) (S:Int);rw[Int.mul_neg];refine⟨m4,m4,?_⟩;unfold pl;have:(i:Int)+1+ -((S:Int)*(((i:Int)+1-N0)/(S:Int)))-1=(i:Int)+(S:Int)*(-(((i:Int)+1-N0)/(S:Int))):=by rw[Int.mul_neg];omega
 simp_all[Int.emod_eq_of_lt]
def cd(P1:List oa):U2:=⟨P1,[],[]⟩
theorem gk{n:Int}(a:1<=n)(d:U2):W9 n d=(pl d.P1.length n:Int):=by
 unfold W9 pl;by_cases h:d.P1.length=0
 ·grind
 have c:=tz (n-1) (b:=(d.P1.length:Int)) m4;grind
theorem vM(a:i<P1.length):t6 (cd P1) (i:Int)=match I8 (P1.getD i kc).1 with
 |none=>(qm,false)
 |some s=>(s,decide (s.num>=1)&&decide (W9 s.num (cd P1)=i)):=by
 have e:(cd P1).o9 (i:Int)=((P1.getD i kc).1,0):=by
  have:(cd P1).U' (i:Int)=true:=by unfold U2.U' cd;simp[a]
  unfold U2.o9;rw[this];rfl
 grind[t6]
structure Ye(P1:List oa)(first:Int)(l:List T6):Prop where
 s1:1<=P1.length
 s2:P1.length<=128
 f1:1<=first
 len:l.length<=P1.length
 num:∀i(h:i<l.length),l[i].num=first+i
 ok:∀i(h:i<l.length),Xe l[i]
 um:∀i(h:i<l.length),P1.getD (pl P1.length (first+i)) kc=Z' l[i].bytes
 ba:∀s,l.getLast?=some s->s.first=first
 nil:l=[]->first=1
 EW:∀a,first+l.length<=a->a<first+P1.length->AI (P1.getD (pl P1.length a) kc) a
theorem Ye.new(b:1<=n)(a:n<=128):Ye (List.replicate n kc) 1 []:=by
 refine⟨Zb1,Zb1,m4,Zb3,?_,?_,?_,?_,λ_=>rfl,?_⟩
 ·simp
 ·simp
 ·simp
 ·simp
 grind[WO]
variable{l:List T6}
theorem Ye.mem(h:Ye P1 first l)(a:i<l.length):t6 (cd P1) (W9 (first+i) (cd P1))=(l[i],true):=by have b:=h.f1;rw[gk m4];have hp:=cB h.s1 (first+i);show t6 (cd P1) ((pl P1.length (first+i):Nat):Int)=_;rw[vM hp,h.um i a,CD (T6.Kk (h.ok i a)),Iu (h.ok i a)];grind[num,gk,cd]
theorem Ye.all(h:Ye P1 first l){j:Nat}(f:j<P1.length)(b:(t6 (cd P1) (j:Int)).2=true):(∃i,∃h:i<l.length,(t6 (cd P1) (j:Int)).1=l[i])∨(1<=(t6 (cd P1) (j:Int)).1.num∧(t6 (cd P1) (j:Int)).1.num<first):=by
 have t:=h.f1;obtain⟨a,u,p,d⟩:=kW h.s1 first f
 by_cases q:a<first+l.length
 ·left;obtain⟨i,rfl⟩:∃i:Nat,a=first+i:=⟨(a-first).toNat,m4⟩
  have k:i<l.length:=m4
  have e:=h.mem k;grind[gk,cd]
 ·right;have hjk:=h.EW a m4 p;rw[d]at hjk;have g:=hjk.aiK;rw[vM f]at b⊢;cases hp:I8 (P1.getD j kc).1 with
  |none=>simp_all
  |some s=>
   rw[hp]at b;simp only[Bool.and_eq_true,decide_eq_true_eq]at b;obtain⟨o,c⟩:=b;refine⟨o,?_⟩;show s.num<first
   have m:=g s hp;rw[gk m4]at c;have n:pl P1.length a=pl P1.length s.num:=by rw[d];have:((pl (cd P1).P1.length s.num:Nat):Int)=j:=c;show j=pl (cd P1).P1.length s.num;omega
   have r:=pS h.s1 n m;omega
theorem oH{f:Nat->T6×Bool}{z:T6}:∀(a:List Nat)(r9:T6),(∀j∈a,(f j).2=true->(f j).1.num<=z.num∧((f j).1.num=z.num->(f j).1=z))->(r9=z∨(r9.num<z.num∧∃j∈a,f j=(z,true)))->a.foldl (λ(r9:T6)(j:Nat)=>if(f j).2=true∧(f j).1.num>r9.num then(f j).1 else r9) r9=z
 |[],r9,_,h=>Zb7
 |j::a,r9,c,b=>by
  rw[Ti];apply oH a
  ·simp_all
  grind
theorem Ye.Vf(h:Ye P1 first l):Vf (cd P1)=l.getLastD qm:=by
 have k:=h.f1;show(List.range P1.length).foldl (λ(r9:T6)(i:Nat)=>if(t6 (cd P1) (i:Int)).2=true∧(t6 (cd P1) (i:Int)).1.num>r9.num then(t6 (cd P1) (i:Int)).1 else r9) qm=_;apply oH (f:=λi=>t6 (cd P1) (i:Int))
 ·intro j a c;have a:=List.mem_range.mp a;rcases h.all a c with⟨i,g,e⟩|⟨n,m⟩
  ·grind[num]
  ·by_cases b:l=[]
   ·grind[nil]
   ·have h0:0<l.length:=List.length_pos_iff.mpr b;grind[num]
 ·by_cases b:l=[]
  ·simp[*]
  ·right;have h0:0<l.length:=List.length_pos_iff.mpr b;have d:l.getLastD qm=l[l.length-1]'m4:=by rw[eV,dV,d8 m4];rfl
   rw[d,h.num (l.length-1) m4];refine⟨?_,pl P1.length (first+((l.length-1:Nat):Int)),List.mem_range.mpr (cB h.s1 _),?_⟩
   ·show(0:Int)<_;omega
   ·have:=h.mem (i:=l.length-1) m4;rw[gk m4]at this;exact this
def S7:List T6->List (List B)->List (List B)
 |[],r9=>r9
 |s::l,r9=>
  let r9:=if s.Fc then r9++[[]]else r9
  S7 l (r9.dropLast++[r9.getLastD []++s.data])
theorem On:∀(l1 l2:List T6)(r9:List (List B)),S7 (l1++l2) r9=S7 l2 (S7 l1 r9)
 |[],l2,r9=>rfl
 |s::l1,l2,r9=>by show S7 (l1++l2) _=S7 l2 (S7 l1 _);exact On l1 l2 _
theorem eG{d:U2}:∀(l:List T6)(n:Int)(r9:List (List B)),(∀i(h:i<l.length),t6 d (W9 (n+i) d)=(l[i],true)∧l[i].num=n+i)->va d l.length n r9=some (S7 l r9)
 |[],n,r9,_=>rfl
 |s::l,n,r9,h=>by
  have h0:=h 0 Zb3;simp only[List.getElem_cons_zero]at h0;have b:n+((0:Nat):Int)=n:=Zb3
  rw[b]at h0;obtain⟨a,f⟩:=h0;rw[ze,va];simp only[a];rw[V0 Zb6];refine eG l (n+1) _ λi c=>?_;have e:=h (i+1) Zb5;grind
theorem Ye.Y9(h:Ye P1 first l)(a:Y7 (S7 l [[]])=some S0):I' (cd P1)=some (⟨first+l.length,first,first⟩,S0):=by
 have m:=h.f1;have k:=h.len;unfold I';rw[h.Vf];by_cases d:l=[]
 ·subst d;have:=h.nil O;subst this;simp only[S7,Y7]at a;simp at a;have:S0=[]:=by rw[<-a.2];rfl
  rw[this];rfl
 ·have h0:0<l.length:=List.length_pos_iff.mpr d;have c:l.getLast?=some (l[l.length-1]'m4):=by rw[dV,d8 m4]
  have j:l.getLastD qm=l[l.length-1]'m4:=by rw[eV,c];rfl
  have f:=h.ba _ c;have e:=h.num (l.length-1) m4;simp only[j,f,e];have g:(first+((l.length-1:Nat):Int)-first+1).toNat=l.length:=m4
  rw[S1 m4,V0 (by show¬(_∨_∨_>=(P1.length:Int));omega),g,eG l first [[]] (λi b=>⟨h.mem b,h.num i b⟩)];grind
theorem Ye.put(h:Ye P1 first l){s:T6}(hs:Xe s)(g:s.num=first+l.length)(n:l.length<P1.length)(k:Nat)(o:k<=l.length)(p:s.first=first+k):Ye (P1.set (pl P1.length s.num) (Z' s.bytes)) (first+k) (l.drop k++[s]):=by
 have hp:=cB h.s1 s.num;have f1:=h.f1;have s2:=h.s2;have far:∀a:Int,a-s.num<P1.length->s.num-a<P1.length->¬a=s.num->(P1.set (pl P1.length s.num) (Z' s.bytes)).getD (pl P1.length a) kc=P1.getD (pl P1.length a) kc:=by exact aaO
 have alE:(P1.set (pl P1.length s.num) (Z' s.bytes)).getD (pl P1.length s.num) kc=Z' s.bytes:=by simp[List.getD,hp]
 have d:(l.drop k++[s]).length=l.length-k+1:=Zb3
 have f:∀i(b:i<l.length-k)(c:i<(l.drop k++[s]).length),(l.drop k++[s])[i]=l[k+i]:=by intro i b c;rw[List.getElem_append_left Zb5,List.getElem_drop]
 have m:∀(c:l.length-k<(l.drop k++[s]).length),(l.drop k++[s])[l.length-k]=s:=by intro c;rw[cV Zb3];simp
 have VV:∀i,i<(l.drop k++[s]).length->i<l.length-k∨i=l.length-k:=by intro i b;rw[d]at b;omega
 refine⟨by simpa using h.s1,Zb6,m4,by rw[d,Uk];omega,?_,?_,?_,?_,?_,?_⟩
 ·intro i b;rcases VV i b with h1|rfl
  ·rw[f i h1 b,h.num (k+i) m4];omega
  ·rw[m b,g];omega
 ·intro i b;rcases VV i b with h1|rfl
  ·rw[f i h1 b];exact h.ok (k+i) m4
  simp[*]
 ·intro i b;rw[Uk];rcases VV i b with h1|rfl
  ·have e:first+(k:Int)+(i:Int)=first+((k+i:Nat):Int):=m4
   rw[f i h1 b,e,far _ m4 m4 m4];exact h.um (k+i) m4
  ·have e:first+(k:Int)+((l.length-k:Nat):Int)=s.num:=m4
   simp_all
 ·simp[*]
 ·simp
 ·intro a h1 h2;rw[Uk]at*;rw[d]at h1;rw[far a m4 m4 m4];by_cases j:a<first+P1.length
  ·exact h.EW a m4 j
  ·obtain⟨i,b⟩:∃i:Nat,a=first+i+P1.length:=⟨(a-first-P1.length).toNat,m4⟩
   have c:i<l.length:=m4
   rw[b,adr,h.um i c];have ajs:=h.num i c;exact ZS (h.ok i c) m4 m4
theorem Ye.O8(h:Ye P1 first l){s:T6}(hs:Xe s)(d:s.num=first+l.length)(c:l.length<P1.length)(k:s.first=first)(n:Nat)(aeh:n<=31):Ye (P1.set (pl P1.length s.num) (pa (P1.getD (pl P1.length s.num) kc) (Z' s.bytes) n)) first l∨Ye (P1.set (pl P1.length s.num) (pa (P1.getD (pl P1.length s.num) kc) (Z' s.bytes) n)) first (l++[s]):=by
 have hp:=cB h.s1 s.num;have f1:=h.f1;have b:=CD (T6.Kk hs);rcases XO (h.EW s.num m4 m4) hs.num (new:=Z' s.bytes) (by rw[b,YR hs]) (by rw[b,Kw hs]) n aeh with e|f
 ·right;rw[e];have:=h.put hs d c 0 m4 m4;simp_all
 ·left;generalize pa (P1.getD (pl P1.length s.num) kc) (Z' s.bytes) n=z at f;have far:∀a:Int,a-s.num<P1.length->s.num-a<P1.length->¬a=s.num->(P1.set (pl P1.length s.num) z).getD (pl P1.length a) kc=P1.getD (pl P1.length a) kc:=by exact aaO
  have alE:(P1.set (pl P1.length s.num) z).getD (pl P1.length s.num) kc=z:=by simp[List.getD,hp]
  refine⟨by simpa using h.s1,by simpa using h.s2,f1,by simpa using h.len,h.num,h.ok,?_,h.ba,h.nil,?_⟩
  ·intro i g;rw[Uk,far _ m4 m4 m4];exact h.um i g
  ·intro a h1 h2;rw[Uk]at*;by_cases j:a=s.num
   ·simp_all
   ·rw[far a m4 m4 j];exact h.EW a h1 h2
def R7(P1:List oa)(l:List T6):List oa:=l.foldl (λ(P1:List oa)(s:T6)=>P1.set (pl P1.length s.num) (Z' s.bytes)) P1
theorem Mc:∀(l:List T6)(P1:List oa),(R7 P1 l).length=P1.length
 |[],_=>rfl
 |s::l,P1=>by show(R7 (P1.set _ _) l).length=_;rw[Mc l,Uk]
theorem sn(P1:List oa)(l1 l2:List T6):R7 P1 (l1++l2)=R7 (R7 P1 l1) l2:=Qh ..
theorem Ye.ado:∀(l2:List T6){P1:List oa}{first:Int}{l:List T6},Ye P1 first l->(∀i(h:i<l2.length),l2[i].num=first+l.length+i∧Xe l2[i]∧l2[i].first=first)->l.length+l2.length<=P1.length->Ye (R7 P1 l2) first (l++l2)
 |[],_,_,_,h,_,_=>by simpa [R7] using h
 |s::l2,P1,first,l,h,b,d=>by
  obtain⟨g,e,f⟩:=b 0 Zb3
  simp only[List.getElem_cons_zero]at g e f
  have c:=h.put e m4 (by simp at d;omega) 0 m4 m4
  have j:first+((0:Nat):Int)=first:=m4
  rw[j,qz]at c
  have:=Ye.ado l2 c (λi k=>by
   have a:=b (i+1) Zb5
   simp only[List.getElem_cons_succ]at a
   refine⟨?_,a.2⟩
   rw[a.1]
   simp
   omega) (by simp at d⊢;omega)
  rw[N']at this
  exact this
structure yg(d:U2)(P1:List oa)(ls:List T6):Prop where
 N0:d.P1=P1
 L4:d.L4=ls.map λs=>(((pl P1.length s.num:Nat):Int),Z' s.bytes)
 view:∀i:Nat,i<P1.length->(K0 d.C0 (i:Int)).getD (P1.getD i kc)=(R7 P1 ls).getD i kc
theorem yg.TH(P1:List oa):yg (cd P1) P1 []:=⟨rfl,rfl,λ_ _=>rfl⟩
variable{d:U2}{ls:List T6}
theorem yg.Gx(h:yg d P1 ls){s:T6}(hs:Xe s)(f:1<=s.num)(c:1<=P1.length):yg (d.x7 (W9 s.num d) s.bytes).2 P1 (ls++[s]):=by
 have hp:=cB c s.num;have e:d.x7 (W9 s.num d) s.bytes=(0,{d with L4:=d.L4++[(((pl P1.length s.num:Nat):Int),Z' s.bytes)],C0:=R1 d.C0 ((pl P1.length s.num:Nat):Int) (Z' s.bytes)}):=by
  have g:d.P1.length=P1.length:=by rw[h.N0]
  rw[gk f,g];have a:d.U' ((pl P1.length s.num:Nat):Int)=true:=by unfold U2.U';rw[h.N0];simp[hp]
  unfold U2.x7;rw[a,V0 Zb4,V0 (by simp_all[T6.Kk])]
 rw[e];refine⟨h.N0,by simp[h.L4],?_⟩;intro i b;rw[sn];show(K0 (R1 d.C0 _ _) (i:Int)).getD _=((R7 P1 ls).set (pl (R7 P1 ls).length s.num) (Z' s.bytes)).getD i kc;rw[Mc];by_cases e:i=pl P1.length s.num
 ·simp_all[G1,Mc]
 ·rw[Y0 m4,h.view i b];simp[List.getD,List.getElem?_set_ne (λh=>e h.symm)]
theorem Au{n:Nat}:∀(l:List T6)(b:List oa),b.length=n->(l.map λs=>(((pl n s.num:Nat):Int),Z' s.bytes)).foldl (λ(s:List oa)(x:Int×oa)=>s.set x.1.toNat x.2) b=R7 b l
 |[],_,_=>rfl
 |s::l,b,h=>by show(l.map _).foldl _ (b.set (pl n s.num) (Z' s.bytes))=R7 (b.set (pl b.length s.num) (Z' s.bytes)) l;rw[h];exact Au l _ Zb6
theorem yg.X8(h:yg d P1 ls)(k:Nat):d.X8 k=cd (R7 P1 (ls.take k)):=by unfold U2.X8 cd;rw[h.L4,h.N0,<-List.map_take,Au _ _ O]
theorem yg.iy(h:yg d P1 ls):d.iy=cd (R7 P1 ls):=by unfold U2.iy;rw[h.X8,h.L4,H7,jg]
theorem yg.N6(h:yg d P1 ls)(Q6 O8:Int):∃k:Nat,(k=ls.length∧d.N6 Q6 O8=cd (R7 P1 ls))∨∃(c:k<ls.length)(n:Nat),n<=31∧d.N6 Q6 O8=cd ((R7 P1 (ls.take k)).set (pl P1.length ls[k].num) (pa ((R7 P1 (ls.take k)).getD (pl P1.length ls[k].num) kc) (Z' ls[k].bytes) n)):=by
 have e:d.L4.length=ls.length:=by rw[h.L4,H7]
 have c:(cg Q6 0 d.L4.length).toNat<=ls.length:=by unfold cg;omega
 have b:(cg O8 0 31).toNat<=31:=by unfold cg;omega
 unfold U2.N6;simp only;generalize(cg Q6 0 d.L4.length).toNat=k at c⊢;generalize(cg O8 0 31).toNat=n at b⊢;refine⟨k,?_⟩;rw[h.X8,h.L4,<-List.map_drop];by_cases a:k<ls.length
 ·right;refine⟨a,n,b,?_⟩;rw[IN a];rfl
 grind
theorem nn{d e:U2}(b:d.P1.length=e.P1.length)(a:∀i,t6 d i=t6 e i):∀(k:Nat)(n:Int)(r9:List (List B)),va d k n r9=va e k n r9
 |0,_,_=>rfl
 |k+1,n,r9=>by
  have hp:W9 n d=W9 n e:=by unfold W9;rw[b]
  unfold va;simp only[a,hp];split
  ·rfl
  ·exact nn b a k _ _
theorem Oz{d e:U2}(b:d.P1.length=e.P1.length)(a:∀i,t6 d i=t6 e i):I' d=I' e:=by grind[Vf,I',nn]
theorem yg.Y9(h:yg d P1 ls):I' d=I' (cd (R7 P1 ls)):=by
 have b:d.P1.length=(cd (R7 P1 ls)).P1.length:=by rw[h.N0];exact(Mc ls P1).symm
 apply Oz b;intro i;have g:(d.o9 i).1=((cd (R7 P1 ls)).o9 i).1:=by
  have c:d.U' i=(cd (R7 P1 ls)).U' i:=by unfold U2.U';rw[b]
  unfold U2.o9;rw[c];by_cases a:(cd (R7 P1 ls)).U' i=false
  ·simp[*]
  ·rw[V0 a,V0 a];have a:(cd (R7 P1 ls)).U' i=true:=by simpa using a
   unfold U2.U' at a;simp only[Bool.and_eq_true,decide_eq_true_eq]at a;obtain⟨k,j⟩:=a;have f:i.toNat<P1.length:=by have:((cd (R7 P1 ls)).P1.length)=P1.length:=Mc ls P1;omega
   have:=h.view i.toNat f;have e:((i.toNat:Nat):Int)=i:=m4
   rw[e]at this;rw[h.N0,this];rfl
 grind[W9,t6]
def X4(first:Int):Nat->Int->Bool->List B->List T6
 |0,_,_,_=>[]
 |f+1,n,st,b=>if b=[]then[]else⟨n,first,st,b.take 16⟩::X4 first f (n+1) false (b.drop 16)
theorem jw{P1:List oa}(a:1<=P1.length):∀(f:Nat)(l:N7)(d:U2)(ls:List T6)(st:Bool)(b:List B),yg d P1 ls->1<=l.next->Ui l.first->l.next+(X4 l.first f l.next st b).length<=4294967296->(N7.x7 l d f st b).1={l with next:=l.next+(X4 l.first f l.next st b).length}∧yg (N7.x7 l d f st b).2 P1 (ls++X4 l.first f l.next st b)
 |0,l,d,ls,st,b,h,_,_,_=>by simp_all[N7.x7,X4]
 |f+1,l,d,ls,st,b,h,i,c,g=>by
  by_cases hb:b=[]
  ·simp_all[N7.x7,X4]
  ·simp only[X4,if_neg hb,List.length_cons]at g⊢;simp only[N7.x7,if_neg hb];have j:Xe ⟨l.next,l.first,st,b.take 16⟩:=⟨⟨Zb1,Zb1⟩,c,Zb1⟩;have e:=h.Gx j i a;have k:=jw a f {l with next:=l.next+1} _ _ false (b.drop 16) e Zb1 c Zb1;grind[N7.Gx]
theorem Ry(first:Int):∀(f:Nat)(n:Int)(st:Bool)(b:List B)(i:Nat)(h:i<(X4 first f n st b).length),(X4 first f n st b)[i].num=n+i∧(X4 first f n st b)[i].first=first∧(X4 first f n st b)[i].data.length<=16
 |0,_,_,_,i,h=>by simp[X4]at h
 |f+1,n,st,b,i,h=>by
  by_cases hb:b=[]
  ·simp[X4,hb]at h
  ·simp only[X4,if_neg hb]at h⊢;cases i with
   |zero=>grind
   |succ i=>
    simp only[List.getElem_cons_succ];have:=Ry first f (n+1) false (b.drop 16) i (by simpa using h)
    omega
theorem Fo(first:Int):∀(f:Nat)(n:Int)(st:Bool)(b:List B),b.length<=f->(X4 first f n st b).length=(b.length+15)/16
 |0,_,_,b,h=>by
  have:b.length=0:=m4
  rw[this];rfl
 |f+1,n,st,b,h=>by
  by_cases hb:b=[]
  ·simp[X4,hb]
  ·have h0:0<b.length:=List.length_pos_iff.mpr hb;simp only[X4,if_neg hb,List.length_cons];rw[Fo first f (n+1) false (b.drop 16) Zb1,Ve];omega
theorem Qy(first:Int):∀(f:Nat)(n:Int)(b:List B)(r9:List (List B))(r:List B),b.length<=f->S7 (X4 first f n false b) (r9++[r])=r9++[r++b]
 |0,_,b,r9,r,h=>by simp_all[X4,S7]
 |f+1,n,b,r9,r,h=>by
  by_cases hb:b=[]
  ·grind[X4,S7]
  ·have h0:0<b.length:=List.length_pos_iff.mpr hb;simp only[X4,if_neg hb,S7,Bool.false_eq_true,if_false];have c:(r9++[r]).dropLast=r9:=kL ..;have a:(r9++[r]).getLastD []=r:=Zb3
   rw[c,a,Qy first f (n+1) (b.drop 16) r9 (r++b.take 16) Zb1,N',Vd]
theorem EP(first:Int)(f:Nat)(n:Int)(b:List B)(r9:List (List B))(h:b.length<=f)(hb:¬b=[]):S7 (X4 first f n true b) r9=r9++[b]:=by
 have h0:0<b.length:=List.length_pos_iff.mpr hb;cases f with
 |zero=>omega
 |succ f=>
  simp only[X4,if_neg hb,S7,if_true];have c:(r9++[[]]).dropLast=r9:=kL ..;have a:(r9++[([]:List B)]).getLastD []=[]:=Zb3
  grind[Qy,List.take_append_drop]
theorem qn:∀(a:List (List B))(b:List B)(x y:List A5),Y7 a=some x->s8 b.length b=(y,[])->Y7 (a++[b])=some (x++y)
 |[],b,x,y,h,hb=>by simp_all[Y7]
 |r::a,b,x,y,h,hb=>by
  rw[PE];simp only[Y7]at h⊢;split at h
  ·cases h
  rename_i d;rw[V0 d];cases c:Y7 a with
  |none=>simp_all
  |some z=>rw[c]at h;simp only[Option.map_some,Option.some.injEq]at h;rw[qn a b z y c hb,<-h];simp
theorem Py{n:Int}{b:List B}{r9:List (List B)}(h:Y7 r9=some S0)(a:N5 P0=some b)(c:s8 b.length b=(P0,[])):Y7 (S7 (X4 first b.length n true b) r9)=some (S0++P0):=by
 by_cases d:b=[]
 ·grind[s8,X4,S7]
 simp_all[EP,qn]
theorem aaN{P:Prop}(h:P:=by
 unfold N7.T0 at he;simp only at he;by_cases c:(l.ra d P0 1 O2).2=0
 ·exact c
 ·simp_all):P:=h
theorem aaM{P:Prop}(h:P:=by
 unfold N7.append at he;simp only at he;by_cases c:(l.ra d P0 0 O2).2=0
 ·exact c
 ·simp_all):P:=h
theorem Ye.XM{l:List T6}(h:Ye P1 first l):Ui first:=by
 by_cases a:l=[]
 ·grind[nil]
 ·have h0:0<l.length:=List.length_pos_iff.mpr a;have b:=(h.ok 0 h0).num;grind[num]
structure qa(d:U2)(l:N7)(x6:List T6)(k:Nat):Prop where
 kl:k<=x6.length
 pu:yg d d.P1 (x6.drop k)
 ring:Ye d.P1 l.first (x6.take k)
 sec:∀i(h:i<x6.length),k<=i->x6[i].num=l.first+i∧Xe x6[i]∧x6[i].first=l.first
 len:x6.length<=d.P1.length
 next:l.next=l.first+x6.length
 wj:l.wj=l.first
variable{d:U2}{l:N7}{x6:List T6}{k:Nat}
theorem qa.afd(h:qa d l x6 k){j:Nat}(f:k<=j)(c:j<=x6.length):Ye (R7 d.P1 ((x6.drop k).take (j-k))) l.first (x6.take j):=by
 have b:=h.kl;have a:=h.len;have e:x6.take k++(x6.drop k).take (j-k)=x6.take j:=by rw[<-List.take_add];congr 1;omega
 grind[Ye.ado,ring,List.length_take,sec]
theorem qa.sX(h:qa d l x6 k):Ye (R7 d.P1 (x6.drop k)) l.first x6:=by have a:=h.kl;have:=h.afd a (V7 _);simp_all[List.take_of_length_le]
theorem qa.Y9(h:qa d l x6 k)(a:Y7 (S7 x6 [[]])=some S0):I' d=some (l,S0):=by rw[h.pu.Y9,h.sX.Y9 a,<-h.next];have hs:=h.wj;obtain⟨n,f,s⟩:=l<;>grind
theorem qa.tD{l:List T6}(h:Ye P1 first l):qa (cd P1) ⟨first+l.length,first,first⟩ l l.length:=by
 refine⟨V7 _,?_,?_,?_,h.len,rfl,rfl⟩
 ·rw[sE];exact yg.TH P1
 ·rw[jg];exact h
 omega
def U2.Clean(d:U2):Prop:=d.L4=[]∧d.C0=[]
theorem qa.N6(h:qa d l x6 k)(Q6 O8:Int):∃j:Nat,k<=j∧j<=x6.length∧qa (d.N6 Q6 O8) ⟨l.first+j,l.first,l.first⟩ (x6.take j) j∧(d.N6 Q6 O8).Clean:=by
 have r:=h.kl;have aiF:∀(P1:List oa)(j:Nat),d.N6 Q6 O8=cd P1->k<=j->j<=x6.length->Ye P1 l.first (x6.take j)->∃j:Nat,k<=j∧j<=x6.length∧qa (d.N6 Q6 O8) ⟨l.first+j,l.first,l.first⟩ (x6.take j) j∧(d.N6 Q6 O8).Clean:=by
  intro P1 j e t s p;have b:(x6.take j).length=j:=by rw[Ga];omega
  have:=qa.tD p;rw[b]at this;rw[e];exact⟨j,t,s,this,rfl,rfl⟩
 obtain⟨m,⟨f,e⟩|⟨f,n,q,e⟩⟩:=h.pu.N6 Q6 O8
 ·refine aiF _ x6.length e r (V7 _) ?_;rw[jg];exact h.sX
 ·have x:k+m<x6.length:=by
   rw[Ve]at f;omega
  have c:=h.afd (j:=k+m) m4 m4;have v:k+m-k=m:=m4
  rw[v]at c;have u:(x6.drop k)[m]=x6[k+m]:=List.getElem_drop ..;rw[u]at e;obtain⟨o,i,g⟩:=h.sec (k+m) x m4;have b:(x6.take (k+m)).length=k+m:=by rw[Ga];omega
  have y:=h.len;have w:(R7 d.P1 ((x6.drop k).take m)).length=d.P1.length:=Mc ..;have a:=c.O8 i (by rw[b,o]) m4 g n q;rw[w]at a;rcases a with a|a
  ·grind
  ·refine aiF _ (k+m+1) e m4 m4 ?_;simp_all
theorem qa.Z8(h:qa d l x6 k):l.Z8 d=(l,cd (R7 d.P1 (x6.drop k)))∧qa (cd (R7 d.P1 (x6.drop k))) l x6 x6.length:=by have hs:=h.wj;have a:=h.next;have b:=qa.tD h.sX;obtain⟨n,f,s⟩:=l;simp only at hs a;subst hs;subst a;refine⟨?_,b⟩;unfold N7.Z8;rw[h.pu.iy]
theorem Wv(b:List B):zd b=(((b.length+15)/16:Nat):Int):=by grind[zd]
theorem Gr{l:N7}{d:U2}{p9:Int}(h:(l.ra d P0 p9 O2).2=0):N5 P0=some (l.ra d P0 p9 O2).1∧0<=O2∧zd (l.ra d P0 p9 O2).1+p9+O2<=d.P1.length-l.next+l.wj∧l.next+zd (l.ra d P0 p9 O2).1+p9<=4294967296:=by
 unfold N7.ra at h⊢;cases a:N5 P0 with
 |none=>simp_all
 |some b=>
  rw[a]at h;simp only at h⊢;by_cases c1:O2<0
  ·simp_all
  rw[V0 c1]at h⊢;by_cases c2:l.free d-(zd b+p9)<O2∨l.next>4294967296-(zd b+p9)
  ·simp_all
  rw[V0 c2];unfold N7.free at c2<;>grind
theorem ki{l:N7}{d:U2}(h:¬(l.append d P0 O2).1=0):(l.append d P0 O2).2=(l,d):=by unfold N7.append at h⊢<;>grind
theorem qa.append(h:qa d l x6 k)(he:(l.append d P0 O2).1=0):∃b,N5 P0=some b∧qa (l.append d P0 O2).2.2 (l.append d P0 O2).2.1 (x6++X4 l.first b.length l.next true b) k:=by
 have hx:(l.ra d P0 0 O2).2=0:=by exact aaM
 obtain⟨g,h0,m,j⟩:=Gr hx;have e:l.append d P0 O2=(0,l.x7 d (l.ra d P0 0 O2).1.length true (l.ra d P0 0 O2).1):=by unfold N7.append;simp only;rw[S1 hx,hx]
 rw[e];generalize(l.ra d P0 0 O2).1=b at g m j⊢;have f:=h.kl;have o:=h.ring.XM;have hf1:=h.ring.f1;have r:=h.next;have hs:=h.wj;have p:=h.len;rw[Wv]at m j;have s:=Fo l.first b.length l.next true b (V7 _);obtain⟨w1,a⟩:=jw h.ring.s1 b.length l d (x6.drop k) true b h.pu m4 o m4;refine⟨b,g,?_⟩;show qa (N7.x7 l d b.length true b).2 (N7.x7 l d b.length true b).1 _ _;rw[w1];refine⟨Zb1,?_,?_,?_,?_,?_,hs⟩
 ·rw[a.N0,vL f];exact a
 ·rw[a.N0,nV f];exact h.ring
 ·intro i n hki;by_cases q:i<x6.length
  ·grind[sec]
  ·rw[cV m4];rw[j7]at n;obtain⟨c1,c2,c3⟩:=Ry l.first b.length l.next true b (i-x6.length) m4;refine⟨?_,⟨?_,?_,c3⟩,c2⟩
   ·grind
   ·omega
   omega
 ·rw[a.N0,j7];omega
 grind
theorem VH{l:N7}{d:U2}(h:¬(l.T0 d P0 O2).1=0):(l.T0 d P0 O2).2=(l,d):=by unfold N7.T0 at h⊢<;>grind
theorem qa.fa(h:qa d l x6 k)(he:(l.T0 d P0 O2).1=0):∃b,N5 P0=some b∧∃P1,(l.T0 d P0 O2).2.1.Z8 (l.T0 d P0 O2).2.2=(⟨l.next+(X4 l.first b.length l.next true b).length+1,l.next,l.next⟩,cd P1)∧Ye P1 l.next (X4 l.first b.length l.next true b++[⟨l.next+(X4 l.first b.length l.next true b).length,l.next,true,[]⟩]):=by
 have hx:(l.ra d P0 1 O2).2=0:=by exact aaN
 obtain⟨m,h0,o,n⟩:=Gr hx;have e:l.T0 d P0 O2=(0,N7.Gx {(l.x7 d (l.ra d P0 1 O2).1.length true (l.ra d P0 1 O2).1).1 with first:=l.next} (l.x7 d (l.ra d P0 1 O2).1.length true (l.ra d P0 1 O2).1).2 [] true):=by unfold N7.T0;simp only;rw[V0 (λs=>s hx)]
 rw[e];generalize(l.ra d P0 1 O2).1=b at m o n⊢;have x:=h.kl;have t:=h.ring.XM;have hf1:=h.ring.f1;have q:=h.next;have hs:=h.wj;have v:=h.len;rw[Wv]at o n;have u:=Fo l.first b.length l.next true b (V7 _);obtain⟨w1,a⟩:=jw h.ring.s1 b.length l d (x6.drop k) true b h.pu m4 t m4;refine⟨b,m,?_⟩;rw[w1];have f:=Ry l.first b.length l.next true b;generalize X4 l.first b.length l.next true b=cs at u w1 a f⊢;have g:Xe ⟨l.next+cs.length,l.next,true,[]⟩:=⟨⟨Zb1,Zb1⟩,⟨Zb1,Zb1⟩,Zb3⟩;have w:=a.Gx g Zb1 h.ring.s1;refine⟨R7 d.P1 (x6.drop k++cs++[⟨l.next+cs.length,l.next,true,[]⟩]),?_,?_⟩
 ·grind[N7.Gx,N7.Z8,yg.iy]
 ·rw[sn,sn];have p:=Ye.ado cs h.sX (λi r=>by
   obtain⟨c1,c2,c3⟩:=f i r;refine⟨by rw[c1];omega,⟨?_,?_,c3⟩,c2⟩
   ·omega
   omega) (by rw[Mc];omega)
  have j:=p.put g Zb1 (by grind[Mc]) x6.length Zb3 m4;rw[lV O,<-q]at j;exact j
def s6(d:U2)(l:N7)(S0:List A5):Prop:=∃x6 k,qa d l x6 k∧∀j,k<=j->j<=x6.length->∃b a,Y7 (S7 (x6.take j) [[]])=some b∧S0=b++a∧(∀r∈a,r.W0=6)∧(j=x6.length->a=[])
theorem s6.new(b:1<=n)(a:n<=128):s6 (U2.new n) ⟨1,1,1⟩ []:=by
 have h:=qa.tD (Ye.new b a);refine⟨[],0,h,λj b a=>⟨[],[],?_,rfl,λr c=>(by cases c),λ_=>rfl⟩⟩;have:j=0:=by simpa using a
 subst this;rfl
theorem s6.all(h:s6 d l S0):∃x6 k,qa d l x6 k∧Y7 (S7 x6 [[]])=some S0:=by obtain⟨x6,k,b,a⟩:=h;obtain⟨e,c,i,g,_,f⟩:=a x6.length b.kl (V7 _)<;>grind
theorem s6.Y9(h:s6 d l S0):I' d=some (l,S0):=by obtain⟨x6,k,b,a⟩:=h.all;exact b.Y9 a
theorem s6.adA(a:qa d l x6 x6.length)(b:Y7 (S7 x6 [[]])=some S0):s6 d l S0:=by
 refine⟨x6,x6.length,a,λj c e=>?_⟩;have:j=x6.length:=m4
 simp[*]
theorem s6.N6(h:s6 d l S0)(Q6 O8:Int):∃l' b a,s6 (d.N6 Q6 O8) l' b∧(d.N6 Q6 O8).Clean∧S0=b++a∧(∀r∈a,r.W0=6)∧(d.L4=[]->a=[]):=by
 obtain⟨x6,k,c,s⟩:=h;obtain⟨j,t,u,q,p⟩:=c.N6 Q6 O8;obtain⟨b,a,o,n,m,i⟩:=s j t u;have f:(x6.take j).length=j:=by rw[Ga];omega
 refine⟨_,b,a,s6.adA (x6:=x6.take j) (by rw[f];exact q) o,p,n,m,λg=>i ?_⟩;have:=c.pu.L4;rw[g]at this;have e:=V4 List.length this;grind
def nf(r:A5):Prop:=M7 r.old.n∧M7 r.new.n
theorem Ql:∀{P0:List A5}{b:List B},N5 P0=some b->∀r∈P0,r.right=true
 |[],_,_,r,a=>by cases a
 |x::P0,b,h,r,a=>by
  unfold N5 at h;cases c:P8 x with
  |none=>simp_all
  |some f=>
   cases d:N5 P0 with
   |none=>simp_all
   |some g=>
    rcases List.mem_cons.mp a with e|a
    ·rw[e];unfold P8 at c<;>grind
    ·exact Ql d r a
theorem append_right{l:N7}{d:U2}(he:(l.append d P0 O2).1=0):∀r∈P0,r.right=true:=by
 have a:(l.ra d P0 0 O2).2=0:=by exact aaM
 exact Ql (Gr a).1
theorem UH{l:N7}{d:U2}(he:(l.T0 d P0 O2).1=0):∀r∈P0,r.right=true:=by
 have a:(l.ra d P0 1 O2).2=0:=by exact aaN
 exact Ql (Gr a).1
theorem RG{b:List B}(h:N5 P0=some b)(c:∀r∈P0,nf r):s8 b.length b=(P0,[]):=bv P0 b b.length (λr a=>⟨Ql h r a,(c r a).1,(c r a).2⟩) h (V7 _)
theorem qa.Xy(c:Y7 (S7 x6 [[]])=some S0){b:List B}(a:N5 P0=some b)(d:∀r∈P0,nf r)(first n:Int):Y7 (S7 (x6++X4 first b.length n true b) [[]])=some (S0++P0):=by grind[On,Py,RG]
theorem s6.append(h:s6 d l S0)(c:(l.append d P0 O2).1=0)(m:∀r∈P0,nf r):s6 ((l.append d P0 O2).2.1.Z8 (l.append d P0 O2).2.2).2 ((l.append d P0 O2).2.1.Z8 (l.append d P0 O2).2.2).1 (S0++P0)∧((l.append d P0 O2).2.1.Z8 (l.append d P0 O2).2.2).2.Clean:=by obtain⟨x6,k,j,i⟩:=h.all;obtain⟨b,a,g⟩:=j.append c;obtain⟨e,f⟩:=g.Z8;rw[e];exact⟨s6.adA f (qa.Xy i a m _ _),rfl,rfl⟩
theorem aT{b:List B}(h:N5 [r]=some b):P8 r=some b:=by grind[N5]
theorem xX(a:r.W0=6){b:List B}(h:P8 r=some b):b.length<=3:=by
 unfold P8 at h;rw[a]at h;split at h
 ·cases h
 have c1:Tf 6=false:=rfl;have c2:Ci 6=false:=rfl;simp only[c1,c2,Bool.false_eq_true,if_false]at h;grind[U5,eh]
theorem s6.aiH(h:s6 d l S0)(t:(l.append d [r] O2).1=0)(E:nf r)(u:r.W0=6):s6 (l.append d [r] O2).2.2 (l.append d [r] O2).2.1 (S0++[r]):=by
 obtain⟨x6,k,i,g⟩:=h;obtain⟨b,f,v⟩:=i.append t;have C:=xX u (aT f);have A:=Fo l.first b.length l.next true b (V7 _);refine⟨_,k,v,λj w y=>?_⟩;rw[j7]at y;by_cases hjl:j<=x6.length
 ·obtain⟨c,p,a,s,z,q⟩:=g j w hjl;by_cases o:j=(x6++X4 l.first b.length l.next true b).length
  ·have D:X4 l.first b.length l.next true b=[]:=by
    rw[j7]at o;exact List.length_eq_zero_iff.mp m4
   have ea:=qa.Xy (first:=l.first) (n:=l.next) (by
    have:=a;rw[j7]at o;have m:j=x6.length:=m4
    rw[m,jg]at this;exact this) f (λx e=>Zb7)
   simp_all
  grind
 ·obtain⟨c,p,a,s,_,q⟩:=g x6.length i.kl (V7 _);rw[jg]at a;have m:j=(x6++X4 l.first b.length l.next true b).length:=by rw[j7];omega
  refine⟨c++[r],[],?_,?_,λx e=>(by cases e),λ_=>rfl⟩
  ·grind[qa.Xy]
  simp[*]
theorem s6.fa(h:s6 d l S0)(f:(l.T0 d P0 O2).1=0)(o:∀r∈P0,nf r):s6 ((l.T0 d P0 O2).2.1.Z8 (l.T0 d P0 O2).2.2).2 ((l.T0 d P0 O2).2.1.Z8 (l.T0 d P0 O2).2.2).1 P0∧((l.T0 d P0 O2).2.1.Z8 (l.T0 d P0 O2).2.2).2.Clean:=by
 obtain⟨x6,k,j,p⟩:=h.all;obtain⟨b,a,P1,e,i⟩:=j.fa f;rw[e];refine⟨?_,rfl,rfl⟩;have c:=qa.tD i;have m:(⟨l.next+((X4 l.first b.length l.next true b++[(⟨l.next+(X4 l.first b.length l.next true b).length,l.next,true,[]⟩:T6)]).length:Nat),l.next,l.next⟩:N7)=⟨l.next+(X4 l.first b.length l.next true b).length+1,l.next,l.next⟩:=by rw[j7];simp;omega
 rw[m]at c;refine s6.adA c ?_;rw[On];have g:Y7 (S7 (X4 l.first b.length l.next true b) [[]])=some P0:=by have:=Py (first:=l.first) (n:=l.next) (r9:=[[]]) (S0:=[]) O a (RG a o);simpa using this
 show Y7 (((S7 (X4 l.first b.length l.next true b) [[]])++[[]]).dropLast++[((S7 (X4 l.first b.length l.next true b) [[]])++[[]]).getLastD []++[]])=some P0;rw[kL];have:=qn _ [] P0 [] g O;simp[*]
theorem yU{P:Prop}(h:P:=by obtain⟨q,hq⟩:=h1.B0 j v aw;exact Ld hq):P:=h
theorem pH{σ:Type}{I:σ->Prop}{f:σ->Int->σ}:∀(l:List Int)(s:σ),I s->(∀s tx,tx∈l->I s->I (f s tx))->I (l.foldl f s)
 |[],_,h,_=>h
 |x::l,s,h,a=>by rw[Ti];exact pH l _ (a s x (Ka ..) h) (λs tx b=>a s tx (Ta _ b))
theorem Uc{ρ:Type}{B0:σ->List (Int×ρ)}{r0:ρ}{f:σ->Int->ρ->σ}{I:σ->Prop}{s:σ}(h:I s)(c:∀t tx,tx∈(B0 s).map (·.1)->I t->I (f t tx ((K0 (B0 t) tx).getD r0))):I (Y8 B0 r0 f s):=
 pH _ s h λt tx a b=>c t tx ((i4 _).mem_iff.mp a) b
theorem Vb{n:Int}{f:σ->Int->σ}{I:σ->Prop}{s:σ}(h:I s)(b:∀t(i:Nat),(i:Int)<n->I t->I (f t (i:Int))):I (m6 n f s):=by
 unfold m6;have:∀(l:List Nat)(s:σ),I s->(∀i∈l,(i:Int)<n)->I (l.foldl (λ(s:σ)(i:Nat)=>f s (i:Int)) s):=by
  intro l;induction l with
  |nil=>simp
  |cons i l a=>simp_all
 simp[*]
structure AL(S0:List A5)(x:PW):Prop where
 X9:s6 x.M6 x.E0.X9 S0
 TH:x.M6.Clean
 tie:TE S0 x.E0.U1
 B0:∀tx w,K0 x.E0.U1.G0 tx=some w->∃r,K0 x.E0.B0 tx=some r
structure PT(A:Int->Prop)(Q:A5->Prop)(x:PW):Prop where
 ok:∃S0,AL S0 x∧∀r∈S0,Q r
 B0:∀tx r,K0 x.E0.B0 tx=some r->A tx
theorem nH{x:PW}(h:AL S0 x)(O2:Int)(c:∀r∈P0,nf r):(¬(x.Z8 O2 P0).1=0∧(x.Z8 O2 P0).2=x)∨((x.Z8 O2 P0).1=0∧(∀r∈P0,r.right=true)∧∃l d,(x.Z8 O2 P0).2=⟨{x.E0 with X9:=l},x.O0,d⟩∧s6 d l (S0++P0)∧d.Clean):=by
 unfold PW.Z8;simp only;by_cases h0:(x.E0.X9.append x.M6 P0 O2).1=0
 ·right;rw[S1 h0];obtain⟨b,a⟩:=h.X9.append h0 c;exact⟨rfl,append_right h0,_,_,rfl,b,a⟩
 simp_all[ki]
theorem uO{d:C6}{N0:List E2}{J0:BitVec 16}(h:Tg d)(i:∀p∈N0,M7 p.val.n):∀r∈Mi d tx N0++[(⟨2,tx,J0,Y3,X0,X0⟩:A5)],nf r:=by
 have g:∀(l:List E2)(k:w4),(∀p∈l,M7 p.val.n)->M7 (Yl k l).n:=by
  intro l k;induction l with
  |nil=>intro _;exact M7.zero
  |cons x l m=>grind[Yl]
 intro r a;rcases List.mem_append.mp a with a|a
 ·obtain⟨p,f,e⟩:=List.mem_map.mp a;rw[<-e];refine⟨?_,?_⟩
  ·show M7 (if(Hb N0 p.key).right=true then Hb N0 p.key else X0).n;split
   ·exact g _ _ (λq c=>i q (List.mem_reverse.mp c))
   ·exact M7.zero
  ·obtain⟨y,b,j⟩:=List.mem_map.mp ((be d).mem_iff.mp f);show M7 p.val.n;rw[<-j];exact(h.2 y b).1
 ·rw[List.mem_singleton.mp a];exact⟨M7.zero,M7.zero⟩
variable{A:Int->Prop}{Q:A5->Prop}{x:PW}
theorem wi{B0:List (Int×E6)}{r:E6}(h:∀j q,K0 B0 j=some q->A j)(a:A tx):∀j q,K0 (R1 B0 tx r) j=some q->A j:=by grind[Y0]
theorem Ld{B0:List (Int×E6)}{j:Int}{r q:E6}(h:K0 B0 j=some q):∃q,K0 (R1 B0 tx r) j=some q:=by grind[G1,Y0]
theorem PT.bI(h:PT A Q x){a:E1}{c:List (Int×E6)}(f:Calm x.E0.U1 a)(e:∀j q,K0 c j=some q->A j)(d:∀tx w,K0 a.G0 tx=some w->∃r,K0 c tx=some r):PT A Q {x with E0:={x.E0 with U1:=a,B0:=c}}:=by obtain⟨⟨S0,b,g⟩,i⟩:=h;exact⟨⟨S0,⟨b.X9,b.TH,b.tie.bI f,d⟩,g⟩,e⟩
def m9(s a:E1):Prop:=∀tx w',K0 a.G0 tx=some w'->∃w,K0 s.G0 tx=some w
theorem m9.refl(s:E1):m9 s s:=λ_ w h=>⟨w,h⟩
theorem m9.trans{a b c:E1}(h:m9 a b)(k:m9 b c):m9 a c:=λtx w d=>
 have⟨v,e⟩:=k tx w d
 h tx v e
theorem m9.set{w w':I7}{l:L3}(b:K0 s.G0 tx=some w):m9 s {s with G0:=R1 s.G0 tx w',S3:=l}:=by intro j v a;have a:K0 (R1 s.G0 tx w') j=some v:=a;grind[Y0]
theorem m9.K7{b:List E2}(h:Qo s):m9 s (E1.K7 {s with N0:=b} tx):=by intro j v a;have a:K0 (U7 s.G0 tx) j=some v:=a;grind[V8,Qo.G0,C9]
theorem m9.qb(s:E1)(tx e:Int):m9 s (s.qb tx e).2:=by grind[E1.qb,m9.refl,m9.set]
theorem m9.Q9(s:E1)(C0:Int):m9 s (s.Q9 C0).2:=by
 unfold E1.Q9;simp only;generalize s.S3.Q9 C0=l;induction l generalizing s with
 |nil=>exact m9.refl s
 |cons x l a=>grind[m9.qb,trans]
theorem m9.Yg{w:I7}(a:K0 s.G0 tx=some w)(k:w4)(v:Ba):m9 s (s.Yg tx w k v).2:=by
 unfold E1.Yg;split
 ·exact m9.refl s
 ·exact m9.set (l:=s.S3) a
theorem m9.t7(s:E1)(op:Op)(C0:Int):m9 s (s.t7 op C0).2:=by
 unfold E1.t7;cases b:K0 s.G0 op.tx with
 |none=>exact m9.refl s
 |some w=>
  simp only;split
  ·exact m9.refl s
  split
  ·exact m9.qb s _ _
  have a:m9 s {s with S3:=(s.S3.ask op.tx op.key (decide (¬op.W0=1)) C0).2}:=λ_ w h=>⟨w,h⟩;split
  ·exact a
  split
  ·exact a
  ·exact(a.trans (m9.Yg (s:={s with S3:=(s.S3.ask op.tx op.key (decide (¬op.W0=1)) C0).2}) b _ _)).trans (m9.qb _ _ _)
theorem m9.Y4(h:Qo s)(tx:Int)(J0:BitVec 16):m9 s (s.Y4 tx J0).2.2.2:=by
 unfold E1.Y4;cases a:K0 s.G0 tx with
 |none=>exact m9.refl s
 |some w=>
  simp only;split;·exact m9.refl s
  split;·exact m9.refl s
  split;·exact m9.K7 (b:=s.N0) h
  split;·exact m9.K7 (b:=s.N0) h
  exact m9.set (l:=s.S3) a
theorem PT.Q9(h:PT A Q x)(C0:Int):PT A Q {x with E0:={x.E0 with U1:=(x.E0.U1.Q9 C0).2}}:=by obtain⟨S0,c,_⟩:=h.ok;refine h.bI (Calm.Q9 _ _) h.B0 λtx w a=>?_;obtain⟨v,b⟩:=m9.Q9 _ _ tx w a;exact c.B0 tx v b
theorem PT.t7(h:PT A Q x){op:Op}(c:M7 op.n)(pl:R9)(C0:Int):PT A Q {x with E0:=(x.E0.t7 pl op C0).2}:=by
 unfold d4.t7;split
 ·exact h
 split
 ·exact h
 split
 ·exact h
 ·obtain⟨S0,d,_⟩:=h.ok;refine h.bI (Calm.t7 _ c _) h.B0 λtx w a=>?_;obtain⟨v,b⟩:=m9.t7 _ _ _ tx w a;exact d.B0 tx v b
section
variable(hQ:∀z:A5,A z.tx->¬z.W0=4->Q z)
include hQ
theorem PT.Y4(h:PT A Q x)(g:A tx)(r:E6):PT A Q (x.Y4 tx r):=by
 obtain⟨S0,h1,s⟩:=h.ok;unfold PW.Y4;simp only;rcases Ip x.E0.U1 tx r.J0 with⟨f,o⟩|⟨w,b,k,_,n,f⟩
 ·have E:¬(if¬(x.E0.U1.Y4 tx r.J0).2.2.1=0 then(0:Int)else(x.E0.U1.Y4 tx r.J0).1)=1:=by
   split
   ·decide
   ·exact f
  rw[V0 E];refine h.bI o (wi h.B0 g) λj w b=>?_;obtain⟨v,aw⟩:=m9.Y4 h1.tie.ok _ _ j w b;exact yU
 ·rw[f];simp only[not_true_eq_false,if_false,if_true];have C:=uO (tx:=tx) (J0:=r.J0) (h1.tie.ok.I3 tx w b) h1.tie.Xz;have F:AL S0 x:=h1;generalize d:({x with E0:={x.E0 with U1:={x.E0.U1 with G0:=R1 x.E0.U1.G0 tx {w with B4:=3}}}}:PW)=i;have y:i.E0.X9=x.E0.X9:=by rw[<-d]
  have ajC:i.M6=x.M6:=by rw[<-d]
  unfold PW.Z8;simp only[y,ajC];by_cases h0:(x.E0.X9.append x.M6 (Mi w.I3 tx x.E0.U1.N0++[⟨2,tx,r.J0,Y3,X0,X0⟩]) 12).1=0
  ·simp only[if_pos h0];obtain⟨u,t⟩:=h1.X9.append h0 C;have D:=append_right h0;simp only[<-d];refine⟨⟨_,⟨u,t,h1.tie.z7 b k n D,?_⟩,?_⟩,wi h.B0 g⟩
   ·intro j v aw;have aw:K0 (R1 x.E0.U1.G0 tx {w with B4:=3}) j=some v:=aw;by_cases c:j=tx
    ·simp_all[G1]
    ·rw[Y0 c]at aw;exact yU
   ·intro z a;rcases List.mem_append.mp a with a|a
    ·exact s z a
    ·rcases List.mem_append.mp a with a|a
     ·obtain⟨p,_,e⟩:=List.mem_map.mp a<;>grind
     simp_all
  ·simp only[if_neg h0];rw[S1 h0];have l:=ki h0;have m:=pF (tx:=tx) b k;rw[l];simp only[<-d];refine h.bI m (wi h.B0 g) λj v aw=>?_;rw[Gt (w:={w with B4:=3}) G1]at aw;have G:((R1 x.E0.U1.G0 tx {w with B4:=3}).map (·.1)).Nodup:=u9 h1.tie.ok.G0;have aw:K0 (U7 (R1 x.E0.U1.G0 tx {w with B4:=3}) tx) j=some v:=aw;by_cases c:j=tx
   ·simp_all[V8]
   ·rw[C9 c,Y0 c]at aw;exact yU
theorem PT.decide(h:PT A Q x)(p:A tx)(r:E6)(s9:Bool)(E:x.E0.U1.N9 tx=3)(D:s9=true->Q ⟨4,tx,0#16,Y3,X0,X0⟩):PT A Q (x.decide tx r s9).2:=by
 obtain⟨S0,f,s⟩:=h.ok;obtain⟨w,i,hw3⟩:∃w,K0 x.E0.U1.G0 tx=some w∧w.B4=3:=by grind[E1.N9]
 unfold PW.decide;simp only;generalize c:(if s9=true then[(⟨4,tx,0#16,Y3,X0,X0⟩:A5),⟨6,tx,0#16,Y3,X0,X0⟩]else[⟨5,tx,0#16,Y3,X0,X0⟩])=P0;have C:∀z∈P0,nf z:=by
  intro z a;rw[<-c]at a;split at a
  ·simp only[List.mem_cons,List.not_mem_nil,or_false]at a;rcases a with e|e<;>rw[e]<;>exact⟨M7.zero,M7.zero⟩
  ·rw[List.mem_singleton.mp a];exact⟨M7.zero,M7.zero⟩
 rcases nH f 0 C with⟨f1,f2⟩|⟨f1,f2,l,d,y,f4,t⟩
 ·simp[*]
 ·rw[V0 (λu=>u f1),y];simp only;cases s9 with
  |true=>
   have c:[(⟨4,tx,0#16,Y3,X0,X0⟩:A5),⟨6,tx,0#16,Y3,X0,X0⟩]=P0:=c;rw[<-c]at f2 f4;rw[bN i hw3];have n:=f.tie.Zf i hw3 (f2 _ Zb3) (f2 _ Zb3);refine⟨⟨_,⟨f4,t,n,?_⟩,?_⟩,wi h.B0 p⟩
   ·intro j v k;obtain⟨g,o⟩:=m9.K7 (b:=Nn w.I3 x.E0.U1.N0) f.tie.ok j v k;obtain⟨q,m⟩:=f.B0 j g o;exact Ld m
   ·intro z a;rcases List.mem_append.mp a with a|a
    ·exact s z a
    ·simp only[List.mem_cons,List.not_mem_nil,or_false]at a;rcases a with e|e<;>simp_all
  |false=>
   have c:[(⟨5,tx,0#16,Y3,X0,X0⟩:A5)]=P0:=c;rw[<-c]at f2 f4;rw[Gt i];have n:=f.tie.akv (f2 _ (List.mem_singleton.mpr O));refine⟨⟨_,⟨f4,t,n,?_⟩,?_⟩,wi h.B0 p⟩
   ·intro j v k;obtain⟨g,o⟩:=m9.K7 (b:=x.E0.U1.N0) f.tie.ok j v k;obtain⟨q,m⟩:=f.B0 j g o;exact Ld m
   ·intro z a;rcases List.mem_append.mp a with a|a
    ·exact s z a
    ·rw[List.mem_singleton.mp a];simp[*]
omit hQ in
theorem PT.O0(h:PT A Q x)(k:J2):PT A Q {x with O0:=k}:=⟨⟨h.ok.choose,⟨h.ok.choose_spec.1.X9,h.ok.choose_spec.1.TH,h.ok.choose_spec.1.tie,h.ok.choose_spec.1.B0⟩,h.ok.choose_spec.2⟩,h.B0⟩
omit hQ in
theorem PT.Z6(h:PT A Q x)(W0 tx H8 C0:Int):PT A Q (x.Z6 W0 tx H8 C0):=h.O0 _
omit hQ in
theorem PT.setRow(h:PT A Q x)(b:A tx)(r:E6):PT A Q {x with E0:={x.E0 with B0:=R1 x.E0.B0 tx r}}:=by obtain⟨S0,d,_⟩:=h.ok;refine h.bI (Calm.refl _) (wi h.B0 b) λj v a=>?_;obtain⟨q,c⟩:=d.B0 j v a;exact Ld c
omit hQ in
theorem PT.jb(h:PT A Q x)(tx:Int)(r:E6)(C0:Int):PT A Q (x.jb tx r C0):=by grind[PW.jb,Z6]
end
theorem Vl(x:PW)(O2:Int)(P0:List A5):(x.Z8 O2 P0).2.O0=x.O0∧(x.Z8 O2 P0).2.E0.me=x.E0.me:=by unfold PW.Z8<;>grind
theorem Ts(x:PW)(tx:Int)(r:E6):(x.Y4 tx r).O0=x.O0∧(x.Y4 tx r).E0.me=x.E0.me:=by
 unfold PW.Y4;simp only;generalize(if¬(x.E0.U1.Y4 tx r.J0).2.2.1=0 then(0:Int)else(x.E0.U1.Y4 tx r.J0).1)=v;split
 ·have:=Vl {x with E0:={x.E0 with U1:=(x.E0.U1.Y4 tx r.J0).2.2.2}} 12 (x.E0.U1.Y4 tx r.J0).2.1;grind
 simp
variable{A:Int->Prop}{Q:A5->Prop}{x:PW}
theorem NB:∀(l:List E2)(k:w4),(∀p∈l,M7 p.val.n)->M7 (Yl k l).n
 |[],_,_=>M7.zero
 |x::l,k,b=>by
  unfold Yl;split
  ·simp[*]
  ·exact NB l k (λp a=>b p (Ta _ a))
theorem GK{N0:List E2}(h:∀p∈N0,M7 p.val.n)(k:w4):M7 (Hb N0 k).n:=NB _ _ (λp a=>h p (List.mem_reverse.mp a))
theorem xO(h:Qo s){d:C6}(c:Sf s tx=some d):∀p∈Z2 d,M7 p.val.n:=by intro p a;obtain⟨w,b,_,f⟩:=Bg c;obtain⟨y,g,e⟩:=List.mem_map.mp ((be d).mem_iff.mp a);have:=(h.I3 tx w b).2;grind
theorem yJ{st:x8}(h:st.S0=some S0)(f:∀x∈st.L5,x.T1=false)(c:∀p∈st.N0,M7 p.val.n)(d:∀x∈st.L5,∀p∈x.K2,M7 p.val.n):∀r∈S0,nf r∧¬r.W0=4∧(r.tx=0∨∃x∈st.L5,r.tx=x.n):=by
 unfold x8.S0 at h;split at h
 ·cases h
 injection h with h;intro r a;rw[<-h]at a;rcases List.mem_append.mp a with a|a
 ·rcases List.mem_append.mp a with a|a
  ·rw[List.mem_singleton.mp a];exact⟨⟨M7.zero,M7.zero⟩,Zb3,.inl O⟩
  ·obtain⟨p,b,e⟩:=List.mem_map.mp a;rw[<-e];exact⟨⟨M7.zero,c p b⟩,Zb3,.inl O⟩
 ·obtain⟨x,hx,a⟩:=List.mem_flatMap.mp a;rw[xf.lD (f x hx)]at a;rcases List.mem_append.mp a with a|a
  ·obtain⟨p,b,e⟩:=List.mem_map.mp a;rw[<-e];exact⟨⟨GK c _,d x hx p b⟩,Zb3,.inr ⟨x,hx,rfl⟩⟩
  ·rw[List.mem_singleton.mp a];exact⟨⟨M7.zero,M7.zero⟩,Zb3,.inr ⟨x,hx,rfl⟩⟩
theorem iJ(h:s.N9 tx=3):∃d,Sf s tx=some d∧s.rc tx=Z2 d:=by
 unfold E1.N9 at h;split at h
 ·simp at h
 simp_all[Jl,E1.rc]
theorem BJ{d:C6}(h:Sf s tx=some d):s.N9 tx=3:=by grind[Bg,E1.N9]
theorem PT.T0(hQ:∀z:A5,A z.tx->¬z.W0=4->Q z)(u:A 0)(h:PT A Q x)(C0:Int):PT A Q (x.T0 C0).2:=by
 unfold PW.T0;split
 ·exact h
 obtain⟨S0,f,t⟩:=h.ok;simp only;generalize l:(⟨x.E0.U1.N0,(T3 x.E0.B0).filterMap λ(tx:Int)=>if x.E0.U1.N9 tx=3 then some ⟨tx,((K0 x.E0.B0 tx).getD Cb).J0,false,x.E0.U1.rc tx⟩else none⟩:x8)=st;have hb:st.N0=x.E0.U1.N0:=by rw[<-l]
 have k:∀y∈st.L5,(∃r,K0 x.E0.B0 y.n=some r)∧y.T1=false∧∃d,Sf x.E0.U1 y.n=some d∧y.K2=Z2 d:=by
  intro y a;rw[<-l]at a;obtain⟨tx,j,e⟩:=List.mem_filterMap.mp a;split at e
  ·rename_i q;injection e with e;obtain⟨d,c,i⟩:=iJ q;rw[<-e];exact⟨ca ((i4 _).mem_iff.mp j),rfl,d,c,i⟩
  ·cases e
 have s:∀tx d,Sf x.E0.U1 tx=some d->∃y∈st.L5,y.n=tx:=by intro tx d g;obtain⟨w,c,_,_⟩:=Bg g;obtain⟨r,b⟩:=f.B0 tx w c;rw[<-l];exact⟨_,List.mem_filterMap.mpr ⟨tx,(i4 _).mem_iff.mpr (Hj b),S1 (BJ g)⟩,rfl⟩
 cases b:st.S0 with
 |none=>exact h
 |some m=>
  simp only;have o:=yJ b (λy a=>(k y a).2.1) (by rw[hb];exact f.tie.Xz) (λy a p g=>by obtain⟨_,_,d,c,i⟩:=k y a;rw[i]at g;exact xO f.tie.ok c p g);by_cases h0:(x.E0.X9.T0 x.M6 m 0).1=0
  ·rw[S1 h0];obtain⟨c,i⟩:=f.X9.fa h0 (λr b=>(o r b).1);have j:=f.tie.fa b hb (λy a=>(k y a).2) s (UH h0);refine⟨⟨m,⟨c,i,j,f.B0⟩,λr b=>?_⟩,h.B0⟩;grind[B0]
  simp_all[VH]
theorem PT.V2(h:PT A Q x)(c:A tx)(J0:BitVec 16)(b C0:Int):PT A Q {x with E0:=(x.E0.V2 tx J0 b C0).2}:=by
 unfold d4.V2;split
 ·exact h
 split
 ·exact h.setRow c _
 split
 ·exact h.setRow c _
 ·simp only;obtain⟨S0,e,_⟩:=h.ok;refine h.bI (Calm.I1 _ _) (wi h.B0 c) λj v a=>?_;by_cases f:j=tx
  ·simp_all[G1]
  ·unfold E1.I1 at a;simp only at a;split at a
   ·have a:K0 (R1 x.E0.U1.G0 tx ⟨1,0,[]⟩) j=some v:=a;rw[Y0 f]at a;obtain⟨q,d⟩:=e.B0 j v a;exact Ld d
   ·obtain⟨q,d⟩:=e.B0 j v a;exact Ld d
def QX(A:Int->Prop)(Q:A5->Prop)(me:Int)(o:Option d4)(d:U2):Prop:=match o with
 |some p=>(∀k,PT A Q ⟨p,k,d⟩)∧p.me=me
 |none=>∃S0 l,s6 d l S0∧d.Clean∧FL S0∧(∀r∈S0,Q r)∧∀tx w,K0 (Tb S0).G0 tx=some w->A tx
theorem QX.Y9{me R0:Int}{p:d4}{d:U2}(h:QX A Q me none d)(g:d4.new me R0 d=some p):QX A Q me (some p) d∧(∀tx w,K0 p.U1.G0 tx=some w->w.B4=3)∧∀tx r,K0 p.B0 tx=some r->r.Y4=1∧∃w,K0 p.U1.G0 tx=some w:=by obtain⟨S0,l,n,m,j,i,t⟩:=h;obtain⟨f,o,u,e,c⟩:=rG n.Y9 j g;refine⟨⟨λk=>⟨⟨S0,⟨Zb6,m,f,λtx w a=>(e tx w a).2⟩,i⟩,λtx r b=>?_⟩,o⟩,λtx w a=>(e tx w a).1,λtx r b=>⟨(c tx r b).1,(c tx r b).2.2⟩⟩;obtain⟨_,_,w,a⟩:=c tx r b;obtain⟨q,s,_⟩:=f.Ih tx w.I3 (Jl a (e tx w a).1)<;>grind
theorem acv{P Q:Prop}(q:Q)(f:Q->P:=by intro q;exact U0 h 0 O O (U0 h 0 O O (RD.cut (l:=k) kn O O (Uy jP) O m4 (xb (LY h (by rw[jP];omega) hx.1 hx.2.1) q)))):P:=f q
def U2.Ok(x:U2):Prop:=(∀y∈x.L4,0<=y.1∧y.1<x.P1.length)∧x.L4.length<=1000000∧x.P1.length<=1000
theorem Jc.zX{l:Nat}(h:Hp c w L)(j:Nat)(d:i3 L j=some (so e E a cap xs))(m:l<xs.length)(i:0<n)
 (k:∀b o,a=some ⟨b,o,none⟩->K (.pointer (some ⟨b,o+l*E.sz,none⟩))):Jc (if cap=l then a else a.map (·.add (l*E.sz))) n 0 E.sz K:=by
 have g:xs≠[]:=λe=>Zb7
 obtain⟨b,o,pre,post,f,_,_⟩:=h.El d g;obtain⟨p,_⟩:=h.Ch j d;rw[V0 m4,f,Es,i9];refine⟨⟨b,o+l*E.sz,none⟩,rfl,lm _,m4,?_⟩;simp_all[i9]
theorem acL(x y:oa)(n:Nat)(e:n<=31):oa.f (pa x y n)=m8 (oa.f x) 0 ((oa.f y).take n):=by
 have c:(y.1.take n++x.1.drop n).length=32:=by have h:=x.2;have g:=y.2;rw[j7,Ga,Ve];omega
 rw[vb _ _ _ (by grind[oa.Bm])];unfold pa;rw[FM c];have i:eB.P3 (y.1.take n++x.1.drop n)=(eB.P3 y.1).take n++(eB.P3 x.1).drop n:=by
  rw[eB.Z9];have a:∀l:List B,eB.P3 l=l.map λb=>B8 b:=λl=>by
   unfold Qb.P3;show l.flatMap (λb=>[B8 b])=_;induction l with
   |nil=>rfl
   |cons x l d=>simp[*]
  rw[a,a,a,a,List.map_take,List.map_drop]
 grind[oa.P3,oa.Bm]
theorem MM:∀l:List oa,(l.flatMap (·.1)).length=32*l.length
 |[]=>rfl
 |x::l=>by rw[EC,j7,MM l,x.2,ze];omega
theorem RD.amL{P:Program}{T:Wm}{X:Nat->Bool}(a:N8 P T X){C:World->Prop}{j:TypeInfo}{o:Nat}{i:Int}(f:T t=some ⟨.array n e,j⟩)(hs:Rb T e=some sz)(g:i=m)(p:m<=n)
 (k:K (.slice (some ⟨b,o,none⟩) m n)):RD P C (Instr.sliceAt t (.pointer (some ⟨b,o,none⟩)) none (some (I i)) none) K:=by
 refine⟨_,λw _=>?_,k⟩;subst g;have d:=J' a f w;have c:=Pa a hs w;have l:(⟨b,o,none⟩:Addr).add 0=⟨b,o,none⟩:=i9 _ _ _;have hb:(Instr.sliceBound (I (m:Int)) n BoundsCode.sliceAlen).run P w= .ok m w:=run_sliceBound _ .i64 (m:Int) n _ m4 m4;simp[Instr.sliceAt,Instr.sureAddr,Instr.sliceBounds,d,c,l,hb]
section
theorem afX{x:U2}(h:Hp c w (M1 b x::R))(a:x.Ok):Cr 414 #[Pt b] w c (.tuple #[]) (M1 b x.iy::R):=by exact R2 func414 O (pN h.md λi g f d e h=>U0 h 0 O O (N1 (LY h m4 a.1 a.2.1) λw h=>⟨rfl,h.q 2 [0] O⟩))
theorem acS{x:U2}(h:Hp c w (M1 b x::R))(p:x.Ok):Cs 84 #[Pt b] w (λe w'=>∃a cap,e= .returned (.slice a (x.P1.flatMap (·.1)).length cap)∧Hp c w' (so 5 eB a cap (x.P1.flatMap (·.1))::M1 b x::R)):=by
 refine R2 func84 O (pN h.md λj d o k l h=>U0 h 0 O O ?_);replace h:=h.G4 5 eB;refine p5.A6 kn [3,9,10,11] (λm vs w'=>∃(i:Int)(a:Option Addr)(cap:Nat),vs=[.slice a ((x.P1.take i.toNat).flatMap (·.1)).length cap,.slice j x.P1.length d,I x.P1.length,I i]∧(0<=i∧i+m=x.P1.length)∧Hp c w' (so 5 eB a cap ((x.P1.take i.toNat).flatMap (·.1))::bk b [.slice j x.P1.length d,.slice o x.L4.length k,.map (some l)] 279::so 288 mA j d x.P1::so 457 uH o k x.L4::mo I oa.v l x.C0::R)) x.P1.length ⟨0,none,0,rfl,m4,h⟩ ?_;rintro m _ w1 A ⟨i,a,cap,rfl,z,h⟩;have y:=MM (x.P1.take i.toNat);have hx3:=p.2.2;have hl0:(x.P1.take i.toNat).length<=1000:=by rw[Ga];omega
 refine BR.T5 (λr=>?_) λr=>?_
 ·have n:i.toNat<x.P1.length:=m4
  have hs:(x.P1.take (i+1).toNat).flatMap (·.1)=(x.P1.take i.toNat).flatMap (·.1)++(x.P1[i.toNat]).1:=by rw[show(i+1).toNat=i.toNat+1 by omega,bV n,wI];simp
  refine jd h 2 O λb1 u D=>Oa.sl h 2 O Zb9 (Eh n) (I2 h O λb2 w h=>ST.all (l':=oa.f x.P1[i.toNat]) h 0 O O (oa.Bm _) (oa.uy _) O O λw h=>RD.ll kn O O ?_);have t:Sl w eB.sz (.slice (some ⟨b2,0,none⟩) 32 32) x.P1[i.toNat].1.length (eB.P3 x.P1[i.toNat].1):=by have:=(h.Ib (E:=eB) x.P1[i.toNat].1 0 O (oa.P3 x.P1[i.toNat]) x.P1[i.toNat].2.symm).sl;rw[x.P1[i.toNat].2];exact this
  refine A4.Pk (Ca.of (w9:=1) kn O O O O O O) h 1 O O O t Zb1 (λ_ _=>rfl) λa1 C w h=>?_;rw[<-hs]at h⊢;refine i5 ⟨(m-1),?_,_,_,_,rfl,?_,h.q 6 [1,2,3,4,5] O⟩
  ·omega
  ·omega
 ·have s:x.P1.take i.toNat=x.P1:=sd m4;rw[s]at h⊢;replace h:Hp _ _ (M1 _ (x)::_):=Hp.Xd (h.g [1,2,3,4] O);exact⟨_,_,rfl,h.g [1] O⟩
theorem VY{x:U2}{Q6 O8:Int}(h:Hp c w (M1 b x::R))(hx:x.Ok):Cr 237 #[Pt b,I Q6,I O8] w c (.tuple #[]) (M1 b (x.N6 Q6 O8)::R):=by
 obtain⟨k,e⟩:∃k:Nat,cg Q6 0 x.L4.length=k:=⟨(cg Q6 0 x.L4.length).toNat,by unfold cg;omega⟩;have jP:(if(x.L4.length:Int)<if 0>Q6 then 0 else Q6 then(x.L4.length:Int)else if 0>Q6 then 0 else Q6)=k:=by unfold cg at e;split<;>split at* <;>omega
 have dF:k<=x.L4.length:=by unfold cg at e;omega
 obtain⟨n,j⟩:∃n:Nat,cg O8 0 31=n:=⟨(cg O8 0 31).toNat,by unfold cg;omega⟩;have E:(if 31<if 0>O8 then 0 else O8 then(31:Int)else if 0>O8 then 0 else O8)=n:=by unfold cg at j;split<;>split at* <;>omega
 have aeh:n<=31:=by unfold cg at j;omega
 by_cases a:k<x.L4.length
 ·have m:x.L4.drop k=x.L4[k]::x.L4.drop (k+1):=IN a;have hcr:x.N6 Q6 O8={x.X8 k with P1:=(x.X8 k).P1.set x.L4[k].1.toNat (pa ((x.X8 k).P1.getD x.L4[k].1.toNat kc) x.L4[k].2 (cg O8 0 31).toNat)}:=by unfold U2.N6;simp only[e,Int.toNat_natCast,m]
  rw[j,kg]at hcr;have X:=hx.1 _ (List.getElem_mem a);have N:=Bu x k;rw[hcr];refine R2 func237 O (pN h.md λS K H A D h=>?_);obtain⟨z,L⟩:=h.Ch 2 rfl;refine acv ?_;rw[jP];rintro _ w ⟨rfl,h⟩;rw[kg]at h;have Z:(x.X8 k).P1.length=x.P1.length:=N;refine Zt (Jc.zX h 1 O a m4 λb2 V J=>Oa.sl h 1 O J (Eh a) (I2 h O λb1 w h=>ST.all (l':=I x.L4[k].1::oa.f x.L4[k].2) h 0 O O (uH.len _) (uH.one _) O O λw h=>pN ((h.g [1] O).md) λp s o t u h=>Y6 h [0,1,2,4,8,9,3,5,6,7,60,61,12,113] λh=>U3 0 O O (U3 4 O O (jd h 1 O λb3 T Lj=>RD.ll kn O O ⟨h,?_⟩))));refine⟨h,RD.amL kn O O E m4 ?_⟩;have M:((oa.f x.L4[k].2).take n).length=n:=by rw[Ga,oa.Bm];omega
  have C:Sl w.drew 1 (.slice (some ⟨b1,1,none⟩) n 32) n ((oa.f x.L4[k].2).take n):= .row m4 (λi v r=>by have Y:=(h.Qm (i:=4) O).cell (k:=i+1) (v:=v) (by simp_all[Z0,List.getElem?_take]);grind);have G:((oa.f x.L4[k].2).take n).take (n*1)=(oa.f x.L4[k].2).take n:=by rw[au,fu,Nat.min_self]
  refine A4.copy (sz:=1) (Ca.of (w9:=1) kn O O O O O O) O O C (Ue m4) ?_;rw[G];refine ST.qf (y:=pa ((x.X8 k).P1.getD x.L4[k].1.toNat kc) x.L4[k].2 n) h 1 O Zb9 (K5 (d:=kc) m4) (by rw[au];exact M) (by have:=oa.uy x.L4[k].2;rw[ZK]at this⊢;exact λv r=>this v (ME r)) (FE (by rw[au];show n<=32;omega)) (acL _ _ n aeh) O (λw h=>?_);have F:Hp c w (bk b [.slice p ((x.X8 k).P1.set x.L4[k].1.toNat (pa ((x.X8 k).P1.getD x.L4[k].1.toNat kc) x.L4[k].2 n)).length s,.slice o (x.X8 k).L4.length t,.map (some u)] 279::so 288 mA p s ((x.X8 k).P1.set x.L4[k].1.toNat (pa ((x.X8 k).P1.getD x.L4[k].1.toNat kc) x.L4[k].2 n))::so 457 uH o t (x.X8 k).L4::mo I oa.v u (x.X8 k).C0::R):=by rw[Uk];exact h.q 6 [0,1,2,3] O
  exact⟨rfl,Hp.Xd F⟩
 ·have m:x.L4.drop k=[]:=BC m4;have hcr:x.N6 Q6 O8=x.X8 k:=by unfold U2.N6;simp only[e,Int.toNat_natCast,m]
  rw[hcr];refine R2 func237 O (pN h.md λS K H A D h=>?_);obtain⟨z,L⟩:=h.Ch 2 rfl;refine acv ?_;rw[jP];rintro _ w ⟨rfl,h⟩;rw[kg]at h;exact Te ⟨rfl,h.q 2 [0] O⟩
end
section
theorem aM{xs:List B}(hs:Sx eB w a n cap xs)(b:xs.length<=8):Cs 298 #[.slice a n cap] w (Zb w (I (p7 xs)) []):=by have h:=Hp.start w;exact R2 func298 O (N1 (GY (hs.up h) Zb9) λw h=>WR.toI ⟨rfl,h⟩)
theorem TL{xs:List B}(b:n=xs.length)(d:n<=1000000)(h:Hp c w R):Cr 429 #[.slice a n cap] w c (I (zd xs)) R:=by subst b;exact R2 func429 O (i5 (i5 (DIV.mk ⟨m4,WR.vp (i64 Zb1) ⟨rfl,h⟩⟩)))
theorem FR{d:Nat}{l:N7}{x:U2}{n:Int}(h:Hp c w (J5 d b l::M1 d x::R))(e: -1000000000000<=n∧n<=1000000000000)(a:1<=x.P1.length):Cr 203 #[Pt b,I n] w c (I (W9 n x)) (J5 d b l::M1 d x::R):=by refine R2 func203 O (i5 ?_);replace h:=h.D9;refine U0 h 0 O O (N1 (OF (h.g [1] O)) λw h=>DIV.mk ⟨m4,?_⟩);replace h:Hp _ _ (J5 _ _ (l)::_):=Hp.W8 (h.g [1] O);exact⟨rfl,h⟩
theorem vY{d:Nat}{l:N7}{x:U2}(h:Hp c w (J5 d b l::M1 d x::R))(e:0<=l.next∧l.next<=1000000000000∧0<=l.wj∧l.wj<=1000000000000)(a:x.P1.length<=1000):Cr 430 #[Pt b] w c (I (l.free x)) (J5 d b l::M1 d x::R):=by refine R2 func430 O ?_;replace h:=h.D9;refine Y6 h [0,1,2,5,6,7,10,11,12,3,8,13,54,9,14,15] λh=>U3 0 O O (U3 0 O O (U3 0 O O (N1 (OF (h.g [1] O)) λw h=>⟨h.g [1] O,i5 (i5 ?_)⟩)));replace h:Hp _ _ (J5 _ _ (l)::_):=Hp.W8 (h.g [1] O);exact⟨rfl,h⟩
end
theorem aS{v:Value}{l:List Value}{g:Option Nat}{P:Program}{ty:TypeId}{a:List Value}(T:Ca P t e sz w9 z)(K:P.underlying ti=some (.int .i64))(hs:Os w e sz v n l g)(VP:0<m*sz)(dH:m<=1000000)(Y:w9<=4096)(p:a=(Builtin.zeroCells z.cells m).toList)(F:a.all (·.oneCell')=true)
 (S:(n+m)<=1099511627776∧(n+m)*w9<=140737488355328):
 ∃d w' j,(Builtin.append_ #[t,ti] ty #[v,.int .i64 m]).run P w= .ok d w'∧Os w' e sz d (n+m) (l++a) j∧ua (λb=>g=some b) w w'∧(∀b,j=some b->g=some b∨w.heap.size<=b)∧Sl w' sz v n l:=by
 obtain⟨i,C,s,N,X⟩:=T.i;subst N;subst X;have H:=T.z;have RX:=Ja (P:=P) hs.sl;have r7:=hs.sl.len;have qp:a.length=m*i.size:=by rw[p];simp[Builtin.zeroCells,H]
 have u:IntKind.i64.wrap (m:Int)=m:=Ug ⟨m4,m4⟩;have G:¬(m:Int)<0:=m4
 have hbm:(m:Int)*(i.bytes:Int)<=281474976710656:=by
  have F:m*i.bytes<=1000000*4096:=zq dH Y;have:((m*i.bytes:Nat):Int)<=4096000000:=m4
  rw[uz]at this;omega
 have J:¬(281474976710656<(m:Int)*(i.bytes:Int)):=m4
 have r:¬m*i.size=0:=m4
 have h63:n+m<=maxLen:=by unfold maxLen;omega
 have grow:∀N0 cap,v= .slice N0 n cap->cap<n+m->∃d w' j,(Builtin.append_ #[t,ti] ty #[v,.int .i64 m]).run P w= .ok d w'∧Os w' e i.size d (n+m) (l++a) j∧ua (λb=>g=some b) w w'∧(∀b,j=some b->g=some b∨w.heap.size<=b)∧Sl w' i.size v n l:=by
  intro N0 cap hv E;have bX:=growslice_fits (need:=n+m) (old:=cap) (bytes:=i.bytes) m4 S.2;have hge:=grownCap_ge w (n+m) cap e;have fA:grownCap w (n+m) cap e<=maxLen:=grownCap_le_maxLen w (n+m) cap e h63;have f:VE (w.drew.alloc (.cells (([]++(l++a)++(Builtin.zeroCells z.cells (grownCap w (n+m) cap e-(n+m))).toList)).toArray e)) w.heap.size ([]++(l++a)++(Builtin.zeroCells z.cells (grownCap w (n+m) cap e-(n+m))).toList) e:=⟨Po w.drew _⟩;refine⟨.slice (some ⟨w.heap.size,0,none⟩) (n+m) (grownCap w (n+m) cap e),_,some w.heap.size,?_,.row f O ?_ hge ?_ fA,?_,?_,?_⟩
  ·subst hv;have q:¬(n+m<=cap):=m4
   have R:¬(9223372036854775807<((n:Int)+(m:Int))):=m4
   have Q:¬(281474976710656<Builtin.nextslicecap (n+m) cap*i.bytes):=m4
   have Z:ua zI w w.drew:=ua.refl.drew;have hfo:=Ja (P:=P) (hs.sl.Q6 Z (λ_ _ _ _ e=>e));simp[Builtin.append_,run_underlying T.t,run_underlying K,sizeOf,typeInfo,zeroValue,C,s,q,R,Q,Question.forced,hfo,newRow,grownCap,asInt,asIntOf,u,G,J,r,p];congr 2;simp
  ·grind
  ·simp[Builtin.zeroCells,H]
  ·exact(ua.refl (w:=w)).drew.alloc _
  ·simp
  ·exact hs.sl.Q6 ((ua.refl (w:=w) (D:=zI)).drew.alloc _:ua zI w _) (λ_ _ _ _ e=>e)
 cases hs with
 |nil=>grind
 | @row b o n cap pre l post f y hl q hp A=>
  by_cases x:n+m<=cap
  ·have Qd:m*i.size<=(cap-n)*i.size:=xv _ m4;have adT:(cap-(n+m))*i.size=(cap-n)*i.size-m*i.size:=by rw[<-XK];congr 1;omega
   obtain⟨w',L,k⟩:=ui (P:=P) f (o+n*i.size) (vs:=a) Zb5 F;have M:m8 (pre++l++post) (o+n*i.size) a=pre++(l++a)++post.drop (m*i.size):=by
    rw[vb _ _ _ Zb5];have e1:(pre++l++post).take (o+n*i.size)=pre++l:=by
     have:o+n*i.size=(pre++l).length:=Zb5
     rw[this,Bq]
    have e2:(pre++l++post).drop (o+n*i.size+a.length)=post.drop (m*i.size):=by
     have:o+n*i.size+a.length=(pre++l).length+m*i.size:=Zb5
     rw[this,<-du,nE]
    rw[e1,e2];simp
   rw[M]at k;have ajG:=k.Qm f.lt;rw[show pre++(l++a)++post.drop (m*i.size)=pre++l++(a++post.drop (m*i.size)) by simp]at ajG;have Iv:Os w' e i.size (.slice (some ⟨b,o,none⟩) n cap) n l (some b):= .row ajG y hl q Zb5 A;refine⟨.slice (some ⟨b,o,none⟩) (n+m) cap,w',some b,?_,.row (k.Qm f.lt) y Zb1 x Zb5 A,k.Q6.UI (λc _ e=>by rw[e]),λc E=> .inl E,Iv.sl⟩;have V:(⟨b,o,none⟩:Addr).add (n*i.size)=⟨b,o+n*i.size,none⟩:=i9 _ _ _;rw[p]at L;simp[Builtin.append_,run_underlying T.t,run_underlying K,sizeOf,typeInfo,zeroValue,C,s,x,V,asInt,asIntOf,u,G,J,r,L]
  simp_all
section
theorem A4.akr{P:Program}{ty:TypeId}{x:Operand}{K:Value->World->Prop}{d:α}{L':Option Addr->Nat->List HP}
 (T:Ca P t e E.sz w9 z)(X:P.underlying ti=some (.int .i64))(G:(Builtin.zeroCells z.cells m).toList=E.P3 (List.replicate m d))(h:Hp c w L)(j:Nat)(n:i3 L j=some (so e E a cap xs))(C:ρ x= .slice a xs.length cap)(A:ρ y= .int .i64 m)(S:0<m*E.sz)(Q:m<=1000000)(u:w9<=4096)
 (r:(xs.length+m)<=1099511627776∧(xs.length+m)*w9<=140737488355328)(J:∀f l,G7 L j (so e E f l (xs++List.replicate m d))=some (L' f l))
 (k:∀f l w',Hp c w' (L' f l)->Sx E w' a xs.length cap xs->K (.slice f (xs++List.replicate m d).length l) w'):
 A4 P ⟨dst,.call ⟨.builtin .append,#[x,y],#[t,ti]⟩,ty,db,af,g⟩ ρ w K PQ:=by
 obtain⟨h1,H,D⟩:=Bb (i:=j+1) h.A0 n;obtain⟨N,p,_⟩:=Go.Proofs.YtaaihojmcfaejaaGreatDoor.so_os H D;obtain⟨s,w',eF,Y,hO',F,Z,V⟩:=aS (P:=P) (ty:=ty) T X p S Q u G.symm (E.Ji _) r;refine A4.val (v:=s) (w':=w') (by simp[execOp,resolve,invoke,builtin,C,A,Y]) ?_;rw[<-E.Z9]at hO';have o:xs.length+m=(xs++List.replicate m d).length:=Zb3
 obtain⟨f,l,rfl,hso⟩:=wZ hO' o;rw[o];refine k f l w' (h.Tm n F (λM hP2 R=>?_) (J f l)) ?_
 rotate_left
 ·exact⟨V,rfl,by obtain⟨_,_,q⟩:=h.Z4 j n;exact q⟩
 obtain⟨fb2,hO2,aeq⟩:=Go.Proofs.YtaaihojmcfaejaaGreatDoor.so_os hP2 R;have hfb:∀b,N=some b->M b≠none:=by intro b hb;refine aeq b ?_;rw[<-hb];exact xZ hO2 p
 grind
end
theorem jo(m:BitVec 8):BitVec.ofInt 8 (m.toNat:Int)=m:=Zb3
theorem IC(m:BitVec 8):IntKind.u8.wrap (m.toNat:Int)=m.toNat:=by have:=m.isLt;simp[IntKind.wrap,IntKind.bits,IntKind.signed];omega
theorem or8(a b:BitVec 8):IntKind.u8.wrap ((BitVec.ofInt IntKind.u8.bits (a.toNat:Int)|||BitVec.ofInt IntKind.u8.bits (b.toNat:Int)).toNat:Int)=((a|||b).toNat:Int):=by show IntKind.u8.wrap ((BitVec.ofInt 8 (a.toNat:Int)|||BitVec.ofInt 8 (b.toNat:Int)).toNat:Int)=_;rw[jo,jo,IC]
theorem bf.or8{x y:BitVec 8}{b:Int}(a:b=(y.toNat:Int))(k:K (B8 (x|||y))):bf .or .u8 (x.toNat:Int) b K:=by subst a;have e:=Go.Proofs.YtaaihojmcfaejaaGreatDoor.or8 x y;exact⟨(V4 (λz=>K (.int _ z)) e).mpr k⟩
theorem ne0(x:B):(!((x.toNat:Int)==0))=decide (¬x=0#8):=by
 by_cases h:x=0#8
 ·subst h;rfl
 ·rw[Si h];have:¬(x.toNat:Int)=0:=λe=>h (by apply Sh;simpa using e);simp_all
section
theorem XQ(c:World):Js 300 [] c (λx=>B8 x) (λ(x:B)=>decide (¬x=0#8)):=by intro x w L h;exact R2 func300 O ⟨So (V4 Value.bool (ne0 x)),h⟩
end
theorem qO{v:Value}{l:List Value}{m:Option Nat}{P:Program}{ty:TypeId}(T:Ca P t e sz w9 z)(f:P.underlying ti=some (.int .i64))(hs:Os w e sz v n l m):
 (Builtin.append_ #[t,ti] ty #[v,.int .i64 0]).run P w= .ok v w:=by
 obtain⟨i,d,a,g,j⟩:=T.i;subst g;subst j;have c:IntKind.i64.wrap (0:Int)=0:=Ug ⟨m4,m4⟩;cases hs with
 |nil=>simp[Builtin.append_,run_underlying T.t,run_underlying f,sizeOf,typeInfo,zeroValue,d,a,asInt,asIntOf,c]
 | @row b o n cap pre l post u q s k p r=>simp[Builtin.append_,run_underlying T.t,run_underlying f,sizeOf,typeInfo,zeroValue,d,a,asInt,asIntOf,c,k,storeCells]
section
theorem A4.aeH{P:Program}{ty:TypeId}{x:Operand}{K:Value->World->Prop}
 (T:Ca P t e E.sz w9 z)(o:P.underlying ti=some (.int .i64))(h:Hp c w L)(j:Nat)(b:i3 L j=some (so e E a cap xs))(f:ρ x= .slice a xs.length cap)(d:ρ y= .int .i64 0)
 (k:Sx E w a xs.length cap xs->K (.slice a xs.length cap) w):
 A4 P ⟨dst,.call ⟨.builtin .append,#[x,y],#[t,ti]⟩,ty,db,af,g⟩ ρ w K PQ:=by
 obtain⟨q,m,l⟩:=Bb (i:=j+1) h.A0 b;obtain⟨r,n,_⟩:=Go.Proofs.YtaaihojmcfaejaaGreatDoor.so_os m l;have p:=qO (P:=P) (ty:=ty) T o n;exact A4.val (v:= .slice a xs.length cap) (w':=w) (by simp[execOp,resolve,invoke,builtin,f,d,p]) (k (h.Z4 j b))
theorem A4.aks{P:Program}{ty:TypeId}{x:Operand}{K:Value->World->Prop}{d:α}{L':Option Addr->Nat->List HP}
 (T:Ca P t e E.sz w9 z)(o:P.underlying ti=some (.int .i64))(s:(Builtin.zeroCells z.cells m).toList=E.P3 (List.replicate m d))(h:Hp c w L)(j:Nat)(i:i3 L j=some (so e E a cap xs))(n:ρ x= .slice a xs.length cap)(l:ρ y= .int .i64 m)(p:0<E.sz)(v:m<=1000000)(r:w9<=4096)
 (q:(xs.length+m)<=1099511627776∧(xs.length+m)*w9<=140737488355328)(u:∀b f,G7 L j (so e E b f (xs++List.replicate m d))=some (L' b f))
 (k:∀b f w',Hp c w' (L' b f)->Sx E w' a xs.length cap xs->K (.slice b (xs++List.replicate m d).length f) w'):
 A4 P ⟨dst,.call ⟨.builtin .append,#[x,y],#[t,ti]⟩,ty,db,af,g⟩ ρ w K PQ:=by
 by_cases h0:m=0
 ·subst h0;have D:xs++List.replicate 0 d=xs:=Zb3
  refine A4.aeH T o h j i n l λA=>?_;have C:=k a cap w (h.so_take j xs.length i (V7 _) Zb7);simp_all
 ·exact A4.akr T o s h j i n l (Nat.mul_pos m4 p) v r q u k
end
theorem ace{P Q:Prop}(q:Q)(f:Q->P:=by intro q;exact I2 h O λb2 w h=>⟨h.q 2 [1] O,ga (Wg h m4) λa1 V1 w h=>⟨h.q 3 [2] O,ga (Wg h m4) λa2 E4 w h=>⟨h.q 4 [3] O,I2 h O λb3 w h=>q b2 a1 V1 a2 E4 b3 w h⟩⟩⟩):P:=f q
theorem lC{P:Prop}(h:P:=by
 have s1:=h.Z4 3 O;have s2:=h.Z4 2 O;have s3:Sx eB w (some ⟨b2,0,none⟩) 1 1 [s.Fj]:=h.Ib (E:=eB) [s.Fj] 1 O O O;have s4:=hs.up h;have s0:Sx Nm w (some ⟨b3,0,none⟩) 4 4 [⟨a1,V1,U5 (BitVec.ofInt 64 s.num) (4:Int).toNat⟩,⟨a2,E4,U5 (BitVec.ofInt 64 s.first) (4:Int).toNat⟩,⟨some ⟨b2,0,none⟩,1,[s.Fj]⟩,⟨a,cap,s.data⟩]:=h.Ib (E:=Nm) [⟨a1,V1,U5 (BitVec.ofInt 64 s.num) (4:Int).toNat⟩,⟨a2,E4,U5 (BitVec.ofInt 64 s.first) (4:Int).toNat⟩,⟨some ⟨b2,0,none⟩,1,[s.Fj]⟩,⟨a,cap,s.data⟩] 0 O O O;have gH:Sy [⟨a1,V1,U5 (BitVec.ofInt 64 s.num) (4:Int).toNat⟩,⟨a2,E4,U5 (BitVec.ofInt 64 s.first) (4:Int).toNat⟩,⟨some ⟨b2,0,none⟩,1,[s.Fj]⟩,⟨a,cap,s.data⟩]=s.head:=by simp only[Sy,List.flatMap_cons,List.flatMap_nil,List.append_nil,T6.head,List.append_assoc];rfl
 have SM:=cE s0 (amA s1 s2 s3 s4) m4 (ajW (yq AB) (yq bj) (show[s.Fj].length<=16 from by simp) hl) gH;clear s0 s1 s2 s3 s4 gH;refine xb SM ?_;clear SM;rintro _ w ⟨a3,na,rfl,h'⟩;replace h:=h.H6 h';replace h:=h.q 6 [0,5] O;refine U0 h 1 O O (i5 (A4.aks (E:=eB) (m:=16-s.data.length) (d:=0#8) (Ca.of (w9:=1) kn O O O O O O) Zb3 (gQ _) h 0 O O (by show Value.int .i64 _=_;congr 1;omega) Zb4 m4 Zb4 ⟨m4,m4⟩ (λ_ _=>rfl) λa4 ph w h hx=>ga (afH (h.Z4 0 O) aok) λa5 Mt w h'=>?_));replace h:=h.H6 h';have hxc:=hx.cap;replace hx:=(hx.up h').take (m:=4) m4;exact RD.Vh (m:=4) kn O O O O m4 (A4.Pk (Ca.of (w9:=1) kn O O O O O O) h 0 O O O (alt hx) (by rw[Lw];simp;omega) (λ_ _=>rfl) λa6 PK w h=>⟨_,_,rfl,h.q 3 [0] O⟩)):P:=h
section
abbrev T6.v(s:T6)(a:Option Addr)(cap:Nat):Value:= .agg #[I s.num,I s.first,.bool s.Fc,.slice a s.data.length cap]
theorem amA{a1 a3 a4:Option Addr}{c1 c2 c3 c4 f:Nat}{RI b d c:List B}(i:Sx eB w a1 RI.length c1 RI)(h:Sx eB w a2 b.length c2 b)(e:Sx eB w a3 f c3 d)(g:Sx eB w a4 c.length c4 c):∀s∈([⟨a1,c1,RI⟩,⟨a2,c2,b⟩,⟨a3,c3,d⟩,⟨a4,c4,c⟩]:List Rm),Sx eB w s.a s.xs.length s.cap s.xs:=by obtain rfl:=e.len<;>grind
theorem ajW{a1 a3 a4:Option Addr}{c1 c2 c3 c4:Nat}{RI b a c:List B}(g:RI.length<=4)(f:b.length<=4)(e:a.length<=16)(d:c.length<=16):∀s∈([⟨a1,c1,RI⟩,⟨a2,c2,b⟩,⟨a3,c3,a⟩,⟨a4,c4,c⟩]:List Rm),s.xs.length<=1000:=Zb1
theorem alt(b:Sx E w a n cap xs):Sl w E.sz (.slice a n cap) xs.length (E.P3 xs):=by have e:=b.sl;exact(V4 (λk=>Sl w E.sz (.slice a n cap) k (E.P3 xs)) b.len).mpr e
theorem FT(m:Nat)(b:B):eB.P3 (List.replicate m b)=List.replicate m (B8 b):=by
 induction m with
 |zero=>rfl
 |succ m a=>rw[Bz,Bz,<-a];rfl
theorem gQ(m:Nat):(Builtin.zeroCells (Value.int .u8 0).cells m).toList=eB.P3 (List.replicate m 0#8):=by simp[FT,Nat.mod_one,Builtin.zeroCells,Value.cells,List.map_const']
set_option maxHeartbeats 1000000 in
theorem afM{s:T6}(hs:Sx eB w a s.data.length cap s.data)(ok:Xe s):Cs 433 #[s.v a cap] w (λe w'=>∃c i,e= .returned (.slice c s.bytes.length i)∧Hp w w' [so 5 eB c i s.bytes]):=by
 have h:=Hp.start w;have hl:=ok.len;have j:=ok.num;have k:=ok.first;have hhl:=T6.ur ok;have AB:(U5 (BitVec.ofInt 64 s.num) (4:Int).toNat).length=4:=Sc (vx j);have bj:(U5 (BitVec.ofInt 64 s.first) (4:Int).toNat).length=4:=Sc (vx k);by_cases hb:s.Fc=true
 ·have b:s.Fj=BitVec.ofInt 8 s.data.length|||128#8:=by unfold T6.Fj;rw[S1 hb];simp
  refine R2 func433 O (I2 h O λb1 w h=>U0 h 0 O O (WR.bT (U0 h 0 O O (BR.s9 hb (bf.or8 (y:=128#8) O ?_)))));rw[<-b];refine Bs h (qs [0,4,8,10,1,2,5,6,11] (.w2 3 (.w2 7 (ws [9] (vs [12,13] (qs [14] .done))) 9 (ws [7] (vs [12,13] (qs [14] .done)))) 9 (ws [3,7] (vs [12,13] (qs [14] .done))))) λh=>U3 0 O O (WR.bO (U3 0 O O (WR.bO (U3 0 O O ⟨?_,?_⟩))))
  ·refine ga (Wg h m4) λa1 V1 w h=>⟨h.q 2 [1] O,⟨?_,?_⟩⟩
   ·refine ga (Wg h m4) λa2 E4 w h=>⟨h.q 3 [2] O,I2 h O λb2 w h=>⟨h.q 4 [3] O,I2 h O λb3 w h=>?_⟩⟩;exact lC
   ·refine I2 h O λb2 w h=>⟨h.q 3 [2] O,ga (Wg h m4) λa2 E4 w h=>⟨h.q 4 [3] O,I2 h O λb3 w h=>?_⟩⟩;replace h:=h.g [0,2] O;exact lC
  ·refine ace λb2 a1 V1 a2 E4 b3 w h=>?_;replace h:=h.g [0,3] O;exact lC
 ·have hb':s.Fc=false:=by simpa using hb
  have b:s.Fj=BitVec.ofInt 8 s.data.length:=by unfold T6.Fj;rw[V0 hb];simp
  refine R2 func433 O (I2 h O λb1 w h=>U0 h 0 O O (WR.bT (U0 h 0 O O (BR.no hb' ?_))));rw[<-b];refine Bs h (qs [0,4,8,10,1,2,5,6,11] (.w2 3 (.w2 7 (ws [9] (vs [12,13] (qs [14] .done))) 9 (ws [7] (vs [12,13] (qs [14] .done)))) 9 (ws [3,7] (vs [12,13] (qs [14] .done))))) λh=>U3 0 O O (WR.bO (U3 0 O O (WR.bO (U3 0 O O ⟨?_,?_⟩))))
  ·refine ga (Wg h m4) λa1 V1 w h=>⟨h.q 2 [1] O,⟨?_,?_⟩⟩
   ·refine ga (Wg h m4) λa2 E4 w h=>⟨h.q 3 [2] O,I2 h O λb2 w h=>⟨h.q 4 [3] O,I2 h O λb3 w h=>?_⟩⟩;exact lC
   ·refine I2 h O λb2 w h=>⟨h.q 3 [2] O,ga (Wg h m4) λa2 E4 w h=>⟨h.q 4 [3] O,I2 h O λb3 w h=>?_⟩⟩;replace h:=h.g [0,2] O;exact lC
  ·refine ace λb2 a1 V1 a2 E4 b3 w h=>?_;replace h:=h.g [0,3] O;exact lC
end
end Go.Proofs.YtaaihojmcfaejaaGreatDoor
