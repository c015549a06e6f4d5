/- Lemmas for the tops: the walk of the house and its laws. No condition is added. -/
import Derived.Test.YtaaihojmcfaejaaGreatDoorQah
import Derived.Test.YtaaihojmcfaejaaGreatDoorQar
import Derived.Test.YtaaihojmcfaejaaGreatDoorQaf
import Derived.Test.YtaaihojmcfaejaaGreatDoorQan
import Derived.Test.YtaaihojmcfaejaaGreatDoorQal
import Derived.Test.YtaaihojmcfaejaaGreatDoorQap
set_option linter.all false
namespace Go.Proofs.YtaaihojmcfaejaaGreatDoor
open Go Go.RowKit Tryz
variable{x:I7}{n0 tx:Int}{t:L3}{N0 l p9:List E2}{L R:List HP}{b cap cb m n p pb st:Nat}{a ab:Option Addr}{β κ:Type}{c w:World}{k:w4}
section
variable[DecidableEq κ]{P:Program}{mt kt et:TypeId}{z:Value}{d7:κ->Value}{c:Nat}{M:List (Nj κ)}
theorem ut:∀{M:List (Nj κ)}{k:κ}{u:Value}{c:Nat},Ce M k=some u->Eb M k u c=M
 |[],_,_,_,h=>by cases h
 |x::r,k,u,c,h=>by
  unfold Ce at h;unfold Eb;by_cases a:k=x.1
  ·grind
  ·rw[V0 a]at h⊢;rw[ut h]
theorem pJ(T:V9 P mt kt et z d7)(h:MR d7 w b M c)(k:κ):∃w' st,(Instr.mapEntry mt (.map (some b)) (d7 k)).run P w= .ok (.tuple #[(Ce M k).getD z,.int .i64 ((st:Nat):Int)]) w'∧MR d7 w' b (Eb M k ((Ce M k).getD z) c) (Tz M k c)∧ua (λx=>x=b) w w'∧∃u,(k,u,st)∈Eb M k ((Ce M k).getD z) c:=by
 have l:=S9 (P:=P) h.ob Zb8;have hs:=λo'=>Cf (P:=P) (o':=o') h.ob Zb8;have m:=T.key.kA k M w;have j:∀o',UE w b o' {w with heap:=w.heap.setIfInBounds b o'}:=λo'=>⟨rfl,rfl,rfl,rfl,rfl⟩;cases f:dh M k 0 with
 |none=>
  have a:=Ml f;refine⟨{w with heap:=w.heap.setIfInBounds b (.map ((M++[(k,z,c)]).map (Nc d7)).toArray (c+1))},c,?_,?_,(j _).Q6,z,?_⟩
  ·simp only[Instr.mapEntry,Sem.run_bind,run_underlying T.t,Result.andThen_ok,l,T.key.fa];simp only[m,f,Result.andThen_ok,T.zero,Sem.run_bind,hs];simp[Nc,goInt,a]
  ·have g:=h.wf.set k z;rw[a];rw[xn a]at g;show MR d7 _ b (Eb M k z c) _;rw[xn a];unfold Tz at g⊢;rw[a]at g⊢;exact⟨g,(j _).ob h.lt⟩
  simp_all[xn]
 |some q=>
  obtain⟨i,u⟩:=q;have a:=Yp f;obtain⟨_,⟨x,d,hxk⟩,n,_⟩:=Ax d7 M k i 0 u f;rw[Nat.sub_zero]at d n;have hxm:x∈M:=wv d;refine⟨{w with heap:=w.heap.setIfInBounds b (.map (M.map (Nc d7)).toArray c)},x.2.2,?_,?_,(j _).Q6,x.2.1,?_⟩
  ·have ael:(((M.map (Nc d7)).toArray[i]?).map (·.key)).getD (d7 k)=d7 k:=by simp[d,Nc,hxk]
   have ajF:(((M.map (Nc d7)).toArray[i]?).map (·.born)).getD 0=x.2.2:=by simp[d,Nc]
   have hmo:((M.map (Nc d7)).toArray.modify i λe=>{e with key:=d7 k})=(M.map (Nc d7)).toArray:=by
    apply Array.ext
    ·simp
    ·grind[Nc]
   simp only[Instr.mapEntry,Sem.run_bind,run_underlying T.t,Result.andThen_ok,l,T.key.fa];simp only[m,f,Result.andThen_ok,Sem.run_bind,ael,T.key.uc,hs,hmo,ajF];simp[goInt,a,d,Nc]
  ·rw[a];show MR d7 _ b (Eb M k u c) _;rw[ut a];unfold Tz;rw[a];exact⟨h.wf,(j _).ob h.lt⟩
  grind[ut]
theorem RB{st:Nat}{k:κ}{u v:Value}:∀{M:List (Nj κ)},(M.map (·.1)).Nodup->(M.map (·.2.2)).Nodup->(k,u,st)∈M->∃i,(M.map (Nc d7)).findIdx? (λe=>(e.born:Int)==(st:Int))=some i∧(M.map (Nc d7)).modify i (λe=>{e with val:=v})=(Eb M k v c).map (Nc d7)
 |[],_,_,h=>by cases h
 |x::r,a,b,h=>by
  rw[Kb,Fm]at a b;rcases Vk.1 h with rfl|h
  ·simp[List.findIdx?_cons,Nc,Eb]
  ·obtain⟨i,d,g⟩:=RB (st:=st) (k:=k) (u:=u) (v:=v) a.2 b.2 h;have j:¬k=x.1:=λe=>a.1 (e▸oz (f:=(·.1)) h);have hnb:¬x.2.2=st:=λe=>b.1 (e▸oz (f:=(·.2.2)) h);refine⟨i+1,?_,?_⟩
   ·rw[Kb,List.findIdx?_cons,d];have:¬(((Nc d7 x).born:Int)==(st:Int))=true:=by simp[Nc];omega
    simp[*]
   simp_all[Eb]
theorem qJ{k:κ}{u v:Value}(h:MR d7 w b M c)(d:(k,u,st)∈M):∃w',(Instr.entryStore mt (.map (some b)) (.int .i64 (st:Int)) v).run P w= .ok () w'∧MR d7 w' b (Eb M k v c) c∧ua (λx=>x=b) w w':=by
 have j:=S9 (P:=P) h.ob Zb8;have hs:=λo'=>Cf (P:=P) (o':=o') h.ob Zb8;have f:∀o',UE w b o' {w with heap:=w.heap.setIfInBounds b o'}:=λo'=>⟨rfl,rfl,rfl,rfl,rfl⟩;obtain⟨i,m,l⟩:=RB (d7:=d7) (c:=c) (v:=v) h.wf.U1 h.wf.cC d;refine⟨{w with heap:=w.heap.setIfInBounds b (.map ((Eb M k v c).map (Nc d7)).toArray c)},?_,?_,(f _).Q6⟩
 ·simp_all[Instr.entryStore,asInt,asIntOf]
 ·have a:=h.wf.set k v;have n:Ce M k≠none:=λe=>ip.1 e _ d O;unfold Tz at a;cases g:Ce M k with
  |none=>simp_all
  |some y=>rw[g]at a;exact⟨a,(f _).ob h.lt⟩
end
def mst(K:κ->Value)(V:β->Value)(b:Nat)(xs:List (κ×β))(k:κ)(st:Nat):HP:=λh=>
 ∃(M:List (Nj κ))(a:Nat),(CL M a∧∃u,(k,u,st)∈M)∧M.map (λx=>(x.1,x.2.1))=xs.map (λx=>(x.1,V x.2))∧h b=some (.map (M.map (Nc K)).toArray a)
section
variable[DecidableEq κ]{K:κ->Value}{V:β->Value}{P:Program}{mt kt et:TypeId}{z:Value}{w':World}{L':List HP}{xs:List (κ×β)}
variable{dst:Option Nat}{ty:TypeId}{db:String}{af:Array Edge}{g:Option (Nat×Bool)}{ρ:Operand->Value}{Q:Value->World->Prop}{PQ:Y5}{m x y:Operand}
theorem A4.uW{L':Nat->List HP}(a:β)(T:V9 P mt kt et z K)(o:z=V a)(h:Hp c w L)(j:Nat)(e:i3 L j=some (mo K V b xs))(k:κ)(s:ρ m= .map (some b))(p:ρ x=K k)(A:∀st,G7 L j (mst K V b (R1 xs k ((K0 xs k).getD a)) k st)=some (L' st))
 (n:∀st w',Hp c w' (L' st)->Q (.tuple #[V ((K0 xs k).getD a),.int .i64 ((st:Nat):Int)]) w'):A4 P ⟨dst,.mapEntry mt m x,ty,db,af,g⟩ ρ w Q PQ:=by
 obtain⟨M,D,r,f⟩:=h.Ou j e;obtain⟨w',st,l,d,C,u,i⟩:=pJ T r k;have q:(Ce M k).getD z=V ((K0 xs k).getD a):=by rw[Yv k f,o];cases K0 xs k<;>rfl
 rw[q]at l d i;refine A4.val (v:= .tuple #[V ((K0 xs k).getD a),.int .i64 ((st:Nat):Int)]) (w':=w') (by simp[execOp,s,p,l]) (n st w' (h.Tm e C (λh0 y E=>?_) (A st)));obtain⟨G,ck0,_,_,t⟩:=y;refine⟨λk F=>Zb1,_,_,⟨d.wf,u,i⟩,Xv D k _ f,?_⟩;show(if _ then _ else _)=_;rw[S1 (.inr (by rw[t];simp))];exact d.ob.t8
theorem A4.vX{k:κ}(v:β)(h:Hp c w L)(j:Nat)(e:i3 L j=some (mst K V b xs k st))(D:ρ m= .map (some b))(C:ρ x= .int .i64 ((st:Nat):Int))(A:ρ y=V v)(t:G7 L j (mo K V b (R1 xs k v))=some L')
 (n:∀w',Hp c w' L'->Q undef w'):A4 P ⟨dst,.entryStore mt m x y,ty,db,af,g⟩ ρ w Q PQ:=by
 obtain⟨F,⟨M,l,⟨o,u,p⟩,r,a⟩,d⟩:=Bb (i:=j+1) h.A0 e;have q:MR K w b M l:=⟨o,⟨d b _ a⟩⟩;obtain⟨w',H,f,z⟩:=qJ (P:=P) (mt:=mt) (v:=V v) q p;refine A4.skip (w':=w') (by simp_all[execOp]) (n w' (h.Tm e z (λh0 s d=>?_) t));obtain⟨G,ck0,_,_,a⟩:=s;refine⟨λk E=>Zb1,_,_,f.wf,Xv l k v r,?_⟩;show(if _ then _ else _)=_;rw[S1 (.inr (by rw[a];simp))];exact f.ob.t8
end
theorem HK{m:List (w4×Int)}{i:Nat}{p:E2}(h:i3 l i=some p):I4 m (l.take (i+1))=if p.val.K3 then R1 (I4 m (l.take i)) p.key ((K0 (I4 m (l.take i)) p.key).getD 0+1)else I4 m (l.take i):=by unfold I4;rw[O7 h,Qh];rfl
def CB(B:Int)(m:List (w4×Int)):Prop:=∀x∈m,0<=x.2∧x.2<=B
theorem CB.get{B:Int}{m:List (w4×Int)}(h:CB B m)(b:0<=B)(k:w4):0<=(K0 m k).getD 0∧(K0 m k).getD 0<=B:=by
 cases a:K0 m k with
 |none=>simp[*]
 |some v=>exact h _ (Q7 a)
theorem CB.H'{B:Int}(b:0<=B):∀(l:List E2){m:List (w4×Int)},CB B m->CB (B+l.length) (I4 m l):=by
 intro l;induction l generalizing B with
 |nil=>simp[I4]
 |cons p l c=>
  intro m h;have e:I4 m (p::l)=I4 (if p.val.K3 then R1 m p.key ((K0 m p.key).getD 0+1)else m) l:=rfl;rw[e];have f:CB (B+1) (if p.val.K3 then R1 m p.key ((K0 m p.key).getD 0+1)else m):=by
   have d:=h.get b p.key;split
   ·intro x a;rcases Sa a with rfl|a
    ·omega
    ·have:=h x a;omega
   ·intro x a;have:=h x a;omega
  grind
def ml(b:Nat)(k:w4)(n0:Int):HP:=λh=>∃M:List (w4×Int),(K0 M k).getD 0=n0∧mo w4.v I b M h
theorem Hp.IZ{M:List (w4×Int)}(h:Hp c w (mo w4.v I b M::L))(e:(K0 M k).getD 0=n0):Hp c w (ml b k n0::L):=h.imp λ_ a=>⟨M,e,a⟩
theorem Hp.adC{M:List (w4×Int)}(h:Hp c w (mst w4.v I b M k st::L))(e:(K0 M k).getD 0=n0):Hp c w (ml b k n0::L):=h.imp λ_ a=>by obtain⟨j,i,⟨g,_⟩,f,d⟩:=a;exact⟨M,e,j,i,g,f,d⟩
theorem RD.ajP{S:World->Prop}{Q:Value->Prop}(n:∀w,S w->Hp c w L)(j:Nat)(h:i3 L j=some (ml b k n0))(g:Q (I n0)):RD prog S (Instr.lookup 443 (.map (some b)) k.v false) Q:=by refine⟨I n0,λw a=>?_,g⟩;obtain⟨q,⟨M,e,p,o,hwf,l,m⟩,f⟩:=Bb (i:=j+1) (n w a).A0 h;have d:MR w4.v w b p o:=⟨hwf,⟨f b _ m⟩⟩;have:=Nw FZ d k false;rw[Yv k l]at this;simp[*]
section
variable{aq:Option Addr}{cq:Nat}
theorem uR{b:Nat}{m:List (w4×Int)}{B:Int}(h:Hp c w (bk p [.map (some b)] 443::mo w4.v I b m::so 157 F2 a cap l::R))(t:0<=B∧B<=1000000000)(r:CB B m)(C:l.length<=1000000000):Cr 278 #[.slice a l.length cap,Pt p] w c (.tuple #[]) (bk p [.map (some b)] 443::mo w4.v I b (I4 m l)::so 157 F2 a cap l::R):=by
 refine R2 func278 O ?_;skip;refine p5.A6 kn [1,5,6,7] (λk vs w'=>∃(i:Int),vs=[Pt p,.slice a l.length cap,I l.length,I i]∧(0<=i∧i+k=l.length)∧Hp c w' (bk p [.map (some b)] 443::mo w4.v I b (I4 m (l.take i.toNat))::so 157 F2 a cap l::R)) l.length ⟨0,rfl,m4,h⟩ ?_;rintro k _ w1 E ⟨i,rfl,D,h⟩;refine BR.T5 (λu=>?_) λu=>?_
 ·obtain⟨x,n⟩:∃x,i3 l i.toNat=some x:=⟨l[i.toNat],by rw[Z0,d8]⟩;have d:=HK (m:=m) n;have y:(i+1).toNat=i.toNat+1:=m4
  rw[<-y]at d;have hcb:=(r.H' t.1 (l.take i.toNat)).get m4 x.key;have G:(l.take i.toNat).length<=l.length:=by rw[Ga];omega
  obtain⟨M,s⟩:∃M,I4 m (l.take i.toNat)=M:=⟨_,rfl⟩;rw[s]at h d hcb;refine jd h 2 O λF A o=>Oa.sl h 2 O o n (I2 h O λb1 w h=>J3 h 0 O O O λw h=>U0 h 0 O O (BR.O' (λj=>?_) λj=>?_))
  ·rw[S1 j]at d;obtain⟨n0,e⟩:∃n0,(K0 M x.key).getD 0=n0:=⟨_,rfl⟩;rw[e]at d hcb;refine ja.D0 kn o8 (λw'=>Hp c w' (ml b x.key n0::bk b1 x.f 157::bk p [.map (some b)] 443::so 157 F2 a cap l::R)) (qs [1,0] (ws [2] (qs [3,4] (ws [5] (qs [6] (vs [7] .done)))))) Zb2 (Hp.IZ (h.drew.g [2] O) e) ?_;replace h:=h.drew;refine U3 2 O O (O4 h 0 O O ⟨Hp.IZ (h.g [2] O) e,RD.ajP (λ_ h=>h) 0 O (i5 (A4.uW (0:Int) FZ O h 2 O x.key O O (λ_=>rfl) λst w h=>⟨Hp.adC (h.g [2] O) (by rw[G1];exact e),A4.vX (n0+1) h 2 O O O O O λw h=>?_⟩))⟩);rw[qe]at h;refine i5 ⟨k-1,m4,i+1,rfl,m4,?_⟩;rw[d];exact h.q 4 [1,2,3] O
  ·rw[V0 (by rw[j];decide)]at d;refine i5 ⟨(k-1),?_,_,rfl,?_,Hp.subst (h.q 4 [1,2,3] O) ?_⟩
   ·omega
   ·omega
   ·grind[]
 ·have z:l.take i.toNat=l:=sd m4;rw[z]at h;exact⟨rfl,h⟩
end
theorem nv{κ β:Type}[DecidableEq κ]:∀{xs:List (κ×β)}{j:κ}{v:β}(k:κ),k∈(R1 xs j v).map (·.1)↔k=j∨k∈xs.map (·.1)
 |[],j,v,k=>by simp[R1]
 |(a,x)::xs,j,v,k=>by
  unfold R1;by_cases e:j=a
  ·simp[*]
  ·rw[V0 e,Kb,Vk,nv k,Kb,Vk];grind
theorem Ap(m:List (w4×Int))(a b:List E2):I4 m (a++b)=I4 (I4 m a) b:=by unfold I4<;>grind
theorem Ni:∀(l:List E2){m:List (w4×Int)},(m.map (·.1)).Nodup->((I4 m l).map (·.1)).Nodup∧∀k,k∈(I4 m l).map (·.1)↔k∈m.map (·.1)∨∃p∈l,p.val.K3=true∧p.key=k
 |[],m,h=>⟨h,λk=>by simp[I4]⟩
 |p::l,m,h=>by
  have e:I4 m (p::l)=I4 (if p.val.K3 then R1 m p.key ((K0 m p.key).getD 0+1)else m) l:=rfl;rw[e];by_cases a:p.val.K3=true
  ·rw[S1 a];obtain⟨c,b⟩:=Ni l (m:=R1 m p.key ((K0 m p.key).getD 0+1)) (u9 h);refine⟨c,λk=>?_⟩;rw[b k,nv];grind
  ·rw[V0 a];obtain⟨c,b⟩:=Ni l h<;>grind
theorem IK{m:List (w4×Int)}{l':List E2}(a:(m.map (·.1)).Nodup)(h:l.Perm l'):(I4 m l).length=(I4 m l').length:=by
 obtain⟨c,f⟩:=Ni l a;obtain⟨b,e⟩:=Ni l' a;have d:((I4 m l).map (·.1)).Perm ((I4 m l').map (·.1)):=(List.perm_ext_iff_of_nodup c b).2 λk=>Zb1
 grind[List.Perm.length_eq,List.length_map]
def r8(q:List (Int×Nat×I7)):List E2:=q.flatMap λx=>Z2 x.2.2.I3
def ff(N0 p9:List E2)(a:List (Int×I7)):Bool:=decide (((a.foldl (λm(x:Int×I7)=>I4 m (Z2 x.2.I3)) (I4 (I4 [] N0) p9)).length:Int)>64)
theorem gB(s:E1)(p9:List E2):s.fx p9=ff s.N0 p9 s.G0:=rfl
theorem Vu:∀(q:List (Int×Nat×I7))(m:List (w4×Int)),(ks q).foldl (λm(x:Int×I7)=>I4 m (Z2 x.2.I3)) m=I4 m (r8 q)
 |[],m=>rfl
 |x::q,m=>by unfold r8;rw[EC,Ap];exact Vu q (I4 m (Z2 x.2.2.I3))
theorem oD{q done:List (Int×Nat×I7)}(h:done.Perm q):ff N0 p9 (ks q)=decide (((I4 (I4 (I4 [] N0) p9) (r8 done)).length:Int)>64):=by grind[ff,Vu,Ni,r8,IK]
section
theorem ZY{q:List (Int×Nat×I7)}(h:Hp c w (bk b [.slice ab N0.length cb,Pt p,.map (some m)] 167::so 157 F2 ab cb N0::mo I Pt m (kp q)::ea P5 (ps q)::so 157 F2 a cap p9::R))(S:N0.length<=100000000∧p9.length<=100000000)(E:∀x∈q,x.2.2.I3.length<=100000000)(u:(r8 q).length<=100000000):Cr 221 #[Pt b,.slice a p9.length cap] w c (.bool (ff N0 p9 (ks q))) (bk b [.slice ab N0.length cb,Pt p,.map (some m)] 167::so 157 F2 ab cb N0::mo I Pt m (kp q)::ea P5 (ps q)::so 157 F2 a cap p9::R):=by
 have hc0:CB 0 []:=λx A=>by cases A
 have r:=hc0.H' (lm _) N0;have Q:=r.H' m4 p9;refine R2 func221 O (A4.Xp w4.v I h λb1 w h=>I2 h O λb2 w h=>J3 h 0 O O O λw h=>U0 h 2 O O (xb (uR (h.g [0,1,3] O) ?_ Zb9 m4) ?_))
 ·omega
 rintro _ w ⟨rfl,h⟩;refine xb (uR (h.g [0,1,6] O) ?_ Zb9 m4) ?_
 ·omega
 rintro _ w ⟨rfl,h⟩;refine U0 h 4 O O (A4.AD (by exact Vi O O) (h.g [5] O) O λj w h=>p5.A6 kn [5,6,24] (λk vs w'=>∃(done d:List (Int×Nat×I7)),vs=[Pt b2,.func (.func 278) #[] #[Pt b2],Pt j]∧(d.length=k∧(done++d).Perm q)∧Hp c w' (mi I Pt m j (kp q) (kp d)::bk b2 [.map (some b1)] 443::mo w4.v I b1 (I4 (I4 (I4 [] N0) p9) (r8 done))::so 157 F2 a cap p9::so 157 F2 ab cb N0::bk b [.slice ab N0.length cb,Pt p,.map (some m)] 167::ea P5 (ps q)::R)) q.length ⟨[],q,rfl,⟨rfl,tj _⟩,h⟩ ?_);rintro k _ w1 T ⟨done,d,rfl,⟨D,f⟩,h⟩;refine A4.BD h 0 O O (λe=>?_) λl1 x l2 G w h=>?_
 ·have e:d=[]:=List.map_eq_nil_iff.1 e;subst e;rw[Jb]at f;rw[oD f];replace h:=h.EG;exact m5 (U0 h 1 O O (RD.DG (by exact Vi O O) h 2 O ⟨rfl,h.q 7 [5,4,0,6,3] O⟩))
 ·have h:Hp c w (mc I Pt m j (kp q) (l1++l2) x::bk b2 [.map (some b1)] 443::mo w4.v I b1 (I4 (I4 (I4 [] N0) p9) (r8 done))::so 157 F2 a cap p9::so 157 F2 ab cb N0::bk b [.slice ab N0.length cb,Pt p,.map (some m)] 167::ea P5 (ps q)::R):=h;obtain⟨lq1,lq3,rfl,L,J⟩:=rL.1 G;obtain⟨y,lq2,rfl,H,K⟩:=CE.1 J;subst L K H;have hyq:y∈q:=f.mem_iff.1 Zb3;have hdy:=E y hyq;obtain⟨t,s,C⟩:=dL hyq;have n:(lq1++lq2).length=k-1∧k-1<k:=by simp at D⊢;omega
  have z:((done++[y])++(lq1++lq2)).Perm q:=by refine List.Perm.trans ?_ f;rw[N',jz];exact wC _ List.perm_middle.symm
  have M:r8 (done++[y])=r8 done++Z2 y.2.2.I3:=by unfold r8;simp
  have V:(r8 done).length<=100000000:=by have F:(r8 (done++(lq1++y::lq2))).Perm (r8 q):=f.flatMap_right _;have l:=F.length_eq;unfold r8 at l u⊢;rw[wI,j7]at l;omega
  have Yx:=Q.H' m4 (r8 done);have hea:ea P5 (ps q)=ea P5 (ps t++y.2::ps s):=by rw[C];simp[ps]
  rw[hea]at h⊢;replace h:=(h.g [6] O).rq;have Y:(Z2 y.2.2.I3).length<=1000000000:=by rw[Db];omega
  obtain⟨o,pb,i⟩:=y;refine Q5 (A4.XJ h 2 O O (K9 (h.w8) (λZ h=>U0 h 0 O O (ga (WV (h.g [1] O) Zb9) λa1 X w h=>xb (uR (h.g [5,6] O) ?_ Zb9 Zb9) ?_))))
  ·omega
  rintro _ w ⟨rfl,h⟩;replace h:Hp c w (P5 pb i::_):=Hp.X5 (h.q 10 [4,3,0,1,5,6,7,8,9] O);replace h:=Hp.Xu (R:=P5) (x:=(pb,i)) (h.g [0,3] O);refine⟨k-1,n.2,done++[(o,pb,i)],lq1++lq2,rfl,⟨n.1,z⟩,?_⟩;rw[M,Ap];have N:kp (lq1++lq2)=List.map (λx=>(x.1,x.2.1)) lq1++List.map (λx=>(x.1,x.2.1)) lq2:=ic;rw[N];exact(h.g [3,1,2,4,5,6] O).HM
end
theorem abK{P:Prop}(h:P:=by replace h:=Hp.Xu (R:=P5) (x:=(pb,{x with I3:=(C6.put x.I3 k v).2})) h;exact⟨rfl,h.g [1,2,3] O⟩):P:=h
section
theorem agK{f d:List (Int×Nat×I7)}{v:Ba}(h:Hp c w (bk b [.slice ab N0.length cb,Pt p,.map (some m)] 167::so 157 F2 ab cb N0::mo I Pt m (kp (f++(tx,pb,x)::d))::ea P5 (ps (f++(tx,pb,x)::d))::R))(n:N0.length<=100000000)(l:∀y∈f++(tx,pb,x)::d,y.2.2.I3.length<=100000000)(j:(r8 (f++(tx,pb,x)::d)).length<=100000000):Cs 287 #[Pt b,Pt pb,k.v,v.v] w (λe w'=>if v.K3=true∧ff N0 [⟨k,v⟩] (ks (f++(tx,pb,x)::d))=true then e= .returned (I 16)∧Hp c w' (bk b [.slice ab N0.length cb,Pt p,.map (some m)] 167::so 157 F2 ab cb N0::mo I Pt m (kp (f++(tx,pb,x)::d))::ea P5 (ps (f++(tx,pb,x)::d))::R)
 else e= .returned (I (C6.put x.I3 k v).1)∧Hp c w' (bk b [.slice ab N0.length cb,Pt p,.map (some m)] 167::so 157 F2 ab cb N0::mo I Pt m (kp (f++(tx,pb,{x with I3:=(C6.put x.I3 k v).2})::d))::ea P5 (ps (f++(tx,pb,{x with I3:=(C6.put x.I3 k v).2})::d))::R)):=by
 obtain⟨pq,u⟩:∃pq,ff N0 [⟨k,v⟩] (ks (f++(tx,pb,x)::d))=pq:=⟨_,rfl⟩;have i:=λ(w:World)(R:List HP)(a:Option Addr)(cap:Nat)(h:Hp c w (bk b [.slice ab N0.length cb,Pt p,.map (some m)] 167::so 157 F2 ab cb N0::mo I Pt m (kp (f++(tx,pb,x)::d))::ea P5 (ps (f++(tx,pb,x)::d))::so 157 F2 a cap [⟨k,v⟩]::R))=>ZY h ⟨n,Zb3⟩ l j;rw[u]at i⊢;have hea:ea P5 (ps (f++(tx,pb,x)::d))=ea P5 (ps f++(pb,x)::ps d):=by simp[ps]
 have amn:ea P5 (ps (f++(tx,pb,{x with I3:=(C6.put x.I3 k v).2})::d))=ea P5 (ps f++(pb,{x with I3:=(C6.put x.I3 k v).2})::ps d):=by simp[ps]
 have s:kp (f++(tx,pb,{x with I3:=(C6.put x.I3 k v).2})::d)=kp (f++(tx,pb,x)::d):=by simp[kp]
 rw[s,amn];refine Calls.ite (λg=>?_) λg=>?_
 ·refine R2 func287 O ?_;obtain⟨A,o⟩:=g;refine I2 h O λb1 w h=>I2 h O λb2 w h=>U0 h 0 O O (BR.s9 Zb9 (O4 h 1 O O (O4 h 0 O O (I2 h O λr w h=>?_))));replace h:=Hp.vg (E:=F2) [⟨k,v⟩] h O (by rw[Gm];decide);exact N1 (i _ _ _ _ (h.g [3,4,5,6] O)) λw h=>BR.s9 Zb9 ⟨rfl,h.q 7 [0,1,2,3] O⟩
 ·cases z:v.K3 with
  |false=>rw[hea]at h;refine R2 func287 O ?_;replace h:=(h.g [3] O).rq;refine I2 h O λb1 w h=>I2 h O λb2 w h=>U0 h 0 O O (BR.no Zb9 (m5 (K9 ((h.g [2] O).w8) (λt h=>Y6 h [0,1,2,3,4,55,106,7] λh=>U3 0 O O (xg 3 O O (O4 h 2 O O ⟨h,N1 (vR (h.g [1] O)) λw h=>?_⟩))))));replace h:Hp c w (P5 pb {x with I3:=(C6.put x.I3 k v).2}::_):=Hp.X5 (h.q 8 [1,0,4,5,6,7] O);exact abK
  |true=>
   have o:pq=false:=by
    cases pq with
    |false=>rfl
    |true=>simp_all
   refine R2 func287 O (I2 h O λb1 w h=>I2 h O λb2 w h=>U0 h 0 O O (BR.s9 Zb9 (O4 h 1 O O (O4 h 0 O O (I2 h O λr w h=>?_)))));replace h:=Hp.vg (E:=F2) [⟨k,v⟩] h O (by rw[Gm];decide);refine N1 (i _ _ _ _ (h.g [3,4,5,6] O)) λw h=>BR.no Zb9 ?_;rw[hea]at h;replace h:=(h.g [3] O).rq;replace h:Hp c w (P5 pb x::_):=h;refine K9 (h.w8) (λt h=>Y6 h [0,1,2,3,4,55,106,7] λh=>U3 0 O O (xg 8 O O (O4 h 7 O O ⟨h,N1 (vR (h.g [1] O)) λw h=>?_⟩)));replace h:Hp c w (P5 pb {x with I3:=(C6.put x.I3 k v).2}::_):=Hp.X5 (h.q 9 [1,0,2,3,4,5] O);exact abK
end
section
theorem gR{s:E1}{a:Bool}(h:Hp c w (T2 b s::R))(j:SB n s)(r:n<=30000000):Cr 418 #[Pt b,I tx,.bool a] w c (I (s.xe tx a).1) (T2 b (s.xe tx a).2::R):=by
 obtain⟨o,i⟩:∃o,K0 s.G0 tx=o:=⟨_,rfl⟩;have u:=j.S3;have y:=j.N0;cases o with
 |none=>
  have e:s.xe tx a=(12,s):=by unfold E1.xe;rw[i]
  rw[e];refine R2 func418 O (pg h.I5 λd k f l h=>U0 h 0 O O (RD.tn Ad h 3 O _ Zb9 (tg.un O (Q5 ?_))));replace h:Hp _ _ (T2 _ (s)::_):=Hp.Q4 h;exact⟨rfl,h⟩
 |some x=>
  have t:x.I3.length<=n:=j.I3 _ (Q7 i);have e:s.xe tx a=if a=true∧¬x.B4=3 then(19,s)else(0,E1.K7 (if a then{s with N0:=Nn x.I3 s.N0}else s) tx):=by unfold E1.xe;rw[i]
  rw[e];cases a with
  |false=>rw[V0 Zb3];refine R2 func418 O (pg h.I5 λd k f l h=>U0 h 0 O O (RD.Ed Ad h 3 O _ Zb9 λm h=>tg.un O (m5 (m5 (m5 (m5 ?_))))));replace h:=Hp.F6 Zb9 h;replace h:Hp _ _ (T2 _ (s)::_):=Hp.Q4 (h.g [1,2,3] O);exact N1 (dR h Zb9 Zb9) λw h=>⟨rfl,h⟩
  |true=>
   by_cases g:x.B4=3
   ·rw[V0 (by simp[g]),S1 O];refine R2 func418 O (pg h.I5 λd k f l h=>U0 h 0 O O (RD.Ed Ad h 3 O _ Zb9 λm h=>tg.un O (m5 (Q5 (K9 (h.w8) (λp h=>U0 h 0 O O (Mj (Q5 (Y6 h [0,1,2,3,5,6,7,4,58,109,10,11,112] λh=>?_)))))))));refine U3 0 O O (U0 h 3 O O ⟨h,ga (afJ (h.g [4,1] O) m4 m4) λa1 v w h=>J3 h 5 O O O λw h=>?_⟩);replace h:Hp _ _ (P5 _ (x)::_):=Hp.X5 (h.g [3,2] O);replace h:=Hp.F6 Zb9 (h.g [0,3] O);replace h:=Hp.Q4 (h.g [3,1,4] O);exact N1 (dR h Zb9 Zb9) λw h=>⟨rfl,h.q 2 [0] O⟩
   ·rw[S1 ⟨rfl,g⟩];refine R2 func418 O (pg h.I5 λd k f l h=>U0 h 0 O O (RD.Ed Ad h 3 O _ Zb9 λm h=>tg.un O (m5 (Q5 (K9 (h.w8) (λp h=>U0 h 0 O O (xq ?_)))))));replace h:Hp _ _ (P5 _ (x)::_):=Hp.X5 h;replace h:=Hp.F6 Zb9 h;replace h:Hp _ _ (T2 _ (s)::_):=Hp.Q4 (h.g [1,2,3] O);exact⟨rfl,h⟩
end
theorem GN{P Q:Prop}(q:Q)(f:Q->P:=by intro q;exact R2 func416 O (pg h.I5 λw6 K4 j6 F5 h=>U0 h 0 O O (RD.Ed Ad h 3 O _ Zb9 λp1 h=>tg.un O (m5 (K9 (h.w8) (λEa h=>U0 h 0 O O (Wa (Wa (U0 h 3 O O (N1 (afL (h.g [5] O)) λw h=>q w6 K4 j6 F5 p1 Ea w h)))))))))):P:=f q
theorem GU{P:Prop}(h:P:=by replace h:=Hp.F6 ‹_› (h.g [0,3] O);replace h:Hp _ _ (T2 _ (s)::_):=Hp.Q4 (h.g [3,4,2] O);refine N1 (dR h ‹_› ‹_›) λw h=>?_;replace h:=h.G4 195 za;exact⟨_,_,rfl,h.q 3 [0,1] O⟩):P:=h
theorem abJ{P:Prop}(h:P:=by replace h:=h.G4 195 za;replace h:Hp _ _ (P5 _ (x)::_):=Hp.X5 (h.g [1,2] O);replace h:=Hp.F6 ‹_› (h.g [0,2] O);replace h:Hp _ _ (T2 _ (s)::_):=Hp.Q4 (h.g [2,3,4] O);exact⟨_,_,rfl,h.g [1] O⟩):P:=h
section
theorem afV{s:E1}{J0:BitVec 16}(h:Hp c w (T2 b s::R))(j:SB n s)(z:n<=30000000):Cs 416 #[Pt b,I tx,gb J0] w (λe w'=>∃r t,e= .returned (.tuple #[I (s.Y4 tx J0).1,.slice r (s.Y4 tx J0).2.1.length t,I (s.Y4 tx J0).2.2.1])∧Hp c w' (so 195 za r t (s.Y4 tx J0).2.1::T2 b (s.Y4 tx J0).2.2.2::R)):=by
 obtain⟨o,i⟩:∃o,K0 s.G0 tx=o:=⟨_,rfl⟩;have C:=j.S3;have G:=j.N0;cases o with
 |none=>
  have e:s.Y4 tx J0=(0,[],12,s):=by unfold E1.Y4;rw[i]
  rw[e];refine R2 func416 O (pg h.I5 λw6 K4 j6 F5 h=>U0 h 0 O O (RD.tn Ad h 3 O _ Zb9 (tg.un O (Q5 ?_))));replace h:=h.G4 195 za;replace h:Hp _ _ (T2 _ (s)::_):=Hp.Q4 (h.g [1,2,3,4] O);exact⟨_,_,rfl,h.g [1] O⟩
 |some x=>
  have A:x.I3.length<=n:=j.I3 _ (Q7 i);have e:s.Y4 tx J0=if x.B4=3 then(0,[],20,s)else if(J0.toNat:Int)=0 then(0,[],10,s)else if x.B4=2∨(K0 s.S3.B5 tx).isSome=true then(0,[],0,s.K7 tx)else if x.I3.length=0 then(2,[],0,s.K7 tx)else(1,Mi x.I3 tx s.N0++[⟨2,tx,J0,Y3,X0,X0⟩],0,{s with G0:=R1 s.G0 tx {x with B4:=3}}):=by unfold E1.Y4;rw[i]
  rw[e];have F:(Mi x.I3 tx s.N0).length<=30000000:=by unfold Mi;rw[H7,Db];omega
  by_cases p:x.B4=3
  ·rw[S1 p];refine R2 func416 O (pg h.I5 λw6 K4 j6 F5 h=>U0 h 0 O O (RD.Ed Ad h 3 O _ Zb9 λp1 h=>tg.un O (m5 (K9 (h.w8) (λEa h=>U0 h 0 O O (mf ?_))))));exact abJ
  rw[V0 p];by_cases m:(J0.toNat:Int)=0
  ·rw[S1 m];refine R2 func416 O (pg h.I5 λw6 K4 j6 F5 h=>U0 h 0 O O (RD.Ed Ad h 3 O _ Zb9 λp1 h=>tg.un O (m5 (K9 (h.w8) (λEa h=>U0 h 0 O O (Wa (mf ?_)))))));exact abJ
  rw[V0 m];obtain⟨a,hwt⟩:∃a,K0 s.S3.B5 tx=a:=⟨_,rfl⟩;rw[hwt];by_cases d:x.B4=2∨a.isSome=true
  ·rw[S1 d];by_cases k:x.B4=2
   ·refine GN λw6 K4 j6 F5 p1 Ea w h=>?_;refine I2 h O λb1 w h=>J3 h 0 O O O λw h=>U0 h 2 O O (mf (Q5 ?_));replace h:Hp _ _ (P5 _ (x)::_):=Hp.X5 (h.g [2,3] O);exact GU
   ·have v:(K0 s.S3.B5 tx).isSome=true:=by rw[hwt];exact d.resolve_left k
    refine GN λw6 K4 j6 F5 p1 Ea w h=>?_;refine I2 h O λb1 w h=>J3 h 0 O O O λw h=>U0 h 2 O O (Wa (BR.s9 Zb9 ?_));replace h:Hp _ _ (P5 _ (x)::_):=Hp.X5 (h.g [2,3] O);exact GU
  rw[V0 d];have k:¬x.B4=2:=λe=>d (.inl e);have v:(K0 s.S3.B5 tx).isSome=false:=by
   rw[hwt];cases y:a.isSome with
   |false=>rfl
   |true=>simp_all
  by_cases l:x.I3.length=0
  ·rw[S1 l];refine GN λw6 K4 j6 F5 p1 Ea w h=>?_;refine I2 h O λb1 w h=>J3 h 0 O O O λw h=>U0 h 2 O O (Wa (BR.no Zb9 (U0 h 2 O O (N1 (uY (h.g [3] O)) λw h=>mf ?_))));replace h:Hp _ _ (P5 _ (x)::_):=Hp.X5 (h.g [3] O);exact GU
  rw[V0 l];refine GN λw6 K4 j6 F5 p1 Ea w h=>?_;refine I2 h O λb1 w h=>J3 h 0 O O O λw h=>U0 h 2 O O (Wa (BR.no Zb9 (U0 h 2 O O (N1 (uY (h.g [3] O)) λw h=>Wa (J3 h 3 O O O λw h=>Y6 h [0,1,2,4,5,6,7,3,58,109,10] λh=>U3 3 O O (U0 h 5 O O ?_))))));refine⟨h,ga (afK (h.g [6] O) m4 m4) λa1 D w h=>I2 h O λb2 w h=>A4.Yb (u:=⟨_,_,_,Y3,X0,X0⟩) (Ca.of (w9:=56) kn O O O O O O) h 1 O O 0 O O O m4 (λ_ _=>rfl) λa2 E w h=>?_⟩;replace h:=Hp.X5 (h.g [6,3] O);replace h:=(h.g [0,6] O).V';replace h:=Hp.Q4 (h.g [6,3,5] O);exact⟨_,_,rfl,h.q 4 [2,0] O⟩
end
section
theorem alx{G0:List (Int×I7)}{S3:L3}{v:Ba}(h:Hp c w (P5 pb x::mh I P5 m G0 tx pb::bk b [.slice ab N0.length cb,Pt p,.map (some m)] 167::so 157 F2 ab cb N0::R))(j:K0 G0 tx=some x)(A:N0.length<=100000000)(u:∀y∈G0,y.2.I3.length<=100000000)(r:∀q:List (Int×Nat×I7),ks q=G0->(r8 q).length<=100000000):Cr 287 #[Pt b,Pt pb,k.v,v.v] w c (I (E1.Yg ⟨N0,S3,G0⟩ tx x k v).1) (mr I P5 m (E1.Yg ⟨N0,S3,G0⟩ tx x k v).2.G0::bk b [.slice ab N0.length cb,Pt p,.map (some m)] 167::so 157 F2 ab cb N0::R):=by
 obtain⟨f,d,a,l,n,h⟩:=(h.g [1] rfl).jr;have D:a=x:=by rw[l,Ri n]at j;unfold K0 at j;rw[S1 O]at j;injection j
 subst D;replace h:=Hp.Xu (R:=P5) (x:=(pb,a)) (h.g [2,1] O);have F:kp (f++(tx,pb,a)::d)=kp f++(tx,pb)::kp d:=by simp[kp]
 have E:ps (f++(tx,pb,a)::d)=ps f++(pb,a)::ps d:=by simp[ps]
 have o:ks (f++(tx,pb,a)::d)=G0:=by rw[l];simp[ks]
 rw[<-F,<-E]at h;have s:=agK (k:=k) (v:=v) (h.g [2,3,1] O) A (λy J=>u (y.1,y.2.2) Zb1) (r _ o);refine s.mono ?_;intro e w' i;have ajn:(E1.Yg ⟨N0,S3,G0⟩ tx a k v)=if v.K3=true∧ff N0 [⟨k,v⟩] G0=true then(16,⟨N0,S3,G0⟩)else((C6.put a.I3 k v).1,⟨N0,S3,R1 G0 tx {a with I3:=(C6.put a.I3 k v).2}⟩):=by unfold E1.Yg;rw[gB]
 rw[ajn];rw[o]at i;by_cases g:v.K3=true∧ff N0 [⟨k,v⟩] G0=true
 ·rw[S1 g]at i⊢;obtain⟨rfl,h⟩:=i;have h:=(h.g [2,3] O).Bd;grind
 ·rw[V0 g]at i⊢;obtain⟨rfl,h⟩:=i;have h:=(h.g [2,3] O).Bd;have anZ:ks (f++(tx,pb,{a with I3:=(C6.put a.I3 k v).2})::d)=R1 G0 tx {a with I3:=(C6.put a.I3 k v).2}:=by
   have C:∀(l1 l2:List (Int×I7))(y:I7),K0 l1 tx=none->R1 (l1++(tx,a)::l2) tx y=l1++(tx,y)::l2:=by
    intro l1;induction l1 with
    |nil=>simp[R1]
    |cons z l1 G=>
     intro l2 y t;unfold K0 at t;by_cases H:tx=z.1
     ·simp_all
     simp_all[R1]
   rw[l,C _ _ _ n];simp[ks]
  grind
end
theorem TB.ask(h:TB n t)(tx:Int)(k:w4)(b:Bool)(C0:Int):TB (n+1) (t.ask tx k b C0).2:=by
 have j:TB (n+1) t:=h.up (j' n);by_cases g:tx<1∨tx>1048576∨C0<0∨C0>1099511627776
 ·simp_all[L3.ask]
 by_cases d:t.N4 tx k=2∨(t.N4 tx k=1∧b=false)
 ·simp_all[L3.ask,if_neg]
 cases c:K0 t.B5 tx with
 |some i=>
  have e:t.ask tx k b C0=(if i=k then(17,t)else(13,t)):=by unfold L3.ask;rw[V0 g];simp only;rw[V0 d,c]
  grind
 |none=>
  obtain⟨x,f⟩:∃x:W5,⟨tx,b,C0,decide (t.N4 tx k=1)⟩=x:=⟨_,rfl⟩;have e:t.ask tx k b C0=(if Gv (S4 t.B0 k).1.N4 x=true∧((S4 t.B0 k).1.R3.length=0∨x.Oe=true)then(0,{t with B0:=R1 (S4 t.B0 k).2 k ⟨Zc (S4 t.B0 k).1.N4 x,(S4 t.B0 k).1.R3⟩})else(17,{t with B0:=R1 (S4 t.B0 k).2 k ⟨(S4 t.B0 k).1.N4,Lq (S4 t.B0 k).1.R3 x⟩,B5:=R1 t.B5 tx k})):=by unfold L3.ask;rw[V0 g];simp only;rw[V0 d,c];simp only[Me,FD,Hn,MC];subst f;rfl
  rw[e];split
  ·refine h.set ?_ (λy a=>h.Ag k y a);have:=vo (S4 t.B0 k).1.N4 x;grind
  ·refine h.set ?_ λy a=>?_
   ·have:=fh (x:=x) (Rs (S4 t.B0 k).1.R3 x);show(S4 t.B0 k).1.N4.length+(sk (S4 t.B0 k).1.R3 (Zm (S4 t.B0 k).1.R3 x) x).length<=(S4 t.B0 k).1.N4.length+(S4 t.B0 k).1.R3.length+1;omega
   ·have a:y∈sk (S4 t.B0 k).1.R3 (Zm (S4 t.B0 k).1.R3 x) x:=a;unfold sk at a;rcases rh.1 a with a|a
    ·rcases rh.1 a with a|a
     ·exact h.Ag k y (ME a)
     grind
    ·exact h.Ag k y (List.mem_of_mem_drop a)
theorem oS(N0:List E2)(S3:L3)(G0:List (Int×I7))(tx:Int)(x:I7)(k:w4)(v:Ba):(E1.Yg ⟨N0,S3,G0⟩ tx x k v).2=⟨N0,S3,(E1.Yg ⟨N0,S3,G0⟩ tx x k v).2.G0⟩:=by grind[E1.Yg]
theorem fz{P Q:Prop}(q:Q)(f:Q->P:=by intro q;exact R2 func230 O (I2 h O λb1 w h=>I2 h O λb2 w h=>pg ((h.g [2] O).I5) λw6 K4 j6 F5 h=>sv [0,1,2,4,3,5,6,7] (q b1 b2 w w6 K4 j6 F5 h))):P:=f q
theorem FN{P Q:Prop}(q:Q)(f:Q->P:=by intro q;exact U0 h 0 O O (U0 h 5 O O (RD.Ed Ad h 3 O _ Zb9 λp1 h=>U0 h 6 O O (N1 (Il he h) λw h=>m5 (U0 h 6 O O (Wa (Y6 h [0,1,2,4,6,8,11,3,5,7,59,10,112,13] λh=>U3 2 O O (U3 6 O O (xg 6 O O (q p1 w h)))))))))):P:=f q
theorem abI{P:Prop}(h:P:=by replace h:=Hp.Q4 (h.g [1,2,4] O);exact N1 (tR h ‹_› (by omega)) λw h=>J3 h 2 O O O λw h=>O4 h 2 O O ⟨rfl,h.q 4 [0] O⟩):P:=h
abbrev Op.v(o:Op):Value:= .agg #[I o.W0,I o.tx,B8 o.key.a,B8 o.key.b,B8 o.key.x,B8 o.key.y,I o.n]
abbrev Rep.v'(r:Rep):Value:= .agg #[I r.Ge,.bool r.val.K3,I r.val.n]
section
theorem Il{W0 e:Int}(h:wa (some x) W0=e)(a:Hp c w (P5 pb x::R)):Cr 284 #[Pt pb,I W0] w c (I e) (P5 pb x::R):=h▸agM a
theorem ahb{s:E1}{op:Op}{C0:Int}(h:Hp c w (T2 b s::R))(t:SB n s)(F:∀q:List (Int×Nat×I7),ks q=s.G0->(r8 q).length<=100000000)(M:n<=30000000):Cr 230 #[Pt b,op.v,I C0] w c (Rep.v' (s.t7 op C0).1) (T2 b (s.t7 op C0).2::R):=by
 obtain⟨o,d⟩:∃o,K0 s.G0 op.tx=o:=⟨_,rfl⟩;have K:=t.S3;have N:=t.N0;cases o with
 |none=>
  obtain⟨e,he⟩:∃e,wa none op.W0=e:=⟨_,rfl⟩;have u:=λ(w:World)(R:List HP)(h:Hp c w R)=>iS (W0:=op.W0) h;rw[he]at u;have S:¬e=0:=by rw[<-he];unfold wa;split<;>simp
  have a:s.t7 op C0=(⟨e,X0⟩,s):=by unfold E1.t7;rw[d,he]
  rw[a];refine fz λb1 b2 w w6 K4 j6 F5 h=>?_;replace h:=h.drew;refine U0 h 0 O O (U0 h 5 O O (RD.tn Ad h 3 O _ Zb9 (U0 h 5 O O (N1 (u _ _ h) λw h=>xq (J3 h 4 O O O λw h=>O4 h 4 O O ?_)))));replace h:Hp _ _ (T2 _ (s)::_):=Hp.Q4 h;exact⟨rfl,h.q 3 [0] O⟩
 |some x=>
  obtain⟨e,he⟩:∃e,wa (some x) op.W0=e:=⟨_,rfl⟩;by_cases D:e=0
  ·subst D;by_cases j:op.W0=4
   ·have a:s.t7 op C0=(⟨0,X0⟩,(s.qb op.tx 19).2):=by
     unfold E1.t7;rw[d,he];simp only;rw[V0 Zb4,S1 j]
    rw[a];refine fz λb1 b2 w w6 K4 j6 F5 h=>?_;replace h:=h.drew;refine U0 h 0 O O (U0 h 5 O O (RD.Ed Ad h 3 O _ Zb9 λp1 h=>U0 h 6 O O (N1 (Il he h) λw h=>m5 (U0 h 6 O O (mf (U0 h 6 O O ?_))))));replace h:=Hp.F6 Zb9 h;replace h:Hp _ _ (T2 _ (s)::_):=Hp.Q4 (h.g [1,2,3] O);exact N1 (tR h Zb9 m4) λw h=>J3 h 1 O O O λw h=>O4 h 1 O O ⟨rfl,h.q 3 [0] O⟩
   ·have sf:decide (¬op.W0=1)=(op.W0 !=1):=by
     by_cases H:op.W0=1<;>simp[H]
    by_cases J:(s.S3.ask op.tx op.key (op.W0 !=1) C0).1=0
    ·by_cases C:op.W0=1
     ·have a:s.t7 op C0=(⟨0,s.ajR x op.key⟩,{s with S3:=(s.S3.ask op.tx op.key (op.W0 !=1) C0).2}):=by
       unfold E1.t7;rw[d,he];simp only;rw[V0 Zb4,V0 j,sf,V0 m4,S1 C];rfl
      rw[a];refine fz λb1 b2 w w6 K4 j6 F5 h=>?_;replace h:=h.drew;refine FN λp1 w h=>?_;refine U0 h 6 O O ⟨h,N1 (LF (h.g [4] O) Zb9 m4) λw h=>Mj (I2 h O λE w h=>U0 h 7 O O (mf (O4 h 7 O O (N1 (agL (h.g [4,5,2] O) m4) λw h=>J3 h 6 O O O λw h=>O4 h 6 O O ?_))))⟩;replace h:=Hp.F6 Zb9 (h.g [2,5] O);replace h:=Hp.Q4 (h.g [1,2,4] O);exact⟨rfl,h.q 4 [0] O⟩
     ·obtain⟨v,i⟩:∃v:Ba,(if op.W0=2 then⟨true,op.n⟩else X0)=v:=⟨_,rfl⟩;obtain⟨y,r⟩:∃y,E1.Yg ⟨s.N0,(s.S3.ask op.tx op.key (op.W0 !=1) C0).2,s.G0⟩ op.tx x op.key v=y:=⟨_,rfl⟩;have aiZ:y.2=⟨s.N0,(s.S3.ask op.tx op.key (op.W0 !=1) C0).2,y.2.G0⟩:=by rw[<-r];exact oS _ _ _ _ _ _ _
      have a:s.t7 op C0=(⟨y.1,X0⟩,(E1.qb ⟨s.N0,(s.S3.ask op.tx op.key (op.W0 !=1) C0).2,y.2.G0⟩ op.tx y.1).2):=by rw[<-aiZ,<-r,<-i];unfold E1.t7;rw[d,he];simp only;rw[V0 Zb4,V0 j,sf,V0 m4,V0 C]
      rw[a];have hTB:TB (n+1) (s.S3.ask op.tx op.key (op.W0 !=1) C0).2:=K.ask _ _ _ _;have L:∀z∈s.G0,z.2.I3.length<=100000000:=λz G=>by have:=t.I3 z G;omega
      have l:=λ(w:World)(R:List HP)(p m pb:Nat)(ab:Option Addr)(cb:Nat)(h:Hp c w (P5 pb x::mh I P5 m s.G0 op.tx pb::bk b [.slice ab s.N0.length cb,Pt p,.map (some m)] 167::so 157 F2 ab cb s.N0::R))=>alx (S3:=(s.S3.ask op.tx op.key (op.W0 !=1) C0).2) (k:=op.key) (v:=v) h d m4 L F;rw[r]at l;by_cases A:op.W0=2
      ·rw[S1 A]at i;subst i;refine fz λb1 b2 w w6 K4 j6 F5 h=>?_;replace h:=h.drew;refine FN λp1 w h=>?_;refine U0 h 6 O O ⟨h,N1 (LF (h.g [4] O) Zb9 m4) λw h=>Mj (I2 h O λE w h=>U0 h 7 O O (Wa (mf (U0 h 7 O O (J3 h 0 O O O λw h=>O4 h 7 O O (O4 h 0 O O ?_))))))⟩;refine N1 (l _ _ _ _ _ _ _ (h.g [2,3,4,5] O)) λw h=>U0 h 6 O O ?_;exact abI
      ·rw[V0 A]at i;subst i;refine fz λb1 b2 w w6 K4 j6 F5 h=>?_;replace h:=h.drew;refine FN λp1 w h=>?_;refine U0 h 6 O O ⟨h,N1 (LF (h.g [4] O) Zb9 m4) λw h=>Mj (I2 h O λE w h=>U0 h 7 O O (Wa (Wa (O4 h 7 O O (O4 h 0 O O (N1 (l _ _ _ _ _ _ _ (h.g [2,3,4,5] O)) λw h=>U0 h 6 O O ?_))))))⟩;exact abI
    ·have a:s.t7 op C0=(⟨(s.S3.ask op.tx op.key (op.W0 !=1) C0).1,X0⟩,{s with S3:=(s.S3.ask op.tx op.key (op.W0 !=1) C0).2}):=by
      unfold E1.t7;rw[d,he];simp only;rw[V0 Zb4,V0 j,sf,S1 J]
     rw[a];refine fz λb1 b2 w w6 K4 j6 F5 h=>?_;replace h:=h.drew;refine FN λp1 w h=>?_;refine U0 h 6 O O ⟨h,N1 (LF (h.g [4] O) Zb9 m4) λw h=>xq (J3 h 5 O O O λw h=>O4 h 5 O O ?_)⟩;replace h:=Hp.F6 Zb9 (h.g [1,2] O);replace h:=Hp.Q4 (h.g [2,3,1] O);exact⟨rfl,h.q 3 [0] O⟩
  ·have a:s.t7 op C0=(⟨e,X0⟩,s):=by
    unfold E1.t7;rw[d,he];simp only;rw[S1 D]
   rw[a];refine fz λb1 b2 w w6 K4 j6 F5 h=>?_;replace h:=h.drew;refine U0 h 0 O O (U0 h 5 O O (RD.Ed Ad h 3 O _ Zb9 λp1 h=>U0 h 6 O O (N1 (Il he h) λw h=>xq (J3 h 5 O O O λw h=>O4 h 5 O O ?_))));replace h:=Hp.F6 Zb9 h;replace h:Hp _ _ (T2 _ (s)::_):=Hp.Q4 (h.g [1,2,3] O);exact⟨rfl,h.q 3 [0] O⟩
end
theorem act{P Q:Prop}(q:Q)(f:Q->P:=by intro q;exact jd h 1 O λb3 o3 lh=>Oa.sl h 1 O lh hx (I2 h O λb2 w h=>J3 h 0 O O O λw h=>Y6 h [0,1,3,2,54,105,6,7,8,9,10,11,12,13,14,15,16,17,18,119,20,21,22] λh=>xg 0 O O (O4 h 0 O O ⟨h,N1 (hP _ _ (h.g [1] O)) λw h=>Mj (Zt (i5 (q b3 o3 lh b2 w h)))⟩))):P:=f q
def Nl(P0:List E2)(i:Nat):Option w4:=if i=0 then none else(i3 P0 (i-1)).map (·.key)
section
theorem ahh{P0:List E2}(h:Hp c w (so 157 F2 a cap P0::R))(G:P0.length<=100000000):Cs 216 #[.slice a P0.length cap] w (λe w'=>match i' P0 [] none with
 |none=>e= .returned (.tuple #[.pointer none,.bool false])∧Hp c w' (so 157 F2 a cap P0::R)
 |some d=>∃p,e= .returned (.tuple #[Pt p,.bool (decide ((P0.length:Int)>0))])∧Hp c w' (ub p d::so 157 F2 a cap P0::R)):=by
 refine R2 func216 O (He (OY h) λb1 w h=>p5.A6 kn [0,4,8,9,10] (λk vs w'=>∃(i:Int)(d:C6),vs=[.slice a P0.length cap,Pt b1,.slice a P0.length cap,I P0.length,I i]∧(0<=i∧i+k=P0.length)∧i' P0 [] none=i' (P0.drop i.toNat) d (Nl P0 i.toNat)∧Hp c w' (ub b1 d::so 157 F2 a cap P0::R)) P0.length ⟨0,[],rfl,m4,rfl,h⟩ ?_);rintro k _ w1 K ⟨i,d,rfl,H,m,h⟩;refine BR.T5 (λC=>?_) λC=>?_
 ·obtain⟨x,hx⟩:∃x,i3 P0 i.toNat=some x:=⟨P0[i.toNat],by rw[Z0,d8]⟩;have t:(i+1).toNat=i.toNat+1:=m4
  have hla:Nl P0 (i+1).toNat=some x.key:=by unfold Nl;rw[t,V0 m4,show i.toNat+1-1=i.toNat by omega,hx];rfl
  have b:i' (P0.drop i.toNat) d (Nl P0 i.toNat)=if¬(C6.put d x.key x.val).1=0∨(match Nl P0 i.toNat with|some k=>decide (k.cmp x.key>=0)|none=>false)=true then none else i' (P0.drop (i.toNat+1)) (C6.put d x.key x.val).2 (some x.key):=by rw[ud P0 i.toNat x hx];rfl
  rw[<-t,<-hla]at b;obtain⟨z,A⟩:∃z,C6.put d x.key x.val=z:=⟨_,rfl⟩;have hP:=λ(w:World)(R:List HP)(h:Hp c w (ub b1 d::R))=>vR (k:=x.key) (v:=x.val) h;rw[A]at b hP;replace b:=m.trans b;by_cases o:z.1=0
  ·by_cases J:i>0
   ·obtain⟨y,l⟩:∃y,i3 P0 (i-1).toNat=some y:=⟨P0[(i-1).toNat],by rw[Z0,d8]⟩;have r:Nl P0 i.toNat=some y.key:=by unfold Nl;rw[V0 m4,show i.toNat-1=(i-1).toNat by omega,l];rfl
    rw[r]at b;by_cases s:y.key.cmp x.key>=0
    ·rw[S1 (.inr (by simp[s]))]at b;rw[b];refine act λb3 o3 lh b2 w h=>?_;refine jd h 2 O λD u F=>RD.ll kn O O (RD.ll kn O O ?_);have j:=iM (xs:=y.key.bytes) (ys:=x.key.bytes) (aD (h.Z4 2 O) Zb9 l) (h.Nt (E:=eB) (V5:=[_,_]) [_,_,_,_] 1 O O O);rw[Qr]at j;refine N1 j λw n=>?_;replace h:=h.H6 n;exact Zt ⟨rfl,h.q 3 [2] O⟩
    ·rw[V0 (by simp[o,s])]at b;refine act λb3 o3 lh b2 w h=>?_;refine jd h 2 O λD u F=>RD.ll kn O O (RD.ll kn O O ?_);have j:=iM (xs:=y.key.bytes) (ys:=x.key.bytes) (aD (h.Z4 2 O) Zb9 l) (h.Nt (E:=eB) (V5:=[_,_]) [_,_,_,_] 1 O O O);rw[Qr]at j;refine N1 j λw n=>?_;replace h:=h.H6 n;refine Te (i5 ⟨(k-1),?_,_,_,rfl,?_,?_,h.q 3 [0,2] O⟩)
     ·omega
     ·omega
     ·assumption
   ·have r:Nl P0 i.toNat=none:=by unfold Nl;rw[S1 m4]
    rw[r]at b;rw[V0 (by simp[o])]at b;refine jd h 1 O λb3 o3 lh=>Oa.sl h 1 O lh hx (I2 h O λb2 w h=>J3 h 0 O O O λw h=>Y6 h [0,1,3,2,54,105,6,7,8,9,10,11,12,13,14,15,16,17,18,119,20,21,22] λh=>xg 0 O O (O4 h 0 O O ⟨h,N1 (hP _ _ (h.g [1] O)) λw h=>Mj (Te (m5 ?_))⟩));refine i5 ⟨(k-1),?_,_,_,rfl,?_,?_,h.q 3 [0,2] O⟩
    ·omega
    ·omega
    ·assumption
  ·rw[S1 (.inl o)]at b;rw[b];exact jd h 1 O λb3 o3 lh=>Oa.sl h 1 O lh hx (I2 h O λb2 w h=>J3 h 0 O O O λw h=>Y6 h [0,1,3,2,54,105,6,7,8,9,10,11,12,13,14,15,16,17,18,119,20,21,22] λh=>xg 0 O O (O4 h 0 O O ⟨h,N1 (hP _ _ (h.g [1] O)) λw h=>xq (Q5 ⟨rfl,h.q 3 [2] O⟩)⟩))
 ·have e:P0.drop i.toNat=[]:=BC m4;rw[e]at m;rw[m];exact⟨_,rfl,h⟩
end
theorem Pr(y:w4):∀xs:List w4,decide (idxOf (λx=>decide (y=x)) xs>=0)=xs.contains y
 |[]=>rfl
 |x::l=>by
  have a:=Pr y l;have b:=vk (p:=λx=>decide (y=x)) l;rw[List.contains_cons,<-a];have c:idxOf (λx=>decide (y=x)) (x::l)=if decide (y=x)=true then 0 else(if idxOf (λx=>decide (y=x)) l<0 then -1 else idxOf (λx=>decide (y=x)) l+1):=rfl
  grind
section
theorem agO{xs:List w4}{y:w4}(hs:Sx nh w a xs.length cap xs)(s:xs.length<=1000000000):Cs 276 #[.slice a xs.length cap,y.v] w (Zb w (I (idxOf (λx=>decide (y=x)) xs)) []):=by
 have h:=Hp.start w;refine R2 func276 O (I2 h O λb1 w h=>p5.A6 kn [0,3,7,8] (λm vs w'=>∃i:Int,vs=[.slice a xs.length cap,Pt b1,I xs.length,I i]∧(0<=i∧i+m=xs.length)∧(∀j,j<i.toNat->∀x,i3 xs j=some x->decide (y=x)=false)∧Hp _ w' [bk b1 [B8 y.a,B8 y.b,B8 y.x,B8 y.y] 35]) xs.length ⟨0,rfl,Zb3,m4,h⟩ ?_);rintro m _ w1 t ⟨i,rfl,o,d,h⟩;refine BR.T5 (λl=>?_) λl=>?_
 ·have c:=Eh (xs:=xs) (i:=i.toNat) m4;obtain⟨x,hxx⟩:∃x,xs[i.toNat]=x:=⟨_,rfl⟩;rw[hxx]at c;have f:=λg=>Bn (p:=λx=>decide (y=x)) d c g;refine sv [1,2,3,0,4,5] ?_;replace h:=h.drew;refine Lz hs λu n e=>O4 h 0 O O (Oa.ro h hs e c (RD.eqk (p:=y) (q:=x) (BR.T5 (λk=>?_) λk=>?_)))
  ·refine⟨Ya O ?_,h.q 1 [] O⟩;grind[]
  ·refine i5 ⟨(m-1),?_,_,rfl,?_,?_,h⟩
   ·omega
   ·omega
   ·grind[]
 ·have f:=Di (p:=λx=>decide (y=x)) (xs:=xs) (λj r=>d j m4);refine⟨Ya O ?_,h.q 1 [] O⟩;omega
theorem ahf{xs:List w4}{y:w4}(hs:Sx nh w a xs.length cap xs)(b:xs.length<=1000000000):Cs 219 #[.slice a xs.length cap,y.v] w (Zb w (.bool (decide (idxOf (λx=>decide (y=x)) xs>=0))) []):=by have h:=Hp.start w;refine R2 func219 O (I2 h O λb1 w h=>O4 h 0 O O (N1 (agO (y:=y) (hs.up h) b) λw c=>?_));replace h:=h.H6 c;exact⟨rfl,h.q 1 [] O⟩
theorem ahg{pt:Nat}{b:List w4}{x:E2}(h:Hp c w R)(h0:c.cell? ⟨pt,0,none⟩=some (.slice a b.length cap))(hs:Sx nh c a b.length cap b)(e:b.length<=1000000000):Cr 218 #[x.v,Pt pt] w c (.bool (b.contains x.key)) R:=by refine R2 func218 O (I2 h O λb1 w h=>LD.ady h h0 (O4 h 0 O O ?_));have d:=ahf (y:=x.key) (hs.up h) e;rw[Pr]at d;refine N1 d λw f=>?_;replace h:=h.H6 f;exact⟨rfl,h.q 1 [] O⟩
end
theorem tI{P Q:Prop}(q:Q)(f:Q->P:=by intro q;exact R2 func167 O (N1 (hm _ _ h) λw h=>m5 (xb (ahh (h.g [1] O) m4) (q w h)))):P:=f q
theorem aV{P Q:Prop}(q:Q)(f:Q->P:=by intro q;exact pg ((h.g [2] O).I5) λw6 K4 j6 F5 h=>U0 h 0 O O (ga (DR (h.g [2] O) Zb9 m4) λa1 V1 w h=>I2 h O λb1 w h=>J3 h 0 O O O λw h=>BR.not (Zt (q w6 K4 j6 F5 a1 V1 b1 w h)))):P:=f q
theorem ZU{P Q:Prop}(q:Q)(f:Q->P:=by intro q;exact N1 (CR (f:=218) (lb:=[Pt b1]) (p:=λ(x:E2)=>s.S3.Cc.contains x.key) (h.Z4 7 O) (λh=>ahg h h0 QZ dF) O m4) λw h'=>q w h'):P:=f q
theorem abH{P:Prop}(h:P:=by replace h:Hp _ _ (T2 _ (s)::_):=Hp.Q4 (h.g [3,4,2,5] O);exact⟨rfl,h.q 5 [0,4] O⟩):P:=h
theorem pB{d:List (Int×I7)}(h:Hp c w (bk b [.slice ab N0.length cb,Pt p,.map (some m)] 167::so 157 F2 ab cb N0::mr I P5 m d::so 157 F2 a cap p9::R))(k:N0.length<=100000000∧p9.length<=100000000)(j:∀x∈d,x.2.I3.length<=100000000)(i:∀q:List (Int×Nat×I7),ks q=d->(r8 q).length<=100000000):Cr 221 #[Pt b,.slice a p9.length cap] w c (.bool (ff N0 p9 d)) (bk b [.slice ab N0.length cb,Pt p,.map (some m)] 167::so 157 F2 ab cb N0::mr I P5 m d::so 157 F2 a cap p9::R):=by obtain⟨q,e,h⟩:=(h.g [2] rfl).Xc;have f:=ZY (h.g [2,3] O) k (λy l=>j (y.1,y.2.2) Zb1) (i q e.symm);rw[<-e]at f;refine f.mono ?_;rintro n w' ⟨rfl,h⟩;have h:=(h.g [2,3] O).Bd;rw[<-e]at h;exact⟨rfl,h.g [1,2] O⟩
def asks(tx:Int)(l:List E2)(t:L3):L3:=l.foldl (λ(t:L3)(p:E2)=>(t.ask tx p.key true 0).2) t
theorem JP{i:Nat}{x:E2}(h:i3 l i=some x):asks tx (l.take (i+1)) t=((asks tx (l.take i) t).ask tx x.key true 0).2:=by unfold asks;rw[O7 h,Qh];rfl
theorem TB.asks(tx:Int):∀(l:List E2)(t:L3),TB n t->TB (n+l.length) (asks tx l t):=by
 intro l;induction l generalizing n with
 |nil=>intro t h;exact h
 |cons p l a=>intro t h;have:=a (n:=n+1) (t.ask tx p.key true 0).2 (h.ask _ _ _ _);rw[ze,show n+(l.length+1)=n+1+l.length by omega];exact this
theorem Ux(h:TB n t)(a:n<=1000000000):t.Cc.length<=1000000000:=by have e:t.Cc.length=_:=(H5 _).length_eq;rw[e,H7];exact j9 (Rh _ _) (j9 h.H' a)
section
theorem iZ{s:E1}{P0:List E2}(h:Hp c w (T2 b s::so 157 F2 a cap P0::R))(y:SB n s)(D:∀q:List (Int×Nat×I7),ks q=s.G0->(r8 q).length<=100000000)(Z:n<=30000000)(hl:P0.length<=30000000):Cr 167 #[Pt b,I tx,.slice a P0.length cap] w c (I (s.i7 tx P0).1) (T2 b (s.i7 tx P0).2::so 157 F2 a cap P0::R):=by
 obtain⟨e,o⟩:∃e,s.Um tx=e:=⟨_,rfl⟩;have hm:=λ(w:World)(R:List HP)(h:Hp c w (T2 b s::R))=>aZ (tx:=tx) h;rw[o]at hm;by_cases r:e=0
 ·subst r;have C:s.i7 tx P0=(match(if P0=[]then none else i' P0 [] none)with
   |none=>(10,s)
   |some d=>if P0.any (λp=>s.S3.Cc.contains p.key)=true then(17,s)else if s.fx P0=true then(16,s)else(0,{s with G0:=R1 s.G0 tx ⟨3,0,d⟩,S3:=asks tx P0 s.S3})):=by
   unfold E1.i7;simp only[o];rfl
  rw[C];have u:=y.S3;have Am:=y.N0;cases l:i' P0 [] none with
  |none=>
   have m:(if P0=[]then none else i' P0 [] none)=none:=by rw[l];split<;>rfl
   rw[l]at m;rw[m];refine tI λw h=>?_;intro e w j;rw[l]at j;obtain⟨rfl,h⟩:=j;refine pg ((h.g [1] O).I5) λw6 K4 j6 F5 h=>U0 h 0 O O (ga (DR (h.g [2] O) Zb9 m4) λa1 V1 w h=>I2 h O λb1 w h=>J3 h 0 O O O λw h=>Q5 ?_);replace h:Hp _ _ (T2 _ (s)::_):=Hp.Q4 (h.g [3,4,2,5] O);exact⟨rfl,h.q 4 [0,3] O⟩
  |some d=>
   by_cases aeg:P0=[]
   ·have m:(if P0=[]then none else some d)=none:=S1 aeg;rw[m];have J:¬(P0.length:Int)>0:=by rw[aeg];simp
    refine tI λw h=>?_;intro e w j;rw[l]at j;obtain⟨v,rfl,h⟩:=j;refine pg ((h.g [2] O).I5) λw6 K4 j6 F5 h=>U0 h 0 O O (ga (DR (h.g [2] O) Zb9 m4) λa1 V1 w h=>I2 h O λb1 w h=>J3 h 0 O O O λw h=>BR.not (Te ?_));exact abH
   ·have m:(if P0=[]then none else some d)=some d:=V0 aeg;rw[m];have J:(P0.length:Int)>0:=by cases P0 with
     |nil=>simp_all
     |cons _ _=>simp
    have H:∀z∈s.G0,z.2.I3.length<=100000000:=λz L=>by have:=y.I3 z L;omega
    have V:K0 s.G0 tx=none:=by
     have h0:=o;unfold E1.Um at h0;split at h0
     ·omega
     ·split at h0<;>simp_all
    have gPe:s.fx P0=ff s.N0 P0 s.G0:=gB s P0;by_cases F:(P0.any λ(x:E2)=>s.S3.Cc.contains x.key)=true
    ·simp only[if_pos F];refine tI λw h=>?_;intro e w j;rw[l]at j;obtain⟨v,rfl,h⟩:=j;refine aV λw6 K4 j6 F5 a1 V1 b1 w h=>?_;have h0:=(h.Qm (i:=0) O).cell (k:=0) O;have dF:s.S3.Cc.length<=1000000000:=Ux u m4;have QZ:=h.Z4 1 O;refine ZU λw h'=>?_;replace h:=h.H6 h';refine BR.s9 Zb9 ?_;exact abH
    ·simp only[if_neg F];by_cases A:ff s.N0 P0 s.G0=true
     ·simp only[gPe,if_pos A];refine tI λw h=>?_;intro e w j;rw[l]at j;obtain⟨v,rfl,h⟩:=j;refine aV λw6 K4 j6 F5 a1 V1 b1 w h=>?_;have h0:=(h.Qm (i:=0) O).cell (k:=0) O;have dF:s.S3.Cc.length<=1000000000:=Ux u m4;have QZ:=h.Z4 1 O;refine ZU λw h'=>?_;replace h:=h.H6 h';refine BR.O' (λr=>?_) λr=>?_
      ·replace h:Hp _ _ (T2 _ (s)::_):=Hp.Q4 (h.g [3,4,2,5] O);refine⟨Ya O ?_,h.q 5 [0,4] O⟩;grind[]
      ·refine N1 (pB (h.g [3,4,5,7] O) ⟨m4,m4⟩ H D) λw h=>BR.s9 Zb9 ?_;replace h:Hp _ _ (T2 _ (s)::_):=Hp.Q4 (h.g [0,1,6] O);exact⟨rfl,h.q 5 [0,1] O⟩
     ·simp only[gPe,if_neg A];have gP2:ff s.N0 P0 s.G0=false:=by simpa using A
      have gA2:(P0.any λ(x:E2)=>s.S3.Cc.contains x.key)=false:=by
       cases Y:(P0.any λ(x:E2)=>s.S3.Cc.contains x.key)with
       |false=>rfl
       |true=>grind
      refine tI λw h=>?_;intro e w j;rw[l]at j;obtain⟨v,rfl,h⟩:=j;refine aV λw6 K4 j6 F5 a1 V1 b1 w h=>?_;have h0:=(h.Qm (i:=0) O).cell (k:=0) O;have dF:s.S3.Cc.length<=1000000000:=Ux u m4;have QZ:=h.Z4 1 O;refine ZU λw h'=>?_;replace h:=h.H6 h';refine BR.no Zb9 (N1 (pB (h.g [3,4,5,7] O) ⟨m4,m4⟩ H D) λw h=>BR.no Zb9 (U0 h 0 O O (I2 h O λb2 w h=>?_)));replace h:=Hp.X5 (h.g [0,8] O);refine A4.lG Ad (h.g [3] O) _ Zb9 O O O λw h=>p5.A6 kn [0,1,50,51,52] (λk vs w'=>∃(i:Int),vs=[Pt b,I tx,.slice a P0.length cap,I P0.length,I i]∧(0<=i∧i+k=P0.length)∧Hp c w' (T2 b ⟨s.N0,asks tx (P0.take i.toNat) s.S3,R1 s.G0 tx ⟨3,0,d⟩⟩::so 157 F2 a cap P0::R)) P0.length ⟨0,rfl,m4,Hp.Q4 (h.q 7 [1,2,6,0,3] O)⟩ ?_;rintro k _ w1 e0 ⟨i,rfl,hk,h⟩;have G:=u.asks tx (P0.take i.toNat);have G:=G.up (show n+(P0.take i.toNat).length<=80000000 by grind);refine BR.T5 (λM=>?_) λM=>?_
      ·obtain⟨x,E⟩:∃x,i3 P0 i.toNat=some x:=⟨P0[i.toNat],by rw[Z0,d8]⟩;have T:=JP (tx:=tx) (t:=s.S3) E;have N:(i+1).toNat=i.toNat+1:=m4
       rw[<-N]at T;refine jd h 1 O λb3 X K=>Oa.sl h 1 O K E (I2 h O λb4 w h=>J3 h 0 O O O λw h=>pg ((h.g [1] O).I5) λamN akm akD akE h=>Y6 h [0,1,2,4,5,3,56,107] λh=>U3 0 O O (O4 h 4 O O ⟨h,N1 (LF (h.g [2] O) Zb9 m4) λw h=>i5 ?_⟩));replace h:=Hp.Q4 (h.g [1,2] O);refine⟨(k-1),?_,_,rfl,?_,Hp.subst (h.q 3 [0,2] O) ?_⟩
       ·omega
       ·omega
       ·grind[]
      ·have S:P0.take i.toNat=P0:=sd m4;rw[S]at h;exact⟨rfl,h⟩
 ·have C:s.i7 tx P0=(e,s):=by unfold E1.i7;simp only[o];rw[S1 r]
  rw[C];exact R2 func167 O (N1 (hm _ _ h) λw h=>xq ⟨rfl,h⟩)
end
theorem FU{P:Prop}(h:P:=by unfold Z2;rw[(H5 _).length_eq,H7]):P:=h
theorem Np{B0:List (w4×R5)}(h:(B0.map (·.1)).Nodup)(k:w4):((S4 B0 k).2.map (·.1)).Nodup:=by grind[S4,u9]
theorem XA{B0:List (w4×R5)}{j:w4}(h:j≠k):K0 (S4 B0 k).2 j=K0 B0 j:=by grind[S4,Y0]
theorem cS(B0:List (w4×R5))(k:w4):Kf (S4 B0 k).2=Kf B0:=by
 unfold S4;cases a:K0 B0 k with
 |some x=>rfl
 |none=>show Kf (R1 B0 k ya)=_;rw[Uj a];rfl
structure TS(n:Nat)(S:List w4)(t:L3):Prop where
 U1:(t.B0.map (·.1)).Nodup
 Ih:∀k r,K0 t.B0 k=some r->r.sz=0->k∈S
 sum:Kf t.B0<=n
 mem:∀x∈t.B0,∀y∈x.2.R3,0<=y.ec∧y.ec<=1099511627776
 S5:1<=t.S5∧t.S5<=1000
theorem KG:∀{B0:List (w4×R5)},(∀x∈B0,1<=x.2.sz)->B0.length<=Kf B0
 |[],_=>ye _
 |x::l,h=>by have b:=KG (B0:=l) λy a=>h y (Ta _ a);grind[Kf]
section
variable{S:List w4}
theorem TS.tb(h:TS n [] t):TB n t:=⟨h.mem,h.sum,j9 (KG λx a=>by
 rcases eL x.2.sz with h0|h0
 ·exact absurd (h.Ih x.1 x.2 (Ud h.U1 a) h0) Zb3
 ·exact h0) h.sum,h.S5⟩
theorem TS.up(h:TS n S t)(a:n<=m):TS m S t:=⟨h.U1,h.Ih,j9 h.sum a,h.mem,h.S5⟩
theorem TS.sub(h:TS n S t){S':List w4}(hs:∀x∈S,x∈S'):TS n S' t:=⟨h.U1,λk r b a=>hs _ (h.Ih k r b a),h.sum,h.mem,h.S5⟩
theorem TS.B5(h:TS n S t)(ws:List (Int×w4)):TS n S ⟨t.S5,t.B0,ws⟩:=⟨h.U1,h.Ih,h.sum,h.mem,h.S5⟩
theorem TS.Ag(h:TS n S t)(k:w4):∀x∈(S4 t.B0 k).1.R3,0<=x.ec∧x.ec<=1099511627776:=by
 unfold S4;cases b:K0 t.B0 k with
 |none=>intro x a;cases a
 |some r=>exact h.mem _ (Q7 b)
theorem TS.UR(h:TS n S t){d:Nat}{S':List w4}{r:R5}{ws:List (Int×w4)}(i:∀x,x∈S->x=k∨x∈S')(l:r.sz<=(S4 t.B0 k).1.sz+d)(g:∀x∈r.R3,0<=x.ec∧x.ec<=1099511627776)(h0:r.sz=0->k∈S'):TS (n+d) S' ⟨t.S5,R1 (S4 t.B0 k).2 k r,ws⟩:=by
 refine⟨u9 (Np h.U1 k),λj r' a c=>?_,?_,λx b=>?_,h.S5⟩
 ·have a:K0 (R1 (S4 t.B0 k).2 k r) j=some r':=a
  by_cases e:j=k
  ·subst e
   rw[G1]at a
   injection a with a
   subst a
   exact h0 c
  ·rw[Y0 e,XA e]at a
   exact(i j (h.Ih j r' a c)).resolve_left e
 ·have o:=Xs t.B0 k r
  have m:=h.sum
  show Kf (R1 (S4 t.B0 k).2 k r)<=n+d
  omega
 ·have b:x∈R1 (S4 t.B0 k).2 k r:=b
  rcases Sa b with rfl|b
  ·exact g
  ·rcases Tq b with b|rfl
   ·exact h.mem x b
   ·intro y f;cases f
theorem TS.on(h:TS n (k::S) t):TS n S (t.on k):=by
 obtain⟨m,i⟩:=OJ (S4 t.B0 k).1.R3.length (S4 t.B0 k).1
 obtain⟨r,g⟩:∃r,R5.on (S4 t.B0 k).1.R3.length (S4 t.B0 k).1=r:=⟨_,rfl⟩
 have o:(t.on k).S5=t.S5:=by unfold L3.on;rw[Me]
 have c:(t.on k).B0=if r.N4.length+r.R3.length=0 then U7 (S4 t.B0 k).2 k else R1 (S4 t.B0 k).2 k r:=by
  unfold L3.on
  rw[Me]
  simp only
  rw[g]
 have e:t.on k=⟨t.S5,if r.N4.length+r.R3.length=0 then U7 (S4 t.B0 k).2 k else R1 (S4 t.B0 k).2 k r,(t.on k).B5⟩:=by rw[<-c,<-o]
 rw[g]at m i
 rw[e]
 by_cases f:r.N4.length+r.R3.length=0
 ·rw[S1 f]
  refine⟨Kg (Np h.U1 k),λj r' b hzz=>?_,j9 (bo _ _) (by rw[cS];exact h.sum),λx a=>?_,h.S5⟩
  ·have b:K0 (U7 (S4 t.B0 k).2 k) j=some r':=b
   by_cases e:j=k
   ·subst e;rw[V8 (Np h.U1 j)]at b;cases b
   ·rw[C9 e,XA e]at b
    rcases Vk.1 (h.Ih j r' b hzz)with c|c
    ·exact absurd c e
    ·exact c
  ·rcases Tq (Qk a)with a|rfl
   ·exact h.mem x a
   ·intro y l;cases l
 ·rw[V0 f]
  exact h.UR (d:=0) (S':=S) (λx a=>Vk.1 a) (by unfold R5.sz;omega) (λx a=>h.Ag k x (i x a)) (λe=>absurd e f)
theorem TS.Fh(h:TS n S t)(tx:Int)(k:w4):TS n (k::S) (t.Fh tx k):=by rw[Bo];have c:=ee (S4 t.B0 k).1.N4 tx;have b:=ee (S4 t.B0 k).1.R3 tx;exact h.UR (d:=0) (λx a=> .inr (Ta _ a)) (by grind[R5.sz]) (λx a=>h.Ag k x (Bi a)) (λ_=>Ka ..)
theorem TS.Oh(tx:Int):∀(l:List w4){S:List w4}{t:L3},TS n S t->TS n (l++S) (Oh tx l t)
 |[],_,_,h=>h
 |k::l,S,t,h=>(TS.Oh tx l (h.Fh tx k)).sub λx a=>Zb1
theorem TS.NJ:∀(l:List w4){S:List w4}{t:L3},TS n (l++S) t->TS n S (NJ l t)
 |[],_,_,h=>h
 |_::l,S,_,h=>TS.NJ l (TS.on (S:=l++S) h)
theorem TS.free(h:TS n [] t)(tx:Int):TS n [] (t.free tx):=by grind[WM,TS.NJ,TS.Oh,B5]
theorem TS.Vq(h:TS n [] t)(tx:Int):TS n [] (t.Vq tx).2:=by
 cases b:K0 t.B5 tx with
 |none=>rw[Zs b];exact h
 |some k=>rw[Ys b];refine TS.on (S:=[]) (k:=k) ?_;have c:=ee (S4 t.B0 k).1.R3 tx;exact h.UR (d:=0) (S':=[k]) (λx a=>by cases a) (by simp_all[R5.sz]) (λx a=>h.Ag k x (Bi a)) (λ_=>Ka ..)
theorem uK(hs:List W5)(x:W5):1<=(Zc hs x).length:=by
 unfold Zc;split
 ·rename_i h;cases hs with
  |nil=>have h:(-1:Int)>=0:=h;omega
  |cons y l=>simp
 ·simp
theorem TS.ask(h:TS n [] t)(tx:Int)(k:w4)(b:Bool)(C0:Int):TS (n+1) [] (t.ask tx k b C0).2:=by
 have m:TS (n+1) [] t:=h.up (j' n);by_cases g:tx<1∨tx>1048576∨C0<0∨C0>1099511627776
 ·simp_all[L3.ask]
 by_cases f:t.N4 tx k=2∨(t.N4 tx k=1∧b=false)
 ·simp_all[L3.ask,if_neg]
 cases c:K0 t.B5 tx with
 |some l=>
  have e:t.ask tx k b C0=(if l=k then(17,t)else(13,t)):=by unfold L3.ask;rw[V0 g];simp only;rw[V0 f,c]
  grind
 |none=>
  obtain⟨x,i⟩:∃x:W5,⟨tx,b,C0,decide (t.N4 tx k=1)⟩=x:=⟨_,rfl⟩;have e:t.ask tx k b C0=(if Gv (S4 t.B0 k).1.N4 x=true∧((S4 t.B0 k).1.R3.length=0∨x.Oe=true)then(0,{t with B0:=R1 (S4 t.B0 k).2 k ⟨Zc (S4 t.B0 k).1.N4 x,(S4 t.B0 k).1.R3⟩})else(17,{t with B0:=R1 (S4 t.B0 k).2 k ⟨(S4 t.B0 k).1.N4,Lq (S4 t.B0 k).1.R3 x⟩,B5:=R1 t.B5 tx k})):=by unfold L3.ask;rw[V0 g];simp only;rw[V0 f,c];simp only[Me,FD,Hn,MC];subst i;rfl
  rw[e];split
  ·have j:=vo (S4 t.B0 k).1.N4 x;have o:=uK (S4 t.B0 k).1.N4 x;exact h.UR (d:=1) (S':=[]) (λy a=>by cases a) (by grind[R5.sz]) (λy a=>h.Ag k y a) (λe=>by simp_all[R5.sz])
  ·have j:=fh (x:=x) (Rs (S4 t.B0 k).1.R3 x);refine h.UR (d:=1) (S':=[]) (λy a=>by cases a) (by grind[R5.sz,Lq]) (λy a=>?_) (λe=>by simp_all[R5.sz,Lq]);have a:y∈sk (S4 t.B0 k).1.R3 (Zm (S4 t.B0 k).1.R3 x) x:=a;unfold sk at a;rcases rh.1 a with a|a
   ·rcases rh.1 a with a|a
    ·exact h.Ag k y (ME a)
    grind
   ·exact h.Ag k y (List.mem_of_mem_drop a)
theorem TS.asks(tx:Int):∀(l:List E2){n:Nat}{t:L3},TS n [] t->TS (n+l.length) [] (asks tx l t)
 |[],_,_,h=>h
 |p::l,n,t,h=>by have:=TS.asks tx l (h.ask tx p.key true 0);rw[ze,show n+(l.length+1)=n+1+l.length by omega];exact this
end
structure SS(n:Nat)(s:E1):Prop where
 big:64<=n
 N0:s.N0.length<=n
 S3:TS n [] s.S3
 H':s.G0.length<=8
 I3:∀x∈s.G0,x.2.I3.length<=16
section
variable{s:E1}
theorem SS.sb(h:SS n s):SB n s:=⟨h.N0,h.S3.tb,by have:=h.big;have:=h.H';omega,λx a=>by have:=h.big;have:=h.I3 x a;omega⟩
theorem SS.up(h:SS n s)(a:n<=m):SS m s:=⟨by have:=h.big;omega,by have:=h.N0;omega,h.S3.up a,h.H',h.I3⟩
theorem Cy:∀{q:List (Int×Nat×I7)}{k:Nat},(∀x∈q,x.2.2.I3.length<=k)->(r8 q).length<=k*q.length
 |[],_,_=>ye _
 |x::q,k,h=>by
  have b:=Cy (q:=q) (k:=k) λy a=>h y (Ta _ a);have d:=h x (Ka ..);unfold r8 at b⊢;rw[EC,j7,ze,Nat.mul_succ];have c:(Z2 x.2.2.I3).length=x.2.2.I3.length:=by exact FU
  omega
theorem SS.BK(h:SS n s):∀q:List (Int×Nat×I7),ks q=s.G0->(r8 q).length<=100000000:=by
 intro q a
 have c:∀x∈q,x.2.2.I3.length<=16:=λx b=>h.I3 (x.1,x.2.2) (by rw[<-a];exact oz (f:=λx:Int×Nat×I7=>(x.1,x.2.2)) b)
 have g:=Cy c
 have e:q.length=s.G0.length:=by rw[<-a];simp
 have d:=h.H'
 have:16*q.length<=16*8:=Nat.mul_le_mul_left _ (by omega)
 omega
theorem SS.set(h:SS n s){w w':I7}{l:L3}(b:K0 s.G0 tx=some w)(d:w'.I3.length<=16)(c:TS n [] l):SS n {s with G0:=R1 s.G0 tx w',S3:=l}:=by
 refine⟨h.big,h.N0,c,?_,λx a=>?_⟩
 ·show(R1 s.G0 tx w').length<=8
  rw[Z7 b]
  exact h.H'
 ·rcases Sa a with rfl|a
  ·exact d
  ·exact h.I3 x a
theorem SS.I1(h:SS n s)(tx:Int):SS n (s.I1 tx).2:=by
 unfold E1.I1;simp only;split
 ·rename_i h0;have b:s.G0.length<8:=by
   unfold E1.Um at h0;split at h0
   ·omega
   ·omega
  refine⟨h.big,h.N0,h.S3,?_,λx a=>?_⟩
  ·have:=qh (xs:=s.G0) (k:=tx) (v:=(⟨1,0,[]⟩:I7));grind
  ·rcases Sa a with rfl|a
   ·simp
   ·exact h.I3 x a
 ·exact h
theorem SS.qb(h:SS n s)(tx e:Int):SS n (s.qb tx e).2:=by
 unfold E1.qb;split
 ·exact h
 ·rename_i w a;split
  ·exact h
  ·exact h.set a (h.I3 _ (Q7 a)) (h.S3.Vq tx)
theorem SS.Dk:∀(l:List Int){s:E1},SS n s->SS n (Dk l s)
 |[],_,h=>h
 |tx::l,s,h=>SS.Dk l (s:=(s.qb tx 18).2) (h.qb tx 18)
theorem SS.Q9(h:SS n s)(C0:Int):SS n (s.Q9 C0).2:=SS.Dk _ h
theorem SS.K7(h:SS n s)(tx:Int)(c:n<=m){b:List E2}(d:b.length<=m):SS m (E1.K7 {s with N0:=b} tx):=by exact⟨by have:=h.big;omega,d,(h.S3.free tx).up c,j9 (us _ _) h.H',λx a=>h.I3 x (Qk a)⟩
theorem SS.Y4(h:SS n s)(tx:Int)(J0:BitVec 16):SS n (s.Y4 tx J0).2.2.2∧(s.Y4 tx J0).2.1.length<=17:=by
 have c:SS n (s.K7 tx):=h.K7 tx (V7 n) h.N0;unfold E1.Y4;split
 ·simp[*]
 ·rename_i w a;split
  ·simp[*]
  ·split
   ·simp[*]
   ·split
    ·simp[*]
    ·split
     ·simp[*]
     ·have b:=h.I3 _ (Q7 a);refine⟨h.set a b h.S3,?_⟩;show(Mi w.I3 tx s.N0++_).length<=17;have d:(Z2 w.I3).length=w.I3.length:=by exact FU
      simp_all[Mi]
theorem AP(l:List E2):(gc l).length<=l.length:=by unfold gc;refine j9 (Rh _ _) (j9 (Ig _ _ (V7 _)) ?_);rw[(H5 _).length_eq,jL];omega
theorem SS.xe(h:SS n s)(tx:Int)(b:Bool):SS (n+16) (s.xe tx b).2:=by
 unfold E1.xe;split
 ·grind[up]
 ·rename_i w c;split
  ·grind[up]
  ·have a:=h.I3 _ (Q7 c);have a:w.I3.length<=16:=a;have d:=h.N0;cases b with
   |false=>exact(h.K7 tx (V7 n) h.N0).up m4
   |true=>
    refine h.K7 tx m4 ?_;unfold Nn;refine j9 (AP _) ?_;have e:(Z2 w.I3).length=w.I3.length:=by exact FU
    grind
theorem mD{d:C6}(h:d.length<=16)(k:w4)(v:Ba):(C6.put d k v).2.length<=16:=by
 unfold C6.put;split
 ·exact h
 ·split
  ·exact h
  ·rename_i b;cases a:K0 d k with
   |some u=>simp_all[Z7]
   |none=>grind[qh]
theorem SS.Yg(h:SS n s){w:I7}(a:K0 s.G0 tx=some w)(k:w4)(v:Ba):SS n (s.Yg tx w k v).2:=by
 unfold E1.Yg;split
 ·exact h
 ·exact h.set a (mD (h.I3 _ (Q7 a)) k v) h.S3
theorem SS.t7(h:SS n s)(op:Op)(C0:Int):SS (n+1) (s.t7 op C0).2:=by
 have a:SS (n+1) s:=h.up (j' n)
 cases b:K0 s.G0 op.tx with
 |none=>
  unfold E1.t7
  rw[b]
  exact a
 |some w=>
  have c:SS (n+1) {s with S3:=(s.S3.ask op.tx op.key (decide (¬op.W0=1)) C0).2}:=⟨a.big,a.N0,h.S3.ask _ _ _ _,a.H',a.I3⟩
  unfold E1.t7
  rw[b]
  simp only
  split
  ·exact a
  ·split
   ·exact a.qb _ _
   ·split
    ·exact c
    ·split
     ·exact c
     ·exact(c.Yg b _ _).qb _ _
theorem Ln:∀(l:List E2){d a:C6}{o:Option w4},d.length<=16->i' l d o=some a->a.length<=16
 |[],d,a,o,h,e=>by simp_all[i']
 |p::l,d,a,o,h,e=>by
  unfold i' at e;simp only at e;cases o with
  |none=>
   simp only at e;by_cases g:¬(C6.put d p.key p.val).1=0∨false=true
   ·simp_all
   ·rw[V0 g]at e;exact Ln l (mD h _ _) e
  |some k=>
   simp only at e;by_cases g:¬(C6.put d p.key p.val).1=0∨decide (k.cmp p.key>=0)=true
   ·grind
   ·rw[V0 g]at e;exact Ln l (mD h _ _) e
theorem SS.i7(h:SS n s)(tx:Int)(P0:List E2):SS (n+P0.length) (s.i7 tx P0).2∧((s.i7 tx P0).1=0->(s.i7 tx P0).2.G0.length=s.G0.length+1)∧(¬(s.i7 tx P0).1=0->(s.i7 tx P0).2=s):=by
 have g:SS (n+P0.length) s:=h.up (aL _ _);unfold E1.i7;simp only;split
 ·simp[*]
 ·rename_i h0;have h0:s.Um tx=0:=by simpa using h0
  have f:s.G0.length<8∧K0 s.G0 tx=none:=by
   unfold E1.Um at h0;split at h0
   ·omega
   ·split at h0
    ·omega
    ·rename_i i;split at h0
     ·omega
     ·refine⟨m4,?_⟩;simp_all
  split
  ·simp[*]
  ·rename_i d a;split
   ·simp[*]
   ·split
    ·simp[*]
    ·have a:d.length<=16:=by
      by_cases c:P0=[]
      ·simp_all
      ·rw[V0 c]at a;exact Ln P0 (ye _) a
     have hs:=Gc (v:=(⟨3,0,d⟩:I7)) f.2;refine⟨⟨by have:=h.big;omega,j9 h.N0 (aL _ _),TS.asks tx P0 h.S3,?_,λx b=>?_⟩,λ_=>?_,λe=>absurd O e⟩
     ·grind
     ·rcases Sa b with rfl|b
      ·exact a
      ·exact h.I3 x b
     simp[*]
theorem SS.new{R0:Int}(h:E1.new R0 N0=some s):SS 64 s∧s.G0=[]:=by
 unfold E1.new at h;split at h
 ·cases h
 ·simp only at h;split at h
  ·cases h
  ·injection h with h;subst h;exact⟨⟨V7 _,Zb1,⟨eu,λk r e=>(by cases e),ye _,λx a=>(by cases a),Zb1⟩,ye _,λx a=>(by cases a)⟩,rfl⟩
end
theorem LZ{e:Type}{l:List e}(h:l.length=4):∃a b c d,l=[a,b,c,d]:=by
 match l,h with
 |[a,b,c,d],_=>simp
def n4(n:Int):List B:=U5 (BitVec.ofInt 64 n) 4
abbrev Ui(n:Int):Prop:=0<=n∧n<4294967296
theorem vx{n:Int}(h:Ui n):(BitVec.ofInt 64 n).toNat<2^(8*4):=by unfold Ui at h;rw[OE];omega
theorem Vp{n:Int}(h:Ui n):(n4 n).length=4:=Sc (vx h)
theorem BS{n:Int}(h:Ui n):p7 (n4 n)=n:=by unfold p7 n4;rw[Nq m4 (vx h),bL];grind
theorem TJ{n:Int}(h:Ui n):((n4 n).getD 0 0#8).toNat=(n%256).toNat:=by unfold n4;rw[Ss (vx h)];show((BitVec.ofInt 64 n).setWidth 8).toNat=_;rw[CC,OE];omega
theorem lB:∀a b:List B,a.length=b.length->Kh a=Kh b->a=b
 |[],[],_,_=>rfl
 |[],y::b,h,_=>by simp at h
 |x::a,[],h,_=>by simp at h
 |x::a,y::b,h,e=>by
  simp only[Kh]at e;have g:=x.isLt;have f:=y.isLt;have d:x=y:=Sh m4;have c:Kh a=Kh b:=m4
  rw[d,lB a b (by simpa using h) c]
theorem uD{a:List B}(h:a.length=4):p7 a=Kh a:=by unfold p7;have c:=Yn a m4;have b:=nk a;grind
theorem qW{a b:List B}(d:a.length=4)(c:b.length=4)(h:p7 a=p7 b):a=b:=by grind[uD,lB]
theorem rD(l:List B):Vc (Rf l)=some l:=by unfold Vc Rf;have a:(Mf (Td l)).length=3:=rfl;simp[*]
theorem qD{l x:List B}(h:Vc l=some x):x=l.take (l.length-3):=by simp_all[Vc]
def T6.Fj(s:T6):B:=BitVec.ofNat 8 s.data.length|||(if s.Fc then 128#8 else 0#8)
def T6.head(s:T6):List B:=U5 (BitVec.ofInt 64 s.num) 4++U5 (BitVec.ofInt 64 s.first) 4++[s.Fj]++s.data
structure Xe(s:T6):Prop where
 num:Ui s.num
 first:Ui s.first
 len:s.data.length<=16
theorem aeu:∀(n:Fin 17)(b:Bool),((BitVec.ofNat 8 n.val|||(if b then 128#8 else 0#8))&&& ~~~128#8).toNat=n.val∧decide (¬(BitVec.ofNat 8 n.val|||(if b then 128#8 else 0#8))&&&128#8=0#8)=b:=Zb4
theorem T6.MT{s:T6}(h:s.data.length<=16):(s.Fj&&& ~~~128#8).toNat=s.data.length∧decide (¬s.Fj&&&128#8=0#8)=s.Fc:=aeu ⟨s.data.length,m4⟩ s.Fc
theorem uS{body t:List B}(h25:body.length=25)(a:t.length=4)(e:p7 (body.take 4)=p7 t)(n:Nat)(f:((body.getD 8 0#8)&&& ~~~128#8).toNat=n)(h16:n<=16)(d:(body.drop (9+n)).any (λc=>decide (¬c=0#8))=false):I8 (Rf body++t)=some ⟨p7 (body.take 4),p7 ((body.take 8).drop 4),decide (¬body.getD 8 0#8&&&128#8=0#8),(body.take (9+n)).drop 9⟩:=by
 have b:(Rf body++t).length-4=(Rf body).length:=by rw[j7,a];omega
 unfold I8;simp only;rw[b,vz O,lV O,rD];grind
theorem T6.Vr{s:T6}(h:Xe s):s.bytes=Rf (s.head++List.replicate (16-s.data.length) 0#8)++n4 s.num:=by
 have a:(s.head).take 4=n4 s.num:=by unfold T6.head;rw[N',N'];exact vz (Vp h.num)
 rw[<-a];rfl
theorem Lw(l:List B):(Rf l).length=l.length+3:=by unfold Rf;rw[j7];rfl
theorem T6.ur{s:T6}(h:Xe s):s.head.length=9+s.data.length:=by have b:=Vp h.num;have a:=Vp h.first;grind[n4,T6.head]
theorem T6.Kk{s:T6}(h:Xe s):s.bytes.length=32:=by grind[T6.Vr,Lw,T6.ur,Vp,Xe.num,Xe.len]
theorem Iu{s:T6}(h:Xe s):I8 s.bytes=some s:=by
 have d:=h.len;obtain⟨i,a1,a2,a3,b⟩:=LZ (Vp h.num);obtain⟨g,b1,b2,f,c⟩:=LZ (Vp h.first);have a:s.head++List.replicate (16-s.data.length) 0#8=i::a1::a2::a3::g::b1::b2::f::s.Fj::(s.data++List.replicate (16-s.data.length) 0#8):=by unfold T6.head;unfold n4 at b c;rw[b,c];rfl
 obtain⟨f1,f2⟩:=T6.MT d;have l:(s.head++List.replicate (16-s.data.length) 0#8).length=25:=by rw[j7,T6.ur h,nz];omega
 rw[T6.Vr h,b];have e:(s.head++List.replicate (16-s.data.length) 0#8).take 4=[i,a1,a2,a3]:=by rw[a];rfl
 have k:((s.head++List.replicate (16-s.data.length) 0#8).take 8).drop 4=[g,b1,b2,f]:=by rw[a];rfl
 have j:(s.head++List.replicate (16-s.data.length) 0#8).getD 8 0#8=s.Fj:=by rw[a];rfl
 have m:∀n,(s.head++List.replicate (16-s.data.length) 0#8).drop (9+n)=(s.data++List.replicate (16-s.data.length) 0#8).drop n:=by intro n;rw[a,mE];rfl
 have et:((s.head++List.replicate (16-s.data.length) 0#8).take (9+s.data.length)).drop 9=s.data:=by rw[a,mE];show(s.data++List.replicate (16-s.data.length) 0#8).take s.data.length=s.data;exact vz O
 rw[uS l O (by rw[e]) s.data.length Zb1 d Zb7,e,k,j,et,f2,<-b,<-c,BS h.num,BS h.first]
theorem ot{c:List B}{s:T6}(a:c.length=32)(h:I8 c=some s):c.take 4=c.drop 28∧s.num=p7 (c.take 4):=by
 unfold I8 at h;simp only[a]at h;split at h
 ·cases h
 rename_i x e;have g:=qD e;have d:x.take 4=c.take 4:=by rw[g,fu,fu];congr 1;simp[a]
 split at h
 ·cases h
 rename_i b;split at h
 ·cases h
 injection h with h;subst h;rw[d];refine⟨?_,rfl⟩;rw[d]at b;exact qW (by simp[a]) (by simp[a]) (Hs λf=>b (.inr f))
structure AI(c:oa)(a:Int):Prop where
 aiK:∀s,I8 c.1=some s->s.num<a
 tail:Ui a->¬c.1.drop 28=n4 a
 low:Ui a->c.1.getD 28 0#8=(n4 a).getD 0 0#8->c.1.take 4=n4 a
theorem CD{l:List B}(h:l.length=32):(Z' l).1=l:=by unfold Z';rw[dif_pos h]
theorem YR{s:T6}(h:Xe s):s.bytes.take 4=n4 s.num:=by rw[T6.Vr h];unfold Rf T6.head;rw[N',N',N',N',N'];exact vz (Vp h.num)
theorem Kw{s:T6}(h:Xe s):s.bytes.drop 28=n4 s.num:=by grind[T6.Vr,List.drop_left',Lw,T6.ur,Xe.len]
theorem getD_drop{l:List B}(n:Nat):l.getD n 0#8=(l.drop n).getD 0 0#8:=Zb3
theorem ZS{s:T6}(h:Xe s){a:Int}(f:s.num<a)(i:a-s.num<256):AI (Z' s.bytes) a:=by
 have g:=CD (T6.Kk h);have b:=h.num;have j:Ui a->¬(n4 s.num).getD 0 0#8=(n4 a).getD 0 0#8:=by intro c e;have d:=V4 BitVec.toNat e;rw[TJ b,TJ c]at d;unfold Ui at c b;omega
 refine⟨?_,?_,?_⟩
 ·simp_all[Iu]
 ·grind[Kw]
 grind[Kw]
theorem WO{a:Int}(g:1<=a)(f:a<256):AI kc a:=by
 have d:Ui a:=⟨m4,m4⟩;have c:¬(0#8)=(n4 a).getD 0 0#8:=by intro e;have b:=V4 BitVec.toNat e;rw[TJ d]at b;simp at b;omega
 refine⟨?_,?_,?_⟩
 ·intro s hs;obtain⟨_,h⟩:=ot Zb4 hs;rw[h];have:p7 (kc.1.take 4)=0:=Zb4
  omega
 ·intro _ e;exact c (by rw[<-e];rfl)
 ·intro _ e;exact absurd e c
theorem XO{c new:oa}{a:Int}(p:AI c a)(t:Ui a)(f:new.1.take 4=n4 a)(q:new.1.drop 28=n4 a)(n:Nat)(r:n<=31):pa c new n=new∨AI (pa c new n) a:=by
 have j:=c.2;have b:=new.2;have i:(new.1.take n++c.1.drop n).length=32:=by simp[j,b];omega
 have d:(pa c new n).1=new.1.take n++c.1.drop n:=CD i;by_cases h0:n=0
 ·grind
 by_cases h28:n<=28
 ·right;have o:(pa c new n).1.drop 28=c.1.drop 28:=by rw[d,List.drop_append,Ga,b,Ue m4,du,Dz Zb5];simp;congr 1;omega
  have s:(pa c new n).1.getD 0 0#8=(n4 a).getD 0 0#8:=by
   rw[d,<-f];obtain⟨m,rfl⟩:∃m,n=m+1:=⟨n-1,m4⟩;cases hnl:new.1 with
   |nil=>simp_all
   |cons x l=>rfl
  have u:c.1.take 4=n4 a->(pa c new n).1.take 4=n4 a:=by
   intro e;by_cases g:4<=n
   ·grind
   ·grind[List.take_append_drop]
  refine⟨?_,?_,?_⟩
  ·grind[ot,AI.low,AI.tail,getD_drop]
  ·rw[o];exact p.tail
  grind[AI.low]
 ·have g:(pa c new n).1.take 4=n4 a:=by
   rw[d,List.take_append,fu,Ga,b,Ue m4,Ue m4,f];have:4-n=0:=m4
   rw[this];simp
  by_cases k:(pa c new n).1.drop 28=n4 a
  ·left;apply Subtype.ext;have e28:(pa c new n).1.take 28=new.1.take 28:=by
    rw[d,List.take_append,fu,Ga,b,Ue m4,Ue m4];have:28-n=0:=m4
    rw[this];simp
   grind[List.take_append_drop]
  ·right;refine⟨?_,λ_=>k,λ_ _=>g⟩;grind[ot]
end Go.Proofs.YtaaihojmcfaejaaGreatDoor
