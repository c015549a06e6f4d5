/- Lemmas for the tops: the walk of the house and its laws. No condition is added. -/
import Derived.Test.YtaaihojmcfaejaaGreatDoorVb
import Derived.Test.YtaaihojmcfaejaaGreatDoorQbc
set_option linter.all false
namespace Go.Proofs.YtaaihojmcfaejaaGreatDoor
open Go Go.RowKit Tryz
section
variable{P P':zf}{me:Int}{o:Option d4}{d:U2}
theorem Ua.N0{p:d4}(hs:Ua P me (some p) d):∃l S0,I' d=some (l,S0)∧(P6 S0).N0=p.U1.N0∧ia p.U1.N0∧(∀q∈p.U1.N0,q.val.K3=true)∧Qo p.U1:=by obtain⟨b,_⟩:=hs;obtain⟨⟨S0,a,e⟩,c⟩:=b ⟨⟨0,0,0⟩,⟨0#64,[]⟩,[],0#64,[]⟩;exact⟨p.X9,S0,a.X9.Y9,a.tie.N0,a.tie.Br,a.tie.K3,a.tie.ok⟩
end
section
variable{h:I0}
theorem Inv.aoL(b:Inv (G6 h) h)(ev:Ev)(n:ev.W0=2){p:d4}(h0:0<=ev.N3∧ev.N3<h.D0.A0)(hp:h.G5 ev.N3=some p):(aom h ev.N3).2.2=true∧
  ((h.da ev).1.Ge=0->ev.op.W0=1->(h.da ev).1.val=aop (aou (aom h ev.N3).1 (p.U1.rc (h.P2.of ev.Z3 h.C0).1)) ev.op.key)∧(¬(h.da ev).1.Ge=0->(h.da ev).1.val=X0):=by
 have u:=b.D0;have t:=b.Qa;obtain⟨m,k⟩:∃m:Nat,ev.N3=m:=⟨ev.N3.toNat,m4⟩;have o:(m:Int)<(G6 h).A0:=by show(m:Int)<h.D0.A0;omega
 have g:=b.E0 m o;rw[<-k,hp]at g;obtain⟨l,S0,b1,b2,s,q,b5⟩:=g.N0;have aoJ:(aom h ev.N3).2.2=true∧(aom h ev.N3).1=p.U1.N0:=by unfold aom Xj;rw[V0 m4,b1];exact⟨rfl,b2⟩
 rw[aoJ.2];have i:h.di ev=h.op ev:=by unfold I0.di;rw[V0 m4,S1 n]
 have d:(h.da ev).1.Ge=(h.op ev).1.Ge∧(h.da ev).1.val=(h.op ev).1.val:=by unfold I0.da;rw[i];exact⟨rfl,rfl⟩
 rw[d.1,d.2];refine⟨aoJ.1,?_⟩;unfold I0.op;rw[V0 m4];simp only;by_cases a:(h.P2.Um ev.Z3 ev.N3 h.C0).2=0
 ·rw[V0 m4,hp];simp only;have hof:(h.P2.Um ev.Z3 ev.N3 h.C0).1=(h.P2.of ev.Z3 h.C0).1:=by
   unfold E9.Um at a⊢;simp only at a⊢;split at a
   ·omega
   split at a
   ·omega
   split at a
   ·omega
   rename_i a1 a2 a3;rw[V0 a1,V0 a2,V0 a3]
  rw[hof];generalize(h.P2.of ev.Z3 h.C0).1=T;unfold d4.t7;split
  ·simp
  split
  ·simp
  split
  ·simp
  simp only;unfold E1.t7;cases c:K0 p.U1.G0 T with
  |none=>grind[wa]
  |some w=>
   simp only;split
   ·simp[*]
   split
   ·simp[*]
   generalize p.U1.S3.ask T ev.op.key (decide (¬ev.op.W0=1)) h.C0=x;split
   ·simp[*]
   split
   ·refine⟨λ_ _=>?_,λe=>absurd O e⟩;have r:p.U1.rc T=Z2 w.I3:=by unfold E1.rc;rw[c]
    rw[r];have f:=b5.I3 T w c;show E1.ajR {p.U1 with S3:=x.2} w ev.op.key=_;rw[show E1.ajR {p.U1 with S3:=x.2} w ev.op.key=p.U1.ajR w ev.op.key from rfl];exact(aoK q f.1 (λy j=>(f.2 y j).2)).symm
   simp[*]
 ·rw[S1 a];exact⟨λe=>absurd e a,λ_=>rfl⟩
end
end Go.Proofs.YtaaihojmcfaejaaGreatDoor
