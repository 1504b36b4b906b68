/- Which entries are right. -/
import Derived.Test.YtblcklaeejienaaGreatP367a94798
set_option linter.defProp false
set_option linter.unusedSectionVars false
set_option linter.unusedSimpArgs false
set_option linter.unusedVariables false
namespace Go.CP
open Go
variable [Fuel]
def eB(c:aN)(e:aP):Prop:=0<=e.aI/\e.aI<(c.aH.length:Int)
def fG(c:aN)(e:aP):Prop:=0<=e.aK/\e.aK<(c.aJ.length:Int)
def oN(e:aP):Prop:=e.dx= -1
def eN(e:aP):Prop:=e.bN=0/\e.From=0/\e.bV=0
def ig(c:aN)(e:aP):Prop:=0<=e.N/\e.N<(c.fD.length:Int)
inductive qz(c:aN)(e:aP):Prop
 |place (k:e.aM=1) (t:eB c e) (ce:fG c e) (o: -1<=e.dx/\e.dx<(c.aJ.length:Int)/\e.dx≠e.aK) (w:eN e) (n:e.N=0)
 |grant (k:e.aM=2) (t:eB c e) (ce:fG c e) (o:oN e) (ep:1<=e.bN/\e.bN<=1048576) (w:0<=e.From/\e.From<=1073741824/\0<=e.bV/\e.bV<=1073741824) (n:ig c e)
 |cut (k:e.aM=3) (t:eB c e) (ce:e.aK= -1) (o:oN e) (ep:1<=e.bN/\e.bN<=1048576) (w:e.From=0/\e.bV=0) (n:e.N=0)
 |jF (k:e.aM=4) (t:eB c e) (ce: -1<=e.aK/\e.aK<(c.aJ.length:Int)) (o:oN e) (w:eN e) (n:e.N=0)
 |ready (k:e.aM=5) (t:eB c e) (ce:fG c e) (o:oN e) (w:eN e) (n:e.N=0)
 |migrate (k:e.aM=6) (t:eB c e) (ce:fG c e) (o:oN e) (w:eN e) (n:e.N=0)
 |abandon (k:e.aM=7) (t:eB c e) (ce:e.aK= -1) (o:oN e) (w:eN e) (n:e.N=0)
 |shed (k:e.aM=8) (t:eB c e) (ce:e.aK= -1) (o:oN e) (w:eN e) (n:e.N=0\/e.N=1)
 |mode (k:e.aM=9) (t:e.aI= -1) (ce:fG c e) (o:oN e) (w:eN e) (n:1<=e.N/\e.N<=3)
 |want (k:e.aM=10) (t:e.aI= -1) (ce:fG c e) (o:oN e) (w:eN e) (n:ig c e)
 |runs (k:e.aM=11) (t:e.aI= -1) (ce:fG c e) (o:oN e) (w:eN e) (n:ig c e)
 |prove (k:e.aM=12) (t:e.aI= -1) (ce:e.aK= -1) (o:oN e) (w:eN e) (n:ig c e)
 |lD (k:e.aM=13) (t:e.aI= -1) (ce:e.aK= -1) (o:0<=e.dx/\e.dx<c.gH) (w:eN e) (n:e.N=0\/e.N=1)
 |expand (k:e.aM=14) (t:e.aI= -1) (ce:e.aK= -1) (o:oN e) (w:eN e) (n:e.N=0)
 |contract (k:e.aM=15) (t:e.aI= -1) (ce:e.aK= -1) (o:oN e) (w:eN e) (n:e.N=0)
 |note (k:e.aM=16) (t:e.aI= -1) (ce:e.aK= -1) (o:oN e) (w:eN e) (n:0<=e.N/\e.N<=1073741824)
def abE(c:aN)(e:aP):Prop:=(0<=e.bf/\e.bf<=1073741824)/\qz c e
section
variable {c:aN} {e:aP}
def aM7(k:Int):List Int:=([[],[116,99,111],[116,99,101,119,118],[116,101],[116,67],[116,99],[116,99],[116],[116,98],[99,109],[99,118],[99,118],[118],[114,98],[],[],[110]]:List (List Int)).getD k.toNat []
def jP(k b:Int):Bool:=(aM7 k).contains b
theorem arj{k:Int}(h:1<=k/\k<=16):k=1\/k=2\/k=3\/k=4\/k=5\/k=6\/k=7\/k=8\/k=9\/k=10\/k=11\/k=12\/k=13\/k=14\/k=15\/k=16:=ah
theorem aKO{k b:Int}{r:Option Bool}(h:((ahh k).bind λx=>Zz b x 18446744073709551616 0)=r):rJ k b=r:=by unfold rJ;rw[iK];exact h
theorem Cm{k:Int}(h:1<=k/\k<=16){b:Int}(hb:b=116\/b=99\/b=67\/b=111\/b=114\/b=101\/b=119\/b=118\/b=98\/b=109\/b=110):rJ k b=some (jP k b):=by rcases arj h with rfl|rfl|rfl|rfl|rfl|rfl|rfl|rfl|rfl|rfl|rfl|rfl|rfl|rfl|rfl|rfl<;>rcases hb with rfl|rfl|rfl|rfl|rfl|rfl|rfl|rfl|rfl|rfl|rfl<;>exact aKO rfl
def rY(x a b:Int):Bool:=decide (a<=x)&&decide (x<=b)
theorem auD(x a b:Int):wH x a b=some (rY x a b):=rfl
def Xy(c:aN)(e:aP)(t g G o r:Bool):Bool:=
 !(!(t==(e.aI !=(-1)))||(t&& !rY e.aI 0 ((c.aH.length:Int)-1)))&& !(g&& !rY e.aK 0 ((c.aJ.length:Int)-1))&& !(G&& !rY e.aK (-1) ((c.aJ.length:Int)-1))&& !((!g&& !G)&&(e.aK !=(-1)))
  && !(o&&(!rY e.dx (-1) ((c.aJ.length:Int)-1)||(e.dx==e.aK)))&& !(r&& !rY e.dx 0 (c.gH-1))&& !((!o&& !r)&&(e.dx !=(-1)))
def lastB(c:aN)(e:aP)(v b m n:Bool):Bool:=bif v then rY e.N 0 ((c.fD.length:Int)-1)else bif b then rY e.N 0 1 else bif m then rY e.N 1 3 else bif n then rY e.N 0 1073741824 else(e.N==0)
def nuB(c:aN)(e:aP)(p w v b m n:Bool):Bool:=
 !(p&& !rY e.bN 1 1048576)&& !(!p&&(e.bN !=0))&& !(w&&(!rY e.From 0 1073741824|| !rY e.bV 0 1073741824))&& !(!w&&((e.From !=0)||(e.bV !=0)))&&lastB c e v b m n
def uN(c:aN)(e:aP)(t g G o r p w v b m n:Bool):Bool:=Xy c e t g G o r&&nuB c e p w v b m n
theorem aJ9(h:VC c)(hk:1<=e.aM/\e.aM<=16):OL e (c.aH.length:Int) (c.aJ.length:Int) c.gH=some (Xy c e (jP e.aM 116) (jP e.aM 99) (jP e.aM 67) (jP e.aM 111) (jP e.aM 114)):=by have htl:=h.tl;have hcl:=h.cl;have nX:=h.reg;unfold OL Tx Tw Xy;rw[bL (x:=(c.aH.length:Int)-1) ah ah,bL (x:=(c.aJ.length:Int)-1) ah ah,bL (x:=c.gH-1) ah ah];rw[Cm hk (b:=116) aj,Cm hk (b:=99) aj,Cm hk (b:=67) aj,Cm hk (b:=111) aj,Cm hk (b:=114) aj];simp only[auD];generalize jP e.aM 116=f1;generalize jP e.aM 99=f2;generalize jP e.aM 67=f3;generalize jP e.aM 111=f4;generalize jP e.aM 114=f5;generalize (e.aI !=(-1))=a0;generalize rY e.aI 0 ((c.aH.length:Int)-1)=a1;generalize rY e.aK 0 ((c.aJ.length:Int)-1)=a2;generalize rY e.aK (-1) ((c.aJ.length:Int)-1)=a3;generalize (e.aK !=(-1))=a4;generalize rY e.dx (-1) ((c.aJ.length:Int)-1)=a5;generalize (e.dx==e.aK)=a6;generalize rY e.dx 0 (c.gH-1)=a7;generalize (e.dx !=(-1))=a8;revert f1 f2 f3 f4 f5 a0 a1 a2 a3 a4 a5 a6 a7 a8;decide+kernel
theorem aJf(h:VC c)(hk:1<=e.aM/\e.aM<=16):OC e (c.fD.length:Int)=some (nuB c e (jP e.aM 101) (jP e.aM 119) (jP e.aM 118) (jP e.aM 98) (jP e.aM 109) (jP e.aM 110)):=by
 have hvl:=h.vl;have k1:∀x:Bool,Tg e (c.fD.length:Int) e.aM x=some (!x&&lastB c e (jP e.aM 118) (jP e.aM 98) (jP e.aM 109) (jP e.aM 110)):=by intro x;unfold Tg lastB;rw[bL (x:=(c.fD.length:Int)-1) ah ah];rw[Cm hk (b:=118) aj,Cm hk (b:=98) aj,Cm hk (b:=109) aj,Cm hk (b:=110) aj];generalize jP e.aM 118=f1;generalize jP e.aM 98=f2;generalize jP e.aM 109=f3;generalize jP e.aM 110=f4;cases x<;>cases f1<;>cases f2<;>cases f3<;>cases f4<;>rfl
 unfold OC YL nuB;simp only[k1];rw[Cm hk (b:=101) aj,Cm hk (b:=119) aj];simp only[auD];generalize jP e.aM 101=f1;generalize jP e.aM 119=f2;generalize lastB c e (jP e.aM 118) (jP e.aM 98) (jP e.aM 109) (jP e.aM 110)=a0;generalize rY e.bN 1 1048576=a1;generalize (e.bN !=0)=a2;generalize rY e.From 0 1073741824=a3;generalize rY e.bV 0 1073741824=a4;generalize (e.From !=0)=a5;generalize (e.bV !=0)=a6;revert f1 f2 a0 a1 a2 a3 a4 a5 a6;decide+kernel
theorem tB(b:Bool):(true==b)=b:=by cases b<;>rfl
theorem fB(b:Bool):(false==b)= !b:=by cases b<;>rfl
theorem aKP:(e.aM=1->(uN c e true true false true false false false false false false false=true ↔ qz c e))∧
  (e.aM=2->(uN c e true true false false false true true true false false false=true ↔ qz c e))∧
  (e.aM=3->(uN c e true false false false false true false false false false false=true ↔ qz c e))∧
  (e.aM=4->(uN c e true false true false false false false false false false false=true ↔ qz c e))∧
  (e.aM=5->(uN c e true true false false false false false false false false false=true ↔ qz c e))∧
  (e.aM=6->(uN c e true true false false false false false false false false false=true ↔ qz c e))∧
  (e.aM=7->(uN c e true false false false false false false false false false false=true ↔ qz c e))∧
  (e.aM=8->(uN c e true false false false false false false false true false false=true ↔ qz c e))∧
  (e.aM=9->(uN c e false true false false false false false false false true false=true ↔ qz c e))∧
  (e.aM=10->(uN c e false true false false false false false true false false false=true ↔ qz c e))∧
  (e.aM=11->(uN c e false true false false false false false true false false false=true ↔ qz c e))∧
  (e.aM=12->(uN c e false false false false false false false true false false false=true ↔ qz c e))∧
  (e.aM=13->(uN c e false false false false true false false false true false false=true ↔ qz c e))∧
  (e.aM=14->(uN c e false false false false false false false false false false false=true ↔ qz c e))∧
  (e.aM=15->(uN c e false false false false false false false false false false false=true ↔ qz c e))∧
  (e.aM=16->(uN c e false false false false false false false false false false true=true ↔ qz c e)):=by
 refine⟨λhk=> ?_,λhk=> ?_,λhk=> ?_,λhk=> ?_,λhk=> ?_,λhk=> ?_,λhk=> ?_,λhk=> ?_,λhk=> ?_,λhk=> ?_,λhk=> ?_,λhk=> ?_,λhk=> ?_,λhk=> ?_,λhk=> ?_,λhk=> ?_⟩<;>unfold uN Xy nuB lastB rY<;>
  simp only[dD,oo,uL,yP,ne_eq,uE,rQ,Cc,kN,nC,Gt,gN,jG,pG,jZ,aY,aZ,ng,zY,tB,fB,sK,and_true]<;>constructor<;>intro q
 .refine .place hk ?_ ?_ ?_ ?_ ?_<;>first|(simp only[eB,fG,oN,eN,ig];omega)|omega
 .cases q<;>simp only[eB,fG,oN,eN,ig]at* <;>omega
 .refine .grant hk ?_ ?_ ?_ ?_ ?_ ?_<;>first|(simp only[eB,fG,oN,eN,ig];omega)|omega
 .cases q<;>simp only[eB,fG,oN,eN,ig]at* <;>omega
 .refine .cut hk ?_ ?_ ?_ ?_ ?_ ?_<;>first|(simp only[eB,fG,oN,eN,ig];omega)|omega
 .cases q<;>simp only[eB,fG,oN,eN,ig]at* <;>omega
 .refine .jF hk ?_ ?_ ?_ ?_ ?_<;>first|(simp only[eB,fG,oN,eN,ig];omega)|omega
 .cases q<;>simp only[eB,fG,oN,eN,ig]at* <;>omega
 .refine .ready hk ?_ ?_ ?_ ?_ ?_<;>first|(simp only[eB,fG,oN,eN,ig];omega)|omega
 .cases q<;>simp only[eB,fG,oN,eN,ig]at* <;>omega
 .refine .migrate hk ?_ ?_ ?_ ?_ ?_<;>first|(simp only[eB,fG,oN,eN,ig];omega)|omega
 .cases q<;>simp only[eB,fG,oN,eN,ig]at* <;>omega
 .refine .abandon hk ?_ ?_ ?_ ?_ ?_<;>first|(simp only[eB,fG,oN,eN,ig];omega)|omega
 .cases q<;>simp only[eB,fG,oN,eN,ig]at* <;>omega
 .refine .shed hk ?_ ?_ ?_ ?_ ?_<;>first|(simp only[eB,fG,oN,eN,ig];omega)|omega
 .cases q<;>simp only[eB,fG,oN,eN,ig]at* <;>omega
 .refine .mode hk ?_ ?_ ?_ ?_ ?_<;>first|(simp only[eB,fG,oN,eN,ig];omega)|omega
 .cases q<;>simp only[eB,fG,oN,eN,ig]at* <;>omega
 .refine .want hk ?_ ?_ ?_ ?_ ?_<;>first|(simp only[eB,fG,oN,eN,ig];omega)|omega
 .cases q<;>simp only[eB,fG,oN,eN,ig]at* <;>omega
 .refine .runs hk ?_ ?_ ?_ ?_ ?_<;>first|(simp only[eB,fG,oN,eN,ig];omega)|omega
 .cases q<;>simp only[eB,fG,oN,eN,ig]at* <;>omega
 .refine .prove hk ?_ ?_ ?_ ?_ ?_<;>first|(simp only[eB,fG,oN,eN,ig];omega)|omega
 .cases q<;>simp only[eB,fG,oN,eN,ig]at* <;>omega
 .refine .lD hk ?_ ?_ ?_ ?_ ?_<;>first|(simp only[eB,fG,oN,eN,ig];omega)|omega
 .cases q<;>simp only[eB,fG,oN,eN,ig]at* <;>omega
 .refine .expand hk ?_ ?_ ?_ ?_ ?_<;>first|(simp only[eB,fG,oN,eN,ig];omega)|omega
 .cases q<;>simp only[eB,fG,oN,eN,ig]at* <;>omega
 .refine .contract hk ?_ ?_ ?_ ?_ ?_<;>first|(simp only[eB,fG,oN,eN,ig];omega)|omega
 .cases q<;>simp only[eB,fG,oN,eN,ig]at* <;>omega
 .refine .note hk ?_ ?_ ?_ ?_ ?_<;>first|(simp only[eB,fG,oN,eN,ig];omega)|omega
 .cases q<;>simp only[eB,fG,oN,eN,ig]at* <;>omega
theorem aJM(h:VC c)(hk:1<=e.aM/\e.aM<=16):∃b,(Option.bind (OL e (c.aH.length:Int) (c.aJ.length:Int) c.gH) λx8=>Option.bind (bif x8 then OC e (c.fD.length:Int)else some aG) λx9=>some (x8&&x9))=some b/\(b=true ↔ qz c e):=by
 rw[aJ9 h hk,aJf h hk];refine⟨uN c e (jP e.aM 116) (jP e.aM 99) (jP e.aM 67) (jP e.aM 111) (jP e.aM 114) (jP e.aM 101) (jP e.aM 119) (jP e.aM 118) (jP e.aM 98) (jP e.aM 109) (jP e.aM 110),?_,?_⟩
 .unfold uN;rw[bD];cases Xy c e (jP e.aM 116) (jP e.aM 99) (jP e.aM 67) (jP e.aM 111) (jP e.aM 114)<;>rfl
 .obtain⟨h1,h2,h3,h4,h5,h6,h7,h8,h9,h10,h11,h12,h13,h14,h15,h16⟩:=aKP (c:=c) (e:=e);rcases arj hk with hk|hk|hk|hk|hk|hk|hk|hk|hk|hk|hk|hk|hk|hk|hk|hk<;>rw[hk]
  .exact h1 hk
  .exact h2 hk
  .exact h3 hk
  .exact h4 hk
  .exact h5 hk
  .exact h6 hk
  .exact h7 hk
  .exact h8 hk
  .exact h9 hk
  .exact h10 hk
  .exact h11 hk
  .exact h12 hk
  .exact h13 hk
  .exact h14 hk
  .exact h15 hk
  .exact h16 hk
theorem qz.range(h:qz c e):1<=e.aM/\e.aM<=16:=by cases h<;>omega
theorem aHk(h:VC c):∃b,OW c e=some b/\(b=true ↔ abE c e):=by
 have htl:=h.tl;have hcl:=h.cl;have hvl:=h.vl;have nX:=h.reg;have m1:je (c.aH.length:Int) 32=(c.aH.length:Int):=by unfold je;split<;>omega
 have m2:je (c.aJ.length:Int) 16=(c.aJ.length:Int):=by unfold je;split<;>omega
 have m3:je c.gH 4=c.gH:=by unfold je;split<;>omega
 have m4:je (c.fD.length:Int) 30=(c.fD.length:Int):=by unfold je;split<;>omega
 unfold OW agW wH;(try simp only[gF,bF])
 simp only[m1,m2,m3,m4,bD];by_cases hk:1<=e.aM/\e.aM<=16
 .have ek:(decide (1<=e.aM)&&decide (e.aM<=16))=true:=ay
  by_cases ht:0<=e.bf/\e.bf<=1073741824
  .have et:(decide (0<=e.bf)&&decide (e.bf<=1073741824))=true:=ay;obtain⟨b,hb,hiff⟩:=aJM h hk;simp only[ek,et,aY,kN,bD];refine⟨b,?_,by rw[hiff];exact⟨λq=>⟨ht,q⟩,λq=>q.2⟩⟩;generalize OL e (c.aH.length:Int) (c.aJ.length:Int) c.gH=A at hb⊢;rcases A with _|x;cases hb;simp only[bD]at hb⊢;rw[<-hb];cases x<;>cases OC e (c.fD.length:Int)<;>rfl
  .have et:(decide (0<=e.bf)&&decide (e.bf<=1073741824))=false:=ay;simp only[ek,et,aY,aZ,Gs,nC,bD];exact⟨false,rfl,λq=>Bool.noConfusion q,λq=>absurd q.1 ht⟩
 .have ek:(decide (1<=e.aM)&&decide (e.aM<=16))=false:=ay
  simp only[ek,aZ,nC,bD];exact⟨false,rfl,λq=>Bool.noConfusion q,λq=>absurd q.2.range hk⟩
end
def aki:aO:={bf:=0,eH:=0,aH:=[],aJ:=[],jT:=0,d9:=0,gP:=0,dL:=0}
def jf(e:Int):aO×Int:=(aki,e)
def nN(c:aN)(s:aO):aO×Int:=bif decide (0<(((qb c s).length:Nat):Int))then jf 10 else(s,0)
def aL(s:aO)(i:Int):bI:=s.aH.getD i.toNat aG
def bX(s:aO)(i:Int):gG:=s.aJ.getD i.toNat aG
def gX(s:aO)(i:Int)(t:bI):aO:={s with aH:=s.aH.set i.toNat t}
def uf(s:aO)(i:Int)(t:gG):aO:={s with aJ:=s.aJ.set i.toNat t}
def oG(c:aN)(s:aO)(i:Int):Bool:=hasB s.d9 (eF c i)
structure TS(c:aN)(x:bI):Prop where
 lW: -1<=x.bC/\x.bC<(c.aJ.length:Int)
 sb: -1<=x.aT/\x.aT<(c.aJ.length:Int)
 nx: -1<=x.Next/\x.Next<(c.aJ.length:Int)
 tg: -1<=x.dK/\x.dK<(c.aJ.length:Int)
 wc: -1<=x.dn.aK/\x.dn.aK<(c.aJ.length:Int)
 pl:x.dN=true->0<=x.bC
 sh:x.eX=true->x.dN=true
 ep:0<=x.bN/\x.bN<=1048576
 we:0<=x.dn.bN/\x.dn.bN<=1048576
 wv:0<=x.dn.qQ/\x.dn.qQ<(c.fD.length:Int)
 wf:0<=x.dn.From/\x.dn.From<=x.dn.bV/\x.dn.bV<=1073741824
structure CS(c:aN)(x:gG):Prop where
 mode:1<=x.gJ/\x.gJ<=3
 run:0<=x.fI/\x.fI<(c.fD.length:Int)
 wan:0<=x.iN/\x.iN<(c.fD.length:Int)
 sin:0<=x.p9/\x.p9<=1073741824
structure VS(c:aN)(s:aO):Prop where
 tl:s.aH.length=c.aH.length
 cl:s.aJ.length=c.aJ.length
 t:∀x∈s.aH,TS c x
 oK:∀x∈s.aJ,CS c x
 bZ:0<=s.bf/\s.bf<=1073741824
 cnt:0<=s.eH/\s.eH<=4096
 Bq:0<=s.jT/\s.jT<1073741824
 lD:0<=s.d9/\s.d9<8
 lh:0<=s.gP/\s.gP<=s.dL/\s.dL<=30
section
variable {α:Type} [Inhabited α]
theorem pV{xs:List α}{i:Nat}{a:α}(h:i<xs.length):(xs.set i a).getD i aG=a:=by simp[fC,h]
end
theorem PK{α:Type}{xs:List α}{i:Nat}{a:α}:(xs.set i a).length=xs.length:=oQ
theorem wW(e:Int):jM e=some (jf e):=rfl
theorem pU{α:Type}(b:Bool)(x y:α):(bif b then some x else some y)=some (bif b then x else y):=by cases b<;>rfl
theorem xq{α β:Type}(x:α×β):(x.1,x.2)=x:=rfl
section
variable {c:aN} {s:aO} {e:aP}
theorem aLM(h:VC c)(hl:s.aH.length=c.aH.length):Ga c s=some (nN c s):=by
 unfold Ga nN;(try simp only[gF,bF])
 rw[aIe h hl];simp only[bD];rw[<-pU];rfl
def Em(c:aN)(s:aO)(e:aP):aO×Int:=
 bif(aL s e.aI).dN then jf 4
 else bif((bX s e.aK).gJ !=1)||(decide (0<=e.dx)&&((bX s e.dx).gJ !=1))then jf 6
 else bif oG c s e.aK||(decide (0<=e.dx)&&oG c s e.dx)then jf 12
 else bif !oH c e.aI e.aK||(decide (0<=e.dx)&&(!oH c e.aI e.dx||kE c e.aK e.dx))then jf 11
 else nN c (gX s e.aI {aL s e.aI with dN:=true,bC:=e.aK,aT:=e.dx})
theorem nO(hv:VS c s)(ht:eB c e):0<=e.aI/\e.aI<(s.aH.length:Int):=by have:=hv.tl;unfold eB at ht;omega
theorem sQ(hv:VS c s)(ht:fG c e):0<=e.aK/\e.aK<(s.aJ.length:Int):=by have:=hv.cl;unfold fG at ht;omega
theorem PD(h:VC c)(hv:VS c s)(i:Nat)(t:bI):Ga c {s with aH:=s.aH.set i t}=some (nN c {s with aH:=s.aH.set i t}):=
 aLM h (by show(s.aH.set i t).length=_;rw[PK,hv.tl])
theorem ah6(h:VC c)(hv:VS c s)(ht:eB c e)(hc:fG c e)(ho: -1<=e.dx/\e.dx<(c.aJ.length:Int)):ZQ c s e=some (Em c s e):=by
 have h1:=nO hv ht;have h2:=sQ hv hc;have hcl:=hv.cl;have hn:e.aI.toNat<s.aH.length:=ah
 have h3:∀{b:Bool},(b&&decide (0<=e.dx))=true->0<=e.dx/\e.dx<(s.aJ.length:Int):=λq=>by simp only[dD,oo]at q;omega
 unfold ZQ Em oG aL bX gX;(try simp only[gF,bF])
 simp only[idx_eq h1,aY,bD,wW,xq,idx_eq h2,abP h3,ahG h hv.lD.1,U6 h,ahH h,pV hn,PK,tC,PD h hv,pU];cases decide (0<=e.dx)<;>cases oH c e.aI e.dx<;>cases oH c e.aI e.aK<;>cases hasB s.d9 (eF c e.aK)<;>rfl
def AJ(c:aN)(s:aO)(e:aP):Int:=
 let x4:=aL s e.aI
 let x5:=bX s e.aK
 bif((x5.gJ==3)||((x5.gJ==2)&&(!(e.aK==x4.bC))))then 6
 else bif((((e.aK==x4.bC)&&(e.bN !=x4.bN))&&(e.bN !=x4.bN+1))||((!(e.aK==x4.bC))&&(e.bN !=x4.bN+1)))then 7
 else bif((e.N !=x5.fI)||(x5.fI !=x5.iN))then 8
 else bif(((((decide (e.From<e.bf))||(decide (e.bf+c.iC<e.From)))||(decide (e.bV<=e.From)))||(decide (c.iC<e.bV-e.From)))||(decide (e.From<x4.dn.bV)))then 9
 else bif((!(e.aK==x4.bC))&&(decide (e.bf<x4.dn.bV)))then 9
 else 0
theorem wX(hv:VS c s){i:Int}(h:0<=i/\i<(s.aH.length:Int)):TS c (aL s i):=hv.t _ (jk)
theorem Wm(hv:VS c s){i:Int}(h:0<=i/\i<(s.aJ.length:Int)):CS c (bX s i):=hv.oK _ (jk)
theorem aH4(h:VC c)(hv:VS c s)(ht:eB c e)(hc:fG c e)(hk:0<=e.bf/\e.bf<=1073741824)(hw:0<=e.From/\e.From<=1073741824/\0<=e.bV/\e.bV<=1073741824):Zi c s e=some (AJ c s e):=by
 have h1:=nO hv ht;have h2:=sQ hv hc;have hle:=h.yg;have hT:=wX hv h1;have hep:=hT.ep;unfold aL at hep;unfold Zi AJ aL bX;(try simp only[gF,bF])
 rw[idx_eq h1,idx_eq h2];simp only[bD];rw[bL (x:=(s.aH.getD e.aI.toNat aG).bN+1) ah ah,bL (x:=e.bf+c.iC) ah ah,bL (x:=e.bV-e.From) ah ah];simp only[pU]
def uW(t:bI)(e:aP):bI:=
 let u:={t with dn:={aK:=e.aK,bN:=e.bN,qQ:=e.N,From:=e.From,bV:=e.bV:iD},bN:=e.bN}
 bif e.aK==t.bC then u
 else bif e.aK==t.aT then {u with bC:=e.aK,aT:= -1,Next:= -1,dK:= -1,eX:=false}
 else {u with bC:=e.aK,dK:= -1}
def AQ(c:aN)(s:aO)(e:aP):aO×Int:=
 let t:=aL s e.aI
 bif(!t.dN)||(t.eX&&(e.aK !=t.aT))then jf 4
 else bif((e.aK !=t.bC)&&(e.aK !=t.aT))&&(e.aK !=t.dK)then jf 5
 else bif AJ c s e !=0 then jf (AJ c s e)
 else nN c (gX s e.aI (uW t e))
theorem aJX(h:VC c)(hv:VS c s)(ht:eB c e)(hc:fG c e)(hk:0<=e.bf/\e.bf<=1073741824)(hw:0<=e.From/\e.From<=1073741824/\0<=e.bV/\e.bV<=1073741824):ZP c s e=some (AQ c s e):=by
 have h1:=nO hv ht;have hn:e.aI.toNat<s.aH.length:=ah
 unfold ZP TM AQ aL gX;(try simp only[gF,bF])
 simp only[idx_eq h1,aY,bD,wW,xq,aH4 h hv ht hc hk hw,pV hn,PK,tC,PD h hv,pU];unfold uW;cases (e.aK==(s.aH.getD e.aI.toNat aG).bC)<;>cases (e.aK==(s.aH.getD e.aI.toNat aG).aT)<;>rfl
def Ab(w:iD)(bZ:Int):iD:={w with From:=je w.From (je w.bV (bZ+1)),bV:=je w.bV (bZ+1)}
def EJ(s:aO)(e:aP):aO×Int:=
 let t:=aL s e.aI
 bif !t.dN then jf 4 else bif e.bN !=t.bN then jf 7 else(gX s e.aI {t with dn:=Ab t.dn e.bf},0)
theorem aLB(hv:VS c s)(ht:eB c e)(hk:0<=e.bf/\e.bf<=1073741824):aay s e=some (EJ s e):=by
 have h1:=nO hv ht;unfold aay ahF EJ aL gX Ab;(try simp only[gF,bF])
 rw[bL (x:=e.bf+1) ah ah];simp only[idx_eq h1,aY,bD,wW,xq,pU]
def D6(c:aN)(s:aO)(e:aP):aO×Int:=
 let t:=aL s e.aI
 let ok:=nN c (gX s e.aI {t with Next:=e.aK})
 bif !t.dN then jf 4
 else bif decide (e.aK<0)then ok
 else bif((e.aK==t.bC)||(e.aK==t.aT))||(e.aK==t.dK)then jf 5
 else bif(bX s e.aK).gJ !=1 then jf 6
 else bif oG c s e.aK then jf 12
 else bif(!oH c e.aI e.aK||kE c e.aK t.bC)||kE c e.aK t.dK then jf 11
 else ok
theorem aIG(h:VC c)(hv:VS c s)(ht:eB c e)(hc: -1<=e.aK/\e.aK<(c.aJ.length:Int)):Zk c s e=some (D6 c s e):=by
 have h1:=nO hv ht;have hcl:=hv.cl;unfold Zk YM D6 aL bX gX oG;(try simp only[gF,bF])
 by_cases h0:e.aK<0
 .rw[dU h0];simp only[idx_eq h1,aY,bD,wW,xq,PD h hv,pU]
 .have h2:0<=e.aK/\e.aK<(s.aJ.length:Int):=ah
  rw[fF h0];simp only[idx_eq h1,aY,aZ,bD,wW,xq,idx_eq h2,ahG h hv.lD.1,U6 h,ahH h,PD h hv,pU];cases oH c e.aI e.aK<;>cases kE c e.aK (s.aH.getD e.aI.toNat aG).bC<;>rfl
def Eo(s:aO)(e:aP):aO×Int:=
 let t:=aL s e.aI
 bif !t.dN then jf 4 else bif e.aK !=t.Next then jf 5 else bif(bX s e.aK).gJ==3 then jf 6
 else(gX s e.aI {t with aT:=e.aK,Next:= -1},0)
theorem ready_eq(hv:VS c s)(ht:eB c e)(hc:fG c e):ZT s e=some (Eo s e):=by
 have h1:=nO hv ht;have h2:=sQ hv hc;have hn:e.aI.toNat<s.aH.length:=ah
 unfold ZT Eo aL bX gX;(try simp only[gF,bF])
 simp only[idx_eq h1,aY,bD,wW,xq,idx_eq h2,pV hn,tC,pU]
def D5(c:aN)(s:aO)(e:aP):aO×Int:=
 let t:=aL s e.aI
 bif((!t.dN)||t.eX)||decide (0<=t.dK)then jf 4
 else bif((e.aK==t.bC)||(e.aK==t.aT))||(e.aK==t.Next)then jf 5
 else bif(bX s e.aK).gJ !=1 then jf 6
 else bif oG c s e.aK then jf 12
 else bif(!oH c e.aI e.aK||kE c e.aK t.aT)||kE c e.aK t.Next then jf 11
 else nN c (gX s e.aI {t with dK:=e.aK})
theorem aH7(h:VC c)(hv:VS c s)(ht:eB c e)(hc:fG c e):Zj c s e=some (D5 c s e):=by
 have h1:=nO hv ht;have h2:=sQ hv hc;unfold Zj D5 aL bX gX oG;(try simp only[gF,bF])
 simp only[idx_eq h1,aY,bD,wW,xq,idx_eq h2,ahG h hv.lD.1,U6 h,ahH h,PD h hv,pU];cases oH c e.aI e.aK<;>cases kE c e.aK (s.aH.getD e.aI.toNat aG).aT<;>rfl
def DY(s:aO)(e:aP):aO×Int:=
 let t:=aL s e.aI
 bif(!t.dN)||decide (t.dK<0)then jf 4 else(gX s e.aI {t with dK:= -1},0)
theorem aHS(hv:VS c s)(ht:eB c e):Zh s e=some (DY s e):=by
 have h1:=nO hv ht;unfold Zh DY aL gX;(try simp only[gF,bF])
 simp only[idx_eq h1,aY,bD,wW,xq,pU]
def EG(c:aN)(s:aO)(e:aP):aO×Int:=
 let t:=aL s e.aI
 bif e.N==1 then
  (bif(!t.dN)||t.eX then jf 4 else bif decide (e.bf<t.dn.bV)then jf 9 else(gX s e.aI {t with eX:=true,dK:= -1},0))
 else bif !t.eX then jf 4 else bif(bX s t.bC).gJ==3 then jf 6 else nN c (gX s e.aI {t with eX:=false})
theorem aLo(h:VC c)(hv:VS c s)(ht:eB c e):aah c s e=some (EG c s e):=by
 have h1:=nO hv ht;have hn:e.aI.toNat<s.aH.length:=ah
 have hT:=wX hv h1;have hcl:=hv.cl;unfold aah EG aL bX gX;(try simp only[gF,bF])
 unfold aL at hT;simp only[idx_eq h1,aY,bD,wW,xq,pV hn,tC,pU];cases hN:(e.N==1)with
 |true=>rfl
 |false=>
  simp only[aZ];rcases hs:(s.aH.getD e.aI.toNat aG).eX with _|_;rfl;have hp:=hT.pl (hT.sh hs);have hh:=hT.lW;have h2:0<=(s.aH.getD e.aI.toNat aG).bC/\(s.aH.getD e.aI.toNat aG).bC<(s.aJ.length:Int):=ah
  simp only[gN,aZ,idx_eq h2,bD,PD h hv,pU]
end
theorem drop_cons{α:Type} [Inhabited α]{xs:List α}{k:Nat}(h:k<xs.length):xs.drop k=xs.getD k aG::xs.drop (k+1):=by rw[Ec h];simp[fC,h]
def vv(s:aO)(v:Int):Bool:=hasB s.jT v
def Co(s:aO)(i:Int):Bool:= !vv s (bX s i).fI|| !vv s (bX s i).iN
def vk(s:aO)(cell:Int):Nat->Int
 |0=>0
 |k+1=>bif((k:Int) !=cell)&&Co s k then vk s cell k+1 else vk s cell k
theorem ao3(s:aO)(cell:Int):∀k,0<=vk s cell k/\vk s cell k<=k
 |0=>by simp[vk]
 |k+1=>by have:=ao3 s cell k;rw[vk];cases ((k:Int) !=cell)&&Co s k<;>simp only[aY,aZ]<;>omega
section
variable {c:aN} {s:aO} {e:aP}
theorem aaw(hv:VS c s)(v:Int):FZ s v=some (vv s v):=by unfold FZ vv;(try simp only[gF,bF]);rw[La hv.Bq.1];rfl
theorem aK4(hv:VS c s){i:Int}(h:0<=i/\i<(s.aJ.length:Int)):aaf s i=some (Co s i):=by
 unfold aaf Co bX;(try simp only[gF,bF])
 rw[idx_eq h];simp only[bD,aaw hv,pU,Lv h];cases vv s (s.aJ.getD i.toNat aG).fI<;>rfl
def Cr(c:aN)(s:aO)(e:aP):aO×Int:=
 let x:=bX s e.aK
 let v:=c.fD.getD e.N.toNat aG
 bif x.iN==e.N then jf 4
 else bif decide (s.gP<v.gP)||decide (v.dL<s.dL)then jf 13
 else bif((e.N !=x.fI)&& !vv s e.N)&&(s.d9 !=0)then jf 12
 else bif((e.N !=x.fI)&& !vv s e.N)&&decide (c.ou<=vk s e.aK s.aJ.length)then jf 14
 else(uf s e.aK {x with iN:=e.N},0)
theorem asJ(h:VC c)(hv:VS c s)(hc:fG c e):∀(m k:Nat),s.aJ.length-k<m->k<=s.aJ.length→
  OE c s e (c.fD.getD e.N.toNat aG) e.aK.toNat m (vk s e.aK k) (k:Int)=some (Cr c s e)
 |0,_,hm,_=>absurd hm (kF _)
 |m+1,k,hm,hk=>by
  have hcl:=h.cl;have hl:=hv.cl;have hb:=ao3 s e.aK k;rw[OE];(try simp only[gF,bF])
  by_cases hlt:k<s.aJ.length
  .rw[dU (show(k:Int)<(s.aJ.length:Int)by omega)];have i1:0<=(k:Int)/\(k:Int)<(s.aJ.length:Int):=ah;simp only[aY,aK4 hv i1,pU,bD];unfold Zl;(try simp only[gF,bF])
   rw[bL (x:=(k:Int)+1) ah ah,bL (x:=vk s e.aK k+1) ah ah];have next:=asJ h hv hc m (k+1) ah ah
   rw[vk]at next
   have ec:((k+1:Nat):Int)=(k:Int)+1:=ah;rw[ec]at next
   cases hne:((k:Int) !=e.aK)<;>cases ho:Co s k<;>simp only[hne,ho,aY,aZ,kN,nC,Gt,Gs]at next⊢<;>exact next
  .rw[fF (show¬(k:Int)<(s.aJ.length:Int)by omega)];have:k=s.aJ.length:=ah;subst this;unfold Cr bX uf;simp only[aZ,bD,wW,xq,aaw hv,pU];cases (e.N !=(s.aJ.getD e.aK.toNat aG).fI)<;>rfl
theorem aLy(h:VC c)(hv:VS c s)(hc:fG c e)(hn:ig c e):aai c s e=some (Cr c s e):=by
 have h2:=sQ hv hc;have hl:=hv.cl;have hcl:=h.cl;unfold aai;(try simp only[gF,bF])
 rw[idx_eq h2,idx_eq hn];simp only[bD];have:=asJ h hv hc fuel 0 aB ah;simpa[vk]using this
def z8(e:aP)(t:bI):Bool:=(t.dn.aK==e.aK)&&decide (e.bf<t.dn.bV)
def EF(s:aO)(e:aP):aO×Int:=
 let x:=bX s e.aK
 bif(e.N !=x.iN)||(x.fI==x.iN)then jf 4
 else bif !vv s e.N&&(s.d9 !=0)then jf 12
 else bif s.aH.any (z8 e)then jf 9
 else(uf s e.aK {x with fI:=e.N,p9:=e.bf},0)
theorem asC(h:VC c)(hv:VS c s)(hc:fG c e):∀(m k:Nat),s.aH.length-k<m->k<=s.aH.length→
  OD s e e.aK.toNat m (k:Int)=some (bif(s.aH.drop k).any (z8 e)then jf 9 else(uf s e.aK {bX s e.aK with fI:=e.N,p9:=e.bf},0))
 |0,_,hm,_=>absurd hm (kF _)
 |m+1,k,hm,hk=>by
  have htl:=h.tl;have hl:=hv.tl;have h2:=sQ hv hc;have hn:e.aK.toNat<s.aJ.length:=ah
  rw[OD];(try simp only[gF,bF])
  by_cases hlt:k<s.aH.length
  .rw[dU (show(k:Int)<(s.aH.length:Int)by omega)];have i1:0<=(k:Int)/\(k:Int)<(s.aH.length:Int):=ah;simp only[aY,idx_eq i1,bD,gW,wW,xq];rw[drop_cons hlt,ajT,bL (x:=(k:Int)+1) ah ah];have next:=asC h hv hc m (k+1) ah ah
   have ec:((k+1:Nat):Int)=(k:Int)+1:=ah;rw[ec]at next
   rw[next];unfold z8;cases ((s.aH.getD k aG).dn.aK==e.aK)&&decide (e.bf<(s.aH.getD k aG).dn.bV)<;>rfl
  .rw[fF (show¬(k:Int)<(s.aH.length:Int)by omega)];have:k=s.aH.length:=ah;subst this;unfold bX uf;simp only[aZ,bD,pV hn,tC,PO,ai1]
theorem aLi(h:VC c)(hv:VS c s)(hc:fG c e):aag s e=some (EF s e):=by
 have h2:=sQ hv hc;have hl:=hv.tl;have htl:=h.tl;unfold aag EF;(try simp only[gF,bF])
 rw[idx_eq h2];have:=asC h hv hc fuel 0 aB ah;unfold bX at this⊢;simp only[ai2]at this;simp only[bq,aY,bD,wW,xq,aaw hv,pU];have t2:OD s e e.aK.toNat fuel 0=_:=this;rw[t2];simp only[pU]
def zV(c:aN)(e:aP)(x:gG):Bool:=(((x.gJ !=3)&&(x.fI==e.N))&&(x.iN==e.N))&&decide (c.oW<=e.bf-x.p9)
def En(c:aN)(s:aO)(e:aP):aO×Int:=
 bif vv s e.N then jf 4 else bif s.aJ.any (zV c e)then({s with jT:=um .i64 s.jT (iV .i64 1 (IntKind.u64.wrap e.N))},0)else jf 15
theorem arA(h:VC c)(hv:VS c s)(hn:ig c e)(hk:0<=e.bf/\e.bf<=1073741824):∀(m k:Nat),s.aJ.length-k<m->k<=s.aJ.length→
  Ot c s e m (k:Int)=some (bif(s.aJ.drop k).any (zV c e)then({s with jT:=um .i64 s.jT (iV .i64 1 (IntKind.u64.wrap e.N))},0)else jf 15)
 |0,_,hm,_=>absurd hm (kF _)
 |m+1,k,hm,hk2=>by
  have hcl:=h.cl;have hvl:=h.vl;have hl:=hv.cl;unfold ig at hn;have hu:(0:Int)<=IntKind.u64.wrap e.N:=by rw[Jh ah ah];omega
  rw[Ot];(try simp only[gF,bF])
  by_cases hlt:k<s.aJ.length
  .rw[dU (show(k:Int)<(s.aJ.length:Int)by omega)];have i1:0<=(k:Int)/\(k:Int)<(s.aJ.length:Int):=ah;have hC:=Wm hv i1;have auz:=hC.sin;unfold bX at auz;simp only[gW]at auz;simp only[aY,idx_eq i1,bD,gW];rw[drop_cons hlt,ajT,bL (x:=(k:Int)+1) ah ah,bL (x:=e.bf-(s.aJ.getD k aG).p9) ah ah,dU hu];have next:=arA h hv (show ig c e from hn) hk m (k+1) ah ah
   have ec:((k+1:Nat):Int)=(k:Int)+1:=ah;rw[ec]at next
   rw[next];unfold zV;cases ((((s.aJ.getD k aG).gJ !=3)&&((s.aJ.getD k aG).fI==e.N))&&((s.aJ.getD k aG).iN==e.N))&&decide (c.oW<=e.bf-(s.aJ.getD k aG).p9)<;>rfl
  .rw[fF (show¬(k:Int)<(s.aJ.length:Int)by omega)];have:k=s.aJ.length:=ah;subst this;simp only[aZ,bD,wW,xq,PO,ai1]
theorem aKb(h:VC c)(hv:VS c s)(hn:ig c e)(hk:0<=e.bf/\e.bf<=1073741824):ZR c s e=some (En c s e):=by
 have hl:=hv.cl;have hcl:=h.cl;unfold ZR En;(try simp only[gF,bF])
 have:=arA h hv hn hk fuel 0 aB ah;simp only[ai2]at this;have t2:Ot c s e fuel 0=_:=this;simp only[bD,wW,xq,aaw hv,t2,pU]
def yw(c:aN)(s:aO)(x:gG):Bool:=decide ((c.fD.getD x.fI.toNat aG).dL<=s.dL)||decide ((c.fD.getD x.iN.toNat aG).dL<=s.dL)
def Ea(c:aN)(s:aO):aO×Int:=
 bif decide (s.gP<s.dL)then jf 4 else bif decide (30<=s.dL)then jf 2 else bif s.aJ.any (yw c s)then jf 13 else({s with dL:=s.dL+1},0)
theorem aqj(h:VC c)(hv:VS c s):∀(m k:Nat),s.aJ.length-k<m->k<=s.aJ.length→
  Oh c s m (k:Int)=some (bif(s.aJ.drop k).any (yw c s)then jf 13 else({s with dL:=s.dL+1},0))
 |0,_,hm,_=>absurd hm (kF _)
 |m+1,k,hm,hk2=>by
  have hcl:=h.cl;have hl:=hv.cl;have hlh:=hv.lh;rw[Oh];(try simp only[gF,bF])
  by_cases hlt:k<s.aJ.length
  .rw[dU (show(k:Int)<(s.aJ.length:Int)by omega)];have i1:0<=(k:Int)/\(k:Int)<(s.aJ.length:Int):=ah;have hC:=Wm hv i1;have hr:=hC.run;have hw:=hC.wan;unfold bX at hr hw;simp only[gW]at hr hw;simp only[aY,idx_eq i1,bD,gW,idx_eq hr,abP (λ_=>hw),wW,xq];rw[drop_cons hlt,ajT,bL (x:=(k:Int)+1) ah ah];have next:=aqj h hv m (k+1) ah ah
   have ec:((k+1:Nat):Int)=(k:Int)+1:=ah;rw[ec]at next
   rw[next];unfold yw;cases decide ((c.fD.getD (s.aJ.getD k aG).fI.toNat aG).dL<=s.dL)with|true=>rfl|false=>simp only[jG,aY,jZ];cases decide ((c.fD.getD (s.aJ.getD k aG).iN.toNat aG).dL<=s.dL)<;>rfl
  .rw[fF (show¬(k:Int)<(s.aJ.length:Int)by omega)];have:k=s.aJ.length:=ah;subst this;rw[bL (x:=s.dL+1) ah ah];simp only[aZ,PO,ai1]
theorem aIW(h:VC c)(hv:VS c s):ZE c s=some (Ea c s):=by
 have hl:=hv.cl;have hcl:=h.cl;unfold ZE Ea;(try simp only[gF,bF])
 have:=aqj h hv fuel 0 aB ah;simp only[ai2]at this;have t2:Oh c s fuel 0=_:=this;simp only[bD,wW,xq,t2,pU]
end
def A8(c:aN)(e:aP):Bool:=(OW c e).getD false
def bump(s:aO)(e:aP):aO:={s with bf:=e.bf,eH:=s.eH+1}
def EA(s:aO)(e:aP):aO×Int:=
 bif(bX s e.aK).gJ==e.N then jf 4 else(uf s e.aK {bX s e.aK with gJ:=e.N,p9:=e.bf},0)
def Ew(s:aO)(e:aP):aO×Int:=
 bif hasB s.d9 e.dx==(e.N==1)then jf 4 else({s with d9:=wm .i64 s.d9 (iV .i64 1 (IntKind.u64.wrap e.dx))},0)
def IZ(s:aO):aO×Int:=bif s.dL==s.gP then jf 4 else({s with gP:=s.dL},0)
def Cn(c:aN)(s:aO)(e:aP):aO×Int:=
 bif e.aM==1 then Em c s e else bif e.aM==2 then AQ c s e else bif e.aM==3 then EJ s e else bif e.aM==4 then D6 c s e
 else bif e.aM==5 then Eo s e else bif e.aM==6 then D5 c s e else bif e.aM==7 then DY s e else bif e.aM==8 then EG c s e
 else bif e.aM==9 then EA s e else bif e.aM==10 then Cr c s e else bif e.aM==11 then EF s e else bif e.aM==12 then En c s e
 else bif e.aM==13 then Ew s e else bif e.aM==14 then Ea c s else bif e.aM==15 then IZ s else(s,0)
def iy(c:aN)(s:aO)(e:aP):aO×Int:=
 bif !A8 c e then jf 1 else bif decide (4096<=s.eH)then jf 2 else bif decide (e.bf<s.bf)then jf 3 else Cn c (bump s e) e
section
variable {c:aN} {s:aO} {e:aP}
theorem valid_eq(h:VC c):OW c e=some (A8 c e)/\(A8 c e=true ↔ abE c e):=by
 obtain⟨b,h1,h2⟩:=aHk (e:=e) h;have:A8 c e=b:=by unfold A8;rw[h1];rfl
 rw[this];exact⟨h1,h2⟩
theorem VS.bump(hv:VS c s)(hk:0<=e.bf/\e.bf<=1073741824)(hc:s.eH<4096):VS c (bump s e):=
 ⟨hv.tl,hv.cl,hv.t,hv.oK,hk,by have:=hv.cnt;constructor<;>(show _<=_;simp only[CP.bump];omega),hv.Bq,hv.lD,hv.lh⟩
theorem VS.gX(hv:VS c s){i:Int}{t:bI}(ht:TS c t):VS c (gX s i t):=by
 refine⟨by show(s.aH.set _ _).length=_;rw[PK,hv.tl],hv.cl,λx hx=> ?_,hv.oK,hv.bZ,hv.cnt,hv.Bq,hv.lD,hv.lh⟩;rcases Gm hx with h1|h1
 .exact hv.t x h1
 .rw[h1];exact ht
theorem VS.uf(hv:VS c s){i:Int}{t:gG}(ht:CS c t):VS c (uf s i t):=by
 refine⟨hv.tl,by show(s.aJ.set _ _).length=_;rw[PK,hv.cl],hv.t,λx hx=> ?_,hv.bZ,hv.cnt,hv.Bq,hv.lD,hv.lh⟩;rcases Gm hx with h1|h1
 .exact hv.oK x h1
 .rw[h1];exact ht
theorem aJD(h:VC c)(hv:VS c s):ZO c s e=some (iy c s e):=by
 obtain⟨v1,v2⟩:=valid_eq (e:=e) h;have hcnt:=hv.cnt;have htl:=hv.tl;have hcl:=hv.cl;have ctl:=h.tl;have ccl:=h.cl;unfold ZO iy;(try simp only[gF,bF])
 simp only[v1,bD,wW,xq];rcases hb:A8 c e with _|_;rfl;obtain⟨hk,hkind⟩:=v2.1 hb;simp only[gN,aZ];by_cases h4:4096<=s.eH
 .rw[dU h4];rfl
 .rw[fF h4];by_cases h5:e.bf<s.bf
  .rw[dU h5];rfl
  .rw[fF h5];simp only[aZ];have hcp:ZB s=some s:=by
    unfold ZB;(try simp only[gF,bF])
    rw[dU (show(([]:List bI).length+s.aH.length)*88<=140737488355328 by simp;omega),dU (show(([]:List gG).length+s.aJ.length)*32<=140737488355328 by simp;omega)];rfl
   rw[hcp];simp only[bD];rw[bL (x:=s.eH+1) ah ah];have hv':VS c (bump s e):=hv.bump hk ah;have hs:{s with bf:=e.bf,eH:=s.eH+1}=bump s e:=rfl;have hc:{c with aJ:=c.aJ,aH:=c.aH}=c:=rfl;rw[hs,hc];unfold Cn;cases hkind with
   |place k t ce o w n=>simp only[k,ah6 h hv' t ce ⟨o.1,o.2.1⟩];rfl
   |grant k t ce o ep w n=>simp only[k,aJX h hv' t ce hk w];rfl
   |cut k t ce o ep w n=>simp only[k,aLB hv' t hk];rfl
   |jF k t ce o w n=>simp only[k,aIG h hv' t ce];rfl
   |ready k t ce o w n=>simp only[k,ready_eq hv' t ce];rfl
   |migrate k t ce o w n=>simp only[k,aH7 h hv' t ce];rfl
   |abandon k t ce o w n=>simp only[k,aHS hv' t];rfl
   |shed k t ce o w n=>simp only[k,aLo h hv' t];rfl
   |mode k t ce o w n=>
    have h2:=sQ hv ce;have hn:e.aK.toNat<s.aJ.length:=ah;have h3:∀a,idx (s.aJ.set e.aK.toNat a) e.aK=some a:=λa=>(by rw[idx_eq (by rw[PK];exact h2),pV hn]);rw[k];simp only[idx_eq h2,h3,aY,bD,pV hn,tC,pU];unfold FQ;(try simp only[gF,bF])
    simp only[pU];rfl
   |want k t ce o w n=>simp only[k,aLy h hv' ce n];rfl
   |runs k t ce o w n=>simp only[k,aLi h hv' ce];rfl
   |prove k t ce o w n=>simp only[k,aKb h hv' n hk];rfl
   |lD k t ce o w n=>
    have nX:=h.reg;have hu:(0:Int)<=IntKind.u64.wrap e.dx:=(by rw[Jh ah ah];omega);unfold FQ;(try simp only[gF,bF])
    rw[k,La hv.lD.1,dU hu];simp only[bq,aY,bD,pU];rfl
   |expand k t ce o w n=>simp only[k,aIW h hv'];rfl
   |contract k t ce o w n=>
    unfold FQ;(try simp only[gF,bF])
    rw[k];simp only[pU];rfl
   |note k t ce o w n=>
    unfold FQ;(try simp only[gF,bF])
    rw[k];rfl
end
section
variable {a n:Int}
def Good(c:aN)(r:aO×Int):Prop:=r.2=0->VS c r.1
section
variable {c:aN} {s:aO} {e:aP}
theorem Good.bif{b:Bool}{x y:aO×Int}(hx:b=true->Good c x)(hy:b=false->Good c y):Good c (bif b then x else y):=by cases b with|true=>exact hx rfl|false=>exact hy rfl
theorem Good.no{k:Int}(h:k≠0):Good c (jf k):=λq=>absurd q h
theorem Good.ok(h:VS c s):Good c (s,0):=λ_=>h
theorem Good.fit(h:VS c s):Good c (nN c s):=Good.bif (λ_=>Good.no ak) (λ_=>Good.ok h)
theorem an5(h0:0<=a:=by omega)(h1:a<18446744073709551616:=by omega):(BitVec.ofInt 64 a).toNat=a.toNat:=by rw[ajP];have:a%((2:Nat)^64:Nat)=a:=Int.emod_eq_of_lt h0 (aD h1);rw[this]
theorem aLp(h:0<=n/\n<62):iV .i64 1 (IntKind.u64.wrap n)=2^n.toNat:=by
 rw[Jh h.1 ah];unfold iV;rw[show min n.toNat IntKind.i64.bits=n.toNat from Ef (by show _<=64;omega),Int.one_mul];have hp:(0:Int)<2^n.toNat:=Wd ak;have hlt:(2:Int)^n.toNat<9223372036854775808:=by
  have hh:(2:Nat)^n.toNat<=2^62:=ajl ak ah;have e1:((2:Int)^n.toNat)=((2^n.toNat:Nat):Int):=aj
  rw[e1];have:(2:Nat)^62=4611686018427387904:=rfl;omega
 exact bL ah hlt
theorem aJ6(ha:0<=a/\a<1073741824)(hn:0<=n/\n<30):0<=um .i64 a (iV .i64 1 (IntKind.u64.wrap n))/\um .i64 a (iV .i64 1 (IntKind.u64.wrap n))<1073741824:=by
 rw[aLp ⟨hn.1,ah⟩];have hpn:(2:Nat)^n.toNat<2^30:=arV ak ah;obtain⟨q,hq⟩:∃q:Nat,q=2^n.toNat:=⟨_,rfl⟩;rw[<-hq]at hpn;have e1:((2:Int)^n.toNat)=(q:Int):=by rw[hq];simp
 have h30:(2:Nat)^30=1073741824:=rfl;rw[e1];unfold um;have e2:(BitVec.ofInt IntKind.i64.bits a|||BitVec.ofInt IntKind.i64.bits (q:Int)).toNat=a.toNat|||q:=by show(BitVec.ofInt 64 a|||BitVec.ofInt 64 (q:Int)).toNat=_;rw[BitVec.toNat_or,an5 ha.1,an5,gW]
 rw[e2];have hlt:a.toNat|||q<2^30:=ajk ah hpn;generalize a.toNat|||q=z at hlt⊢;have hw:IntKind.i64.wrap (z:Int)=(z:Int):=bLZ;rw[hw];omega
theorem aJB(ha:0<=a/\a<8)(hn:0<=n/\n<3):0<=wm .i64 a (iV .i64 1 (IntKind.u64.wrap n))/\wm .i64 a (iV .i64 1 (IntKind.u64.wrap n))<8:=by
 have h1:a=0\/a=1\/a=2\/a=3\/a=4\/a=5\/a=6\/a=7:=ah
 have h2:n=0\/n=1\/n=2:=ah
 rcases h1 with rfl|rfl|rfl|rfl|rfl|rfl|rfl|rfl<;>rcases h2 with rfl|rfl|rfl<;>decide
theorem aMF{w:iD}{bZ:Int}(h:0<=w.From/\w.From<=w.bV/\w.bV<=1073741824)(ht:0<=bZ):0<=(Ab w bZ).From/\(Ab w bZ).From<=(Ab w bZ).bV/\(Ab w bZ).bV<=1073741824:=by
 unfold Ab je;simp only
 (repeat' split)<;>omega
theorem aI6(h:VC c)(hv:VS c s)(hk:0<=e.bf/\e.bf<=1073741824)(hkind:qz c e):Good c (Cn c s e):=by unfold Cn;have hcl:=hv.cl;have hvl:=h.vl;cases hkind with
 |place k t ce o w n=>rw[k];show Good c (Em c s e);unfold Em;have hT:=wX hv (nO hv t);unfold fG at ce;refine Good.bif (λ_=>Good.no ak) (λ_=>Good.bif (λ_=>Good.no ak) (λ_=>Good.bif (λ_=>Good.no ak) (λ_=>Good.bif (λ_=>Good.no ak) (λ_=>Good.fit (hv.gX ?_)))));exact⟨⟨by show _<=e.aK;omega,ce.2⟩,⟨o.1,o.2.1⟩,hT.nx,hT.tg,hT.wc,λ_=>ce.1,λ_=>rfl,hT.ep,hT.we,hT.wv,hT.wf⟩
 | grant k t ce o ep w n=>
  rw[k];show Good c (AQ c s e);unfold AQ;have hT:=wX hv (nO hv t);unfold fG at ce;unfold ig at n;refine Good.bif (λ_=>Good.no ak) (λhpl=>Good.bif (λ_=>Good.no ak) (λ_=>Good.bif (λhg=>Good.no (aD hg)) (λhg=>Good.fit (hv.gX ?_))));have hg0:AJ c s e=0:=aD hg
  have hwin:e.From<e.bV:=by unfold AJ at hg0;simp only at hg0;revert hg0;cases ((bX s e.aK).gJ==3||(bX s e.aK).gJ==2&& !(e.aK==(aL s e.aI).bC))with
   |true=>intro q;cases q
   |false=>cases (((e.aK==(aL s e.aI).bC)&&(e.bN !=(aL s e.aI).bN))&&(e.bN !=(aL s e.aI).bN+1))||((!(e.aK==(aL s e.aI).bC))&&(e.bN !=(aL s e.aI).bN+1))with
    |true=>intro q;cases q
    |false=>cases ((e.N !=(bX s e.aK).fI)||((bX s e.aK).fI !=(bX s e.aK).iN))with
     |true=>intro q;cases q
     |false=>
      simp only[aZ];by_cases hu:e.bV<=e.From
      .rw[dU hu];simp
      .intro _;omega
  have hpl':(aL s e.aI).dN=true:=by cases hp:(aL s e.aI).dN with|true=>rfl|false=>rw[hp]at hpl;cases hpl
  unfold uW;simp only;have hW:0<=e.From/\e.From<=e.bV/\e.bV<=1073741824:=ah
  cases (e.aK==(aL s e.aI).bC)with
  |true=>exact⟨hT.lW,hT.sb,hT.nx,hT.tg,⟨by show _<=e.aK;omega,ce.2⟩,hT.pl,hT.sh,⟨by show 0<=e.bN;omega,ep.2⟩,⟨by show 0<=e.bN;omega,ep.2⟩,n,hW⟩
  |false=>cases (e.aK==(aL s e.aI).aT)with
   |true=>exact⟨⟨by show _<=e.aK;omega,ce.2⟩,⟨by show(-1:Int)≤-1;decide,by show(-1:Int)<_;omega⟩,⟨by show(-1:Int)≤-1;decide,by show(-1:Int)<_;omega⟩,⟨by show(-1:Int)≤-1;decide,by show(-1:Int)<_;omega⟩,⟨by show _<=e.aK;omega,ce.2⟩,λ_=>ce.1,(λq=>by cases q),⟨by show 0<=e.bN;omega,ep.2⟩,⟨by show 0<=e.bN;omega,ep.2⟩,n,hW⟩
   |false=>exact⟨⟨by show _<=e.aK;omega,ce.2⟩,hT.sb,hT.nx,⟨by show(-1:Int)≤-1;decide,by show(-1:Int)<_;omega⟩,⟨by show _<=e.aK;omega,ce.2⟩,λ_=>ce.1,hT.sh,⟨by show 0<=e.bN;omega,ep.2⟩,⟨by show 0<=e.bN;omega,ep.2⟩,n,hW⟩
 |cut k t ce o ep w n=>rw[k];show Good c (EJ s e);unfold EJ;have hT:=wX hv (nO hv t);refine Good.bif (λ_=>Good.no ak) (λ_=>Good.bif (λ_=>Good.no ak) (λ_=>Good.ok (hv.gX ?_)));exact⟨hT.lW,hT.sb,hT.nx,hT.tg,hT.wc,hT.pl,hT.sh,hT.ep,hT.we,hT.wv,aMF hT.wf hk.1⟩
 |jF k t ce o w n=>rw[k];show Good c (D6 c s e);unfold D6;have hT:=wX hv (nO hv t);have hok:Good c (nN c (CP.gX s e.aI {aL s e.aI with Next:=e.aK})):=Good.fit (hv.gX ⟨hT.lW,hT.sb,ce,hT.tg,hT.wc,hT.pl,hT.sh,hT.ep,hT.we,hT.wv,hT.wf⟩);exact Good.bif (λ_=>Good.no ak) (λ_=>Good.bif (λ_=>hok) (λ_=>Good.bif (λ_=>Good.no ak) (λ_=>Good.bif (λ_=>Good.no ak) (λ_=>Good.bif (λ_=>Good.no ak) (λ_=>Good.bif (λ_=>Good.no ak) (λ_=>hok))))))
 |ready k t ce o w n=>rw[k];show Good c (Eo s e);unfold Eo;have hT:=wX hv (nO hv t);unfold fG at ce;refine Good.bif (λ_=>Good.no ak) (λ_=>Good.bif (λ_=>Good.no ak) (λ_=>Good.bif (λ_=>Good.no ak) (λ_=>Good.ok (hv.gX ?_))));exact⟨hT.lW,⟨by show _<=e.aK;omega,ce.2⟩,⟨by show(-1:Int)≤-1;decide,by show(-1:Int)<_;omega⟩,hT.tg,hT.wc,hT.pl,hT.sh,hT.ep,hT.we,hT.wv,hT.wf⟩
 |migrate k t ce o w n=>rw[k];show Good c (D5 c s e);unfold D5;have hT:=wX hv (nO hv t);unfold fG at ce;refine Good.bif (λ_=>Good.no ak) (λ_=>Good.bif (λ_=>Good.no ak) (λ_=>Good.bif (λ_=>Good.no ak) (λ_=>Good.bif (λ_=>Good.no ak) (λ_=>Good.bif (λ_=>Good.no ak) (λ_=>Good.fit (hv.gX ?_))))));exact⟨hT.lW,hT.sb,hT.nx,⟨by show _<=e.aK;omega,ce.2⟩,hT.wc,hT.pl,hT.sh,hT.ep,hT.we,hT.wv,hT.wf⟩
 |abandon k t ce o w n=>rw[k];show Good c (DY s e);unfold DY;have hT:=wX hv (nO hv t);have:=h.cl;refine Good.bif (λ_=>Good.no ak) (λ_=>Good.ok (hv.gX ?_));exact⟨hT.lW,hT.sb,hT.nx,⟨by show(-1:Int)≤-1;decide,by show(-1:Int)<_;omega⟩,hT.wc,hT.pl,hT.sh,hT.ep,hT.we,hT.wv,hT.wf⟩
 |shed k t ce o w n=>
  rw[k];show Good c (EG c s e);unfold EG;have hT:=wX hv (nO hv t);have:=h.cl;refine Good.bif (λ_=>Good.bif (λ_=>Good.no ak) (λhp=>Good.bif (λ_=>Good.no ak) (λ_=>Good.ok (hv.gX ?_)))) (λ_=>Good.bif (λ_=>Good.no ak) (λ_=>Good.bif (λ_=>Good.no ak) (λ_=>Good.fit (hv.gX ?_))))
  .have hpl:(aL s e.aI).dN=true:=(by cases hq:(aL s e.aI).dN with|true=>rfl|false=>rw[hq]at hp;cases hp);exact⟨hT.lW,hT.sb,hT.nx,⟨by show(-1:Int)≤-1;decide,by show(-1:Int)<_;omega⟩,hT.wc,hT.pl,λ_=>hpl,hT.ep,hT.we,hT.wv,hT.wf⟩
  .exact⟨hT.lW,hT.sb,hT.nx,hT.tg,hT.wc,hT.pl,λq=>(by cases q),hT.ep,hT.we,hT.wv,hT.wf⟩
 |mode k t ce o w n=>rw[k];show Good c (EA s e);unfold EA;have hC:=Wm hv (sQ hv ce);exact Good.bif (λ_=>Good.no ak) (λ_=>Good.ok (hv.uf ⟨n,hC.run,hC.wan,hk⟩))
 |want k t ce o w n=>rw[k];show Good c (Cr c s e);unfold Cr;have hC:=Wm hv (sQ hv ce);exact Good.bif (λ_=>Good.no ak) (λ_=>Good.bif (λ_=>Good.no ak) (λ_=>Good.bif (λ_=>Good.no ak) (λ_=>Good.bif (λ_=>Good.no ak) (λ_=>Good.ok (hv.uf ⟨hC.mode,hC.run,n,hC.sin⟩)))))
 |runs k t ce o w n=>rw[k];show Good c (EF s e);unfold EF;have hC:=Wm hv (sQ hv ce);exact Good.bif (λ_=>Good.no ak) (λ_=>Good.bif (λ_=>Good.no ak) (λ_=>Good.bif (λ_=>Good.no ak) (λ_=>Good.ok (hv.uf ⟨hC.mode,n,hC.wan,hk⟩))))
 |prove k t ce o w n=>rw[k];show Good c (En c s e);unfold En;unfold ig at n;have hb:=aJ6 hv.Bq ⟨n.1,ah⟩;exact Good.bif (λ_=>Good.no ak) (λ_=>Good.bif (λ_=>Good.ok ⟨hv.tl,hv.cl,hv.t,hv.oK,hv.bZ,hv.cnt,hb,hv.lD,hv.lh⟩) (λ_=>Good.no ak))
 |lD k t ce o w n=>rw[k];show Good c (Ew s e);unfold Ew;have nX:=h.reg;have hb:=aJB hv.lD ⟨o.1,ah⟩;exact Good.bif (λ_=>Good.no ak) (λ_=>Good.ok ⟨hv.tl,hv.cl,hv.t,hv.oK,hv.bZ,hv.cnt,hv.Bq,hb,hv.lh⟩)
 |expand k t ce o w n=>rw[k];show Good c (Ea c s);unfold Ea;have hlh:=hv.lh;refine Good.bif (λ_=>Good.no ak) (λh1=>Good.bif (λ_=>Good.no ak) (λh2=>Good.bif (λ_=>Good.no ak) (λ_=>Good.ok ⟨hv.tl,hv.cl,hv.t,hv.oK,hv.bZ,hv.cnt,hv.Bq,hv.lD,?_⟩)));have h2:=wO h2;exact⟨hlh.1,by show s.gP<=s.dL+1;omega,by show s.dL+1<=30;omega⟩
 |contract k t ce o w n=>rw[k];show Good c (IZ s);unfold IZ;have hlh:=hv.lh;exact Good.bif (λ_=>Good.no ak) (λ_=>Good.ok ⟨hv.tl,hv.cl,hv.t,hv.oK,hv.bZ,hv.cnt,hv.Bq,hv.lD,by show 0<=s.dL;omega,jc _,hlh.2.2⟩)
 |note k t ce o w n=>rw[k];exact Good.ok hv
theorem aoH(h:VC c)(hv:VS c s):Good c (iy c s e):=by unfold iy;refine Good.bif (λ_=>Good.no ak) (λhb=>Good.bif (λ_=>Good.no ak) (λh4=>Good.bif (λ_=>Good.no ak) (λ_=> ?_)));have hV:=((valid_eq (e:=e) h).2).1 (aD hb);have h4:=wO h4;exact aI6 h (hv.bump hV.1 ah) hV.1 hV.2
end
end
structure TR(t0:eP)(t:eP)(b:Int):Prop where
 tb:TB t b
 l:t.L=t0.L
 at_:t0.At<=t.At
theorem TR.eta{t0 t:eP}{b:Int}(h:TR t0 t b):TR t0 {L:=t.L,At:=t.At} b:=h
theorem TR.up{t0 t:eP}{b b':Int}(h:TR t0 t b)(hb:b<=b'):TR t0 t b':=⟨h.tb.up hb,h.l,h.at_⟩
theorem apM{t:eP}{b n:Int}(h:TB t b)(h1:1<=n)(h2:n<=4611686018427387904)(hb:b<=1000000000){r:Int×eP}(hr:lZ t n=some r):
  r.2.L=t.L/\t.At<=r.2.At/\(t.L.length≠0->t.At+1<=r.2.At):=by
 have hlo:=h.lo;have hhi:=h.hi;unfold lZ at hr;simp only[gF,bF]at hr;by_cases h0:(t.L.length:Int)=0
 .have:(((t.L.length:Int))==0)=true:=aD h0
  rw[this]at hr;cases hr;exact⟨rfl,jc _,λq=>absurd ah q⟩
 .have e:(((t.L.length:Int))==0)=false:=aD h0
  rw[e]at hr;simp only[aZ]at hr;obtain⟨_,hr⟩:=L6 hr;obtain⟨x,_,hr⟩:=DU hr;obtain⟨_,hr⟩:=L6 hr;obtain⟨y,_,hr⟩:=DU hr;obtain⟨z,_,hr⟩:=DU hr;have hr:=rP hr;subst hr;rw[bL (x:=t.At+1) ah ah];exact⟨rfl,by show t.At<=t.At+1;omega,λ_=>jc _⟩
section
variable {t0 t:eP} {b:Int}
theorem yK{n:Int}(h:TR t0 t b)(h1:1<=n:=by omega)(h2:n<=4611686018427387904:=by omega)(hb:b<=1000000000:=by omega):
  Ok (lZ t n) (λr=>0<=r.1/\r.1<n/\TR t0 r.2 (b+1)):=by
 obtain⟨r,hr,q1,q2,q3⟩:=wI h.tb h1 h2 hb;obtain⟨s1,s2,_⟩:=apM h.tb h1 h2 hb hr;exact⟨r,hr,q1,q2,q3,by rw[s1,h.l],wS h.at_ s2⟩
theorem aqA{lo hi:Int}(h:TR t0 t b)(h1:lo<=hi:=by omega)(h2: -1000000000<=lo:=by omega)(h3:hi<=1000000000:=by omega)(hb:b<=1000000000:=by omega):
  Ok (zf t lo hi) (λr=>lo<=r.1/\r.1<=hi/\TR t0 r.2 (b+1)):=by
 unfold zf;(try simp only[gF,bF])
 rw[bL (x:=hi-lo) ah ah,bL (x:=hi-lo+1) ah ah];refine Ok.bind (yK h ah ah hb) (λr hr=>Ok.some ?_);rw[bLZ];exact⟨by show lo<=lo+r.1;omega,by show lo+r.1<=hi;omega,hr.2.2⟩
theorem LJ{n:Int}(h:TR t0 t b)(h1:1<=n:=by omega)(h2:n<=4611686018427387904:=by omega)(hb:b<=1000000000:=by omega):
  Ok (qM t n) (λr=>TR t0 r.2 (b+1)):=by
 unfold qM;(try simp only[gF,bF])
 exact Ok.bind (yK h h1 h2 hb) (λr hr=>Ok.some hr.2.2)
theorem abg{l:List Int}(h:TR t0 t b)(hl:l.length<=1000:=by omega)(hb:b<=1000000000:=by omega):Ok (K7 t l) (λr=>TR t0 r.2 (b+1)):=by
 unfold K7;(try simp only[gF,bF])
 refine Ok.cond (λ_=>Ok.some (h.up ah)) (λh0=> ?_);have:(l.length:Int)≠0:=aD h0
 exact Ok.bind (yK h ah ah hb) (λr hr=>Ok.idx ⟨hr.1,hr.2.1⟩ (λx _ _=>Ok.some hr.2.2))
end
section
variable {c:aN} {s:aO}
theorem aiE(h:VC c)(t:Int):∀(m k:Nat) (l:List Int),c.aJ.length-k<m->k<=c.aJ.length->l.length<=k->Ok (Oq c t m l (k:Int)) (λr=>r.length<=c.aJ.length)
 |0,_,_,hm,_,_=>absurd hm (kF _)
 |m+1,k,l,hm,hk,hl=>by
  have hcl:=h.cl;rw[Oq];(try simp only[gF,bF])
  refine Ok.cond (λhlt=> ?_) (λ_=>Ok.some ah);have hlt:=iZ hlt;refine Ok.zo (U6 h t k) ?_;unfold Y2;(try simp only[gF,bF])
  rw[bL (x:=(k:Int)+1) ah ah];have ec:(k:Int)+1=((k+1:Nat):Int):=ah
  rw[ec];exact Ok.cond (λ_=>Ok.bq (dT (by show _<=140737488355328;simp;omega)) (aiE h t m (k+1) _ ah ah ay)) (λ_=>aiE h t m (k+1) _ ah ah ah)
theorem aqn(h:VC c)(t:Int):Ok (UH c t) (λr=>r.length<=16):=by
 have hcl:=h.cl;unfold UH;(try simp only[gF,bF])
 exact(aiE h t fuel 0 [] aB ah aj).mono (λr hr=>ah)
theorem ahl(h:VC c)(t hm0:Int):∀(m k:Nat) (l:List Int),c.aJ.length-k<m->k<=c.aJ.length->l.length<=k->Ok (NV c t hm0 m l (k:Int)) (λr=>r.length<=c.aJ.length)
 |0,_,_,hm,_,_=>absurd hm (kF _)
 |m+1,k,l,hm,hk,hl=>by
  have hcl:=h.cl;rw[NV];(try simp only[gF,bF])
  refine Ok.cond (λhlt=> ?_) (λ_=>Ok.some ah);have hlt:=iZ hlt;refine Ok.zo (U6 h t k) ?_;simp only[aot h,pU,bD];unfold YG;(try simp only[gF,bF])
  rw[bL (x:=(k:Int)+1) ah ah];have ec:(k:Int)+1=((k+1:Nat):Int):=ah
  rw[ec];exact Ok.cond (λ_=>Ok.bq (dT (by show _<=140737488355328;simp;omega)) (ahl h t hm0 m (k+1) _ ah ah ay)) (λ_=>ahl h t hm0 m (k+1) _ ah ah ah)
theorem aoB(h:VC c)(t hm0:Int):Ok (TL c t hm0) (λr=>r.length<=16):=by
 have hcl:=h.cl;unfold TL;(try simp only[gF,bF])
 exact(ahl h t hm0 fuel 0 [] aB ah aj).mono (λr hr=>ah)
abbrev ER(t0:eP)(B b:Int)(r:aP×eP):Prop:=TR t0 r.2 b/\r.1.bf<=B
theorem aHj(h:VC c)(hv:VS c s){t0 t:eP}{b:Int}(hT:TR t0 t b)(hb:b<=1000000)(bZ:Int)(htk:0<=bZ/\bZ<=1100000000):Ok (Zf t c s bZ) (ER t0 (bZ+10001) (b+3)):=by
 have hcl:=h.cl;have hvl:=h.vl;have hle:=h.yg;have hba:=h.bake;have nX:=h.reg;have hl:=hv.cl;unfold Zf K6;(try simp only[gF,bF])
 refine Ok.zo rfl (Ok.bind (yK hT) (λr6 q6=>Ok.idx ⟨q6.1,ah⟩ (λx7 _ _=>Ok.bind (yK q6.2.2) (λr8 q8=> ?_))));have k3:∀(x5:aP) (t':eP) (b':Int),TR t0 t' b'->b'<=b+3->x5.bf<=bZ+10001->Ok (Ao t' x5) (ER t0 (bZ+10001) (b+3)):=λx5 t' b' ht hb' hx=>Ok.some ⟨ht.up hb',hx⟩;have Hr:=q8.2.2;have k1:∀(x5:aP) (g:Bool),x5.bf<=bZ+10001->Ok (N7 c s bZ x5 x7 r8.2 r6.1 r8.1 g) (ER t0 (bZ+10001) (b+3)):=by
  intro x5 g hx;unfold N7;(try simp only[gF,bF])
  refine Ok.cond (λ_=>Ok.bind (yK Hr) (λr q=>k3 _ _ _ q.2.2 ah (by show aQ (bZ+r.1)<=_;rw[bLZ];omega))) (λ_=> ?_);refine Ok.cond (λ_=> ?_) (λ_=> ?_)
  .rw[bL (x:=c.oW+1) ah ah];exact Ok.bind (yK Hr) (λr q=>k3 _ _ _ q.2.2 ah (by show aQ (bZ+r.1)<=_;rw[bLZ];omega))
  .refine Ok.cond (λ_=> ?_) (λ_=> ?_)
   .refine Ok.bind (yK Hr) (λr q=>Ok.zo (La hv.lD.1) ?_);exact Ok.cond (λ_=>k3 _ _ _ q.2.2 ah hx) (λ_=>k3 _ _ _ q.2.2 ah hx)
   .refine Ok.cond (λ_=> ?_) (λ_=> ?_)
    .exact Ok.cond (λ_=>k3 _ _ _ Hr ah hx) (λ_=>k3 _ _ _ Hr ah hx)
    .exact Ok.bind (yK Hr) (λr q=>k3 _ _ _ q.2.2 ah hx)
 have k2:∀(x5:aP) (g:Bool),x5.bf<=bZ+10001->Ok (N8 c s bZ x5 x7 r8.2 r6.1 r8.1 g) (ER t0 (bZ+10001) (b+3)):=by
  intro x5 g hx;unfold N8;(try simp only[gF,bF])
  refine Ok.cond (λ_=>Ok.bind (yK Hr) (λr q=>k3 _ _ _ q.2.2 ah hx)) (λ_=> ?_);exact Ok.cond (λ_=>k1 _ _ hx) (λ_=>Ok.cond (λ_=>k1 _ _ hx) (λ_=>k1 _ _ hx))
 refine Ok.cond (λ_=>Ok.bind (aqA Hr) (λr q=>k3 _ _ _ q.2.2 ah (by show bZ<=_;omega))) (λ_=> ?_);refine Ok.cond (λ_=>k3 _ _ _ Hr ah (by show bZ<=_;omega)) (λ_=> ?_);exact Ok.cond (λ_=>k2 _ _ (by show bZ<=_;omega)) (λ_=>Ok.cond (λ_=>k2 _ _ (by show bZ<=_;omega)) (λ_=>k2 _ _ (by show bZ<=_;omega)))
theorem aJY(h:VC c)(hv:VS c s){t0 t:eP}{b:Int}(hT:TR t0 t b)(hb:b<=1000000){e:aP}(ht:eB c e)(hp:(aL s e.aI).dN=true){B:Int}(hB1:e.bf<=B)(hB2:(aL s e.aI).dn.bV<=B):Ok (aac t c s e) (ER t0 B (b+9)):=by
 have hle:=h.yg;have hl:=hv.cl;have h1:=nO hv ht;have MK:=wX hv h1;unfold aac;(try simp only[gF,bF])
 refine Ok.zo (idx_eq h1) ?_;show Ok (Option.bind (bif(decide (0<=(aL s e.aI).dK))then qM t 2 else some (aG,t)) _) _;have k1:∀(p4:aP) (t':eP) (b':Int),TR t0 t' b'->b'<=b+9->p4.bf<=B->Ok (Ze t' p4) (ER t0 B (b+9)):=λ_ t' b' ht hb' hx=>Ok.some ⟨ht.up hb',hx⟩;have k2:∀(p4:aP) (t':eP) (b':Int),0<=p4.aK->p4.aK<(s.aJ.length:Int)->TR t0 t' b'->b'<=b+6->p4.bf<=B->Ok (Ud c s t' p4) (ER t0 B (b+9)):=by
  intro p4 t' b' g1 g2 ht' hb' hx;unfold Ud;(try simp only[gF,bF])
  refine Ok.bind (aqA ht') (λr q=>Ok.idx ⟨g1,g2⟩ (λx _ _=>Ok.bind (LJ q.2.2) (λr2 q2=> ?_)));exact Ok.cond (λ_=>Ok.bind (yK q2) (λr3 q3=>k1 _ _ _ q3.2.2 ah hx)) (λ_=>k1 _ _ _ q2 ah hx)
 have k3:∀(p4:aP) (x5:bI) (t':eP) (b':Int),0<=p4.aK->p4.aK<(s.aJ.length:Int)->TR t0 t' b'->b'<=b+4->p4.bf<=B->Ok (Ue c s x5 t' p4) (ER t0 B (b+9)):=by
  intro p4 x5 t' b' g1 g2 ht' hb' hx;unfold Ue;(try simp only[gF,bF])
  refine Ok.bind (LJ ht') (λr q=> ?_);exact Ok.cond (λ_=>Ok.bind (yK q) (λr3 q3=>k2 _ _ _ g1 g2 q3.2.2 ah hx)) (λ_=>k2 _ _ _ g1 g2 q ah hx)
 have k4:∀(p4:aP) (x5:bI) (t':eP) (b':Int),0<=p4.aK->p4.aK<(s.aJ.length:Int)->TR t0 t' b'->b'<=b+3->p4.bf<=B->x5.dn.bV<=B->Ok (Uf c s x5 t' p4) (ER t0 B (b+9)):=by
  intro p4 x5 t' b' g1 g2 ht' hb' hx hu;unfold Uf;(try simp only[gF,bF])
  have step:Ok (bif(p4.aK !=x5.bC)then lZ t' 4 else some (aG,t')) (λr=>TR t0 r.2 (b'+1)):=
   Ok.cond (λ_=>(yK ht').mono (λr q=>q.2.2)) (λ_=>Ok.some (ht'.up ah))
  refine Ok.bind step (λr q=> ?_);exact Ok.cond (λ_=>k3 _ _ _ _ g1 g2 q ah (by show jE _ _<=B;unfold jE;split<;>omega)) (λ_=>k3 _ _ _ _ g1 g2 q ah hx)
 have k5:∀(p4:aP) (x5:bI) (t':eP) (b':Int),0<=p4.aK->p4.aK<(s.aJ.length:Int)->TR t0 t' b'->b'<=b+2->p4.bf<=B->x5.dn.bV<=B->Ok (OB c s x5 t' p4) (ER t0 B (b+9)):=by
  intro p4 x5 t' b' g1 g2 ht' hb' hx hu;unfold OB;(try simp only[gF,bF])
  have step:Ok (bif(!((p4.aK !=x5.bC)||(x5.bN==0)))then qM t' 4 else some (aG,t')) (λr=>TR t0 r.2 (b'+1)):=
   Ok.cond (λ_=>LJ ht') (λ_=>Ok.some (ht'.up ah))
  refine Ok.bind step (λr q=> ?_);exact Ok.cond (λ_=>k4 _ _ _ _ g1 g2 q ah hx hu) (λ_=>k4 _ _ _ _ g1 g2 q ah hx hu)
 have htg:=MK.tg;have hsb:=MK.sb;have hho:=MK.lW;have hpl:=MK.pl hp;have step1:Ok (bif(decide (0<=(aL s e.aI).dK))then qM t 2 else some (aG,t)) (λr=>TR t0 r.2 (b+1)):=
  Ok.cond (λ_=>LJ hT) (λ_=>Ok.some (hT.up ah))
 refine Ok.bind step1 (λr6 q6=> ?_);refine Ok.cond (λhc=> ?_) (λ_=> ?_)
 .simp only[dD]at hc;have:=iZ hc.1;exact k5 _ _ _ _ this (by show(aL s e.aI).dK<_;omega) q6 ah hB1 hB2
 .have step2:Ok (bif(decide (0<=(aL s e.aI).aT))then qM r6.2 5 else some (aG,r6.2)) (λr=>TR t0 r.2 (b+1+1)):=
   Ok.cond (λ_=>LJ q6) (λ_=>Ok.some (q6.up ah))
  refine Ok.bind step2 (λr7 q7=> ?_);refine Ok.cond (λhc=> ?_) (λ_=> ?_)
  .simp only[dD]at hc;have:=iZ hc.1;exact k5 _ _ _ _ this (by show(aL s e.aI).aT<_;omega) q7 ah hB1 hB2
  .exact k5 _ _ _ _ hpl (by show(aL s e.aI).bC<_;omega) q7 ah hB1 hB2
theorem aok(h:VC c)(hv:VS c s){t0 t:eP}{b:Int}(hT:TR t0 t b)(hb:b<=100000)(bZ:Int)(htk:0<=bZ/\bZ<=1100000000){B:Int}(hB:bZ+10001<=B)(hU:∀x∈s.aH,x.dn.bV<=B):Ok (Uc c s t bZ) (ER t0 B (b+12)):=by
 have htl:=hv.tl;have ctl:=h.tl;unfold Uc;(try simp only[gF,bF])
 have step:Ok (bif(!((c.aH.length:Int)==0))then qM t 4 else some (aG,t)) (λr=>TR t0 r.2 (b+1)):=
  Ok.cond (λ_=>LJ hT.eta) (λ_=>Ok.some (hT.up ah))
 refine Ok.bind step (λr9 q9=> ?_);refine Ok.cond (λ_=> ?_) (λhn=> ?_)
 .exact Ok.bind (aHj h hv q9 ah bZ htk) (λr q=>Ok.some ⟨q.1.up ah,by have:=q.2;show r.1.bf<=B;omega⟩)
 .have hne:(c.aH.length:Int)≠0:=by simp only[ng]at hn;simpa using hn.1
  refine Ok.bind (yK q9) (λRj q11=> ?_);have i1:0<=Rj.1/\Rj.1<(s.aH.length:Int):=ah
  refine Ok.zo (idx_eq i1) ?_;show Ok (bif(!(aL s Rj.1).dN)then _ else _) _;refine Ok.cond (λ_=> ?_) (λhp=> ?_)
  .unfold K6;(try simp only[gF,bF])
   refine Ok.zo rfl (Ok.bind (aqn h _) (λfq q14=>Ok.bind (abg q11.2.2) (λfA q15=>Ok.bind (aoB h _ _) (λgT q16=>Ok.bind (abg q15) (λiG q17=>Ok.some ⟨q17.up ah,by show bZ<=B;omega⟩)))))
  .have hp:(aL s Rj.1).dN=true:=(aD hp);unfold K6;(try simp only[gF,bF])
   refine Ok.zo rfl (Ok.bind (yK q11.2.2) (λr19 q19=> ?_));have JD:=q19.2.2;have k1:∀(x18:aP) (t':eP) (b':Int),TR t0 t' b'->b'<=b+12->x18.bf<=B->Ok (FV t' x18) (ER t0 B (b+12)):=λ_ t' b' ht hb' hx=>Ok.some ⟨ht.up hb',hx⟩;refine Ok.cond (λ_=>k1 _ _ _ JD ah (by show bZ<=B;omega)) (λ_=> ?_);refine Ok.cond (λ_=>Ok.bind (aoB h _ _) (λx20 q20=>Ok.bind (abg JD) (λx21 q21=>k1 _ _ _ q21 ah (by show bZ<=B;omega)))) (λ_=> ?_);refine Ok.cond (λ_=>k1 _ _ _ JD ah (by show bZ<=B;omega)) (λ_=> ?_);refine Ok.cond (λ_=>Ok.bind (aqn h _) (λx20 q20=>Ok.bind (abg JD) (λx21 q21=>k1 _ _ _ q21 ah (by show bZ<=B;omega)))) (λ_=> ?_);refine Ok.cond (λ_=>k1 _ _ _ JD ah (by show bZ<=B;omega)) (λ_=> ?_);refine Ok.cond (λ_=>Ok.cond (λ_=>k1 _ _ _ JD ah (by show bZ<=B;omega)) (λ_=>k1 _ _ _ JD ah (by show bZ<=B;omega))) (λ_=> ?_);exact Ok.bind (aJY h hv JD ah (show eB c _ from⟨i1.1,by show Rj.1<_;omega⟩) hp (B:=B) (by show bZ<=B;omega) (hU _ (jk (by show Rj.1.toNat<_;omega)))) (λr q=>Ok.some ⟨q.1.up ah,q.2⟩)
theorem aJR(h:VC c)(hv:VS c s){t:eP}{b:Int}(hT:TB t b)(hb:b<=10000){B:Int}(hB:s.bf+10004<=B)(hU:∀x∈s.aH,x.dn.bV<=B):Ok (Z9 t c s) (λr=>TB r.2 (b+14)/\r.2.L=t.L/\(t.L.length≠0->t.At+1<=r.2.At)/\r.1.bf<=B):=by
 have htk:=hv.bZ;unfold Z9;(try simp only[gF,bF])
 obtain⟨r4,e4,q4⟩:=wI hT (n:=4) ah ah ah;obtain⟨s1,s2,s3⟩:=apM hT ah ah ah e4;have hR:TR r4.2 r4.2 (b+1):=⟨q4.2.2,rfl,jc _⟩;have fin:∀r:aP×eP,ER r4.2 B (b+1+1+12) r->TB r.2 (b+14)/\r.2.L=t.L/\(t.L.length≠0->t.At+1<=r.2.At)/\r.1.bf<=B:=by rintro r ⟨hr,hrt⟩;refine⟨hr.tb.up ah,by rw[hr.l,s1],λhn=> ?_,hrt⟩;have:=s3 hn;have:=hr.at_;omega
 refine Ok.zo e4 (Ok.bind (LJ hR) (λr5 q5=> ?_));rw[bL (x:=s.bf+r4.1) ah ah,bL (x:=s.bf-1) ah ah];exact Ok.cond (λ_=>(aok h hv q5 ah _ (by unfold jE;split<;>omega) (B:=B) (by unfold jE;split<;>omega) hU).mono fin) (λ_=>(aok h hv q5 ah _ ah (B:=B) ah hU).mono fin)
end
def uV:bI:={dN:=false,eX:=false,bC:=(-1),aT:=(-1),Next:=(-1),dK:=(-1),bN:=0,dn:={aK:=(-1),bN:=0,qQ:=0,From:=0,bV:=0:iD}}
def EX:gG:={gJ:=1,fI:=0,iN:=0,p9:=0}
def newS(c:aN):aO:={bf:=0,eH:=0,aH:=List.replicate c.aH.length uV,aJ:=List.replicate c.aJ.length EX,jT:=1,d9:=0,gP:=0,dL:=0}
section
variable {c:aN} {s:aO}
theorem aM5(h:VC c):TS c uV:=by have hcl:=h.cl;have hvl:=h.vl;refine⟨?_,?_,?_,?_,?_,λq=>(by cases q),λq=>(by cases q),?_,?_,?_,?_⟩<;>simp only[uV]<;>omega
theorem aMx(h:VC c):CS c EX:=by have hvl:=h.vl;refine⟨?_,?_,?_,?_⟩<;>simp only[EX]<;>omega
theorem asu(h:VC c):VS c (newS c):=by
 refine⟨by simp[newS],by simp[newS],λx hx=> ?_,λx hx=> ?_,?_,?_,?_,?_,?_⟩
 .rw[Ll hx];exact aM5 h
 .rw[Ll hx];exact aMx h
 all_goals (simp only[newS];omega)
theorem apU{α:Type}(n:Nat)(a:α):List.replicate n a++ [a]=List.replicate (n+1) a:=by rw[List.replicate_succ']
theorem asr(h:VC c)(ts:List bI):∀(m k:Nat),c.aJ.length-k<m->k<=c.aJ.length→
  Uo c m {bf:=0,eH:=0,aH:=ts,aJ:=List.replicate k EX,jT:=1,d9:=0,gP:=0,dL:=0} (k:Int)=some {bf:=0,eH:=0,aH:=ts,aJ:=List.replicate c.aJ.length EX,jT:=1,d9:=0,gP:=0,dL:=0}
 |0,_,hm,_=>absurd hm (kF _)
 |m+1,k,hm,hk=>by
  have hcl:=h.cl;rw[Uo];dsimp only;by_cases hlt:k<c.aJ.length
  .rw[dU (show(k:Int)<(c.aJ.length:Int)by omega),dU (show((List.replicate k EX).length+ [{gJ:=1,fI:=0,iN:=0,p9:=0:gG}].length)*32<=140737488355328 by simp;omega),bL (x:=(k:Int)+1) ah ah];have:=asr h ts m (k+1) ah ah;rw[<-apU]at this;simpa[bq,EX]using this
  .rw[fF (show¬(k:Int)<(c.aJ.length:Int)by omega)];have:k=c.aJ.length:=ah;subst this;rfl
theorem asq(h:VC c):∀(m k:Nat),c.aH.length-k<m->k<=c.aH.length->Uq c m {bf:=0,eH:=0,aH:=List.replicate k uV,aJ:=[],jT:=1,d9:=0,gP:=0,dL:=0} (k:Int)=some (newS c)
 |0,_,hm,_=>absurd hm (kF _)
 |m+1,k,hm,hk=>by
  have hcl:=h.cl;have htl:=h.tl;rw[Uq];dsimp only;by_cases hlt:k<c.aH.length
  .rw[dU (show(k:Int)<(c.aH.length:Int)by omega),dU (show((List.replicate k uV).length+ [{dN:=false,eX:=false,bC:= -1,aT:= -1,Next:= -1,dK:= -1,bN:=0,dn:={aK:= -1,bN:=0,qQ:=0,From:=0,bV:=0}:bI}].length)*88<=140737488355328 by simp;omega),bL (x:=(k:Int)+1) ah ah];have:=asq h m (k+1) ah ah;rw[<-apU]at this;simpa[bq,uV]using this
  .rw[fF (show¬(k:Int)<(c.aH.length:Int)by omega)];have:k=c.aH.length:=ah;subst this;have:=asr h (List.replicate c.aH.length uV) fuel 0 aB ah;simpa[newS]using this
theorem aL3(h:VC c):aax c=some (newS c):=by
 have htl:=h.tl;unfold aax;(try simp only[gF,bF])
 have:=asq h fuel 0 aB ah;simpa using this
def vY(c:aN):aO->List aP->aO
 |s,[]=>s
 |s,e::r=>vY c (iy c s e).1 r
def xE(c:aN):aO->List aP->Prop
 |_,[]=>True
 |s,e::r=>(iy c s e).2=0/\xE c (iy c s e).1 r
theorem aaQ(l:List aP)(e:aP):∀s,vY c s (l++ [e])=(iy c (vY c s l) e).1:=by induction l with|nil=>intro s;rfl|cons a l ih=>intro s;exact ih _
theorem aK3(l:List aP)(e:aP):∀s,xE c s l->(iy c (vY c s l) e).2=0->xE c s (l++ [e]):=by induction l with|nil=>intro s _ h;exact⟨h,trivial⟩|cons a l ih=>intro s h h2;exact⟨h.1,ih _ h.2 h2⟩
theorem aMe(h:VC c)(l:List aP):∀s,VS c s->xE c s l->VS c (vY c s l):=by induction l with|nil=>intro s hv _;exact hv|cons a l ih=>intro s hv ho;exact ih _ (aoH h hv ho.1) ho.2
end
def abV(t:bI)(e:aP):bI:={t with dN:=true,bC:=e.aK,aT:=e.dx}
inductive Step(c:aN)(s:aO)(e:aP):aO->Prop
 |place (k:e.aM=1) (t:eB c e) (ce:fG c e) (o: -1<=e.dx/\e.dx<(c.aJ.length:Int)/\e.dx≠e.aK)
   (np:(aL s e.aI).dN=false) (m1:(bX s e.aK).gJ=1) (m2:0<=e.dx->(bX s e.dx).gJ=1)
   (f1:oG c s e.aK=false) (f2:0<=e.dx->oG c s e.dx=false)
   (y1:oH c e.aI e.aK=true) (y2:0<=e.dx->oH c e.aI e.dx=true/\kE c e.aK e.dx=false)
   (fit:qb c (gX (bump s e) e.aI (abV (aL s e.aI) e))=[]):
   Step c s e (gX (bump s e) e.aI (abV (aL s e.aI) e))
 |grant (k:e.aM=2) (t:eB c e) (ce:fG c e) (ep:1<=e.bN/\e.bN<=1048576) (w:0<=e.From/\e.From<=1073741824/\0<=e.bV/\e.bV<=1073741824) (n:ig c e)
   (pl:(aL s e.aI).dN=true) (sh:(aL s e.aI).eX=true->e.aK=(aL s e.aI).aT)
   (cl:e.aK=(aL s e.aI).bC\/e.aK=(aL s e.aI).aT\/e.aK=(aL s e.aI).dK)
   (m1:(bX s e.aK).gJ≠3) (m2:(bX s e.aK).gJ=2->e.aK=(aL s e.aI).bC)
   (eq:(e.aK=(aL s e.aI).bC/\e.bN=(aL s e.aI).bN)\/e.bN=(aL s e.aI).bN+1)
   (v1:e.N=(bX s e.aK).fI) (v2:(bX s e.aK).fI=(bX s e.aK).iN)
   (w1:e.bf<=e.From) (w2:e.From<=e.bf+c.iC) (w3:e.From<e.bV) (w4:e.bV-e.From<=c.iC) (w5:(aL s e.aI).dn.bV<=e.From)
   (w6:e.aK≠(aL s e.aI).bC->(aL s e.aI).dn.bV<=e.bf)
   (fit:qb c (gX (bump s e) e.aI (uW (aL s e.aI) e))=[]):
   Step c s e (gX (bump s e) e.aI (uW (aL s e.aI) e))
 |cut (k:e.aM=3) (t:eB c e) (pl:(aL s e.aI).dN=true) (ep:e.bN=(aL s e.aI).bN) (ep1:1<=e.bN):
   Step c s e (gX (bump s e) e.aI {aL s e.aI with dn:=Ab (aL s e.aI).dn e.bf})
 |Vn (k:e.aM=4) (t:eB c e) (ce:e.aK= -1) (pl:(aL s e.aI).dN=true)
   (fit:qb c (gX (bump s e) e.aI {aL s e.aI with Next:=e.aK})=[]):
   Step c s e (gX (bump s e) e.aI {aL s e.aI with Next:=e.aK})
 |jF (k:e.aM=4) (t:eB c e) (ce:fG c e) (pl:(aL s e.aI).dN=true)
   (n1:e.aK≠(aL s e.aI).bC) (n2:e.aK≠(aL s e.aI).aT) (n3:e.aK≠(aL s e.aI).dK)
   (m1:(bX s e.aK).gJ=1) (f1:oG c s e.aK=false) (y1:oH c e.aI e.aK=true)
   (t1:kE c e.aK (aL s e.aI).bC=false) (t2:kE c e.aK (aL s e.aI).dK=false)
   (fit:qb c (gX (bump s e) e.aI {aL s e.aI with Next:=e.aK})=[]):
   Step c s e (gX (bump s e) e.aI {aL s e.aI with Next:=e.aK})
 |ready (k:e.aM=5) (t:eB c e) (ce:fG c e) (pl:(aL s e.aI).dN=true) (n1:e.aK=(aL s e.aI).Next) (m1:(bX s e.aK).gJ≠3):
   Step c s e (gX (bump s e) e.aI {aL s e.aI with aT:=e.aK,Next:= -1})
 |migrate (k:e.aM=6) (t:eB c e) (ce:fG c e) (pl:(aL s e.aI).dN=true) (sh:(aL s e.aI).eX=false) (tg:(aL s e.aI).dK<0)
   (n1:e.aK≠(aL s e.aI).bC) (n2:e.aK≠(aL s e.aI).aT) (n3:e.aK≠(aL s e.aI).Next)
   (m1:(bX s e.aK).gJ=1) (f1:oG c s e.aK=false) (y1:oH c e.aI e.aK=true)
   (t1:kE c e.aK (aL s e.aI).aT=false) (t2:kE c e.aK (aL s e.aI).Next=false)
   (fit:qb c (gX (bump s e) e.aI {aL s e.aI with dK:=e.aK})=[]):
   Step c s e (gX (bump s e) e.aI {aL s e.aI with dK:=e.aK})
 |abandon (k:e.aM=7) (t:eB c e) (pl:(aL s e.aI).dN=true) (tg:0<=(aL s e.aI).dK):
   Step c s e (gX (bump s e) e.aI {aL s e.aI with dK:= -1})
 |shed (k:e.aM=8) (t:eB c e) (n:e.N=1) (pl:(aL s e.aI).dN=true) (sh:(aL s e.aI).eX=false) (w:(aL s e.aI).dn.bV<=e.bf):
   Step c s e (gX (bump s e) e.aI {aL s e.aI with eX:=true,dK:= -1})
 |back (k:e.aM=8) (t:eB c e) (n:e.N=0) (sh:(aL s e.aI).eX=true) (m1:(bX s (aL s e.aI).bC).gJ≠3)
   (fit:qb c (gX (bump s e) e.aI {aL s e.aI with eX:=false})=[]):
   Step c s e (gX (bump s e) e.aI {aL s e.aI with eX:=false})
 |mode (k:e.aM=9) (ce:fG c e) (n:1<=e.N/\e.N<=3) (m1:(bX s e.aK).gJ≠e.N):
   Step c s e (uf (bump s e) e.aK {bX s e.aK with gJ:=e.N,p9:=e.bf})
 |want (k:e.aM=10) (ce:fG c e) (n:ig c e) (n1:(bX s e.aK).iN≠e.N)
   (v1:(c.fD.getD e.N.toNat aG).gP<=s.gP) (v2:s.dL<=(c.fD.getD e.N.toNat aG).dL)
   (f:e.N=(bX s e.aK).fI\/vv s e.N=true\/(s.d9=0/\vk s e.aK s.aJ.length<c.ou)):
   Step c s e (uf (bump s e) e.aK {bX s e.aK with iN:=e.N})
 |runs (k:e.aM=11) (ce:fG c e) (n:ig c e) (n1:e.N=(bX s e.aK).iN) (n2:(bX s e.aK).fI≠(bX s e.aK).iN)
   (f:vv s e.N=true\/s.d9=0) (w:s.aH.any (z8 e)=false):
   Step c s e (uf (bump s e) e.aK {bX s e.aK with fI:=e.N,p9:=e.bf})
 |prove (k:e.aM=12) (n:ig c e) (n1:vv s e.N=false) (b:s.aJ.any (zV c e)=true):
   Step c s e {bump s e with jT:=um .i64 s.jT (iV .i64 1 (IntKind.u64.wrap e.N))}
 |lD (k:e.aM=13) (o:0<=e.dx/\e.dx<c.gH) (n:e.N=0\/e.N=1) (n1:hasB s.d9 e.dx≠(e.N==1)):
   Step c s e {bump s e with d9:=wm .i64 s.d9 (iV .i64 1 (IntKind.u64.wrap e.dx))}
 |expand (k:e.aM=14) (h1:s.dL<=s.gP) (h2:s.dL<30) (h3:s.aJ.any (yw c s)=false):
   Step c s e {bump s e with dL:=s.dL+1}
 |contract (k:e.aM=15) (h1:s.dL≠s.gP):Step c s e {bump s e with gP:=s.dL}
 |note (k:e.aM=16):Step c s e (bump s e)
section
variable {c:aN} {s:aO} {e:aP}
theorem j5{b:Bool}{k:Int}{y:aO×Int}(hk:k≠0)(h:(bif b then jf k else y).2=0):b=false/\(bif b then jf k else y)=y/\y.2=0:=by cases b with|true=>exact absurd h hk|false=>exact⟨rfl,rfl,h⟩
theorem Qu{s:aO}(h:(nN c s).2=0):qb c s=[]/\nN c s=(s,0):=by
 unfold nN at h⊢;obtain⟨h1,h2,h3⟩:=j5 ak h;have:(qb c s).length=0:=by have:=wO h1;omega
 exact⟨Ja this,h2⟩
theorem ar7{s:aO}(h:qb c s=[]):nN c s=(s,0):=by unfold nN;rw[h];rfl
theorem agU(s:aO)(e:aP)(cell:Int):∀n,vk (bump s e) cell n=vk s cell n
 |0=>rfl
 |n+1=>by have ih:=agU s e cell n;unfold vk;rw[ih];rfl
theorem aI7(hkind:qz c e)(hz:(Cn c (bump s e) e).2=0):Step c s e (Cn c (bump s e) e).1:=by unfold Cn at hz⊢;cases hkind with
 |place k t ce o w n=>rw[k]at hz⊢;change (Em c (bump s e) e).2=0 at hz;show Step c s e (Em c (bump s e) e).1;unfold Em at hz⊢;obtain⟨b1,e1,hz⟩:=j5 ak hz;obtain⟨b2,e2,hz⟩:=j5 ak hz;obtain⟨b3,e3,hz⟩:=j5 ak hz;obtain⟨b4,e4,hz⟩:=j5 ak hz;obtain⟨f,e5⟩:=Qu hz;rw[e1,e2,e3,e4,e5];simp only[ng,ab1,Cc,oo,zY]at b2 b3 b4;exact .place k t ce o b1 b2.1 b2.2 b3.1 b3.2 b4.1 b4.2 f
 |grant k t ce o ep w n=>
  rw[k]at hz⊢;change (AQ c (bump s e) e).2=0 at hz;show Step c s e (AQ c (bump s e) e).1;unfold AQ at hz⊢;obtain⟨b1,e1,hz⟩:=j5 ak hz;obtain⟨b2,e2,hz⟩:=j5 ak hz;have hg:AJ c (bump s e) e=0:=by cases hq:(AJ c (bump s e) e !=0)with|false=>simpa using hq|true=>rw[hq]at hz;exact hz
  rw[hg]at hz;change (nN c _).2=0 at hz;obtain⟨f,e5⟩:=Qu hz;rw[e1,e2,hg];show Step c s e (nN c _).1;rw[e5];have hg':=hg;unfold AJ at hg;simp only at hg;have nb:∀{b:Bool} {k y:Int},k≠0->(bif b then k else y)=0->b=false/\y=0:=by intro b k y hk h;cases b with|true=>exact absurd h hk|false=>exact⟨rfl,h⟩
  obtain⟨g1,hg⟩:=nb ak hg;obtain⟨g2,hg⟩:=nb ak hg;obtain⟨g3,hg⟩:=nb ak hg;obtain⟨g4,hg⟩:=nb ak hg;obtain⟨g5,hg⟩:=nb ak hg;change _=false at b1 b2;have t0:aL (bump s e) e.aI=aL s e.aI:=rfl;have c0:bX (bump s e) e.aK=bX s e.aK:=rfl;rw[t0]at b1 b2 g1 g2 g4 g5;rw[c0]at g1 g3;rw[t0]at f⊢;simp only[ng,ab1,Cc,rQ,xV,uL,yP,uE,zY,Bool.not_eq_eq_eq_not,jG,gN]at b1 b2 g1 g2 g3 g4 g5;refine .grant k t ce ep w n b1.1 b1.2 ?_ g1.1 ?_ ?_ g3.1 g3.2 ah ah ah ah ah ?_ f
  .rcases Gu (e.aK=(aL s e.aI).bC)with q|q
   .exact .inl q
   .rcases Gu (e.aK=(aL s e.aI).aT)with q2|q2
    .exact .inr (.inl q2)
    .exact .inr (.inr (by revert b2;simp[q,q2]))
  .intro q;have:=g1.2 q;simpa using this
  .rcases Gu (e.aK=(aL s e.aI).bC)with q|q
   .rcases Gu (e.bN=(aL s e.aI).bN)with q2|q2
    .exact .inl ⟨q,q2⟩
    .exact .inr (by have:=g2.1;revert this;simp[q,q2])
   .exact .inr (g2.2 q)
  .intro q;have:=g5 q;omega
 |cut k t ce o ep w n=>rw[k]at hz⊢;change (EJ (bump s e) e).2=0 at hz;show Step c s e (EJ (bump s e) e).1;unfold EJ at hz⊢;obtain⟨b1,e1,hz⟩:=j5 ak hz;obtain⟨b2,e2,hz⟩:=j5 ak hz;rw[e1,e2];simp only[zY,Cc]at b1 b2;exact .cut k t b1 b2 ep.1
 |jF k t ce o w n=>
  rw[k]at hz⊢;change (D6 c (bump s e) e).2=0 at hz;show Step c s e (D6 c (bump s e) e).1;unfold D6 at hz⊢;obtain⟨b1,e1,hz⟩:=j5 ak hz;rw[e1];simp only[zY]at b1;by_cases hc:e.aK<0
  .rw[dU hc]at hz⊢;change (nN c _).2=0 at hz;obtain⟨f,e5⟩:=Qu hz;show Step c s e (nN c _).1;rw[e5];exact .Vn k t ah b1 f
  .rw[fF hc]at hz⊢;rw[aZ]at hz⊢;obtain⟨b2,e2,hz⟩:=j5 ak hz;obtain⟨b3,e3,hz⟩:=j5 ak hz;obtain⟨b4,e4,hz⟩:=j5 ak hz;obtain⟨b5,e6,hz⟩:=j5 ak hz;obtain⟨f,e5⟩:=Qu hz;rw[e2,e3,e4,e6,e5];simp only[ng,Cc,rQ,zY]at b2 b3 b4 b5;exact .jF k t ⟨ah,ce.2⟩ b1 b2.1.1 b2.1.2 b2.2 b3 b4 b5.1.1 b5.1.2 b5.2 f
 |ready k t ce o w n=>rw[k]at hz⊢;change (Eo (bump s e) e).2=0 at hz;show Step c s e (Eo (bump s e) e).1;unfold Eo at hz⊢;obtain⟨b1,e1,hz⟩:=j5 ak hz;obtain⟨b2,e2,hz⟩:=j5 ak hz;obtain⟨b3,e3,hz⟩:=j5 ak hz;rw[e1,e2,e3];simp only[zY,Cc,rQ]at b1 b2 b3;exact .ready k t ce b1 b2 b3
 |migrate k t ce o w n=>rw[k]at hz⊢;change (D5 c (bump s e) e).2=0 at hz;show Step c s e (D5 c (bump s e) e).1;unfold D5 at hz⊢;obtain⟨b1,e1,hz⟩:=j5 ak hz;obtain⟨b2,e2,hz⟩:=j5 ak hz;obtain⟨b3,e3,hz⟩:=j5 ak hz;obtain⟨b4,e4,hz⟩:=j5 ak hz;obtain⟨b5,e6,hz⟩:=j5 ak hz;obtain⟨f,e5⟩:=Qu hz;rw[e1,e2,e3,e4,e6,e5];simp only[ng,Cc,rQ,zY,xV,V8]at b1 b2 b3 b4 b5;exact .migrate k t ce b1.1.1 b1.1.2 b1.2 b2.1.1 b2.1.2 b2.2 b3 b4 b5.1.1 b5.1.2 b5.2 f
 |abandon k t ce o w n=>rw[k]at hz⊢;change (DY (bump s e) e).2=0 at hz;show Step c s e (DY (bump s e) e).1;unfold DY at hz⊢;obtain⟨b1,e1,hz⟩:=j5 ak hz;rw[e1];simp only[ng,zY,xV,V9]at b1;exact .abandon k t b1.1 b1.2
 |shed k t ce o w n=>
  rw[k]at hz⊢;change (EG c (bump s e) e).2=0 at hz;show Step c s e (EG c (bump s e) e).1;unfold EG at hz⊢;rcases n with n|n
  .rw[n]at hz⊢;change (bif _ then jf 4 else _:aO×Int).2=0 at hz;show Step c s e (bif _ then jf 4 else _:aO×Int).1;obtain⟨b1,e1,hz⟩:=j5 ak hz;obtain⟨b2,e2,hz⟩:=j5 ak hz;obtain⟨f,e5⟩:=Qu hz;rw[e1,e2,e5];simp only[zY,rQ]at b1 b2;exact .back k t n b1 b2 f
  .rw[n]at hz⊢;change (bif _ then jf 4 else _:aO×Int).2=0 at hz;show Step c s e (bif _ then jf 4 else _:aO×Int).1;obtain⟨b1,e1,hz⟩:=j5 ak hz;obtain⟨b2,e2,hz⟩:=j5 ak hz;rw[e1,e2];simp only[ng,zY,xV,V9]at b1 b2;exact .shed k t n b1.1 b1.2 b2
 |mode k t ce o w n=>rw[k]at hz⊢;change (EA (bump s e) e).2=0 at hz;show Step c s e (EA (bump s e) e).1;unfold EA at hz⊢;obtain⟨b1,e1,hz⟩:=j5 ak hz;rw[e1];simp only[rQ]at b1;exact .mode k ce n b1
 |want k t ce o w n=>
  rw[k]at hz⊢;change (Cr c (bump s e) e).2=0 at hz;show Step c s e (Cr c (bump s e) e).1;unfold Cr at hz⊢;obtain⟨b1,e1,hz⟩:=j5 ak hz;obtain⟨b2,e2,hz⟩:=j5 ak hz;obtain⟨b3,e3,hz⟩:=j5 ak hz;obtain⟨b4,e4,hz⟩:=j5 ak hz;rw[e1,e2,e3,e4];simp only[agU,ng,ab1,Cc,rQ,xV,yP,dD,uL,V9,V8]at b1 b2 b3 b4;refine .want k ce n b1 b2.1 b2.2 ?_;rcases Gu (e.N=(bX s e.aK).fI)with q|q
  .exact .inl q
  .cases hp:vv s e.N with|true=>exact .inr (.inl rfl)|false=>exact .inr (.inr ⟨b3 ⟨q,hp⟩,b4 ⟨q,hp⟩⟩)
 |runs k t ce o w n=>rw[k]at hz⊢;change (EF (bump s e) e).2=0 at hz;show Step c s e (EF (bump s e) e).1;unfold EF at hz⊢;obtain⟨b1,e1,hz⟩:=j5 ak hz;obtain⟨b2,e2,hz⟩:=j5 ak hz;obtain⟨b3,e3,hz⟩:=j5 ak hz;rw[e1,e2,e3];simp only[ng,ab1,Cc,rQ,uL]at b1 b2;refine .runs k ce n b1.1 b1.2 ?_ b3;cases hp:vv s e.N with|true=>exact .inl rfl|false=>exact .inr (b2 hp)
 |prove k t ce o w n=>rw[k]at hz⊢;change (En c (bump s e) e).2=0 at hz;show Step c s e (En c (bump s e) e).1;unfold En at hz⊢;obtain⟨b1,e1,hz⟩:=j5 ak hz;rw[e1];cases hb:(bump s e).aJ.any (zV c e)with
  |false=>rw[hb]at hz;cases hz
  |true=>exact .prove k n b1 hb
 |lD k t ce o w n=>rw[k]at hz⊢;change (Ew (bump s e) e).2=0 at hz;show Step c s e (Ew (bump s e) e).1;unfold Ew at hz⊢;obtain⟨b1,e1,hz⟩:=j5 ak hz;rw[e1];exact .lD k o n (λq=>by rw[show hasB (bump s e).d9 e.dx=hasB s.d9 e.dx from rfl,q]at b1;simp at b1)
 |expand k t ce o w n=>rw[k]at hz⊢;change (Ea c (bump s e)).2=0 at hz;show Step c s e (Ea c (bump s e)).1;unfold Ea at hz⊢;obtain⟨b1,e1,hz⟩:=j5 ak hz;obtain⟨b2,e2,hz⟩:=j5 ak hz;obtain⟨b3,e3,hz⟩:=j5 ak hz;rw[e1,e2,e3];simp only[xV,V9,V8]at b1 b2;exact .expand k b1 b2 b3
 |contract k t ce o w n=>rw[k]at hz⊢;change (IZ (bump s e)).2=0 at hz;show Step c s e (IZ (bump s e)).1;unfold IZ at hz⊢;obtain⟨b1,e1,hz⟩:=j5 ak hz;rw[e1];exact .contract k (rQ.1 b1)
 |note k t ce o w n=>rw[k];exact .note k
theorem UQ(h:VC c)(hz:(iy c s e).2=0):abE c e/\s.eH<4096/\s.bf<=e.bf/\Step c s e (iy c s e).1:=by unfold iy at hz⊢;obtain⟨b1,e1,hz⟩:=j5 ak hz;obtain⟨b2,e2,hz⟩:=j5 ak hz;obtain⟨b3,e3,hz⟩:=j5 ak hz;rw[e1,e2,e3];have hV:=((valid_eq (e:=e) h).2).1 (aD b1);simp only[xV,V9,V8]at b2 b3;exact⟨hV,b2,b3,aI7 hV.2 hz⟩
end
end Go.CP
namespace Go.CP
open Go
section
variable {α β:Type}{xs:List α}{i:Int}{k:α->Option β}{g:Bool}{b:α}{p:Prop}{a:α}{m:Option α}
theorem dV [Inhabited α](h1:0<=i)(h2:i<(xs.length:Int)):bE xs i k=k (xs.getD i.toNat aG):=by rw[gF];unfold idx;rw[dU ⟨h1,h2⟩];rfl
theorem dVZ [Inhabited α](h1:0<=i:=by omega)(h2:i<(xs.length:Int):=by omega):bE xs i k=k (xs.getD i.toNat aG):=dV h1 h2
theorem abd [Inhabited α](h1:0<=i)(h2:i<(xs.length:Int)):qH g xs i k=k (xs.getD i.toNat aG):=Lv ⟨h1,h2⟩
theorem gZ{b:Bool}{k:Option α}(h:b=true):bq b k=k:=by subst h;rfl
theorem mR [Decidable p]{k:Option α}(h:p:=by omega):bq (decide p) k=k:=gZ (dU h)
theorem aq3 [Decidable p]{k:Option α}(h:p):bq (!g||decide p) k=k:=gZ (by rw[dU h];simp)
theorem eZ [Decidable p](h:p):(bif decide p then a else b)=a:=by rw[dU h];rfl
theorem eZZ [Decidable p](h:p:=by omega):(bif decide p then a else b)=a:=eZ h
theorem fH [Decidable p](h:¬p):(bif decide p then a else b)=b:=by rw[fF h];rfl
theorem fHZ [Decidable p](h:¬p:=by omega):(bif decide p then a else b)=b:=fH h
theorem Qq(b:Bool)(x y:α):(bif b then some x else some y)=some (bif b then x else y):=by cases b<;>rfl
theorem aiJ{σ β:Type}{L:Nat->σ->Int->Option β}{Q:β->Prop}(n:Nat)(I:Nat->σ->Prop)
  (step:∀(m k:Nat) (x:σ),k<n->I k x->(∀x',I (k+1) x'->Ok (L m x' ((k:Int)+1)) Q)->Ok (L (m+1) x (k:Int)) Q)
  (done:∀(m:Nat) (x:σ),I n x->Ok (L (m+1) x (n:Int)) Q):
  ∀(m k:Nat) (x:σ),k<=n->n-k<m->I k x->Ok (L m x (k:Int)) Q
 |0,_,_,_,hm,_=>absurd hm (kF _)
 |m+1,k,x,hk,hm,hI=>by
  by_cases h:k<n
  .exact step m k x h hI (λx' hx=>by
    have:=aiJ n I step done m (k+1) x' ah ah hx
    simpa using this)
  .have:k=n:=ah;subst this;exact done m x hI
theorem lJ [Fuel]{σ β:Type}{L:Nat->σ->Int->Option β}{Q:β->Prop}{x:σ}(n:Nat)(hn:n<18446744073709551616)(I:Nat->σ->Prop)(h0:I 0 x)
  (step:∀(m k:Nat) (x:σ),k<n->I k x->(∀x',I (k+1) x'->Ok (L m x' ((k:Int)+1)) Q)->Ok (L (m+1) x (k:Int)) Q)
  (done:∀(m:Nat) (x:σ),I n x->Ok (L (m+1) x (n:Int)) Q):Ok (L fuel x 0) Q:=
 aiJ n I step done fuel 0 x (zk _) aB h0
theorem aqs{σ β:Type}{L:Nat->σ->Option β}{Q:β->Prop}(μ:σ->Nat)(I:σ->Prop)
  (step:∀(m:Nat) (x:σ),I x->(∀x',I x'->μ x'<μ x->Ok (L m x') Q)->Ok (L (m+1) x) Q):
  ∀(m:Nat) (x:σ),μ x<m->I x->Ok (L m x) Q
 |0,_,hm,_=>absurd hm (kF _)
 |m+1,x,hm,hI=>step m x hI (λx' hx hlt=>aqs μ I step m x' ah hx)
theorem aMW [Fuel]{σ β:Type}{L:Nat->σ->Option β}{Q:β->Prop}{x:σ}(μ:σ->Nat)(I:σ->Prop)(h0:I x)(hm:μ x<18446744073709551616)
  (step:∀(m:Nat) (x:σ),I x->(∀x',I x'->μ x'<μ x->Ok (L m x') Q)->Ok (L (m+1) x) Q):Ok (L fuel x) Q:=
 aqs μ I step fuel x aB h0
theorem pJ(h:Ok m (λr=>r=a)):m=some a:=by obtain⟨b,e,q⟩:=h;rw[e,q]
theorem ak2(h:m=some a):Ok m (λr=>r=a):=⟨a,h,rfl⟩
end
end Go.CP
namespace Go.CP
open Go
variable [Fuel]
def hit(i:Int)(n:Int)(j:Nat):Int:=if i=(j:Int)then n else 0
def dl(t:bI)(d:iq)(j:Nat):Int:=
 if t.dN then(if t.eX then 0 else hit t.bC d.dZ j+hit t.dK d.dZ j)+(hit t.aT d.jA j+hit t.Next d.jA j)else 0
theorem zO(l:List Int)(i n:Int){j:Nat}(hj:j<l.length):(pI l i n).getD j 0=l.getD j 0+hit i n j:=by
 unfold pI hit;by_cases hi:0<=i/\i<(l.length:Int)
 .rw[bU hi];by_cases e:i=(j:Int)
  .have:i.toNat=j:=ah;rw[bU e,this];simp[fC,yM,hj]
  .have:i.toNat≠j:=ah;rw[cZ e];simp[fC,yM,this]
 .rw[cZ hi,cZ ah];simp
theorem aIQ(l:List Int)(t:bI)(d:iq){j:Nat}(hj:j<l.length):(book1 l t d).getD j 0=l.getD j 0+dl t d j:=by unfold book1 dl;rcases t.dN with _|_;simp;cases t.eX with|true=>simp only[l7];rw[zO _ _ _ (by rw[qm];exact hj),zO _ _ _ hj];omega|false=>simp only[l7,nD,mJ];rw[zO _ _ _ (by simp only[qm];exact hj),zO _ _ _ (by simp only[qm];exact hj),zO _ _ _ (by rw[qm];exact hj),zO _ _ _ hj];omega
def ru(c:aN)(ts:List bI)(j:Nat):Nat->Int
 |0=>0
 |k+1=>ru c ts j k+dl (ts.getD k aG) (c.aH.getD k aG) j
theorem ape(c:aN)(ts:List bI)(l:List Int){j:Nat}(hj:j<l.length):∀k,(qB c ts k l).getD j 0=l.getD j 0+ru c ts j k
 |0=>by simp[qB,ru]
 |k+1=>by rw[qB,aIQ _ _ _ (by rw[apf];exact hj),ape c ts l hj k,ru];omega
theorem aqD(n:Nat){j:Nat}:(List.replicate n (0:Int)).getD j 0=0:=by simp only[fC,Ee];split<;>rfl
section
variable {c:aN} {s:aO} {r:Int}
theorem ag4{j:Nat}(hj:j<c.aJ.length):(nA c s).getD j 0=ru c s.aH j s.aH.length:=by unfold nA;rw[ape _ _ _ (aD hj),aqD];omega
theorem AR{i n:Int}(h:0<=n)(j:Nat):0<=hit i n j:=by unfold hit;split<;>omega
theorem PE{i n:Int}(h:i<0)(j:Nat):hit i n j=0:=by unfold hit;rw[cZ ah]
end
theorem okT{m:Option Bool}(h:Ok m (λb=>b=true)):m=some true:=by obtain⟨b,e,q⟩:=h;rw[e,q]
section
variable {b:Int}{p:Prop}{a:Int}{t:bI}{i:Int}
section
variable {c:aN} {s:aO} {e:aP}
theorem tf{b:Bool}(h:b=true)(w:b=false):p:=by rw[h]at w;cases w
theorem oL(w:(0:Int)≤-1):p:=absurd w ak
theorem aij(a b:Int):kE c a b=kE c b a:=by
 have h:∀x y:Bool,(x&&y)=(y&&x):=ak
 unfold kE qx;rw[h (decide (0<=a)),h (decide (0<=eF c a))];have:(eF c a !=eF c b)=(eF c b !=eF c a):=by rw[LK];simp only[yP,ne_eq];exact⟨λq w=>q w.symm,λq w=>q w.symm⟩
 rw[this]
theorem xQ(h:b<0):kE c a b=false:=by unfold kE;rw[fF (show¬0<=b by omega)];simp
theorem Lg(h:a<0):kE c a b=false:=by rw[aij];exact xQ h
theorem aaW{a:Int}(h:0<=a):kE c a a=true:=by unfold kE qx;rw[dU h];simp
theorem ap3(ha:0<=a)(hb:0<=b)(h:kE c a b=false):qx c a b=true:=by unfold kE at h;rw[dU ha,dU hb]at h;simpa using h
structure LX(c:aN)(bZ:Int)(i:Nat)(t:bI):Prop where
 np:t.dN=false->t=uV
 hs:kE c t.bC t.aT=false
 hn:kE c t.bC t.Next=false
 ts:kE c t.dK t.aT=false
 tn:kE c t.dK t.Next=false
 ht:0<=t.dK->t.bC≠t.dK
 Rl:t.eX=true->t.dK= -1
 win:bZ<t.dn.bV->t.dN=true/\t.eX=false/\t.dn.aK=t.bC
 ep:t.bN=t.dn.bN
 wl:t.dn.bV<=bZ+2*c.iC
 mh:0<=t.bC->oH c i t.bC=true
 ms:0<=t.aT->oH c i t.aT=true
 mn:0<=t.Next->oH c i t.Next=true
 mt:0<=t.dK->oH c i t.dK=true
 mo:0<=t.dK/\0<=t.Next->t.dK≠t.Next
theorem LX.later(h:VC c){a b:Int}{i:Nat}{t:bI}(q:LX c a i t)(hab:a<=b):LX c b i t:=
 ⟨q.np,q.hs,q.hn,q.ts,q.tn,q.ht,q.Rl,λw=>q.win ah,q.ep,by have:=q.wl;omega,q.mh,q.ms,q.mn,q.mt,q.mo⟩
structure Wv(c:aN)(s:aO)(x:gG):Prop where
 r1:(c.fD.getD x.fI.toNat aG).gP<=s.gP
 r2:s.dL<=(c.fD.getD x.fI.toNat aG).dL
 w1:(c.fD.getD x.iN.toNat aG).gP<=s.gP
 w2:s.dL<=(c.fD.getD x.iN.toNat aG).dL
 si:x.p9<=s.bf
structure Inv(c:aN)(s:aO):Prop where
 vs:VS c s
 t:∀i,i<s.aH.length->LX c s.bf i (s.aH.getD i aG)
 oK:∀x∈s.aJ,Wv c s x
 ov:qb c s=[]
theorem Pp:qb c s= [] ↔∀j,j<c.aJ.length->ru c s.aH j s.aH.length<=(c.aJ.getD j aG).lT:=by
 have key:∀k,k<=c.aJ.length->(sP c (nA c s) k= [] ↔∀j,j<k->ru c s.aH j s.aH.length<=(c.aJ.getD j aG).lT):=by intro k;induction k with
  |zero=>intro _;exact⟨λ_ j hj=>absurd hj (kF _),λ_=>rfl⟩
  |succ k ih=>
   intro hk;rw[sP,ag4 ah];by_cases hc:(c.aJ.getD k aG).lT<ru c s.aH k s.aH.length
   .rw[bU hc];constructor
    .intro q;simp at q
    .intro q;have:=q k ah;omega
   .rw[cZ hc,ih ah];constructor
    .intro q j hj;by_cases e:j=k
     .subst e;omega
     .exact q j ah
    .intro q j hj;exact q j ah
 exact key _ (gI _)
theorem aiY{ts:List bI}{i:Nat}{t:bI}(hi:i<ts.length)(j:Nat):∀n,ru c (ts.set i t) j n=ru c ts j n+(if i<n then dl t (c.aH.getD i aG) j-dl (ts.getD i aG) (c.aH.getD i aG) j else 0)
 |0=>by simp[ru]
 |n+1=>by
  rw[ru,ru,aiY hi j n];by_cases e:i=n
  .subst e;rw[pV hi,cZ ah,bU ah];omega
  .have:(ts.set i t).getD n aG=ts.getD n aG:=(by simp[fC,yM,e]);rw[this];by_cases q:i<n
   .rw[bU q,bU ah];omega
   .rw[cZ q,cZ ah];omega
theorem U5(hi:0<=i/\i<(s.aH.length:Int))(h0:qb c s=[])
  (hd:∀j,dl t (c.aH.getD i.toNat aG) j<=dl (aL s i) (c.aH.getD i.toNat aG) j):qb c (gX (bump s e) i t)=[]:=by
 rw[Pp]at h0⊢;intro j hj;have:=h0 j hj;show ru c (s.aH.set i.toNat t) j (s.aH.set i.toNat t).length<=_;rw[oQ,aiY ah j,bU ah];have:=hd j;unfold aL at this;omega
theorem aJg{s':aO}(h0:qb c s=[])(he:s'.aH=s.aH):qb c s'=[]:=by rw[Pp]at h0⊢;rw[he];exact h0
theorem aaB(h:VC c)(hi:0<=i/\i<(c.aH.length:Int)):0<=(c.aH.getD i.toNat aG).dZ/\0<=(c.aH.getD i.toNat aG).jA:=by have:=AB h (by omega:i.toNat<c.aH.length);omega
theorem DZ(h:VC c)(hI:Inv c s)(hge:s.bf<=e.bf)(ht:eB c e)(hv:VS c (gX (bump s e) e.aI t))(hq:LX c e.bf e.aI.toNat t)(hov:qb c (gX (bump s e) e.aI t)=[]):Inv c (gX (bump s e) e.aI t):=by
 have htl:=hI.vs.tl;unfold eB at ht;refine⟨hv,λi hi=> ?_,λx hx=> ?_,hov⟩
 .have hi':i<s.aH.length:=by simpa[gX,bump]using hi
  show LX c e.bf i ((s.aH.set e.aI.toNat t).getD i aG);by_cases q:i=e.aI.toNat
  .subst q;rw[pV hi'];exact hq
  .have:(s.aH.set e.aI.toNat t).getD i aG=s.aH.getD i aG:=(by simp[fC,yM,Ne.symm q]);rw[this];exact(hI.t i hi').later h hge
 .have q:=hI.oK x hx;exact⟨q.r1,q.r2,q.w1,q.w2,by have:=q.si;show x.p9<=e.bf;omega⟩
theorem I5(h:VC c)(hI:Inv c s)(hge:s.bf<=e.bf){s':aO}(hv:VS c s')(ht:s'.aH=s.aH)(hk:s'.bf=e.bf)(hc:∀x∈s'.aJ,Wv c s' x):Inv c s':=by refine⟨hv,λi hi=> ?_,hc,aJg hI.ov ht⟩;rw[hk,ht];exact(hI.t i (by rw[<-ht];exact hi)).later h hge
theorem ahT(hI:Inv c s)(hge:s.bf<=e.bf){x:gG}(hx:Wv c (bump s e) x):∀y∈(uf (bump s e) e.aK x).aJ,Wv c (uf (bump s e) e.aK x) y:=by
 intro y hy;rcases Gm hy with q|q
 .have q:=hI.oK y q;exact⟨q.r1,q.r2,q.w1,q.w2,by have:=q.si;show y.p9<=e.bf;omega⟩
 .subst q;exact⟨hx.r1,hx.r2,hx.w1,hx.w2,hx.si⟩
theorem aaL(h:VC c)(hI:Inv c s)(hz:(iy c s e).2=0):Inv c (iy c s e).1:=by
 have hv:=aoH h hI.vs hz;obtain⟨hV,hcnt,hge,hst⟩:=UQ h hz;have hk:=hV.1;have hle:=h.yg;have htl:=hI.vs.tl;generalize (iy c s e).1=s' at hv hst;have Fa:eB c e->LX c e.bf e.aI.toNat (aL s e.aI):=λt=>(hI.t _ (by unfold eB at t;omega)).later h hge;have tci:∀{t:Int},0<=t->((t.toNat:Nat):Int)=t:=λ{t} q=>ah
 have cin:fG c e->Wv c s (bX s e.aK):=λt=>hI.oK _ (jk (by have:=hI.vs.cl;unfold fG at t;omega));cases hst with
 |place k t ce o np m1 m2 f1 f2 y1 y2 fit=>
  refine DZ h hI hge t hv ?_ fit;have q:=Fa t;have e0:=q.np np;unfold eB at t;unfold fG at ce;unfold abV;rw[e0];refine⟨λw=>tf rfl w,?_,xQ (by show(-1:Int)<0;omega),Lg (by show(-1:Int)<0;omega),xQ (by show(-1:Int)<0;omega),λw=>oL w,λw=>tf w rfl,λw=> ?_,rfl,?_,λ_=> ?_,λw=> ?_,λw=>oL w,λw=>oL w,λw=>oL w.1⟩
  .show kE c e.aK e.dx=false;rcases ab4 e.dx 0 with q|q
   .exact xQ q
   .exact(y2 q).2
  .exact absurd w (by show¬e.bf<0;omega)
  .show(0:Int)<=_;omega
  .rw[tci t.1];exact y1
  .rw[tci t.1];exact(y2 w).1
 | grant k t ce ep w n pl sh cl m1 m2 eq v1 v2 w1 w2 w3 w4 w5 w6 fit=> refine DZ h hI hge t hv ?_ fit;have q:=Fa t;unfold fG at ce;unfold uW;simp only;have hpl:(aL s e.aI).dN=true:=pl;cases hh:(e.aK==(aL s e.aI).bC)with
  |true=>have hh':e.aK=(aL s e.aI).bC:=(aD hh);have hns:(aL s e.aI).eX=false:=(by rcases hs:(aL s e.aI).eX with _|_;rfl;have e1:=sh hs;have:=q.hs;rw[<-hh',<-e1,aaW ce.1]at this;cases this);exact⟨λw=>tf hpl w,q.hs,q.hn,q.ts,q.tn,q.ht,q.Rl,λ_=>⟨hpl,hns,hh'⟩,rfl,by show e.bV<=_;omega,q.mh,q.ms,q.mn,q.mt,q.mo⟩
  |false=>have hh':e.aK≠(aL s e.aI).bC:=(aD hh);cases hb:(e.aK==(aL s e.aI).aT)with
   |true=>
    have hb':e.aK=(aL s e.aI).aT:=aD hb
    exact⟨λw=>tf hpl w,xQ (by show(-1:Int)<0;omega),xQ (by show(-1:Int)<0;omega),xQ (by show(-1:Int)<0;omega),xQ (by show(-1:Int)<0;omega),λw=>oL w,λw=>tf w rfl,λ_=>⟨hpl,rfl,rfl⟩,rfl,by show e.bV<=_;omega,
     λ_=>by show oH c _ e.aK=true;rw[hb'];exact q.ms ah,λw=>oL w,λw=>oL w,λw=>oL w,λw=>oL w.1⟩
   |false=>
    have hb':e.aK≠(aL s e.aI).aT:=(aD hb);have ht':e.aK=(aL s e.aI).dK:=(by rcases cl with a|a|a<;>first|exact absurd a hh'|exact absurd a hb'|exact a);have hns:(aL s e.aI).eX=false:=by rcases hs:(aL s e.aI).eX with _|_;rfl;exact absurd (sh hs) hb'
    exact⟨λw=>tf hpl w,by show kE c e.aK _=false;rw[ht'];exact q.ts,by show kE c e.aK _=false;rw[ht'];exact q.tn,Lg (by show(-1:Int)<0;omega),Lg (by show(-1:Int)<0;omega),λw=>oL w,λ_=>rfl,λ_=>⟨hpl,hns,rfl⟩,rfl,by show e.bV<=_;omega,
     λ_=>by show oH c _ e.aK=true;rw[ht'];exact q.mt ah,q.ms,q.mn,λw=>oL w,λw=>oL w.1⟩
 |cut k t pl ep ep1=>
  refine DZ h hI hge t hv ?_ (U5 (by unfold eB at t;omega) hI.ov (λj=>jc _));have q:=Fa t;have hu:(Ab (aL s e.aI).dn e.bf).bV<=(aL s e.aI).dn.bV:=by unfold Ab je;simp only;split<;>omega
  exact⟨λw=>tf pl w,q.hs,q.hn,q.ts,q.tn,q.ht,q.Rl,λw=>q.win (by have w:e.bf<(Ab (aL s e.aI).dn e.bf).bV:=w;omega),q.ep,by have:=q.wl;show(Ab _ _).bV<=_;omega,q.mh,q.ms,q.mn,q.mt,q.mo⟩
 |Vn k t ce pl fit=>refine DZ h hI hge t hv ?_ fit;have q:=Fa t;rw[ce];exact⟨λw=>tf pl w,q.hs,xQ (by show(-1:Int)<0;omega),q.ts,xQ (by show(-1:Int)<0;omega),q.ht,q.Rl,q.win,q.ep,q.wl,q.mh,q.ms,λw=>oL w,q.mt,λw=>oL w.2⟩
 |jF k t ce pl n1 n2 n3 m1 f1 y1 t1 t2 fit=>refine DZ h hI hge t hv ?_ fit;have q:=Fa t;unfold eB at t;exact⟨λw=>tf pl w,q.hs,by rw[aij];exact t1,q.ts,by rw[aij];exact t2,q.ht,q.Rl,q.win,q.ep,q.wl,q.mh,q.ms,λ_=>by rw[tci t.1];exact y1,q.mt,λ_=>λw=>n3 w.symm⟩
 |ready k t ce pl n1 m1=>
  refine DZ h hI hge t hv ?_ (U5 (by unfold eB at t;omega) hI.ov (λj=> ?_))
  .have q:=Fa t;unfold fG at ce;exact⟨λw=>tf pl w,by show kE c _ e.aK=false;rw[n1];exact q.hn,xQ (by show(-1:Int)<0;omega),by show kE c _ e.aK=false;rw[n1];exact q.tn,xQ (by show(-1:Int)<0;omega),q.ht,q.Rl,q.win,q.ep,q.wl,q.mh,λ_=>by show oH c _ e.aK=true;rw[n1];exact q.mn ah,λw=>oL w,q.mt,λw=>oL w.2⟩
  .unfold eB at t;have hd:=aaB h t;unfold dl;simp only[pl,l7];have z:=PE (i:= -1) (n:=(c.aH.getD e.aI.toNat aG).jA) ah j;have p:=AR (i:=(aL s e.aI).aT) hd.2 j;rw[z,n1];omega
 |migrate k t ce pl sh tg n1 n2 n3 m1 f1 y1 t1 t2 fit=>refine DZ h hI hge t hv ?_ fit;have q:=Fa t;unfold eB at t;exact⟨λw=>tf pl w,q.hs,q.hn,t1,t2,λ_=>λw=>n1 w.symm,λw=>tf w sh,q.win,q.ep,q.wl,q.mh,q.ms,q.mn,λ_=>by rw[tci t.1];exact y1,λ_=>n3⟩
 |abandon k t pl tg=>
  refine DZ h hI hge t hv ?_ (U5 (by unfold eB at t;omega) hI.ov (λj=> ?_))
  .have q:=Fa t;exact⟨λw=>tf pl w,q.hs,q.hn,Lg (by show(-1:Int)<0;omega),Lg (by show(-1:Int)<0;omega),λw=>oL w,λ_=>rfl,q.win,q.ep,q.wl,q.mh,q.ms,q.mn,λw=>oL w,λw=>oL w.1⟩
  .unfold eB at t;have hd:=aaB h t;unfold dl;simp only[pl,l7];have z:=PE (i:= -1) (n:=(c.aH.getD e.aI.toNat aG).dZ) ah j;have p:=AR (i:=(aL s e.aI).dK) hd.1 j;rw[z];split<;>omega
 |shed k t n pl sh w=>
  refine DZ h hI hge t hv ?_ (U5 (by unfold eB at t;omega) hI.ov (λj=> ?_))
  .have q:=Fa t;exact⟨λw=>tf pl w,q.hs,q.hn,Lg (by show(-1:Int)<0;omega),Lg (by show(-1:Int)<0;omega),λw=>oL w,λ_=>rfl,λw'=>by have w':e.bf<(aL s e.aI).dn.bV:=w';omega,q.ep,q.wl,q.mh,q.ms,q.mn,λw=>oL w,λw=>oL w.1⟩
  .unfold eB at t;have hd:=aaB h t;unfold dl;simp only[pl,sh,l7,nD,mJ];have p:=AR (i:=(aL s e.aI).dK) hd.1 j;have p2:=AR (i:=(aL s e.aI).bC) hd.1 j;omega
 |back k t n sh m1 fit=>refine DZ h hI hge t hv ?_ fit;have q:=Fa t;have hp:=(wX hI.vs (nO hI.vs t)).sh sh;exact⟨λw=>tf hp w,q.hs,q.hn,q.ts,q.tn,q.ht,λw=>tf w rfl,λw=>tf sh (q.win w).2.1,q.ep,q.wl,q.mh,q.ms,q.mn,q.mt,q.mo⟩
 |mode k ce n m1=>have q:=cin ce;exact I5 h hI hge hv rfl rfl (ahT hI hge ⟨q.r1,q.r2,q.w1,q.w2,jc _⟩)
 |want k ce n n1 v1 v2 f=>have q:=cin ce;exact I5 h hI hge hv rfl rfl (ahT hI hge ⟨q.r1,q.r2,v1,v2,by have:=q.si;show _<=e.bf;exact wS this hge⟩)
 |runs k ce n n1 n2 f w=>have q:=cin ce;exact I5 h hI hge hv rfl rfl (ahT hI hge ⟨by show(c.fD.getD e.N.toNat aG).gP<=_;rw[n1];exact q.w1,by show _<=(c.fD.getD e.N.toNat aG).dL;rw[n1];exact q.w2,q.w1,q.w2,jc _⟩)
 |prove k n n1 b=>refine I5 h hI hge hv rfl rfl (λx hx=> ?_);have q:=hI.oK x hx;exact⟨q.r1,q.r2,q.w1,q.w2,by have:=q.si;show _<=e.bf;exact wS this hge⟩
 |lD k o n n1=>refine I5 h hI hge hv rfl rfl (λx hx=> ?_);have q:=hI.oK x hx;exact⟨q.r1,q.r2,q.w1,q.w2,by have:=q.si;show _<=e.bf;exact wS this hge⟩
 |expand k h1 h2 h3=>refine I5 h hI hge hv rfl rfl (λx hx=> ?_);have q:=hI.oK x hx;have h3:=List.any_eq_false.1 h3 x hx;unfold yw at h3;simp only[p8,oo,not_or,V8]at h3;exact⟨q.r1,by show s.dL+1<=_;omega,q.w1,by show s.dL+1<=_;omega,by have:=q.si;show _<=e.bf;exact wS this hge⟩
 |contract k h1=>refine I5 h hI hge hv rfl rfl (λx hx=> ?_);have q:=hI.oK x hx;have hlh:=hI.vs.lh;have:=q.r1;have:=q.w1;exact⟨by show _<=s.dL;omega,q.r2,by show _<=s.dL;omega,q.w2,by have:=q.si;show _<=e.bf;exact wS this hge⟩
 |note k=>refine I5 h hI hge hv rfl rfl (λx hx=> ?_);have q:=hI.oK x hx;exact⟨q.r1,q.r2,q.w1,q.w2,by have:=q.si;show _<=e.bf;exact wS this hge⟩
theorem asG(n j:Nat):∀k,ru c (List.replicate n uV) j k=0
 |0=>rfl
 |k+1=>by
  rw[ru,asG n j k];by_cases q:k<n
  .have:(List.replicate n uV).getD k aG=uV:=(by simp[fC,q]);rw[this];rfl
  .have:(List.replicate n uV).getD k aG=aG:=(by simp[fC,q]);rw[this];rfl
theorem Li(h:VC c):Inv c (newS c):=by
 have hl:=h.yg;refine⟨asu h,λi hi=> ?_,λx hx=> ?_,?_⟩
 .have hi':i<c.aH.length:=by simpa[newS]using hi
  have:(newS c).aH.getD i aG=uV:=by simp[newS,fC,hi']
  rw[this];exact⟨λ_=>rfl,xQ ak,xQ ak,xQ ak,xQ ak,λw=>oL w,λw=>tf w rfl,λw=>absurd w (by show¬(0:Int)<0;omega),rfl,by show(0:Int)<=0+2*c.iC;omega,λw=>oL w,λw=>oL w,λw=>oL w,λw=>oL w,λw=>oL w.1⟩
 .have:x=EX:=Ll hx;subst this;have h0:=h.v0;have hv:=h.v _ (jk (by have:=h.vl;omega:0<c.fD.length));exact⟨by show(c.fD.getD 0 aG).gP<=0;omega,by show 0<=(c.fD.getD 0 aG).dL;omega,by show(c.fD.getD 0 aG).gP<=0;omega,by show 0<=(c.fD.getD 0 aG).dL;omega,jc _⟩
 .rw[Pp];intro j hj;show ru c (List.replicate c.aH.length uV) j _<=_;rw[asG];have:=(h.oK _ (jk hj)).2.2.1;omega
theorem Vx(h:VC c)(l:List aP):∀s,Inv c s->xE c s l->Inv c (vY c s l):=by induction l with|nil=>intro s hv _;exact hv|cons a l ih=>intro s hv ho;exact ih _ (aaL h hv ho.1) ho.2
end
end
theorem aip(g a:Bool):(g&&(bif g then a else aG))=(g&&a):=by cases g<;>rfl
def qD(b:qN)(e:aP):Prop:=
 (e.aM=1/\0<=e.aI/\e.aI<b.wJ/\0<=e.aK/\e.aK<b.cells/\ -1<=e.dx/\e.dx<b.cells/\e.dx≠e.aK/\e.bN=0/\e.From=0/\e.bV=0/\e.N=0)∨
 (e.aM=2/\0<=e.aI/\e.aI<b.wJ/\0<=e.aK/\e.aK<b.cells/\e.dx= -1/\1<=e.bN/\e.bN<=1048576/\0<=e.From/\e.From<=1073741824/\0<=e.bV/\e.bV<=1073741824/\0<=e.N/\e.N<b.zQ)∨
 (e.aM=3/\0<=e.aI/\e.aI<b.wJ/\e.aK= -1/\e.dx= -1/\1<=e.bN/\e.bN<=1048576/\e.From=0/\e.bV=0/\e.N=0)∨
 (e.aM=4/\0<=e.aI/\e.aI<b.wJ/\ -1<=e.aK/\e.aK<b.cells/\e.dx= -1/\e.bN=0/\e.From=0/\e.bV=0/\e.N=0)∨
 ((e.aM=5\/e.aM=6)/\0<=e.aI/\e.aI<b.wJ/\0<=e.aK/\e.aK<b.cells/\e.dx= -1/\e.bN=0/\e.From=0/\e.bV=0/\e.N=0)∨
 (e.aM=7/\0<=e.aI/\e.aI<b.wJ/\e.aK= -1/\e.dx= -1/\e.bN=0/\e.From=0/\e.bV=0/\e.N=0)∨
 (e.aM=8/\0<=e.aI/\e.aI<b.wJ/\e.aK= -1/\e.dx= -1/\e.bN=0/\e.From=0/\e.bV=0/\0<=e.N/\e.N<=1)∨
 (e.aM=9/\e.aI= -1/\0<=e.aK/\e.aK<b.cells/\e.dx= -1/\e.bN=0/\e.From=0/\e.bV=0/\1<=e.N/\e.N<=3)∨
 ((e.aM=10\/e.aM=11)/\e.aI= -1/\0<=e.aK/\e.aK<b.cells/\e.dx= -1/\e.bN=0/\e.From=0/\e.bV=0/\0<=e.N/\e.N<b.zQ)∨
 (e.aM=12/\e.aI= -1/\e.aK= -1/\e.dx= -1/\e.bN=0/\e.From=0/\e.bV=0/\0<=e.N/\e.N<b.zQ)∨
 (e.aM=13/\e.aI= -1/\e.aK= -1/\0<=e.dx/\e.dx<b.regions/\e.bN=0/\e.From=0/\e.bV=0/\0<=e.N/\e.N<=1)∨
 ((e.aM=14\/e.aM=15)/\e.aI= -1/\e.aK= -1/\e.dx= -1/\e.bN=0/\e.From=0/\e.bV=0/\e.N=0)∨
 (e.aM=16/\e.aI= -1/\e.aK= -1/\e.dx= -1/\e.bN=0/\e.From=0/\e.bV=0/\0<=e.N/\e.N<=1073741824)
section
variable {c:aN} {e:aP}
theorem Ow(b:qN)(hb:0<=b.wJ/\b.wJ<=1000/\0<=b.cells/\b.cells<=1000/\0<=b.regions/\b.regions<=1000/\0<=b.zQ/\b.zQ<=1000):
  ∃v,O0 e b=some v/\(v=true ↔ (0<=e.bf/\e.bf<=1073741824)/\qD b e):=by
 have w1:aQ (b.wJ-1)=b.wJ-1:=bLZ;have w2:aQ (b.cells-1)=b.cells-1:=bLZ;have w3:aQ (b.regions-1)=b.regions-1:=bLZ;have w4:aQ (b.zQ-1)=b.zQ-1:=bLZ;by_cases hin:1<=e.aM/\e.aM<=16
 .have hk:e.aM=1\/e.aM=2\/e.aM=3\/e.aM=4\/e.aM=5\/e.aM=6\/e.aM=7\/e.aM=8\/e.aM=9\/e.aM=10\/e.aM=11\/e.aM=12\/e.aM=13\/e.aM=14\/e.aM=15\/e.aM=16:=ah
  unfold O0 Zv Tv Tt Tq xK KQ DJ;rcases hk with hk|hk|hk|hk|hk|hk|hk|hk|hk|hk|hk|hk|hk|hk|hk|hk
  .simp only[hk,w1,w2,w3,w4,Int.reduceBEq,nC,kN,pG,jZ,gN,jG,aY,aZ,bD,Qq,aip];by_cases ho:e.dx=e.aK
   .have:(e.dx==e.aK)=true:=(aD ho);simp only[this,aY];refine⟨false,rfl,?_⟩;simp only[qD,hk,Int.reduceEq,uF,sJ,uG,sK,uJ,uI,uH];constructor
    .intro q;cases q
    .intro q;omega
   .have:(e.dx==e.aK)=false:=(aD ho);simp only[this,aZ];refine⟨_,rfl,?_⟩;simp only[dD,oo];simp only[qD,hk,Int.reduceEq,uF,sJ,uG,sK,uJ,uI,uH];constructor<;>(intro q;omega)
  all_goals
   simp only[hk,w1,w2,w3,w4,Int.reduceBEq,nC,kN,pG,jZ,gN,jG,aY,aZ,bD,Qq,aip];refine⟨_,rfl,?_⟩;simp only[dD,oo];simp only[qD,hk,Int.reduceEq,uF,sJ,uG,sK,uJ,uI,uH];constructor<;>(intro q;omega)
 .have n:∀k:Int,1<=k->k<=16->(e.aM==k)=false:=λk h1 h2=>ay
  unfold O0 Zv Tv Tt Tq xK KQ DJ;simp only[n 1 ah ah,n 2 ah ah,n 3 ah ah,n 4 ah ah,n 5 ah ah,n 6 ah ah,n 7 ah ah,n 8 ah ah,n 9 ah ah,n 10 ah ah,n 11 ah ah,n 12 ah ah,n 13 ah ah,n 14 ah ah,n 15 ah ah,n 16 ah ah,bD,aZ,aY,jG,Ep];refine⟨false,rfl,?_⟩;constructor
  .intro q;cases q
  .intro q;exfalso;have q:=q.2;unfold qD at q;rcases q with q|q|q|q|q|q|q|q|q|q|q|q|q<;>(have q:=q.1;omega)
theorem apw:qD {wJ:=(c.aH.length:Int),cells:=(c.aJ.length:Int),regions:=c.gH,zQ:=(c.fD.length:Int)} e ↔ qz c e:=by
 constructor
 .intro q;unfold qD at q;rcases q with q|q|q|q|q|q|q|q|q|q|q|q|q
  .exact .place q.1 ⟨q.2.1,q.2.2.1⟩ ⟨q.2.2.2.1,q.2.2.2.2.1⟩ ⟨q.2.2.2.2.2.1,q.2.2.2.2.2.2.1,q.2.2.2.2.2.2.2.1⟩ (by unfold eN;omega) ah
  .exact .grant q.1 ⟨q.2.1,q.2.2.1⟩ ⟨q.2.2.2.1,q.2.2.2.2.1⟩ (by unfold oN;omega) ah ah (by unfold ig;simp only at q;omega)
  .exact .cut q.1 ⟨q.2.1,q.2.2.1⟩ ah (by unfold oN;omega) ah ah ah
  .exact .jF q.1 ⟨q.2.1,q.2.2.1⟩ ⟨q.2.2.2.1,q.2.2.2.2.1⟩ (by unfold oN;omega) (by unfold eN;omega) ah
  .rcases q.1 with k|k
   .exact .ready k ⟨q.2.1,q.2.2.1⟩ ⟨q.2.2.2.1,q.2.2.2.2.1⟩ (by unfold oN;omega) (by unfold eN;omega) ah
   .exact .migrate k ⟨q.2.1,q.2.2.1⟩ ⟨q.2.2.2.1,q.2.2.2.2.1⟩ (by unfold oN;omega) (by unfold eN;omega) ah
  .exact .abandon q.1 ⟨q.2.1,q.2.2.1⟩ ah (by unfold oN;omega) (by unfold eN;omega) ah
  .exact .shed q.1 ⟨q.2.1,q.2.2.1⟩ ah (by unfold oN;omega) (by unfold eN;omega) ah
  .exact .mode q.1 ah ⟨q.2.2.1,q.2.2.2.1⟩ (by unfold oN;omega) (by unfold eN;omega) ah
  .rcases q.1 with k|k
   .exact .want k ah ⟨q.2.2.1,q.2.2.2.1⟩ (by unfold oN;omega) (by unfold eN;omega) (by unfold ig;simp only at q;omega)
   .exact .runs k ah ⟨q.2.2.1,q.2.2.2.1⟩ (by unfold oN;omega) (by unfold eN;omega) (by unfold ig;simp only at q;omega)
  .exact .prove q.1 ah ah (by unfold oN;omega) (by unfold eN;omega) (by unfold ig;simp only at q;omega)
  .exact .lD q.1 ah ah ⟨q.2.2.2.1,q.2.2.2.2.1⟩ (by unfold eN;omega) ah
  .rcases q.1 with k|k
   .exact .expand k ah ah (by unfold oN;omega) (by unfold eN;omega) ah
   .exact .contract k ah ah (by unfold oN;omega) (by unfold eN;omega) ah
  .exact .note q.1 ah ah (by unfold oN;omega) (by unfold eN;omega) ah
 .intro q;cases q with|place hk t ce o w n=>simp only[qD,hk,Int.reduceEq,uF,sJ,uG,sK,uJ,uI,uH];simp only[eB,fG,ig,oN,eN]at t ce o w n;omega|grant hk t ce o ep w n=>simp only[qD,hk,Int.reduceEq,uF,sJ,uG,sK,uJ,uI,uH];simp only[eB,fG,ig,oN,eN]at t ce o ep w n;omega|cut hk t ce o ep w n=>simp only[qD,hk,Int.reduceEq,uF,sJ,uG,sK,uJ,uI,uH];simp only[eB,fG,ig,oN,eN]at t ce o ep w n;omega|jF hk t ce o w n=>simp only[qD,hk,Int.reduceEq,uF,sJ,uG,sK,uJ,uI,uH];simp only[eB,fG,ig,oN,eN]at t ce o w n;omega|ready hk t ce o w n=>simp only[qD,hk,Int.reduceEq,uF,sJ,uG,sK,uJ,uI,uH];simp only[eB,fG,ig,oN,eN]at t ce o w n;omega|migrate hk t ce o w n=>simp only[qD,hk,Int.reduceEq,uF,sJ,uG,sK,uJ,uI,uH];simp only[eB,fG,ig,oN,eN]at t ce o w n;omega|abandon hk t ce o w n=>simp only[qD,hk,Int.reduceEq,uF,sJ,uG,sK,uJ,uI,uH];simp only[eB,fG,ig,oN,eN]at t ce o w n;omega|shed hk t ce o w n=>simp only[qD,hk,Int.reduceEq,uF,sJ,uG,sK,uJ,uI,uH];simp only[eB,fG,ig,oN,eN]at t ce o w n;omega|mode hk t ce o w n=>simp only[qD,hk,Int.reduceEq,uF,sJ,uG,sK,uJ,uI,uH];simp only[eB,fG,ig,oN,eN]at t ce o w n;omega|want hk t ce o w n=>simp only[qD,hk,Int.reduceEq,uF,sJ,uG,sK,uJ,uI,uH];simp only[eB,fG,ig,oN,eN]at t ce o w n;omega|runs hk t ce o w n=>simp only[qD,hk,Int.reduceEq,uF,sJ,uG,sK,uJ,uI,uH];simp only[eB,fG,ig,oN,eN]at t ce o w n;omega|prove hk t ce o w n=>simp only[qD,hk,Int.reduceEq,uF,sJ,uG,sK,uJ,uI,uH];simp only[eB,fG,ig,oN,eN]at t ce o w n;omega|lD hk t ce o w n=>simp only[qD,hk,Int.reduceEq,uF,sJ,uG,sK,uJ,uI,uH];simp only[eB,fG,ig,oN,eN]at t ce o w n;omega|expand hk t ce o w n=>simp only[qD,hk,Int.reduceEq,uF,sJ,uG,sK,uJ,uI,uH];simp only[eB,fG,ig,oN,eN]at t ce o w n;omega|contract hk t ce o w n=>simp only[qD,hk,Int.reduceEq,uF,sJ,uG,sK,uJ,uI,uH];simp only[eB,fG,ig,oN,eN]at t ce o w n;omega|note hk t ce o w n=>simp only[qD,hk,Int.reduceEq,uF,sJ,uG,sK,uJ,uI,uH];simp only[eB,fG,ig,oN,eN]at t ce o w n;omega
theorem Uw(h:VC c):Uv c e=some (A8 c e):=by
 have htl:=h.tl;have hcl:=h.cl;have hvl:=h.vl;have nX:=h.reg;obtain⟨s,s1,s2⟩:=Ow (e:=e) {wJ:=32,cells:=16,regions:=4,zQ:=30} (by simp only;omega);obtain⟨f,f1,f2⟩:=Ow (e:=e) {wJ:=(c.aH.length:Int),cells:=(c.aJ.length:Int),regions:=c.gH,zQ:=(c.fD.length:Int)} (by simp only;omega);rw[apw]at f2;unfold Uv sG;simp only[s1,f1,bD,Qq,aip];congr 1;rw[LK,(valid_eq (e:=e) h).2,dD,s2,f2];unfold abE;constructor
 .intro q;exact q.2
 .intro q;refine⟨⟨q.1,?_⟩,q⟩;have hf:=apw.2 q.2;unfold qD at hf⊢;simp only at hf⊢;rcases hf with q|q|q|q|q|q|q|q|q|q|q|q|q
  .exact .inl ah
  .exact .inr (.inl ah)
  .exact .inr (.inr (.inl ah))
  .exact .inr (.inr (.inr (.inl ah)))
  .exact .inr (.inr (.inr (.inr (.inl ah))))
  .exact .inr (.inr (.inr (.inr (.inr (.inl ah)))))
  .exact .inr (.inr (.inr (.inr (.inr (.inr (.inl ah))))))
  .exact .inr (.inr (.inr (.inr (.inr (.inr (.inr (.inl ah)))))))
  .exact .inr (.inr (.inr (.inr (.inr (.inr (.inr (.inr (.inl ah))))))))
  .exact .inr (.inr (.inr (.inr (.inr (.inr (.inr (.inr (.inr (.inl ah)))))))))
  .exact .inr (.inr (.inr (.inr (.inr (.inr (.inr (.inr (.inr (.inr (.inl ah))))))))))
  .exact .inr (.inr (.inr (.inr (.inr (.inr (.inr (.inr (.inr (.inr (.inr (.inl ah)))))))))))
  .exact .inr (.inr (.inr (.inr (.inr (.inr (.inr (.inr (.inr (.inr (.inr (.inr ah)))))))))))
end
section
variable {a i:Int}
section
variable {c:aN} {s:aO} {e:aP}
theorem aiU(ha:0<=a/\a<1073741824)(hi:0<=i):jd .i64 (iF .i64 a i) 1=a / 2^(min i.toNat 64)%2:=by unfold iF;rw[fdiv_pow ha.1];show jd .i64 (a / 2^(min i.toNat 64)) 1=_;have h1:0<=a / 2^(min i.toNat 64):=ajR ha.1 (ab3 (Wd ak));have h2:a / 2^(min i.toNat 64)<=a:=Int.ediv_le_self _ ha.1;exact and_one h1
theorem aJF(ha:0<=a/\a<1073741824){n:Nat}(hn:30<=n):a / 2^n=0:=by
  apply Int.ediv_eq_zero_of_lt ha.1;have h1:(2:Int)^30<=2^n:=by
    have:(2:Nat)^30<=2^n:=ajl ak hn
    exact_mod_cast this
  have h2:(2:Int)^30=1073741824:=ak
  omega
theorem LH(ha:0<=a/\a<1073741824:=by omega):DX a i=some (hasB a i):=by
  unfold DX hasB;by_cases h0:0<=i
  · rw[aiU ha h0];have e1:(!((decide (0<=i))&&(decide (i<64)))||decide ((0:Int)<=i))=true:=(by rw[dU h0];simp);rw[gZ e1];by_cases h1:i<62
    · rw[dU h0,dU (show i<64 by omega),dU (⟨h0,h1⟩:0<=i/\i<62),Ef ah];simp only[Ba,kN];congr 1
    · have z:a / 2^(min i.toNat 64)=0:=aJF ha ah;rw[z,fF (show¬(0<=i/\i<62)by omega)];simp
  · rw[fF h0,fF (show¬(0<=i/\i<62)by omega)];rfl
theorem ahM(h:VC c)(hv:VS c s)(i:Int):KO c s i=some (oG c s i):=by have:=hv.lD;unfold KO oG;simp only[Ay h,bD,LH (show 0<=s.d9/\s.d9<1073741824 by omega)]
theorem ajI(h:VC c)(t i:Int):K4 c t i=some (oH c t i):=by
  have htl:=h.tl;unfold K4 oH BP;simp only[Ay h,bD];rw[bLZ];by_cases ht:0<=t/\t<(c.aH.length:Int)
  · have e1:(decide (0<=t)&&decide (t<=(c.aH.length:Int)-1))=true:=ay;have ha:=anY h ht;rw[e1,dU ht];simp only[kN];by_cases hr:0<=eF c i
    · have hb:=agM h i;have nX:=h.reg;rw[dU hr];simp (disch:=omega) only[abd,Jh];rw[gZ (by rw[dU hr];simp),aiU ah hr,Ef ah];unfold hasB;rw[dU (show 0<=eF c i/\eF c i<62 by omega)];simp only[kN];congr 1
    · rw[fF hr];unfold hasB;rw[fF (show¬(0<=eF c i/\eF c i<62)by omega)];rfl
  · have e1:(decide (0<=t)&&decide (t<=(c.aH.length:Int)-1))=false:=ay;rw[e1,fF ht];rfl
theorem aiV(h:VC c)(a b:Int):KZ c a b=some ((b !=(-1))&& !(qx c a b)):=by unfold KZ;rw[agO h,Qq,bD];cases (b !=(-1))<;>rfl
theorem PL{i:Int}(hi:0<=i/\i<(s.aJ.length:Int)):F3 s i=some (bX s i).gJ:=by
  unfold F3;have e1:(decide (i<0)||decide ((s.aJ.length:Int)<=i))=false:=ay
  rw[e1,aZ,dV hi.1 hi.2];rfl
theorem ajG(hi:0<=i/\i<(c.fD.length:Int)):Oi c i=some (c.fD.getD i.toNat aG):=by
  unfold Oi;have e1:(decide (i<0)||decide ((c.fD.length:Int)<=i))=false:=ay
  rw[e1,aZ,dV hi.1 hi.2]
theorem LA(hi: -1<=i):(i !=(-1))=decide (0<=i):=by
  by_cases h:0<=i
  · rw[dU h];simp;omega
  · have:i= -1:=ah;subst this;rfl
theorem eq_neg(hi: -1<=i):(i==(-1))=decide (i<0):=by
  by_cases h:i<0
  · rw[dU h];have:i= -1:=ah;subst this;rfl
  · rw[fF h];simp;omega
def uQ(x:Int)(n:aO×Int):aO×Int:=bif x !=0 then jf x else n
theorem aK6(h:VC c)(hv:VS c s)(t:eB c e)(ce:fG c e)(o: -1<=e.dx/\e.dx<(c.aJ.length:Int)):
    Ok (UL c s e) (λx=>Em c (bump s e) e=uQ x (nN c (gX (bump s e) e.aI (abV (aL s e.aI) e)))):=by
  have h1:=nO hv t;have h2:=sQ hv ce;have hcl:=hv.cl;unfold UL Y9 Y8 Y7 Em;rw[dV h1.1 h1.2,PL h2,LA o.1];simp only[bD,ahM h hv,ajI h,aiV h,LA o.1];have t0:aL (bump s e) e.aI=aL s e.aI:=rfl;have c0:∀i,bX (bump s e) i=bX s i:=λ_=>rfl;have f0:∀i,oG c (bump s e) i=oG c s i:=λ_=>rfl;rw[t0];simp only[c0,f0];show Ok (bif(aL s e.aI).dN then _ else _) _;have tg:kE c e.aK e.dx=(decide (0<=e.dx)&& !(qx c e.aK e.dx)):=by unfold kE;rw[dU h2.1];rfl
  rw[tg];by_cases ho:0<=e.dx
  · rw[dU ho,PL (s:=s) (i:=e.dx) ah];simp only[aY,kN,bD];cases (aL s e.aI).dN with
    |true=>exact Ok.some rfl
    |false =>cases ((bX s e.aK).gJ !=1)with
      |true=>exact Ok.some rfl
      |false =>cases ((bX s e.dx).gJ !=1)with|true=>exact Ok.some rfl|false =>cases oG c s e.aK with|true=>exact Ok.some rfl|false=>cases oG c s e.dx with|true=>exact Ok.some rfl|false=>rcases oH c e.aI e.aK with _|_;exact Ok.some rfl;rcases oH c e.aI e.dx with _|_;exact Ok.some rfl;cases qx c e.aK e.dx<;>exact Ok.some rfl
  · rw[fF ho];simp only[aZ,nC,bD,pG];cases (aL s e.aI).dN with|true=>exact Ok.some rfl|false=>cases ((bX s e.aK).gJ !=1)with|true=>exact Ok.some rfl|false=>cases oG c s e.aK with|true=>exact Ok.some rfl|false=>cases oH c e.aI e.aK<;>exact Ok.some rfl
theorem aJx(h:VC c)(hI:Inv c s)(t:eB c e)(ce: -1<=e.aK/\e.aK<(c.aJ.length:Int))(hp:e.bf>=s.bf):
    Ok (Ui c s e) (λx=>D6 c (bump s e) e=uQ x (bif decide (e.aK<0)then(gX (bump s e) e.aI {aL s e.aI with Next:=e.aK},0)else nN c (gX (bump s e) e.aI {aL s e.aI with Next:=e.aK}))):=by
  have hv:=hI.vs;have h1:=nO hv t;have hcl:=hv.cl;have hT:=wX hv h1;unfold Ui Tp Tn D6;rw[dV h1.1 h1.2,eq_neg ce.1];have t0:aL (bump s e) e.aI=aL s e.aI:=rfl;have c0:∀i,bX (bump s e) i=bX s i:=λ_=>rfl;have f0:∀i,oG c (bump s e) i=oG c s i:=λ_=>rfl;rw[t0];simp only[c0,f0];show Ok (bif !(aL s e.aI).dN then _ else _) _;have hg:(s.aH.getD e.aI.toNat aG)=aL s e.aI:=rfl;rw[hg];have key:(aL s e.aI).dN=true->e.aK<0->qb c (gX (bump s e) e.aI {aL s e.aI with Next:=e.aK})=[]:=by intro hpl hc;refine U5 h1 hI.ov (λj=> ?_);unfold eB at t;have hd:=aaB h t;unfold dl;simp only[hpl,l7];have z:=PE (i:=e.aK) (n:=(c.aH.getD e.aI.toNat aG).jA) hc j;have p:=AR (i:=(aL s e.aI).Next) hd.2 j;rw[z];omega
  rcases hpl:(aL s e.aI).dN with _|_;exact Ok.some rfl;simp only[gN,aZ];by_cases hc:e.aK<0
  · rw[dU hc];simp only[aY];refine Ok.some ?_;have k2:=key hpl hc;simp only[hpl]at k2⊢;rw[ar7 k2];rfl
  · rw[fF hc];have hce:0<=e.aK/\e.aK<((s.aJ.length:Nat):Int):=ah;simp only[aZ,PL hce,bD,ahM h hv,ajI h,aiV h,agO h,LA hT.tg.1];have hh:0<=(aL s e.aI).bC:=hT.pl hpl;have tg1:kE c e.aK (aL s e.aI).bC= !(qx c e.aK (aL s e.aI).bC):=(by unfold kE;rw[dU hce.1,dU hh];rfl);have tg2:kE c e.aK (aL s e.aI).dK=(decide (0<=(aL s e.aI).dK)&& !(qx c e.aK (aL s e.aI).dK)):=(by unfold kE;rw[dU hce.1];rfl);rw[tg1,tg2];generalize nN c _=R;generalize (decide (0<=(aL s e.aI).dK)&& !(qx c e.aK (aL s e.aI).dK))=b9;cases (e.aK==(aL s e.aI).bC)with
    |true=>exact Ok.some rfl
    |false =>cases (e.aK==(aL s e.aI).aT)with
      |true=>exact Ok.some rfl
      |false =>cases (e.aK==(aL s e.aI).dK)with|true=>exact Ok.some rfl|false =>cases ((bX s e.aK).gJ !=1)with|true=>exact Ok.some rfl|false=>cases oG c s e.aK with|true=>exact Ok.some rfl|false=>rcases oH c e.aI e.aK with _|_;exact Ok.some rfl;rcases qx c e.aK (aL s e.aI).bC with _|_;exact Ok.some rfl;cases b9<;>exact Ok.some rfl
theorem aLd(h:VC c)(hv:VS c s)(t:eB c e)(ce:fG c e):
    Ok (UN s e) (λx=>Eo (bump s e) e=uQ x (gX (bump s e) e.aI {aL s e.aI with aT:=e.aK,Next:= -1},0)):=by
  have h1:=nO hv t;have h2:=sQ hv ce;unfold UN Eo;rw[dV h1.1 h1.2,PL h2];show Ok (bif !(aL s e.aI).dN then _ else _) _;have t0:aL (bump s e) e.aI=aL s e.aI:=rfl;have c0:∀i,bX (bump s e) i=bX s i:=λ_=>rfl;have hg:(s.aH.getD e.aI.toNat aG)=aL s e.aI:=rfl;rw[t0,c0,hg];simp only[bD];cases (aL s e.aI).dN with|false=>exact Ok.some rfl|true=>cases (e.aK !=(aL s e.aI).Next)with|true=>exact Ok.some rfl|false=>cases ((bX s e.aK).gJ==3)<;>exact Ok.some rfl
theorem aJc(h : VC c)(hv:VS c s)(t:eB c e)(ce:fG c e):
    Ok (Uh c s e) (λx=>D5 c (bump s e) e=uQ x (nN c (gX (bump s e) e.aI {aL s e.aI with dK:=e.aK}))):=by
  have h1:=nO hv t;have h2:=sQ hv ce;have hT:=wX hv h1;unfold Uh Tk Tj Ti D5;rw[dV h1.1 h1.2];have t0:aL (bump s e) e.aI=aL s e.aI:=rfl;have c0:∀i,bX (bump s e) i=bX s i:=λ_=>rfl;have f0:∀i,oG c (bump s e) i=oG c s i:=λ_=>rfl;have hg:(s.aH.getD e.aI.toNat aG)=aL s e.aI:=rfl;rw[t0,hg];simp only[c0,f0,PL h2,bD,ahM h hv,ajI h,aiV h,LA hT.tg.1,LA hT.sb.1,LA hT.nx.1];have tg1:kE c e.aK (aL s e.aI).aT=(decide (0<=(aL s e.aI).aT)&& !(qx c e.aK (aL s e.aI).aT)):=by unfold kE;rw[dU h2.1];rfl
  have tg2:kE c e.aK (aL s e.aI).Next=(decide (0<=(aL s e.aI).Next)&& !(qx c e.aK (aL s e.aI).Next)):=by unfold kE;rw[dU h2.1];rfl
  rw[tg1,tg2];generalize nN c _=R;generalize (decide (0<=(aL s e.aI).aT)&& !(qx c e.aK (aL s e.aI).aT))=b8;generalize (decide (0<=(aL s e.aI).Next)&& !(qx c e.aK (aL s e.aI).Next))=b9;generalize decide (0<=(aL s e.aI).dK)=b7;cases (aL s e.aI).dN with
  |false=>exact Ok.some rfl
  | true=> cases (aL s e.aI).eX with
    |true=>exact Ok.some rfl
    | false => cases b7 with
      |true=>exact Ok.some rfl
      | false => cases (e.aK==(aL s e.aI).bC)with
        |true=>exact Ok.some rfl
        |false =>cases (e.aK==(aL s e.aI).aT)with
          |true=>exact Ok.some rfl
          |false =>cases (e.aK==(aL s e.aI).Next)with|true=>exact Ok.some rfl|false =>cases ((bX s e.aK).gJ !=1)with|true=>exact Ok.some rfl|false=>cases oG c s e.aK with|true=>exact Ok.some rfl|false=>rcases oH c e.aI e.aK with _|_;exact Ok.some rfl;cases b8 with|true=>exact Ok.some rfl|false=>cases b9<;>exact Ok.some rfl
theorem aIM(hv:VS c s)(t:eB c e):Ok (Ug s e) (λx=>DY (bump s e) e=uQ x (gX (bump s e) e.aI {aL s e.aI with dK:= -1},0)):=by have h1:=nO hv t;have hT:=wX hv h1;unfold Ug DY;have t0:aL (bump s e) e.aI=aL s e.aI:=rfl;have hg:(s.aH.getD e.aI.toNat aG)=aL s e.aI:=rfl;rw[dV h1.1 h1.2,t0,hg,eq_neg hT.tg.1];dsimp only;cases (!(aL s e.aI).dN||decide ((aL s e.aI).dK<0))<;>exact Ok.some rfl
theorem aMl(h:VC c)(hv:VS c s)(t:eB c e)(n:e.N=0\/e.N=1):
    Ok (U0 s e) (λx=>EG c (bump s e) e=uQ x (bif e.N==1 then(gX (bump s e) e.aI {aL s e.aI with eX:=true,dK:= -1},0)else nN c (gX (bump s e) e.aI {aL s e.aI with eX:=false}))):=by
  have h1:=nO hv t;have hT:=wX hv h1;have hcl:=hv.cl;unfold U0 Zp EG;have t0:aL (bump s e) e.aI=aL s e.aI:=rfl;have c0:∀i,bX (bump s e) i=bX s i:=λ_=>rfl;have hg:(s.aH.getD e.aI.toNat aG)=aL s e.aI:=rfl;rw[dV h1.1 h1.2,t0,hg];dsimp only;rw[c0];rcases n with n|n
  · rw[n];simp only[Int.reduceBEq,aY,aZ];rcases hs:(aL s e.aI).eX with _|_;exact Ok.some rfl;have hh:=hT.pl (hT.sh hs);have:=hT.lW;rw[PL (s:=s) (i:=(aL s e.aI).bC) ah];simp only[gN,aZ,bD];cases ((bX s (aL s e.aI).bC).gJ==3)<;>exact Ok.some rfl
  · rw[n];simp only[Int.reduceBEq,aY,aZ];cases (aL s e.aI).dN with|false=>exact Ok.some rfl|true=>cases (aL s e.aI).eX with|true=>exact Ok.some rfl|false=>cases decide (e.bf<(aL s e.aI).dn.bV)<;>exact Ok.some rfl
theorem aME(hv:VS c s)(t:eB c e):Ok (U9 s e) (λx=>EJ (bump s e) e=uQ x (gX (bump s e) e.aI {aL s e.aI with dn:=Ab (aL s e.aI).dn e.bf},0)):=by have h1:=nO hv t;unfold U9 EJ;have t0:aL (bump s e) e.aI=aL s e.aI:=rfl;have hg:(s.aH.getD e.aI.toNat aG)=aL s e.aI:=rfl;rw[dV h1.1 h1.2,t0,hg];dsimp only;cases (aL s e.aI).dN with|false=>exact Ok.some rfl|true=>cases (e.bN !=(aL s e.aI).bN)<;>exact Ok.some rfl
theorem aKM(h : VC c)(hv : VS c s)(t:eB c e)(ce:fG c e)(hk:0<=e.bf/\e.bf<=1073741824)(w:0<=e.From/\e.From<=1073741824/\0<=e.bV/\e.bV<=1073741824):
    Ok (KT c s e) (λx=>AQ c (bump s e) e=uQ x (nN c (gX (bump s e) e.aI (uW (aL s e.aI) e)))):=by
  have h1:=nO hv t;have h2:=sQ hv ce;have hT:=wX hv h1;have hle:=h.yg;have hep:=hT.ep;unfold KT TP Y6 Y5 Ou Y4 AQ AJ;have t0:aL (bump s e) e.aI=aL s e.aI:=rfl;have c0:∀i,bX (bump s e) i=bX s i:=λ_=>rfl;have hg:(s.aH.getD e.aI.toNat aG)=aL s e.aI:=rfl;have hg2:(s.aJ.getD e.aK.toNat aG)=bX s e.aK:=rfl;rw[dV h1.1 h1.2,dV h2.1 h2.2,t0,hg,hg2];dsimp only;rw[c0];rw[bL (x:=(aL s e.aI).bN+1) ah ah,bL (x:=e.bf+c.iC) ah ah,bL (x:=e.bV-e.From) ah ah];generalize nN c _=R;simp only[bne];generalize (e.aK==(aL s e.aI).bC)=b1;generalize (e.aK==(aL s e.aI).aT)=b2;generalize (e.aK==(aL s e.aI).dK)=b3;generalize ((bX s e.aK).gJ==3)=b4;generalize ((bX s e.aK).gJ==2)=b5;generalize (e.bN==(aL s e.aI).bN)=b6;generalize (e.bN==(aL s e.aI).bN+1)=b7;generalize (e.N==(bX s e.aK).fI)=b8;generalize ((bX s e.aK).fI==(bX s e.aK).iN)=b9;generalize decide (e.From<e.bf)=d1;generalize decide (e.bf+c.iC<e.From)=d2;generalize decide (e.bV<=e.From)=d3;generalize decide (c.iC<e.bV-e.From)=d4;generalize decide (e.From<(aL s e.aI).dn.bV)=d5;generalize decide (e.bf<(aL s e.aI).dn.bV)=d6;cases (aL s e.aI).dN with
  |false=>exact Ok.some rfl
  | true=> cases (aL s e.aI).eX<;>cases b2<;>first
      |(exact Ok.some rfl)
      | (cases b1 <;> cases b3<;>first
          |(exact Ok.some rfl)
          | (cases b4 with
             |true=>exact Ok.some rfl
             | false => cases b5 <;> first
                 |(exact Ok.some rfl)
                 | (cases b6<;>cases b7<;>first
                     |(exact Ok.some rfl)
                     | (cases b8 with
                        |false=>exact Ok.some rfl
                        | true=> rcases b9 with _|_;exact Ok.some rfl;cases d1 with
                          |true=>exact Ok.some rfl
                          | false => cases d2 with
                            |true=>exact Ok.some rfl
                            | false=> cases d3 with
                              |true=>exact Ok.some rfl
                              | false=> cases d4 with
                                |true=>exact Ok.some rfl
                                |false=>cases d5 with
                                  |true=>exact Ok.some rfl
                                  |false=>cases d6<;>exact Ok.some rfl))))
end
end
section
variable {c:aN} {s:aO} {e:aP}
theorem aL2(hv:VS c s)(ce:fG c e):Ok (UY s e) (λx=>EA (bump s e) e=uQ x (uf (bump s e) e.aK {bX s e.aK with gJ:=e.N,p9:=e.bf},0)):=by have h2:=sQ hv ce;unfold UY EA;have c0:∀i,bX (bump s e) i=bX s i:=λ_=>rfl;have hg2:(s.aJ.getD e.aK.toNat aG)=bX s e.aK:=rfl;rw[dV h2.1 h2.2,c0,hg2];cases ((bX s e.aK).gJ==e.N)<;>exact Ok.some rfl
def zx(s:aO):Nat->List Int
 |0=> []
 |k+1=>bif Co s (k:Int)then zx s k++ [(k:Int)]else zx s k
theorem ahA(s:aO):∀k,(zx s k).length<=k
 |0=>gI 0
 |k+1=>by have:=ahA s k;rw[zx];cases Co s (k:Int)with|true=>simp;omega|false=>simp;omega
def cntF(cell:Int)(l:List Int):Nat->Int
 |0=>0
 |k+1=>(bif l.getD k aG !=cell then cntF cell l k+1 else cntF cell l k)
theorem aq5(cell:Int)(l:List Int):∀k,0<=cntF cell l k/\cntF cell l k<=k
 |0=>by simp[cntF]
 |k+1=>by have:=aq5 cell l k;rw[cntF];cases (l.getD k aG !=cell)<;>simp<;>omega
theorem aqa(cell:Int)(l m:List Int):∀k,k<=l.length->cntF cell (l++m) k=cntF cell l k
 |0,_=>rfl
 |k+1,hk=>by
  rw[cntF,cntF,aqa cell l m k ah];have:(l++m).getD k aG=l.getD k aG:=by simp[fC,pX (show k<l.length by omega)]
  rw[this]
theorem aqb(s:aO)(cell:Int):∀k,cntF cell (zx s k) (zx s k).length=vk s cell k
 |0=>rfl
 |k+1=>by have ih:=aqb s cell k;rw[zx];unfold vk;cases ho:Co s (k:Int)with
  |false=>simp only[aZ];rw[ih];simp[ho]
  |true=>
   simp only[aY,pY,qo];rw[cntF,aqa _ _ _ _ (gI _),ih];have:(zx s k++ [(k:Int)]).getD (zx s k).length aG=(k:Int):=(by simp[fC]);rw[this];by_cases hq:(k:Int)=cell
   .simp[hq]
   .simp[hq,ho]
theorem aHR(h:VC c)(hv:VS c s):Y3 s=some (zx s s.aJ.length):=by
 apply pJ;have hcl:=hv.cl;have akC:=h.cl;have hp:=hv.Bq;unfold Y3;refine lJ (L:=λm x i=>FJ s s.aJ (s.aJ.length:Int) m x i) s.aJ.length ah (λk x=>x=zx s k) rfl ?_ ?_
 .rintro m k x hk rfl ih;show Ok (FJ s s.aJ _ (m+1) (zx s k) k) _;have hol:=ahA s k;rw[FJ];unfold YH;simp (disch:=omega) only[eZ,dV,gW,LH hp,Qq,bD,bL];have e1:((!hasB s.jT (s.aJ.getD k aG).fI)|| !(bif !(!hasB s.jT (s.aJ.getD k aG).fI)then hasB s.jT (s.aJ.getD k aG).iN else aG))=Co s (k:Int):=by unfold Co vv bX;rw[gW];cases hasB s.jT (s.aJ.getD k aG).fI<;>rfl
  rw[e1];have nx:=ih (zx s (k+1)) rfl;rw[zx]at nx;cases ho:Co s (k:Int)with|true=>rw[ho]at nx;simp only[aY]at nx⊢;rw[mR (by simp only[qo];unfold room;omega)];exact nx|false=>rw[ho]at nx;exact nx
 .rintro m x rfl;show Ok (FJ s s.aJ _ (m+1) _ _) _;rw[FJ];simp (disch:=omega) only[fH];exact Ok.some rfl
theorem aLz(h:VC c){l:List Int}(hl:l.length<=1000):DL c e l (l.length:Int) fuel 0 0=some (bif decide (c.ou<=cntF e.aK l l.length)then 14 else 0):=by
 apply pJ;refine lJ (L:=λm x i=>DL c e l (l.length:Int) m x i) l.length ah (λk x=>x=cntF e.aK l k) rfl ?_ ?_
 .rintro m k x hk rfl ih;show Ok (DL c e l _ (m+1) (cntF e.aK l k) k) _;have hb:=aq5 e.aK l k;rw[DL];unfold Zq;simp (disch:=omega) only[eZ,dV,gW,bL];have nx:=ih (cntF e.aK l (k+1)) rfl;rw[cntF]at nx;cases hq:(l.getD k aG !=e.aK)with|true=>rw[hq]at nx;exact nx|false=>rw[hq]at nx;exact nx
 .rintro m x rfl;show Ok (DL c e l _ (m+1) _ _) _;rw[DL];simp (disch:=omega) only[fH];cases decide (c.ou<=cntF e.aK l l.length)<;>exact Ok.some rfl
theorem aMt(h:VC c)(hv:VS c s)(ce:fG c e)(n:ig c e):Ok (U1 c s e) (λx=>Cr c (bump s e) e=uQ x (uf (bump s e) e.aK {bX s e.aK with iN:=e.N},0)):=by
 have h2:=sQ hv ce;have hp:=hv.Bq;have hcl:=hv.cl;have akC:=h.cl;unfold ig at n;unfold U1 Zt Zr Cr;have c0:∀i,bX (bump s e) i=bX s i:=λ_=>rfl;have hg2:(s.aJ.getD e.aK.toNat aG)=bX s e.aK:=rfl;have hol:=ahA s s.aJ.length;rw[dV h2.1 h2.2,hg2];dsimp only;rw[c0,ajG n,aHR h hv];simp only[bD,LH hp,agU];rw[aLz h ah,aqb];have p0:vv (bump s e) e.N=hasB s.jT e.N:=rfl;have q0:(bump s e).aJ.length=s.aJ.length:=rfl;have q1:(bump s e).d9=s.d9:=rfl;have q2:(bump s e).gP=s.gP:=rfl;have q3:(bump s e).dL=s.dL:=rfl;rw[p0,q0,q1,q2,q3];have r0:(e.N !=(bX s e.aK).fI)= !((bX s e.aK).fI==e.N):=by rw[LK];simp;exact⟨λa b=>a b.symm,λa b=>a b.symm⟩
 rw[r0];generalize vk s e.aK s.aJ.length=ot;cases ((bX s e.aK).iN==e.N)with
 |true=>exact Ok.some rfl
 |false=>cases decide (s.gP<(c.fD.getD e.N.toNat aG).gP)with
  |true=>exact Ok.some rfl
  |false=>cases decide ((c.fD.getD e.N.toNat aG).dL<s.dL)with|true=>exact Ok.some rfl|false=>cases ((bX s e.aK).fI==e.N)with|true=>exact Ok.some rfl|false=>cases hasB s.jT e.N with|true=>exact Ok.some rfl|false=>cases (s.d9 !=0)with|true=>exact Ok.some rfl|false=>cases decide (c.ou<=ot)<;>exact Ok.some rfl
theorem Pv{α:Type} [Inhabited α](p:α->Bool)(l:List α):l.any p=true ↔∃k,k<l.length/\p (l.getD k aG)=true:=by
 rw[VA];constructor
 .rintro⟨x,hx,hp⟩;obtain⟨k,hk,rfl⟩:=zh hx;exact⟨k,hk,by simpa[fC,hk]using hp⟩
 .rintro⟨k,hk,hp⟩;exact⟨_,jk hk,hp⟩
theorem aLj(hl:s.aH.length<=1000):FX e s.aH ((s.aH.length:Nat):Int) fuel 0=some (bif s.aH.any (z8 e)then 9 else 0):=by
 apply pJ;refine lJ (L:=λm (_:Unit) i=>FX e s.aH (s.aH.length:Int) m i) (x:=()) s.aH.length ah (λk _=>∀j,j<k->z8 e (s.aH.getD j aG)=false) (λj hj=>ah) ?_ ?_
 .rintro m k x hk hI ih;show Ok (FX e s.aH _ (m+1) k) _;rw[FX];simp (disch:=omega) only[eZ,dV,gW,bL];show Ok (bif z8 e (s.aH.getD k aG)then _ else _) _;cases hb:z8 e (s.aH.getD k aG)with
  |true=>have:s.aH.any (z8 e)=true:=(Pv _ _).2 ⟨k,hk,hb⟩;rw[this];exact Ok.some rfl
  |false=>
   exact ih () (λj hj=>by
    by_cases q:j=k
    .exact q▸hb
    .exact hI j ah)
 .rintro m x hI;show Ok (FX e s.aH _ (m+1) _) _;rw[FX];simp (disch:=omega) only[fH];have:s.aH.any (z8 e)=false:=by cases hq:s.aH.any (z8 e)with|false=>rfl|true=>obtain⟨k,hk,hp⟩:=(Pv _ _).1 hq;rw[hI k hk]at hp;cases hp
  rw[this];exact Ok.some rfl
theorem aMf(h:VC c)(hv:VS c s)(ce:fG c e)(n:ig c e):Ok (UZ s e) (λx=>EF (bump s e) e=uQ x (uf (bump s e) e.aK {bX s e.aK with fI:=e.N,p9:=e.bf},0)):=by
 have h2:=sQ hv ce;have hp:=hv.Bq;have htl:=hv.tl;have aQQ:=h.tl;unfold UZ Zo EF;have c0:∀i,bX (bump s e) i=bX s i:=λ_=>rfl;have hg2:(s.aJ.getD e.aK.toNat aG)=bX s e.aK:=rfl;rw[dV h2.1 h2.2,hg2];dsimp only;rw[c0,aLj ah];simp only[bD,LH hp];have p0:vv (bump s e) e.N=hasB s.jT e.N:=rfl;have q0:(bump s e).aH=s.aH:=rfl;have q1:(bump s e).d9=s.d9:=rfl;rw[p0,q0,q1];have r0:(e.N !=(bX s e.aK).iN)=((bX s e.aK).iN !=e.N):=by rw[LK];simp only[yP,ne_eq];exact⟨λa b=>a b.symm,λa b=>a b.symm⟩
 rw[r0];cases ((bX s e.aK).iN !=e.N)with
 |true=>exact Ok.some rfl
 |false=>cases ((bX s e.aK).fI==(bX s e.aK).iN)with
  |true=>exact Ok.some rfl
  |false=>cases hasB s.jT e.N with
   |true=>cases s.aH.any (z8 e)<;>exact Ok.some rfl
   |false=>cases (s.d9 !=0)with|true=>exact Ok.some rfl|false=>cases s.aH.any (z8 e)<;>exact Ok.some rfl
theorem aKc(h:VC c)(hv:VS c s)(hk:0<=e.bf/\e.bf<=1073741824):FT c e s.aJ ((s.aJ.length:Nat):Int) fuel 0=some (bif s.aJ.any (zV c e)then 0 else 15):=by
 apply pJ;have hcl:=hv.cl;have akC:=h.cl;refine lJ (L:=λm (_:Unit) i=>FT c e s.aJ (s.aJ.length:Int) m i) (x:=()) s.aJ.length ah (λk _=>∀j,j<k->zV c e (s.aJ.getD j aG)=false) (λj hj=>ah) ?_ ?_
 .rintro m k x hk2 hI ih;show Ok (FT c e s.aJ _ (m+1) k) _;have hC:=(hv.oK _ (jk hk2)).sin;rw[FT];simp (disch:=omega) only[eZ,dV,gW,bL];show Ok (bif zV c e (s.aJ.getD k aG)then _ else _) _;cases hb:zV c e (s.aJ.getD k aG)with
  |true=>have:s.aJ.any (zV c e)=true:=(Pv _ _).2 ⟨k,hk2,hb⟩;rw[this];exact Ok.some rfl
  |false=>
   exact ih () (λj hj=>by
    by_cases q:j=k
    .exact q▸hb
    .exact hI j ah)
 .rintro m x hI;show Ok (FT c e s.aJ _ (m+1) _) _;rw[FT];simp (disch:=omega) only[fH];have:s.aJ.any (zV c e)=false:=by cases hq:s.aJ.any (zV c e)with|false=>rfl|true=>obtain⟨k,hk,hp⟩:=(Pv _ _).1 hq;rw[hI k hk]at hp;cases hp
  rw[this];exact Ok.some rfl
theorem aK8(h:VC c)(hv:VS c s)(hk:0<=e.bf/\e.bf<=1073741824):Ok (UM c s e) (λx=>En c (bump s e) e=uQ x ({bump s e with jT:=um .i64 s.jT (iV .i64 1 (IntKind.u64.wrap e.N))},0)):=by have hp:=hv.Bq;unfold UM En;rw[aKc h hv hk];simp only[bD,LH hp];have p0:vv (bump s e) e.N=hasB s.jT e.N:=rfl;have q0:(bump s e).aJ=s.aJ:=rfl;rw[p0,q0];cases hasB s.jT e.N with|true=>exact Ok.some rfl|false=>cases s.aJ.any (zV c e)<;>exact Ok.some rfl
theorem aIX(h:VC c)(hv:VS c s):FP c s s.aJ ((s.aJ.length:Nat):Int) fuel 0=some (bif s.aJ.any (yw c s)then 13 else 0):=by
 apply pJ;have hcl:=hv.cl;have akC:=h.cl;refine lJ (L:=λm (_:Unit) i=>FP c s s.aJ (s.aJ.length:Int) m i) (x:=()) s.aJ.length ah (λk _=>∀j,j<k->yw c s (s.aJ.getD j aG)=false) (λj hj=>ah) ?_ ?_
 .rintro m k x hk2 hI ih;show Ok (FP c s s.aJ _ (m+1) k) _;have hC:=hv.oK _ (jk hk2);rw[FP];simp (disch:=omega) only[eZ,dV,gW,bL,ajG hC.run,ajG hC.wan,bD,Qq];have e1:(decide ((c.fD.getD (s.aJ.getD k aG).fI.toNat aG).dL<=s.dL)||decide ((bif !decide ((c.fD.getD (s.aJ.getD k aG).fI.toNat aG).dL<=s.dL)then c.fD.getD (s.aJ.getD k aG).iN.toNat aG else aG).dL<=s.dL))=yw c s (s.aJ.getD k aG):=by unfold yw;cases decide ((c.fD.getD (s.aJ.getD k aG).fI.toNat aG).dL<=s.dL)<;>rfl
  rw[e1];cases hb:yw c s (s.aJ.getD k aG)with
  |true=>have:s.aJ.any (yw c s)=true:=(Pv _ _).2 ⟨k,hk2,hb⟩;rw[this];exact Ok.some rfl
  |false=>
   exact ih () (λj hj=>by
    by_cases q:j=k
    .exact q▸hb
    .exact hI j ah)
 .rintro m x hI;show Ok (FP c s s.aJ _ (m+1) _) _;rw[FP];simp (disch:=omega) only[fH];have:s.aJ.any (yw c s)=false:=by cases hq:s.aJ.any (yw c s)with|false=>rfl|true=>obtain⟨k,hk,hp⟩:=(Pv _ _).1 hq;rw[hI k hk]at hp;cases hp
  rw[this];exact Ok.some rfl
theorem aJU(h:VC c)(hv:VS c s):Ok (Ur c s) (λx=>Ea c (bump s e)=uQ x ({bump s e with dL:=s.dL+1},0)):=by unfold Ur Ea;rw[aIX h hv];have q0:(bump s e).aJ.any (yw c (bump s e))=s.aJ.any (yw c s):=rfl;have q2:(bump s e).gP=s.gP:=rfl;have q3:(bump s e).dL=s.dL:=rfl;rw[q0,q2,q3];cases decide (s.gP<s.dL)with|true=>exact Ok.some rfl|false=>cases decide (30<=s.dL)with|true=>exact Ok.some rfl|false=>cases s.aJ.any (yw c s)<;>exact Ok.some rfl
theorem aHX:Ok (TN s) (λx=>IZ (bump s e)=uQ x ({bump s e with gP:=s.dL},0)):=by unfold TN IZ;have q2:(bump s e).gP=s.gP:=rfl;have q3:(bump s e).dL=s.dL:=rfl;rw[q2,q3];cases (s.dL==s.gP)<;>exact Ok.some rfl
theorem aLJ(hv:VS c s):Ok (KF s e) (λx=>Ew (bump s e) e=uQ x ({bump s e with d9:=wm .i64 s.d9 (iV .i64 1 (IntKind.u64.wrap e.dx))},0)):=by have hp:=hv.lD;unfold KF Ew;rw[LH];simp only[bD];have q1:(bump s e).d9=s.d9:=rfl;rw[q1];cases (hasB s.d9 e.dx==(e.N==1))<;>exact Ok.some rfl
theorem aIV{a n:Int}(ha:0<=a/\a<8)(hn:0<=n/\n<3):
  (hasB a n=false->um .i64 a (iV .i64 1 n)=wm .i64 a (iV .i64 1 (IntKind.u64.wrap n)))/\(hasB a n=true->Lh .i64 a (iV .i64 1 n)=wm .i64 a (iV .i64 1 (IntKind.u64.wrap n))):=by
 have h1:a=0\/a=1\/a=2\/a=3\/a=4\/a=5\/a=6\/a=7:=ah
 have h2:n=0\/n=1\/n=2:=ah
 rcases h1 with rfl|rfl|rfl|rfl|rfl|rfl|rfl|rfl<;>rcases h2 with rfl|rfl|rfl<;>decide
end
section
variable {c:aN} {s:aO}
theorem aop(h:VC c){b:List Int}(hl:b.length=c.aJ.length):∀(m k:Nat),c.aJ.length - k<m->k<=c.aJ.length->KJ c b ((b.length:Nat):Int) m (sP c b k) (k:Int)=some (sP c b c.aJ.length)
 |0,_,hm,_=>absurd hm (kF _)
 |m+1,k,hm,hk=>by
  have hcl:=h.cl;have hol:=ahC c b k;rw[KJ];(try simp only[gF,bF])
  by_cases hlt:k<c.aJ.length
  .have i1:0<=(k:Int)/\(k:Int)<(b.length:Int):=ah;have i2:0<=(k:Int)/\(k:Int)<(c.aJ.length:Int):=ah;rw[dU i1.2];simp only[aY,idx_eq i1,idx_eq i2,bD,gW];have next:KJ c b (b.length:Int) m (sP c b (k+1)) (aQ ((k:Int)+1))=some (sP c b c.aJ.length):=by rw[bLZ];have:=aop h hl m (k+1) ah ah;simpa using this
   simp only[sP]at next
   unfold Zx;(try simp only[gF,bF])
   have e0:b.getD k 0=b.getD k aG:=rfl;rw[e0]at next
   by_cases hc:(c.aJ.getD k aG).lT<b.getD k aG
   .rw[bU hc]at next
    rw[dU hc,dU (show((sP c b k).length+ [(k:Int)].length)*8<=140737488355328 by simp;omega)];exact next
   .rw[cZ hc]at next
    rw[fF hc];exact next
  .rw[fF (show¬(k:Int)<(b.length:Int)by omega)];have:k=c.aJ.length:=ah;subst this;rfl
theorem aI9(h:VC c)(hl:s.aH.length=c.aH.length):U4 c s=some (qb c s):=by
 have hcl:=h.cl;unfold U4 qb;(try simp only[gF,bF])
 rw[Uz h hl];have:=aop h (KU c s) fuel 0 aB ah;simpa[sP]using this
end
section
variable {c:aN} {s:aO} {e:aP}
theorem aa1{l:List bI}(hl:l.length<=1000:=by omega):JY l=some l:=by unfold JY;rw[mR (by simp only[xR];unfold room;omega)];rfl
theorem aa0{l:List gG}(hl:l.length<=1000:=by omega):JZ l=some l:=by unfold JZ;rw[mR (by simp only[xR];unfold room;omega)];rfl
def Qm(c:aN)(s:aO)(e:aP):Option (aO×Int):=
 (xL s e).bind λx2=>(ql e).bind λx3=>(bif x3 then U4 c x2 else some aG).bind λx4=>
  bif(x3&&(decide (0<(x4.length:Int))))then(some (aki,10))else(some (x2,0))
theorem OY:BQ c s e=(Av c s e).bind λx1=>bif x1 !=0 then some (aki,x1)else Qm c s e:=rfl
theorem Vo(h:VC c){S:aO}(he:xL s e=some S)(hb:ql e=some true)(hl:S.aH.length=c.aH.length):Qm c s e=some (nN c S):=by unfold Qm nN;rw[he,hb];simp only[bD,aY,aI9 h hl,kN];cases decide (0<(((qb c S).length:Nat):Int))<;>rfl
theorem zR{S:aO}(he:xL s e=some S)(hb:ql e=some false):Qm c s e=some (S,0):=by unfold Qm;rw[he,hb];rfl
theorem xO{x:Int}{R:aO×Int}(hr:Av c s e=some x)(hA:iy c s e=uQ x R)(hE:Qm c s e=some R):BQ c s e=some (iy c s e):=by rw[OY,hr,hA];unfold uQ;simp only[bD];cases (x !=0)with|true=>rfl|false=>exact hE
theorem ahW(h:VC c)(hv:VS c s)(ce:fG c e)(k:e.aM=9\/e.aM=10\/e.aM=11:=by omega):xL s e=(OP s.aJ e.aK.toNat e).bind λx=>some {bump s e with aJ:=x}:=by have h2:=sQ hv ce;have htl:=hv.tl;have hcl:=hv.cl;have a1:=h.tl;have a2:=h.cl;have hcnt:=hv.cnt;unfold xL KC Aq;rw[aa1,aa0,bLZ];simp only[bD];rcases k with k|k|k<;>(simp only[k,Int.reduceBEq,aY,aZ];rw[dV h2.1 h2.2];rfl)
theorem Gh(h:VC c)(hv:VS c s)(t:eB c e)(k:1<=e.aM/\e.aM<=8:=by omega):xL s e=(Ar s.aH e.aI.toNat e).bind λx=>some {bump s e with aH:=x}:=by
 have h1:=nO hv t;have htl:=hv.tl;have hcl:=hv.cl;have a1:=h.tl;have a2:=h.cl;have hcnt:=hv.cnt;have n:∀q:Int,9<=q->(e.aM==q)=false:=λq hq=>ay
 unfold xL KC Aq;rw[aa1,aa0,bLZ];simp only[bD,n 9 ah,n 10 ah,n 11 ah,n 12 ah,n 13 ah,n 14 ah,n 15 ah,n 16 ah,aZ];rw[dV h1.1 h1.2];rfl
theorem Ve(h:VC c)(hv:VS c s):(e.aM=12->0<=e.N->xL s e=some {bump s e with jT:=um .i64 s.jT (iV .i64 1 e.N)})∧
  (e.aM=13->0<=e.dx->xL s e=some {bump s e with d9:=bif e.N==1 then um .i64 s.d9 (iV .i64 1 e.dx)else Lh .i64 s.d9 (iV .i64 1 e.dx)})∧
  (e.aM=14->xL s e=some {bump s e with dL:=s.dL+1})/\(e.aM=15->xL s e=some {bump s e with gP:=s.dL})/\(e.aM=16->xL s e=some (bump s e)):=by
 have htl:=hv.tl;have hcl:=hv.cl;have a1:=h.tl;have a2:=h.cl;have hcnt:=hv.cnt;have hlh:=hv.lh;unfold xL KC Aq;rw[aa1,aa0,bL (x:=s.eH+1) ah ah];have wh:aQ (s.dL+1)=s.dL+1:=bLZ;simp only[bD,wh];refine⟨λk hn=> ?_,λk hn=> ?_,λk=> ?_,λk=> ?_,λk=> ?_⟩
 .simp only[k,Int.reduceBEq,aY,aZ];rw[mR hn];rfl
 .simp only[k,Int.reduceBEq,aY,aZ];rw[mR hn,mR hn];cases (e.N==1)<;>rfl
 .simp only[k,Int.reduceBEq,aY,aZ];rfl
 .simp only[k,Int.reduceBEq,aY,aZ];rfl
 .simp only[k,Int.reduceBEq,aY,aZ];rfl
theorem aIf(h:VC c)(hv:VS c s)(hb:A8 c e=true)(h4:s.eH<4096)(h5:s.bf<=e.bf):Av c s e=DI c s e false:=by
 unfold Av;rw[Uw h,hb];have e1:((s.aH.length:Int) !=(c.aH.length:Int))=false:=by rw[hv.tl];simp
 have e2:((s.aJ.length:Int) !=(c.aJ.length:Int))=false:=by rw[hv.cl];simp
 rw[e1,e2];rfl
theorem V4{x:bI}(hv:VS c s){i:Int}:(gX (bump s e) i x).aH.length=c.aH.length:=by show(s.aH.set i.toNat x).length=_;rw[oQ];exact hv.tl
theorem aoC(h:VC c)(hI:Inv c s):BQ c s e=some (iy c s e):=by have hv:=hI.vs;have hcnt:=hv.cnt;cases hb:A8 c e with
 |false=>
  have hr:Av c s e=some 1:=by unfold Av DI;rw[Uw h,hb];rfl
  rw[OY,hr];unfold iy;rw[hb];rfl
 | true =>
  have hV:=((valid_eq (e:=e) h).2).1 hb;by_cases h4:4096<=s.eH
  .have hr:Av c s e=some 2:=(by unfold Av;rw[Uw h,hb];have e1:((s.aH.length:Int) !=(c.aH.length:Int))=false:=(by rw[hv.tl];simp);have e2:((s.aJ.length:Int) !=(c.aJ.length:Int))=false:=(by rw[hv.cl];simp);rw[e1,e2];unfold DI;simp only[bD,gN,aZ];rw[eZ h4]);rw[OY,hr];unfold iy;rw[hb,dU h4];rfl
  .by_cases h5:e.bf<s.bf
   .have hr:Av c s e=some 3:=(by unfold Av;rw[Uw h,hb];have e1:((s.aH.length:Int) !=(c.aH.length:Int))=false:=(by rw[hv.tl];simp);have e2:((s.aJ.length:Int) !=(c.aJ.length:Int))=false:=(by rw[hv.cl];simp);rw[e1,e2];unfold DI;simp only[bD,gN,aZ];rw[fH h4,eZ h5]);rw[OY,hr];unfold iy;rw[hb,fF h4,dU h5];rfl
   .have hA :iy c s e=Cn c (bump s e) e:=(by unfold iy;rw[hb,fF h4,fF h5];rfl);have hR:=aIf h hv hb ah ah
    have hkk:DI c s e false=(bif(e.aM==1)then((UL c s e).bind λx2=>(some x2))else(bif(e.aM==4)then((Ui c s e).bind λx3=>(some x3))
      else(bif(e.aM==5)then((UN s e).bind λx4=>(some x4))else(bif(e.aM==6)then((Uh c s e).bind λx5=>(some x5))else(bif(e.aM==7)then((Ug s e).bind λx6=>(some x6))
      else(bif(e.aM==8)then((U0 s e).bind λx7=>(some x7))else(bif(e.aM==2)then((KT c s e).bind λx8=>(some x8))else(bif(e.aM==3)then((U9 s e).bind λx9=>(some x9))
      else(bif(e.aM==9)then((UY s e).bind λx10=>(some x10))else(bif(e.aM==10)then((U1 c s e).bind λbQ=>(some bQ))else(bif(e.aM==11)then((UZ s e).bind λbR=>(some bR))
      else(bif(e.aM==12)then((UM c s e).bind λdz=>(some dz))else(bif(e.aM==13)then((KF s e).bind λfq=>(some fq))else(bif(e.aM==14)then((Ur c s).bind λfA=>(some fA))
      else(bif(e.aM==15)then((TN s).bind λgT=>(some gT))else(some 0)))))))))))))))):=by
     unfold DI;rw[aZ,fH h4,fH h5]
    rw[hkk]at hR;have bs:∀{m:Option Int} {P:Int->Prop},Ok m P→∃x,(m.bind λy=>some y)=some x/\P x:=(by rintro m P ⟨x,rfl,hx⟩;exact⟨x,rfl,hx⟩);unfold Cn at hA;have hn:∀(t:eB c e),e.aI.toNat<s.aH.length:=λt=>(by have:=nO hv t;omega);have hc:∀(t:fG c e),e.aK.toNat<s.aJ.length:=λt=>(by have:=sQ hv t;omega);cases hV.2 with
    |place k t ce o w n=>
     simp only[k,Int.reduceBEq,aY,aZ]at hR hA;obtain⟨x,x1,x2⟩:=bs (aK6 h hv t ce ⟨o.1,o.2.1⟩);refine xO (by rw[hR,x1]) (by rw[hA,x2]) (Vo h ?_ ?_ (V4 hv))
     .rw[Gh h hv t];unfold Ar;simp only[k,Int.reduceBEq,aY,aZ,bF,pV (hn t),tC,bD,oQ];rfl
     .unfold ql rH;simp only[k,Int.reduceBEq,aY,aZ]
    | grant k t ce o ep w n=>
     simp only[k,Int.reduceBEq,aY,aZ]at hR hA;obtain⟨x,x1,x2⟩:=bs (aKM h hv t ce hV.1 w);by_cases hx:x=0
     .subst hx;refine xO (x:=0) (by rw[hR,x1]) (by rw[hA,x2]) (Vo h ?_ ?_ (V4 hv))
      .rw[Gh h hv t];unfold Ar agy;have hcl:e.aK=(aL s e.aI).bC\/e.aK=(aL s e.aI).aT\/e.aK=(aL s e.aI).dK:=by
        have hb2:((((e.aK !=(aL s e.aI).bC)&&(e.aK !=(aL s e.aI).aT))&&(e.aK !=(aL s e.aI).dK)))=false:=(by cases hq:(((e.aK !=(aL s e.aI).bC)&&(e.aK !=(aL s e.aI).aT))&&(e.aK !=(aL s e.aI).dK))with|false=>rfl|true=>exfalso;have hgs:∃k:Int,k≠0/\KT c s e=some k:=(by have h1:=nO hv t;have h2:=sQ hv ce;unfold KT TP;have hg:(s.aH.getD e.aI.toNat aG)=aL s e.aI:=rfl;rw[dV h1.1 h1.2,dV h2.1 h2.2,hg];have hq2:(((!(e.aK==(aL s e.aI).bC))&&(e.aK !=(aL s e.aI).aT))&&(e.aK !=(aL s e.aI).dK))=true:=hq;rw[hq2];cases (aL s e.aI).dN with|false=>exact⟨4,ak,rfl⟩|true=>cases ((aL s e.aI).eX&&(e.aK !=(aL s e.aI).aT))with|true=>exact⟨4,ak,rfl⟩|false=>exact⟨5,ak,rfl⟩);obtain⟨k',k1,k2⟩:=hgs;rw[k2]at x1;exact k1 (rP x1));rcases Gu (e.aK=(aL s e.aI).bC)with q|q
        .exact .inl q
        .rcases Gu (e.aK=(aL s e.aI).aT)with q2|q2
         .exact .inr (.inl q2)
         .refine .inr (.inr ?_);have a1:(e.aK !=(aL s e.aI).bC)=true:=(aD q);have a2:(e.aK !=(aL s e.aI).aT)=true:=(aD q2);rw[a1,a2]at hb2;simpa using hb2
       simp only[k,Int.reduceBEq,aY,aZ,bF,pV (hn t),tC,oQ];have hg:(s.aH.getD e.aI.toNat aG)=aL s e.aI:=rfl;rw[hg];unfold uW;dsimp only;rcases Gu (e.aK=(aL s e.aI).bC)with q|q
       .have a1:(e.aK==(aL s e.aI).bC)=true:=(aD q);rw[a1];rfl
       .have a1:(e.aK==(aL s e.aI).bC)=false:=(aD q);rw[a1];rcases Gu (e.aK=(aL s e.aI).aT)with q2|q2
        .have a2:(e.aK==(aL s e.aI).aT)=true:=(aD q2);rw[a2];rfl
        .have a2:(e.aK==(aL s e.aI).aT)=false:=(aD q2);have a3:(e.aK==(aL s e.aI).dK)=true:=by
          rcases hcl with z|z|z
          .exact absurd z q
          .exact absurd z q2
          .simpa using z
         rw[a2,a3];rfl
      .unfold ql rH;simp only[k,Int.reduceBEq,aY,aZ]
     .have hx':(x !=0)=true:=(aD hx);rw[OY,hR,x1,hA,x2];unfold uQ;rw[bD,hx'];rfl
    |cut k t ce o ep w n=>
     simp only[k,Int.reduceBEq,aY,aZ]at hR hA;obtain⟨x,x1,x2⟩:=bs (aME hv t);refine xO (by rw[hR,x1]) (by rw[hA,x2]) (zR ?_ ?_)
     .have hk:=hV.1;rw[Gh h hv t];unfold Ar;rw[bL (x:=e.bf+1) ah ah];simp only[k,Int.reduceBEq,aY,aZ,bF,pV (hn t),tC,bD,oQ];rfl
     .unfold ql rH;simp only[k,Int.reduceBEq,aY,aZ]
    |jF k t ce o w n=>
     simp only[k,Int.reduceBEq,aY,aZ]at hR hA;obtain⟨x,x1,x2⟩:=bs (aJx h hI t ce ah);refine xO (by rw[hR,x1]) (by rw[hA,x2]) ?_;have hE:xL s e=some (gX (bump s e) e.aI {aL s e.aI with Next:=e.aK}):=(by rw[Gh h hv t];unfold Ar;simp only[k,Int.reduceBEq,aY,aZ,bF,pV (hn t),tC,bD,oQ];rfl);by_cases hc:e.aK<0
     .rw[eZ hc];refine zR hE ?_;have:e.aK= -1:=ah;unfold ql rH;simp only[k,this,Int.reduceBEq,Int.reduceBNe,aY,aZ]
     .rw[fH hc];refine Vo h hE ?_ (V4 hv);have:(e.aK !=(-1))=true:=(by rw[LA ce.1];exact dU ah);unfold ql rH;simp only[k,this,Int.reduceBEq,aY,aZ]
    |ready k t ce o w n=>
     simp only[k,Int.reduceBEq,aY,aZ]at hR hA;obtain⟨x,x1,x2⟩:=bs (aLd h hv t ce);refine xO (by rw[hR,x1]) (by rw[hA,x2]) (zR ?_ ?_)
     .rw[Gh h hv t];unfold Ar;simp only[k,Int.reduceBEq,aY,aZ,bF,pV (hn t),tC,bD,oQ];rfl
     .unfold ql rH;simp only[k,Int.reduceBEq,aY,aZ]
    |migrate k t ce o w n=>
     simp only[k,Int.reduceBEq,aY,aZ]at hR hA;obtain⟨x,x1,x2⟩:=bs (aJc h hv t ce);refine xO (by rw[hR,x1]) (by rw[hA,x2]) (Vo h ?_ ?_ (V4 hv))
     .rw[Gh h hv t];unfold Ar;simp only[k,Int.reduceBEq,aY,aZ,bF,pV (hn t),tC,bD,oQ];rfl
     .unfold ql rH;simp only[k,Int.reduceBEq,aY,aZ]
    |abandon k t ce o w n=>
     simp only[k,Int.reduceBEq,aY,aZ]at hR hA;obtain⟨x,x1,x2⟩:=bs (aIM hv t);refine xO (by rw[hR,x1]) (by rw[hA,x2]) (zR ?_ ?_)
     .rw[Gh h hv t];unfold Ar;simp only[k,Int.reduceBEq,aY,aZ,bF,pV (hn t),tC,bD,oQ];rfl
     .unfold ql rH;simp only[k,Int.reduceBEq,aY,aZ]
    |shed k t ce o w n=>
     simp only[k,Int.reduceBEq,aY,aZ]at hR hA;obtain⟨x,x1,x2⟩:=bs (aMl h hv t n);refine xO (by rw[hR,x1]) (by rw[hA,x2]) ?_;rcases n with n|n
     .rw[n];simp only[Int.reduceBEq,aZ];refine Vo h ?_ ?_ (V4 hv)
      .rw[Gh h hv t];unfold Ar;simp only[k,n,Int.reduceBEq,aY,aZ,bF,pV (hn t),tC,bD,oQ];rfl
      .unfold ql rH;simp only[k,n,Int.reduceBEq,aY,aZ]
     .rw[n];simp only[Int.reduceBEq,aY];refine zR ?_ ?_
      .rw[Gh h hv t];unfold Ar;simp only[k,n,Int.reduceBEq,aY,aZ,bF,pV (hn t),tC,bD,oQ];rfl
      .unfold ql rH;simp only[k,n,Int.reduceBEq,aY,aZ]
    |mode k t ce o w n=>
     simp only[k,Int.reduceBEq,aY,aZ]at hR hA;obtain⟨x,x1,x2⟩:=bs (aL2 hv ce);refine xO (by rw[hR,x1]) (by rw[hA,x2]) (zR ?_ ?_)
     .rw[ahW h hv ce];unfold OP;simp only[k,Int.reduceBEq,aY,aZ,bF,pV (hc ce),tC,bD,oQ];rfl
     .unfold ql rH;simp only[k,Int.reduceBEq,aY,aZ]
    |want k t ce o w n=>
     simp only[k,Int.reduceBEq,aY,aZ]at hR hA;obtain⟨x,x1,x2⟩:=bs (aMt h hv ce n);refine xO (by rw[hR,x1]) (by rw[hA,x2]) (zR ?_ ?_)
     .rw[ahW h hv ce];unfold OP;simp only[k,Int.reduceBEq,aY,aZ,bF,pV (hc ce),tC,bD,oQ];rfl
     .unfold ql rH;simp only[k,Int.reduceBEq,aY,aZ]
    |runs k t ce o w n=>
     simp only[k,Int.reduceBEq,aY,aZ]at hR hA;obtain⟨x,x1,x2⟩:=bs (aMf h hv ce n);refine xO (by rw[hR,x1]) (by rw[hA,x2]) (zR ?_ ?_)
     .rw[ahW h hv ce];unfold OP;simp only[k,Int.reduceBEq,aY,aZ,bF,pV (hc ce),tC,bD,oQ];rfl
     .unfold ql rH;simp only[k,Int.reduceBEq,aY,aZ]
    |prove k t ce o w n=>
     simp only[k,Int.reduceBEq,aY,aZ]at hR hA;obtain⟨x,x1,x2⟩:=bs (aK8 h hv hV.1);unfold ig at n;have hvl:=h.vl;refine xO (by rw[hR,x1]) (by rw[hA,x2]) (zR ?_ ?_)
     .rw[(Ve h hv).1 k n.1,Jh n.1 ah]
     .unfold ql rH;simp only[k,Int.reduceBEq,aY,aZ]
    |lD k t ce o w n=>
     simp only[k,Int.reduceBEq,aY,aZ]at hR hA;obtain⟨x,x1,x2⟩:=bs (aLJ (e:=e) hv);have nX:=h.reg;have hev:=hv.lD;obtain⟨q1,q2⟩:=aIV (a:=s.d9) (n:=e.dx) ah ah;have hbk:ql e=some false:=(by unfold ql rH;simp only[k,Int.reduceBEq,aY,aZ]);by_cases hx:x=0
     .subst hx;refine xO (x:=0) (by rw[hR,x1]) (by rw[hA,x2]) (zR ?_ hbk);rw[(Ve h hv).2.1 k o.1];have hs:hasB s.d9 e.dx≠(e.N==1):=(by intro hq;have:KF s e=some 4:=(by unfold KF;rw[LH,bD,hq];simp);rw[this]at x1;cases x1);cases hq:(e.N==1)with|true=>rw[hq]at hs;have:hasB s.d9 e.dx=false:=(aD hs);rw[aY,q1 this]|false=>rw[hq]at hs;have:hasB s.d9 e.dx=true:=(aD hs);rw[aZ,q2 this]
     .have hx':(x !=0)=true:=(aD hx);rw[OY,hR,x1,hA,x2];unfold uQ;rw[bD,hx'];rfl
    |expand k t ce o w n=>simp only[k,Int.reduceBEq,aY,aZ]at hR hA;obtain⟨x,x1,x2⟩:=bs (aJU (e:=e) h hv);refine xO (by rw[hR,x1]) (by rw[hA,x2]) (zR ((Ve h hv).2.2.1 k) ?_);unfold ql rH;simp only[k,Int.reduceBEq,aY,aZ]
    |contract k t ce o w n=>simp only[k,Int.reduceBEq,aY,aZ]at hR hA;obtain⟨x,x1,x2⟩:=bs (aHX (s:=s) (e:=e));refine xO (by rw[hR,x1]) (by rw[hA,x2]) (zR ((Ve h hv).2.2.2.1 k) ?_);unfold ql rH;simp only[k,Int.reduceBEq,aY,aZ]
    |note k t ce o w n=>simp only[k,Int.reduceBEq,aY,aZ]at hR hA;refine xO (x:=0) (R:=(bump s e,0)) hR (by rw[hA];rfl) (zR ((Ve h hv).2.2.2.2 k) ?_);unfold ql rH;simp only[k,Int.reduceBEq,aY,aZ]
end
section
variable {c:aN} {s:aO} {e:aP}
theorem aHO(h:VC c)(hI:Inv c s):UK c s e=some (iy c s e).2:=by unfold UK;rw[aoC h hI];rfl
end
section
variable {c:aN} {s:aO} {e:aP}
theorem aJy{s':aO}(h:Step c s e s'):s'.bf=e.bf/\s'.eH=s.eH+1:=by cases h<;>exact⟨rfl,rfl⟩
theorem UR(h:VC c)(hz:(iy c s e).2=0):(iy c s e).1.bf=e.bf/\(iy c s e).1.eH=s.eH+1:=aJy (UQ h hz).2.2.2
structure RL(c:aN)(s:aO)(out:List aP)(n:Nat):Prop where
 ok:xE c (newS c) out
 run:vY c (newS c) out=s
 len:out.length<=n
 tk:s.bf<=20000*(out.length:Int)
 ct:s.eH=(out.length:Int)
theorem RL.up{out:List aP}{n n':Nat}(h:RL c s out n)(hn:n<=n'):RL c s out n':=⟨h.ok,h.run,Cb h.len hn,h.tk,h.ct⟩
theorem RL.vs(hc:VC c){out:List aP}{n:Nat}(h:RL c s out n):VS c s:=by rw[<-h.run];exact aMe hc _ _ (asu hc) h.ok
theorem RL.inv(hc:VC c){out:List aP}{n:Nat}(h:RL c s out n):Inv c s:=by rw[<-h.run];exact Vx hc _ _ (Li hc) h.ok
theorem RL.snoc(hc:VC c){out:List aP}{n:Nat}(h:RL c s out n)(hz:(iy c s e).2=0)(ht:e.bf<=s.bf+20000):RL c (iy c s e).1 (out++ [e]) (n+1):=by
 obtain⟨t1,t2⟩:=UR hc hz;have h1:=h.tk;have h2:=h.ct;refine⟨aK3 out e _ h.ok (by rw[h.run];exact hz),by rw[aaQ,h.run],by have:=h.len;simp;omega,?_,?_⟩
 .rw[t1];simp only[pY,qo];push_cast;omega
 .rw[t2,h2];simp
theorem RL.new(h:VC c):RL c (newS c) [] 0:=⟨trivial,rfl,gI _,by show(0:Int)<=20000*0;omega,rfl⟩
theorem ajy(h:VC c){n:Nat}(hn:n<=1000):∀(m:Nat) (T:eP) (s:aO) (out:List aP),TB T 300->RL c s out n->(400-T.At).toNat<m→
  Ok (UD c (n:Int) m T s out) (λr=>∃s',RL c s' r n)
 |0,_,_,_,_,_,hm=>absurd hm (kF _)
 |m+1,T,s,out,hT,hr,hm=>by
  have hlo:=hT.lo;have hhi:=hT.hi;have hln:=hT.ln;have hl:=hr.len;have hv:=hr.vs h;have hI:=hr.inv h;rw[UD];unfold agu;simp only[pU,bD];refine Ok.cond (λhc=> ?_) (λ_=>Ok.some ⟨s,hr⟩);have hlt:(out.length:Int)<(n:Int)/\T.At<(T.L.length:Int):=by cases hd:decide ((out.length:Int)<(n:Int))with
   |false=>rw[hd]at hc;cases hc
   |true=>rw[hd]at hc;simp only[kN,aY]at hc;exact⟨iZ hd,iZ hc⟩
  rw[dU hlt.1];simp only[aY];have hT':TB T 200:=⟨hT.el,hT.ln,hT.lo,ah⟩;unfold agS;have hle:=h.yg;refine Ok.bind (aJR h hv hT' ah (B:=s.bf+10004) ah (λx hx=> ?_)) (λr1 q1=> ?_)
  .obtain⟨i,hi,rfl⟩:=zh hx;have:=(hI.t i hi).wl;have e:s.aH[i]=s.aH.getD i aG:=(by simp[fC,hi]);rw[e];omega
  refine Ok.zo (aJD h hv) ?_;have hA:T.At+1<=r1.2.At:=q1.2.2.1 ah;have hT2:TB r1.2 300:=q1.1.up ah;have hB:r1.2.At<=300:=hT2.hi;refine Ok.cond (λh0=>Ok.bq (dT (by show _<=140737488355328;simp;omega)) ?_) (λ_=> ?_)
  .have h0:(iy c s r1.1).2=0:=(aD h0);have hs:=hr.snoc h h0 (by have:=q1.2.2.2;omega);refine ajy h hn m _ _ _ hT2 ⟨hs.ok,hs.run,ay,hs.tk,hs.ct⟩ ah
  .exact ajy h hn m _ _ _ hT2 hr ah
theorem arl(h:VC c){l:List Int}(hl:JK l){n:Nat}(hn:n<=1000):Ok (Vi l c (n:Int)) (λr=>∃s',RL c s' r n):=by unfold Vi Vj;have hT:TB {L:=l,At:=0} 300:=⟨hl.1,hl.2,jc 0,by show(0:Int)<=300;omega⟩;refine Ok.zo rfl (Ok.zo (aL3 h) ?_);exact ajy h hn fuel _ (newS c) [] hT ((RL.new h).up ah) (by rw[iK];simp)
end
section
variable {c:aN} {s:aO}
end
def RS(c:aN)(s:aO):Prop:=∃out,RL c s out 100
section
variable {c:aN} {s:aO}
theorem RS.inv(h:VC c)(hr:RS c s):Inv c s:=by obtain⟨o,q⟩:=hr;exact q.inv h
theorem RS.bZ(hr:RS c s):s.bf<=2000000:=by obtain⟨o,q⟩:=hr;have:=q.tk;have:=q.len;omega
theorem RS.cnt(hr:RS c s):s.eH<=100:=by obtain⟨o,q⟩:=hr;have:=q.ct;have:=q.len;omega
end
structure PC(c:aN)(i:Nat):Prop where
 reg:2<=c.gH/\c.gH<=3
 ir:(i:Int)<=c.gH
 zl:c.iO.length=i
 z:∀k,k<i->(c.iO.getD k aG).Region=k
 cl:i<=c.aJ.length/\c.aJ.length<=2*i
 oK:∀x∈c.aJ,0<=x.tN/\x.tN<(i:Int)/\1<=x.lT/\x.lT<=4194304
 c0:0<i->(c.aJ.getD 0 aG).tN=0
 vl:c.fD.length=3
 v:∀x∈c.fD,0<=x.gP/\x.gP<=x.dL/\x.dL<=30
 v0:(c.fD.getD 0 aG).gP=0
 ob:c.jX=[0]
 blast:1<=c.ou/\c.ou<=16
 yg:2<=c.iC/\c.iC<=8
 bake:0<=c.oW/\c.oW<=10000
structure MC(c:aN):Prop where
 vc:VC c
 r0:eF c 0=0
 tl:2<=c.aH.length/\c.aH.length<=8
 cl:c.aJ.length<=6
 reg:2<=c.gH
 vl:c.fD.length=3
 yg:2<=c.iC/\c.iC<=8

def zE:aP:={aM:=0,bf:=0,aI:=0,aK:=0,dx:=0,bN:=0,From:=0,bV:=0,N:=0:aP}
def gE(c:aN)(s:aO)(i t:Int):aP:={aM:=2,bf:=t,aI:=i,aK:=(aL s i).aT,dx:=(-1),bN:=(aL s i).bN+1,From:=t,bV:=t+c.iC,N:=(bX s (aL s i).aT).fI:aP}
def uP(c:aN)(s:aO)(i t:Int):aP×Int:=
 bif(((decide (i<0))||(decide ((c.aH.length:Int)<=i)))||(decide (t<0)))||(decide (1073741824<t))then(zE,1)
 else bif(!(aL s i).dN)||decide ((aL s i).aT<0)then(zE,4)
 else bif(iy c s (gE c s i t)).2 !=0 then(zE,(iy c s (gE c s i t)).2)
 else(gE c s i t,0)
section
variable {c:aN} {s:aO}
theorem as0(hc:VC c)(hI:Inv c s)(i t:Int):Oo c s i t=some (uP c s i t):=by have hv:=hI.vs;have htl:=hv.tl;have hle:=hc.yg;unfold Oo uP;cases hb:((((decide (i<0))||(decide ((c.aH.length:Int)<=i)))||(decide (t<0)))||(decide (1073741824<t)))with|true=>rfl|false=>simp only[ng,xV]at hb;obtain⟨⟨⟨b1,b2⟩,b3⟩,b4⟩:=hb;have hts:TS c (aL s i):=hv.t _ (jk (xs:=s.aH) (i:=i.toNat) ah);have h1:=hts.sb;have h2:=hts.ep;have hcl:=hv.cl;simp only[aZ];have eT:s.aH.getD i.toNat aG=aL s i:=rfl;rw[fHZ,dVZ,eT];show(bif(((!(aL s i).dN)||(decide ((aL s i).aT<0)))||(decide ((s.aJ.length:Int)<=(aL s i).aT)))then _ else _)=_;rw[dF (show¬(s.aJ.length:Int)<=(aL s i).aT by omega),pG];cases hq:((!(aL s i).dN)||decide ((aL s i).aT<0))with|true=>rfl|false=>simp only[ng,xV]at hq;obtain⟨_,hq⟩:=hq;simp only[aZ];rw[dVZ];rw[bL (x:=(aL s i).bN+1) ah ah,bL (x:=t+c.iC) ah ah,aHO hc hI,bD];show(bif(iy c s (gE c s i t)).2 !=0 then some (zE,(iy c s (gE c s i t)).2)else some _)=_;cases ((iy c s (gE c s i t)).2 !=0)<;>rfl
def yA(c:aN)(s:aO)(i t:Int):bI:=
 {dN:=true,eX:=false,bC:=(aL s i).aT,aT:= -1,Next:= -1,dK:= -1,bN:=(aL s i).bN+1,dn:={aK:=(aL s i).aT,bN:=(aL s i).bN+1,qQ:=(bX s (aL s i).aT).fI,From:=t,bV:=t+c.iC}}
structure aNa(c:aN)(s:aO)(i t:Int):Prop where
 ir:0<=i/\i<(s.aH.length:Int)
 tr:0<=t/\t<=1073741824
 pl:(aL s i).dN=true
 sb:0<=(aL s i).aT
 ap:iy c s (gE c s i t)=(gX (bump s (gE c s i t)) i (yA c s i t),0)
 wu:(aL s i).dn.bV<=t
 nh:(aL s i).aT≠(aL s i).bC
 rg:eF c (aL s i).aT≠eF c (aL s i).bC
theorem aaG{i t:Int}(h:(uP c s i t).2=0):(0<=i/\i<(c.aH.length:Int))/\(0<=t/\t<=1073741824)/\(aL s i).dN=true/\0<=(aL s i).aT/\(iy c s (gE c s i t)).2=0/\uP c s i t=(gE c s i t,0):=by unfold uP at h⊢;cases hb:((((decide (i<0))||(decide ((c.aH.length:Int)<=i)))||(decide (t<0)))||(decide (1073741824<t)))with
 |true=>rw[hb]at h;cases h
 |false=>rw[hb]at h;simp only[aZ]at h⊢;simp only[ng,xV]at hb;cases hq:((!(aL s i).dN)||decide ((aL s i).aT<0))with
  |true=>rw[hq]at h;cases h
  |false=>rw[hq]at h;simp only[aZ]at h⊢;simp only[ng,xV,zY]at hq;cases ha:((iy c s (gE c s i t)).2 !=0)with
   |true=>rw[ha]at h;rw[aY]at h;rw[h]at ha;cases ha
   |false=>exact⟨ah,ah,hq.1,ah,aD ha,rfl⟩
theorem aMM(hc:VC c)(hI:Inv c s){i t:Int}(h:(uP c s i t).2=0):aNa c s i t:=by
 obtain⟨hi,ht,hp,hsb,hz,_⟩:=aaG h;have htl:=hI.vs.tl;have hq:=hI.t i.toNat ah;have eT:s.aH.getD i.toNat aG=aL s i:=rfl;rw[eT]at hq;have hts:TS c (aL s i):=hI.vs.t _ (jk (xs:=s.aH) (i:=i.toNat) ah);have hh:=hts.pl hp;have hap:=ap3 hh hsb hq.hs;have hrg:eF c (aL s i).aT≠eF c (aL s i).bC:=by unfold qx at hap;simp only[dD,yP,ne_eq]at hap;exact λe=>hap.2 e.symm
 have Q9:(aL s i).aT≠(aL s i).bC:=λe=>hrg (by rw[e]);have hs:=(UQ hc hz).2.2.2;have e1:(gE c s i t).aM=2:=rfl;generalize hS:(iy c s (gE c s i t)).1=S at hs;have hS2:iy c s (gE c s i t)=(S,0):=by rw[<-hS,<-hz]
 have hi':0<=i/\i<(s.aH.length:Int):=ah
 cases hs with
 |grant k t1 ce ep w n pl sh cl m1 m2 eq v1 v2 w1 w2 w3 w4 w5 w6 fit=>
  refine⟨hi',ht,hp,hsb,?_,?_,Q9,hrg⟩
  .rw[hS2];have:uW (aL s i) (gE c s i t)=yA c s i t:=(by unfold uW;have b1:((gE c s i t).aK==(aL s i).bC)=false:=rQ.2 Q9;have b2:((gE c s i t).aK==(aL s i).aT)=true:=(by simp[gE]);simp only[b1,b2,aZ,aY];unfold yA gE;rw[hp]);show(gX (bump s (gE c s i t)) i (uW (aL s i) (gE c s i t)),(0:Int))=_;rw[this]
  .exact w6 Q9
 |place k=>rw[e1]at k;omega
 |cut k=>rw[e1]at k;omega
 |Vn k=>rw[e1]at k;omega
 |jF k=>rw[e1]at k;omega
 |ready k=>rw[e1]at k;omega
 |migrate k=>rw[e1]at k;omega
 |abandon k=>rw[e1]at k;omega
 |shed k=>rw[e1]at k;omega
 |back k=>rw[e1]at k;omega
 |mode k=>rw[e1]at k;omega
 |want k=>rw[e1]at k;omega
 |runs k=>rw[e1]at k;omega
 |prove k=>rw[e1]at k;omega
 |lD k=>rw[e1]at k;omega
 |expand k=>rw[e1]at k;omega
 |contract k=>rw[e1]at k;omega
 |note k=>rw[e1]at k;omega
theorem aiT{x:bI}{e:aP}{i:Int}{j:Nat}(hj:i.toNat≠j:=by omega):(gX (bump s e) i x).aH.getD j aG=s.aH.getD j aG:=by show(s.aH.set i.toNat x).getD j aG=_;simp[fC,yM,hj]
end
section
variable {c:aN}
end
section
variable {c:aN} {s:aO}
def pcF(s:aO):Nat->List Int
 |0=> []
 |k+1=>bif(s.aJ.getD k aG).fI !=(s.aJ.getD k aG).iN then pcF s k++ [(k:Int)]else pcF s k
def akh(bZ:Int)(k:Nat)(n:Int):aP:={aM:=10,bf:=bZ,aI:= -1,aK:=(k:Int),dx:= -1,bN:=0,From:=0,bV:=0,N:=n}
def qX(c:aN)(s:aO)(bZ:Int):Nat->List aP×aO
 |0=>([],s)
 |k+1=>bif(s.aJ.getD k aG).fI==(s.aJ.getD k aG).iN then qX c s bZ k
  else bif(iy c (qX c s bZ k).2 (akh bZ k (s.aJ.getD k aG).fI)).2==0 then
   ((qX c s bZ k).1++ [akh bZ k (s.aJ.getD k aG).fI],(iy c (qX c s bZ k).2 (akh bZ k (s.aJ.getD k aG).fI)).1)
  else qX c s bZ k
structure UP(c:aN)(s:aO)(bZ:Int)(k:Nat):Prop where
 inv:Inv c (qX c s bZ k).2
 len:(qX c s bZ k).1.length<=k
 cl:(qX c s bZ k).2.aJ.length=s.aJ.length
 ge:∀j,k<=j->(qX c s bZ k).2.aJ.getD j aG=s.aJ.getD j aG
 ok:xE c s (qX c s bZ k).1
 run:vY c s (qX c s bZ k).1=(qX c s bZ k).2
 ten:(qX c s bZ k).2.aH=s.aH
 pr:(qX c s bZ k).2.jT=s.jT
 ev:(qX c s bZ k).2.d9=s.d9
 lo:(qX c s bZ k).2.gP=s.gP
 hi:(qX c s bZ k).2.dL=s.dL
 kd:∀x∈(qX c s bZ k).1,x.aM=10
structure UA(c:aN)(s:aO)(bZ:Int)(k:Nat):Prop where
 map:(qX c s bZ k).1.map (·.aK)=pcF s k
 lt:∀j,j<k->(qX c s bZ k).2.aJ.getD j aG={s.aJ.getD j aG with iN:=(s.aJ.getD j aG).fI}
 tk:s.bf<=(qX c s bZ k).2.bf/\(qX c s bZ k).2.bf<=bZ
 ct:(qX c s bZ k).2.eH<=s.eH+k
end
end Go.CP
namespace Go.CP
open Go
structure C8(lt:Int->Int->Bool):Prop where
 Rb:∀x,lt x x=false
 tr:∀x y z,lt x y=true->lt y z=true->lt x z=true
 tot:∀x y,x≠y->lt x y=true\/lt y x=true
section
variable {lt:Int->Int->Bool}
theorem C8.asym(h:C8 lt){x y:Int}(a:lt x y=true):lt y x=false:=by rcases hb:lt y x with _|_;rfl;have:=h.tr x y x a hb;rw[h.Rb]at this;cases this
theorem C8.ne(h:C8 lt){x y:Int}(a:lt x y=true):x≠y:=by rintro rfl;rw[h.Rb]at a;cases a
theorem C8.Ws(h:C8 lt){x y:Int}(a:lt y x=false):x=y\/lt x y=true:=by
 by_cases e:x=y
 .exact .inl e
 .rcases h.tot x y e with q|q
  .exact .inr q
  .rw[a]at q;cases q
theorem aqT(h:C8 lt){cmp:Int->Int->Option Int}{xs:List Int}(hl:xs.length<4611686018427387904)(hc:∀x∈xs,∀y∈xs,∃q,cmp x y=some q/\decide (q<0)=lt x y):
  Ok (EH cmp xs) (λl=>l.Pairwise (λx y=>lt y x=false)/\(∀y,y∈l ↔ y∈xs)/\l.length=xs.length):=by
 have hlt:∀x∈xs,∀y∈xs,rD cmp x y=lt x y:=by intro x hx y hy;obtain⟨q,e,d⟩:=hc x hx y hy;unfold rD;rw[e];exact d
 have nt:∀x y z,lt x y=false->lt y z=false->lt x z=false:=by
  intro x y z a b;rcases h.Ws a with e|e
  .subst e;exact b
  .rcases h.Ws b with e'|e'
   .subst e';exact a
   .exact h.asym (h.tr _ _ _ e' e)
 unfold EH;rw[mR hl,gZ,gZ]
 .refine Ok.some ?_;have e:xs.mergeSort (λx y=> !rD cmp y x)=xs.mergeSort (λx y=> !lt y x):=by have:=ajc (r:=λx y=> !rD cmp y x) (s:=λx y=> !lt y x) (f:=λx:Int=>x) (l:=xs) (λa ha b hb=>by rw[hlt b hb a ha]);simpa using this
  rw[e];refine⟨?_,λy=>List.mem_mergeSort,ai9 _⟩
  have:=List.pairwise_mergeSort (le:=λx y=> !lt y x) (λa b c h1 h2=>by
   have h1:lt b a=false:=(aD h1);have h2:lt c b=false:=(aD h2);have:=nt c b a h2 h1
   simp[this]) (λa b=>by
   rcases q:lt b a with _|_;rfl
   rw[h.asym q];rfl) xs
  exact this.imp (λ{a b} q=>aD q)
 .unfold acj;rw[kG];intro x hx;rw[dD,kG];refine⟨by rw[hlt x hx x hx,h.Rb];rfl,λy hy=> ?_⟩;rw[dD,kG];refine⟨?_,λz hz=> ?_⟩
  .rw[hlt x hx y hy,hlt y hy x hx];by_cases e:x=y
   .subst e;simp
   .rcases h.tot x y e with q|q<;>rw[q]<;>simp
  .rw[hlt x hx y hy,hlt y hy z hz,hlt x hx z hz];have t1:=h.tr x y z;have t2:=nt x y z;cases h1:lt x y<;>cases h2:lt y z<;>cases h3:lt x z<;>simp_all
 .rw[kG];intro x hx;rw[kG];intro y hy;obtain⟨q,e,_⟩:=hc x hx y hy;rw[e];rfl
theorem aqv{xs:List Int}{y:Int}:y∈xs ↔∃j,j<xs.length/\xs.getD j aG=y:=by
 rw[List.mem_iff_getElem];constructor
 .rintro⟨j,hj,e⟩;exact⟨j,hj,by simp[fC,hj,e]⟩
 .rintro⟨j,hj,e⟩;exact⟨j,hj,by simpa[fC,hj]using e⟩
theorem aJL(h:C8 lt){xs:List Int}(hp:xs.Pairwise (λx y=>lt y x=false)):(jV xs).Pairwise (λx y=>lt x y=true)∧∀y,y∈jV xs ↔ y∈xs:=by
 have hp':∀i j,i<j->j<xs.length->lt (xs.getD j aG) (xs.getD i aG)=false:=by intro i j hij hj;have:=List.pairwise_iff_getElem.1 hp i j ah hj hij;simpa[fC,hj,show i<xs.length by omega]using this
 have key:∀m,m<=xs.length->(Gw xs m).Pairwise (λx y=>lt x y=true)∧∀y,y∈Gw xs m ↔∃j,j<m/\xs.getD j aG=y:=by intro m;induction m with
  |zero=>intro _;exact⟨List.Pairwise.nil,λy=>⟨λhy=>absurd hy l6,λ⟨j,hj,_⟩=>absurd hj (kF _)⟩⟩
  | succ m ih=> intro hm;obtain⟨i1,i2⟩:=ih ah;rw[Gw];cases hb:(Nat.beq m 0||(xs.getD m aG !=xs.getD (m - 1) aG))with
   |true=>
    simp only[aY];refine⟨?_,λy=> ?_⟩
    .rw[List.pairwise_append];refine⟨i1,List.pairwise_singleton _ _,λy hy a ha=> ?_⟩;rw[qw]at ha;subst ha;obtain⟨j,hj,e⟩:=(i2 y).1 hy;have hne:xs.getD m aG≠xs.getD (m-1) aG:=by
      rw[p8]at hb;rcases hb with q|q
      .have:=eG q;omega
      .simpa using q
     have h1:lt (xs.getD (m-1) aG) (xs.getD m aG)=true:=by
      rcases h.Ws (hp' (m-1) m ah ah)with q|q
      .exact absurd q.symm hne
      .exact q
     by_cases e2:j=m-1
     .subst e2;rw[<-e];exact h1
     .rcases h.Ws (hp' j (m-1) ah ah)with q|q
      .rw[<-e,q];exact h1
      .rw[<-e];exact h.tr _ _ _ q h1
    .rw[qp,qw,i2];constructor
     .rintro(⟨j,hj,e⟩|e)
      .exact⟨j,ah,e⟩
      .exact⟨m,ah,e.symm⟩
     .rintro⟨j,hj,e⟩;by_cases e2:j=m
      .subst e2;exact .inr e.symm
      .exact .inl ⟨j,ah,e⟩
   |false=>
    simp only[aZ,nK];refine⟨i1,λy=> ?_⟩;rw[i2];rw[ng]at hb;have hm0:m≠0:=(by rintro rfl;simp at hb);have he:xs.getD m aG=xs.getD (m-1) aG:=(aD hb.2);constructor
    .rintro⟨j,hj,e⟩;exact⟨j,ah,e⟩
    .rintro⟨j,hj,e⟩;by_cases e2:j=m
     .subst e2;exact⟨j-1,ah,by rw[<-he];exact e⟩
     .exact⟨j,ah,e⟩
 obtain⟨k1,k2⟩:=key xs.length (gI _);exact⟨k1,λy=>(k2 y).trans aqv.symm⟩
end
end Go.CP
namespace Go.CP
open Go
variable [Fuel]
def Qs(a b:Int):Int:=if a<b then -1 else if b<a then 1 else 0
theorem aoM(a b:Int):cmp_Compare_int a b=some (Qs a b):=by
 unfold cmp_Compare_int cmp_isNaN_int Qs;simp only[bD,jY,aZ];by_cases h1:a<b
 .simp[h1]
 .by_cases h2:b<a
  .simp[h1,h2]
  .simp[h1,h2]
theorem VU{α:Type}{a b:Int}{x y:α}(h:a≠b):(bif a !=b then x else y)=x:=by
 have:(a !=b)=true:=by rw[yP];exact h
 rw[this];rfl
theorem abI{α:Type}{a:Int}{x y:α}:(bif a !=a then x else y)=y:=by rw[jY];rfl
theorem Pw(a b:Int):decide (Qs a b<0)=decide (a<b):=by
 unfold Qs;by_cases h1:a<b
 .simp[h1]
 .by_cases h2:b<a
  .simp[h1,h2]
  .simp[h1,h2]
theorem aa2(a b:Int):(Qs a b !=0)=(a !=b):=by
 unfold Qs;by_cases h1:a<b
 .rw[bU h1];have:a≠b:=ah
  simp[this]
 .by_cases h2:b<a
  .rw[cZ h1,bU h2];have:a≠b:=ah;simp[this]
  .rw[cZ h1,cZ h2];have:a=b:=ah;simp[this]
section
variable {c:aN}
end
def tn(c:aN)(i:Int):iq:=c.aH.getD i.toNat aG
def Qp(c:aN)(x y:Int):Bool:=
  bif(tn c x).iT !=(tn c y).iT then decide ((tn c x).iT<(tn c y).iT)
  else bif(tn c x).dZ !=(tn c y).dZ then decide ((tn c y).dZ<(tn c x).dZ)else decide (x<y)
theorem aaD(c:aN)(x y:Int):Qp c x y=true ↔ (tn c x).iT<(tn c y).iT\/((tn c x).iT=(tn c y).iT/\((tn c y).dZ<(tn c x).dZ\/((tn c x).dZ=(tn c y).dZ/\x<y))):=by
  unfold Qp;generalize (tn c x).iT=a;generalize (tn c y).iT=b;generalize (tn c x).dZ=d;generalize (tn c y).dZ=e;by_cases h1:a=b
  · subst h1;by_cases h2:d=e
    · subst h2;simp
    · simp[h2]
  · simp[h1]
theorem ahP(c:aN):C8 (Qp c):=by
  refine⟨λx=> ?_,λx y z h1 h2=> ?_,λx y hne=> ?_⟩
  · rw[ab2];intro h;rw[aaD]at h;omega
  · rw[aaD]at h1 h2⊢;omega
  · rw[aaD,aaD];omega
theorem asx(a b d:Int):KV [a,b,d]=some (if a≠0 then a else if b≠0 then b else d):=by
  obtain⟨m,hm⟩:∃m,fuel=m+4:=⟨fuel-4,by rw[iK]⟩;unfold KV;rw[hm];have l3:(([a,b,d].length:Nat):Int)=3:=rfl;have w1:aQ (0+1)=1:=ak
  have w2:aQ (1+1)=2:=ak
  have w3:aQ (2+1)=3:=ak
  rw[l3,KH,eZ ak,dV ak (by rw[l3];decide),w1,KH,eZ ak,dV ak (by rw[l3];decide),w2,KH,eZ ak,dV ak (by rw[l3];decide),w3,KH,fH ak];show(bif a !=0 then some a else bif b !=0 then some b else bif d !=0 then some d else some 0)=_;by_cases h1:a=0
  · subst h1;by_cases h2:b=0
    · subst h2;by_cases h3:d=0
      · subst h3;rfl
      · rw[abI,abI,VU h3];rfl
    · rw[abI,VU h2,cZ aj,bU h2]
  · rw[VU h1,bU h1]
theorem aq4(a b d:Int):decide ((if a≠0 then a else if b≠0 then b else d)<0)=(bif a !=0 then decide (a<0)else bif b !=0 then decide (b<0)else decide (d<0)):=by
  by_cases h1:a=0
  · subst h1;by_cases h2:b=0
    · subst h2;rfl
    · rw[abI,VU h2,cZ aj,bU h2]
  · rw[VU h1,bU h1]
section
variable {c:aN}
def inT(c:aN)(l:List Int)(y:Int):Prop:=0<=y/\y<(c.aH.length:Int)/\y∈l
structure akk(c:aN)(l out:List Int):Prop where
  so:out.Pairwise (λx y=>Qp c x y=true)
  mem:∀y,y∈out ↔ inT c l y
  len:out.length<=1000
theorem aKk{x y:Int}(hx:0<=x/\x<((c.aH.length:Nat):Int))(hy:0<=y/\y<((c.aH.length:Nat):Int)):∃q,OM x y c=some q/\decide (q<0)=Qp c x y:=by
  unfold OM;simp only[dV hx.1 hx.2,dV hy.1 hy.2,aoM,bD,asx];refine⟨_,rfl,?_⟩;rw[aq4,Pw,Pw,Pw,aa2,aa2];unfold Qp;show(bif(tn c x).iT !=(tn c y).iT then _ else bif(tn c y).dZ !=(tn c x).dZ then decide ((tn c y).dZ<(tn c x).dZ)else _)=_;have:((tn c y).dZ !=(tn c x).dZ)=((tn c x).dZ !=(tn c y).dZ):=by
    by_cases e:(tn c y).dZ=(tn c x).dZ
    · rw[e]
    · have e':(tn c x).dZ≠(tn c y).dZ:=λq=>e q.symm;rw[(yP).2 e,(yP).2 e']
  rw[this];rfl
theorem aK5{l:List Int}(hl:l.length<=1000):Ok (KY c l) (akk c l):=by
  unfold KY;refine lJ (L:=λm x i=>FW c l (l.length:Int) m x i) l.length ah (λk x=>x.length<=k∧∀y,y∈x ↔ (0<=y/\y<(c.aH.length:Int)∧∃j,j<k/\l.getD j aG=y)) ⟨zk _,λy=>⟨λh=>absurd h l6,λ⟨_,_,j,hj,_⟩=>absurd hj (kF _)⟩⟩ ?_ ?_
  · rintro m k x hk ⟨h1,h2⟩ ih;show Ok (FW c l _ (m+1) x k) _;rw[FW];unfold Zn;simp (disch:=omega) only[eZ,dV,gW,bL];cases hq:((decide (0<=l.getD k aG))&&(decide (l.getD k aG<((c.aH.length:Nat):Int))))with
    | true=>
      rw[dD,oo,oo]at hq;simp only[aY];rw[mR (by simp only[qo];unfold room;omega)];refine ih _ ⟨ay,λy=> ?_⟩;rw[qp,qw,h2];constructor
      · rintro(⟨a,b,j,hj,e⟩|e)
        · exact⟨a,b,j,ah,e⟩
        · subst e;exact⟨hq.1,hq.2,k,ah,rfl⟩
      · rintro⟨a,b,j,hj,e⟩;by_cases e2:j=k
        · subst e2;exact .inr e.symm
        · exact .inl ⟨a,b,j,ah,e⟩
    | false=>
      simp only[aZ];refine ih _ ⟨ah,λy=> ?_⟩;rw[h2];constructor
      · rintro⟨a,b,j,hj,e⟩;exact⟨a,b,j,ah,e⟩
      · rintro⟨a,b,j,hj,e⟩;by_cases e2:j=k
        · subst e2;subst e;rw[dU a,dU b]at hq;cases hq
        · exact⟨a,b,j,ah,e⟩
  · rintro m x ⟨h1,h2⟩;show Ok (FW c l _ (m+1) x _) _;rw[FW];simp (disch:=omega) only[fH];unfold afU aeN
    obtain⟨s,es,p1,p2,p3⟩:=aqT (ahP c) (cmp:=λx y=>OM x y c) (xs:=x) ah (λa ha b hb=>by
      have ha:=(h2 a).1 ha;have hb:=(h2 b).1 hb
      exact aKk ⟨ha.1,ha.2.1⟩ ⟨hb.1,hb.2.1⟩)
    rw[es];show Ok ((bq (decide (s.length<4611686018427387904)) (some (jV s))).bind _) _;rw[mR];obtain⟨q1,q2⟩:=aJL (ahP c) p1
    refine Ok.some ⟨q1, fun y => ?_, by have:(jV s).length<=s.length:=ahq s s.length
                                        omega⟩
    rw[q2,p2,h2];unfold inT;rw[aqv]
end
def QZ(c:aN)(x y:Int):Bool:=
 bif(tn c x).iT !=(tn c y).iT then decide ((tn c y).iT<(tn c x).iT)
 else bif(tn c x).dZ !=(tn c y).dZ then decide ((tn c y).dZ<(tn c x).dZ)else decide (x<y)
theorem aaV(c:aN)(x y:Int):QZ c x y=true ↔ (tn c y).iT<(tn c x).iT\/((tn c x).iT=(tn c y).iT/\((tn c y).dZ<(tn c x).dZ\/((tn c x).dZ=(tn c y).dZ/\x<y))):=by
 unfold QZ;generalize (tn c x).iT=a;generalize (tn c y).iT=b;generalize (tn c x).dZ=d;generalize (tn c y).dZ=e;by_cases h1:a=b
 .subst h1;by_cases h2:d=e
  .subst h2;simp
  .simp[h2]
 .simp[h1]
theorem aii(c:aN):C8 (QZ c):=by
 refine⟨λx=> ?_,λx y z h1 h2=> ?_,λx y hne=> ?_⟩
 .rw[ab2];intro h;rw[aaV]at h;omega
 .rw[aaV]at h1 h2⊢;omega
 .rw[aaV,aaV];omega
section
variable {c:aN}
structure acu(c:aN)(out:List Int):Prop where
 so:out.Pairwise (λx y=>QZ c x y=true)
 mem:∀y,y∈out ↔ 0<=y/\y<(c.aH.length:Int)
 len:out.length=c.aH.length
theorem acu.nodup{o:List Int}(h:acu c o):o.Nodup:=h.so.imp (λq=>(aii c).ne q)
theorem aLv{x y:Int}(hx:0<=x/\x<(c.aH.length:Int))(hy:0<=y/\y<(c.aH.length:Int)):∃q,KG x y c=some q/\decide (q<0)=QZ c x y:=by
 unfold KG;simp only[dV hx.1 hx.2,dV hy.1 hy.2,aoM,bD,asx];refine⟨_,rfl,?_⟩;rw[aq4,Pw,Pw,Pw,aa2,aa2];unfold QZ;have sw:∀a b:Int,(a !=b)=(b !=a):=by
  intro a b;by_cases e:a=b
  .rw[e]
  .have e':b≠a:=λq=>e q.symm;rw[(yP).2 e,(yP).2 e']
 rw[sw (tn c x).iT,sw (tn c x).dZ];rfl
theorem aJi{lt:Int->Int->Bool}(h:C8 lt){xs:List Int}(hp:xs.Pairwise (λx y=>lt y x=false))(hn:xs.Nodup):xs.Pairwise (λx y=>lt x y=true):=by
 refine(hp.and hn).imp (λ{a b} q=> ?_);rcases h.Ws q.1 with e|e
 .exact absurd e q.2
 .exact e
theorem aFk(hc:VC c):Ok (KP c) (acu c):=by
 have hct:=hc.tl;unfold KP;rw[mR];refine lJ (L:=λm x i=>IC c (c.aH.length:Int) m x i) c.aH.length ah (λk x=>x.length=k/\x.Nodup∧∀y,y∈x ↔ (0<=y/\y<(k:Int))) ⟨rfl,abx,λy=>⟨λh=>absurd h l6,λ⟨a,b⟩=>ah⟩⟩ ?_ ?_
 .rintro m k x hk ⟨h1,h2,h3⟩ ih;show Ok (IC c _ (m+1) x k) _;rw[IC,eZZ,mR (by simp only[qo];unfold room;omega),bLZ];refine ih _ ⟨by simp[h1],?_,λy=> ?_⟩
  .rw[Ca];refine⟨h2,aj,λa ha b hb e=> ?_⟩;rw[qw]at hb;have:=(h3 a).1 ha;omega
  .rw[qp,qw,h3];omega
 .rintro m x ⟨h1,h2,h3⟩;show Ok (IC c _ (m+1) x _) _;rw[IC,fHZ];unfold afs;obtain⟨s,es,p1,p2,p3⟩:=aqT (aii c) (cmp:=λx y=>KG x y c) (xs:=x) ah (λa ha b hb=>aLv ((h3 a).1 ha) ((h3 b).1 hb));have hperm:s.Nodup:=by have hs:EH (λx y=>KG x y c) x=some s:=es;obtain⟨_,_,_,rfl⟩:=ao8 hs;exact(List.mergeSort_perm _ _).nodup_iff.2 h2
  rw[es];exact Ok.some ⟨aJi (aii c) p1 hperm,λy=>by rw[p2,h3],by rw[p3,h1]⟩
end
section
variable {c:aN} {s:aO}
theorem aqe{l:List Int}{k:Nat}(hk:k<l.length):l.drop k=l.getD k aG::l.drop (k+1):=by rw[Ec hk];simp[fC,hk]
theorem ato(hc:VC c){i:Int}(hi:0<=i/\i<(c.aH.length:Int)):0<=(tn c i).dZ/\(tn c i).dZ<=65536:=by have:=AB hc (k:=i.toNat) ah;exact⟨this.1,this.2.1⟩
theorem arY(hc:VC c){k:Nat}(hk:k<c.aJ.length):1<=(c.aJ.getD k aG).lT/\(c.aJ.getD k aG).lT<=4194304:=by have:=hc.oK _ (jk hk);exact⟨this.2.2.1,this.2.2.2⟩
end
section
variable {j i:Nat}
def sN(t:bI):mF:={nT:=t.dN&& !t.eX,lW:=t.bC,jF:=t.aT,next:=t.Next,xW:=t.dK}
def jv(c:aN)(s:aO)(ts:List bI):List Int:=nA c {s with aH:=ts}
def sit(c:aN)(s:aO)(ts:List bI):ku:={eu:=c,state:=s,dQ:=ts.map sN,dM:=jv c s ts}
def kX(t:bI):Bool:=t.dN&& !t.eX
def qj(c:aN)(s:aO)(k:Int):Bool:=(decide (0<=k)&&decide (k<(c.aJ.length:Int)))&&(((bX s k).gJ==1)&&((bX s k).fI==(bX s k).iN))&& !oG c s k
def yE(t:bI)(x:eU):bI:=
 bif x.aM==1 then {t with eX:=true,dK:= -1}else {t with bC:=x.aK,aT:= -1,Next:= -1,dK:= -1}
def mV(ts:List bI)(x:eU):List bI:=ts.set x.aI.toNat (yE (ts.getD x.aI.toNat aG) x)
def nE(c:aN)(s:aO)(ts:List bI)(x:eU):Bool:=
 (decide (0<=x.aI)&&decide (x.aI<(ts.length:Int)))&&(decide (0<=x.aK)&&decide (x.aK<(c.aJ.length:Int)))&&kX (ts.getD x.aI.toNat aG)&&
  ((x.aM==1&&(ts.getD x.aI.toNat aG).bC==x.aK)||(x.aM==2&&(ts.getD x.aI.toNat aG).aT==x.aK&&qj c s x.aK))
structure GS(c:aN)(ts:List bI):Prop where
 len:ts.length=c.aH.length
 t:∀x∈ts,TS c x
section
variable {c:aN} {s:aO} {ts:List bI}
theorem GS.at(h:GS c ts){i:Nat}(hi:i<ts.length):TS c (ts.getD i aG):=h.t _ (jk hi)
theorem VS.gs(h:VS c s):GS c s.aH:=⟨h.tl,h.t⟩
theorem GS.set(h:GS c ts){i:Nat}{t:bI}(ht:TS c t):GS c (ts.set i t):=
 ⟨by rw[oQ];exact h.len,λx hx=>by
  rcases Gm hx with q|q
  .exact h.t x q
  .rw[q];exact ht⟩
theorem wQ(c:aN)(s:aO)(ts:List bI):(jv c s ts).length=c.aJ.length:=KU _ _
theorem abF(hj:j<c.aJ.length):(jv c s ts).getD j 0=ru c ts j ts.length:=ag4 hj
theorem asY(hc:VC c)(hg:GS c ts):∀x∈jv c s ts,0<=x/\x<=8388608:=apg hc (s:={s with aH:=ts}) hg.len
theorem asX(hc:VC c)(hg:GS c ts){j:Nat}(hj:j<c.aJ.length):0<=(jv c s ts).getD j 0/\(jv c s ts).getD j 0<=8388608:=
 asY hc hg _ (by
  have:j<(jv c s ts).length:=by rw[wQ];exact hj
  exact jk (xs:=jv c s ts) this)
theorem VN{t:bI}(hi:i<ts.length)(hj:j<c.aJ.length):
  (jv c s (ts.set i t)).getD j 0=(jv c s ts).getD j 0+(dl t (c.aH.getD i aG) j-dl (ts.getD i aG) (c.aH.getD i aG) j):=by
 rw[abF hj,abF hj,aiY hi,oQ,bU hi]
theorem atx{a b:List Int}(hl:a.length=b.length)(h:∀j,j<b.length->a.getD j 0=b.getD j 0):a=b:=by apply abm hl;intro j h1 h2;have:=h j h2;simpa[fC,h1,h2]using this
theorem ah5(hi:i<ts.length):(ts.map sN).getD i aG=sN (ts.getD i aG):=by simp[fC,hi]
theorem aLO(hc:VC c)(hv:VS c s){k:Int}(hk:0<=k/\k<(c.aJ.length:Int)):0<=eF c k/\eF c k<3:=by unfold eF;rw[bU hk];have h1:=hc.oK _ (jk (xs:=c.aJ) (i:=k.toNat) ah);have h2:=hc.z _ (jk (xs:=c.iO) (i:=(c.aJ.getD k.toNat aG).tN.toNat) ah);have:=hc.reg;omega
theorem aik(hc:VC c)(hv:VS c s)(k:Int):Iz c s k=some (qj c s k):=by
 unfold Iz qj;have hcl:=hv.cl;by_cases hk:0<=k/\k<(c.aJ.length:Int)
 .have e:((decide (k<0)||decide ((c.aJ.length:Int)<=k))||decide ((s.aJ.length:Int)<=k))=false:=by rw[fF ah,fF ah,fF ah];rfl
  have hr:=aLO hc hv hk;have hev:=hv.lD;rw[e,aZ,dV hk.1 ah,Ay hc,bD,dU hk.1,dU hk.2];rw[Jh ah ah,aq3 ah];have hb:(jd .i64 (iF .i64 s.d9 (eF c k)) 1==0)= !oG c s k:=by
   unfold oG hasB;rw[aiU ah hr.1,Ef ah,dU (show 0<=eF c k/\eF c k<62 by omega),kN];generalize s.d9 / 2^(eF c k).toNat=z;by_cases h1:z%2=1
   .rw[h1];rfl
   .have:z%2=0:=ah;rw[this];rfl
  rw[hb,dU hr.1];simp only[Gt,kN];rfl
 .have e:((decide (k<0)||decide ((c.aJ.length:Int)<=k))||decide ((s.aJ.length:Int)<=k))=true:=by
   by_cases h1:k<0
   .rw[dU h1];rfl
   .rw[dU (show(c.aJ.length:Int)<=k by omega)];simp
  rw[e,aY];have e2:(decide (0<=k)&&decide (k<(c.aJ.length:Int)))=false:=by
   by_cases h1:0<=k
   .rw[fF (show¬k<(c.aJ.length:Int)by omega)];simp
   .rw[fF h1];rfl
  rw[e2];rfl
def Xf(l:List Int)(b:Int):Prop:=∀x∈l,-b<=x/\x<=b
theorem Pt{l:List Int}{b i n:Int}(h:Xf l b)(hb:0<=b)(hn: -65536<=n/\n<=65536):Xf (pI l i n) (b+65536):=by
 unfold pI;split
 .rename_i hi;intro x hx;rcases Gm hx with q|q
  .have:=h x q;omega
  .have:=h _ (jk (xs:=l) (i:=i.toNat) ah);have e:l.getD i.toNat 0=l.getD i.toNat aG:=rfl;rw[q,e];omega
 .intro x hx;have:=h x hx;omega
theorem Qg{p:ku}{b i n:Int}(h:Xf p.dM b)(hb:b<=1000000000)(hn: -65536<=n/\n<=65536:=by omega):Fq p i n=some {p with dM:=pI p.dM i n}:=by
 unfold Fq pI;by_cases hi:0<=i/\i<(p.dM.length:Int)
 .rw[dU hi.1,dU hi.2,bU hi];have:=h _ (jk (xs:=p.dM) (i:=i.toNat) ah);simp only[Ba,aY,dV hi.1 hi.2,bF];rw[bLZ];rfl
 .rw[cZ hi];have:(decide (0<=i)&&decide (i<(p.dM.length:Int)))=false:=by
   by_cases h1:0<=i
   .rw[fF (show¬i<(p.dM.length:Int)by omega)];simp
   .rw[fF h1];rfl
  rw[this];rfl
theorem aq2(hg:GS c ts){i:Nat}(hi:i<ts.length)(ha:kX (ts.getD i aG)=true):
  pI (pI (jv c s ts) (ts.getD i aG).bC (0-(c.aH.getD i aG).dZ)) (ts.getD i aG).dK (0-(c.aH.getD i aG).dZ)=jv c s (ts.set i {ts.getD i aG with eX:=true,dK:= -1}):=by
 apply atx
 .rw[qm,qm,wQ,wQ]
 .intro j hj;rw[wQ]at hj;unfold kX at ha;rw[dD,uL]at ha;rw[zO _ _ _ (by rw[qm,wQ];exact hj),zO _ _ _ (by rw[wQ];exact hj),VN hi hj];unfold dl;simp only[ha.1,ha.2,l7,nD,mJ];have e:∀(k n:Int),hit k (0-n) j= - hit k n j:=by intro k n;unfold hit;split<;>omega
  have n1:∀n:Int,hit (-1) n j=0:=λn=>PE ah j;rw[e,e];(try simp only[n1]);omega
theorem aq1(hg:GS c ts){i:Nat}(hi:i<ts.length)(ha:kX (ts.getD i aG)=true):
  pI (pI (pI (pI (jv c s ts) (ts.getD i aG).bC (0-(c.aH.getD i aG).dZ)) (ts.getD i aG).dK (0-(c.aH.getD i aG).dZ)) (ts.getD i aG).Next (0-(c.aH.getD i aG).jA)) (ts.getD i aG).aT ((c.aH.getD i aG).dZ-(c.aH.getD i aG).jA)=jv c s (ts.set i {ts.getD i aG with bC:=(ts.getD i aG).aT,aT:= -1,Next:= -1,dK:= -1}):=by
 apply atx
 .rw[qm,qm,qm,qm,wQ,wQ]
 .intro j hj;rw[wQ]at hj;unfold kX at ha;rw[dD,uL]at ha;rw[zO _ _ _ (by rw[qm,qm,qm,wQ];exact hj),zO _ _ _ (by rw[qm,qm,wQ];exact hj),zO _ _ _ (by rw[qm,wQ];exact hj),zO _ _ _ (by rw[wQ];exact hj),VN hi hj];unfold dl;simp only[ha.1,ha.2,l7,nD,mJ];have e:∀(k n:Int),hit k (0-n) j= - hit k n j:=by intro k n;unfold hit;split<;>omega
  have e2:∀(k a b:Int),hit k (a-b) j=hit k a j-hit k b j:=by intro k a b;unfold hit;split<;>omega
  have n1:∀n:Int,hit (-1) n j=0:=λn=>PE ah j;rw[e,e,e,e2];simp only[n1];omega
theorem atw(hc:VC c)(hg:GS c ts):Xf (jv c s ts) 8388608:=λx hx=>by have:=asY hc hg x hx;omega
theorem map_set{t:bI}:(ts.set i t).map sN=(ts.map sN).set i (sN t):=abr
theorem ace{n:Int}(h:0<=n/\n<=65536):IntKind.i64.wrap (0-n)=0-n:=bL (x:=0-n) ah ah
theorem aMo(hc:VC c)(hv:VS c s)(hg:GS c ts)(x:eU):X9 (sit c s ts) x=some (nE c s ts x,sit c s (bif nE c s ts x then mV ts x else ts)):=by
 have hgl:=hg.len;unfold X9;have hsl:(sit c s ts).dQ.length=ts.length:=by simp[sit]
 have hbl:(sit c s ts).dM.length=c.aJ.length:=wQ _ _ _;rw[hsl,hbl];by_cases hr:(0<=x.aI/\x.aI<(ts.length:Int))/\(0<=x.aK/\x.aK<(c.aJ.length:Int))
 .obtain⟨h1,h2⟩:=hr;have e:((((decide (x.aI<0))||(decide (((ts.length:Nat):Int)<=x.aI)))||(decide (x.aK<0)))||(decide (((c.aJ.length:Nat):Int)<=x.aK)))=false:=by rw[fF ah,fF ah,fF ah,fF ah];rfl
  have hi:x.aI.toNat<ts.length:=ah
  have hd:=AB hc (k:=x.aI.toNat) ah;have hts:=hg.at hi;rw[e,aZ,dV h1.1 (by show x.aI<(c.aH.length:Int);omega),dV h1.1 (by rw[hsl];exact h1.2)];have zw:(sit c s ts).dQ.getD x.aI.toNat aG=sN (ts.getD x.aI.toNat aG):=ah5 hi;rw[zw];have ep:nE c s ts x=(kX (ts.getD x.aI.toNat aG)&&((x.aM==1&&(ts.getD x.aI.toNat aG).bC==x.aK)||(x.aM==2&&(ts.getD x.aI.toNat aG).aT==x.aK&&qj c s x.aK))):=by unfold nE;rw[dU h1.1,dU h1.2,dU h2.1,dU h2.2];rfl
  have b0:=atw (s:=s) hc hg;have b1:=Pt (i:=(ts.getD x.aI.toNat aG).bC) (n:=0-(c.aH.getD x.aI.toNat aG).dZ) b0 ah ah;have b2:=Pt (i:=(ts.getD x.aI.toNat aG).dK) (n:=0-(c.aH.getD x.aI.toNat aG).dZ) b1 ah ah;have b3:=Pt (i:=(ts.getD x.aI.toNat aG).Next) (n:=0-(c.aH.getD x.aI.toNat aG).jA) b2 ah ah;have aNi:(sit c s ts).eu=c:=rfl;have aNr:(sit c s ts).state=s:=rfl;rw[aNi];cases ha:kX (ts.getD x.aI.toNat aG)with
  |false=>rw[ha]at ep;have ha':(sN (ts.getD x.aI.toNat aG)).nT=false:=ha;rw[ep];simp only[ha',jG,Ep,aY,nC,aZ,gN,bD];cases (x.aM==1)<;>cases (x.aM==2)<;>rfl
  |true=>
   rw[ha,kN]at ep;have ha':(sN (ts.getD x.aI.toNat aG)).nT=true:=ha;have hho:(sN (ts.getD x.aI.toNat aG)).lW=(ts.getD x.aI.toNat aG).bC:=rfl;have hst:(sN (ts.getD x.aI.toNat aG)).jF=(ts.getD x.aI.toNat aG).aT:=rfl;rw[ace ⟨hd.1,hd.2.1⟩,ace ⟨hd.2.2.1,hd.2.2.2⟩];simp only[ha',hho,hst,gN,jZ];by_cases k1:x.aM=1
   .have kb:(x.aM==1)=true:=(aD k1);have ML:(x.aM==2)=false:=(by rw[k1];rfl);rw[kb,ML,kN,nC,nC,pG]at ep;rw[kb,aY];by_cases hh:(ts.getD x.aI.toNat aG).bC=x.aK
    .have eb:((ts.getD x.aI.toNat aG).bC !=x.aK)=false:=(by rw[hh];simp);have MG:((ts.getD x.aI.toNat aG).bC==x.aK)=true:=(by rw[hh];simp);rw[MG]at ep;rw[eb,aZ,ep];rw[Qg (p:=sit c s ts) (b:=8388608) b0 ah ah];simp only[bD,bF,zw];rw[Qg (b:=8388608+65536) b1 ah ah];simp only[bD,zw,aY];unfold RB;have es:∀y:mF,(((sit c s ts).dQ.set x.aI.toNat y).getD x.aI.toNat aG)=y:=λy=>pV (by rw[hsl];exact hi);rw[es,tC];congr 2;unfold sit mV yE;rw[kb,aY,map_set];have hs2:sN {ts.getD x.aI.toNat aG with eX:=true,dK:= -1}={sN (ts.getD x.aI.toNat aG)with nT:=false,xW:= -1}:=(by unfold sN;simp);rw[hs2];have:=aq2 (s:=s) hg hi ha;simp only;congr 1
    .have eb:((ts.getD x.aI.toNat aG).bC !=x.aK)=true:=(aD hh);have MG:((ts.getD x.aI.toNat aG).bC==x.aK)=false:=(aD hh);rw[MG]at ep;rw[eb,aY,ep];rfl
   .have kb:(x.aM==1)=false:=(aD k1);rw[kb,nC,jZ]at ep;rw[kb,aZ];by_cases k2:x.aM=2
    .have ML:(x.aM==2)=true:=(aD k2);rw[ML,kN]at ep;rw[ML,aY];by_cases hh:(ts.getD x.aI.toNat aG).aT=x.aK
     .have eb:((ts.getD x.aI.toNat aG).aT !=x.aK)=false:=(by rw[hh];simp);have MG:((ts.getD x.aI.toNat aG).aT==x.aK)=true:=(by rw[hh];simp);rw[MG,kN]at ep;rw[eb,jG,aY,aNr,aik hc hv,bD,jZ,hh];rcases hu:qj c s x.aK with _|_;rw[hu]at ep;rw[ep];rfl;rw[hu]at ep;rw[gN,aZ,ep];rw[Qg (p:=sit c s ts) (b:=8388608) b0 ah ah];simp only[bD,bF,zw];rw[Qg (b:=8388608+65536) b1 ah ah];simp only[bD,zw];rw[Qg (b:=8388608+65536+65536) b2 ah ah];simp only[bD,zw];rw[bLZ,Qg (b:=8388608+65536+65536+65536) b3 ah ah];simp only[bD,zw,aY];unfold RB;congr 2;have hbm:=aq1 (s:=s) hg hi ha;unfold sit mV yE;rw[kb,aZ,map_set];simp only;have he:({ts.getD x.aI.toNat aG with bC:=(ts.getD x.aI.toNat aG).aT,aT:= -1,Next:= -1,dK:= -1}:bI)={ts.getD x.aI.toNat aG with bC:=x.aK,aT:= -1,Next:= -1,dK:= -1}:=(by rw[hh]);rw[he]at hbm;have ajw:sN {ts.getD x.aI.toNat aG with bC:=x.aK,aT:= -1,Next:= -1,dK:= -1}={nT:=true,lW:=x.aK,jF:= -1,next:= -1,xW:= -1:mF}:=(by unfold sN;unfold kX at ha;simp only[ha]);rw[ajw];congr 1
     .have eb:((ts.getD x.aI.toNat aG).aT !=x.aK)=true:=(aD hh);have MG:((ts.getD x.aI.toNat aG).aT==x.aK)=false:=(aD hh);rw[MG,nC]at ep;rw[eb,ep];rfl
    .have ML:(x.aM==2)=false:=(aD k2);rw[ML,nC,nC]at ep;rw[ML,aZ,ep];rfl
 .have e:((((decide (x.aI<0))||(decide ((ts.length:Int)<=x.aI)))||(decide (x.aK<0)))||(decide ((c.aJ.length:Int)<=x.aK)))=true:=by simp only[p8,oo];omega
  have ep:nE c s ts x=false:=by unfold nE;have:((decide (0<=x.aI)&&decide (x.aI<(ts.length:Int)))&&(decide (0<=x.aK)&&decide (x.aK<(c.aJ.length:Int))))=false:=(by rw[ab2];simp only[dD,oo,ne_eq];exact hr);rw[this];rfl
  rw[e,aY,ep];rfl
end
end
section
variable {c:aN} {s:aO} {ts:List bI}
theorem yH{α:Type} [Inhabited α]{l:List α}{k:Nat}(hk:k<l.length):l.take (k+1)=l.take k++ [l.getD k aG]:=by rw[VE];simp[fC,hk]
theorem aKy(hc:VC c)(hv:VS c s):YW c s=some (sit c s s.aH):=by
 have hct:=hc.tl;have hcl:=hc.cl;have htl:=hv.tl;unfold YW;have hm:(je (c.aH.length:Int) (s.aH.length:Int))=(s.aH.length:Int):=by unfold je;rw[htl];simp
 rw[hm,mR,gW,tF];apply pJ;refine lJ (L:=λm x i=>Iw c s s.aH (s.aH.length:Int) m x i) s.aH.length ah (λk x=>x={eu:=c,state:=s,dQ:=(s.aH.take k).map sN,dM:=[]}) aj ?_ ?_
 .rintro m k x hk rfl ih;show Ok (Iw c s _ _ (m+1) _ k) _;rw[Iw,eZZ,dVZ,gW,mR (by simp only[qo,nQ,rM];unfold room;omega),bLZ];refine ih _ ?_;simp only[yH hk,Lp,mH,yO];rfl
 .rintro m x rfl;show Ok (Iw c s _ _ (m+1) _ _) _;rw[Iw,fHZ,mR,Uz hc hv.tl,bD,mR];refine Ok.some ?_;have hb:=KU c s;have e:jQ 0 ((List.replicate (Int.toNat (c.aJ.length:Int)) (aG:Int)).length) (List.replicate (Int.toNat (c.aJ.length:Int)) (aG:Int)) (nA c s)=nA c s:=by unfold jQ;simp[hb];rw[VG ah]
  rw[e,tF];rfl
def mK(c:aN):List Int:=(KP c).getD []
theorem V6(hc:VC c):KP c=some (mK c)/\acu c (mK c):=by
 obtain⟨o,e1,h⟩:=aFk hc;have:mK c=o:=by unfold mK;rw[e1];rfl
 rw[this];exact⟨e1,h⟩
def j3(c:aN)(s:aO)(r i:Int):Bool:=kX (aL s i)&&(eF c (aL s i).bC==r)
def oV(c:aN)(s:aO)(r:Int):List Int:=(mK c).filter (j3 c s r)
theorem aaE(hc:VC c){r i:Int}:i∈oV c s r ↔ (0<=i/\i<(c.aH.length:Int))/\j3 c s r i=true:=by unfold oV;rw[abu,(V6 hc).2.mem]
theorem aHW(hc:VC c){r:Int}:(oV c s r).Nodup:=(V6 hc).2.nodup.filter _
theorem Pg(hc:VC c){r:Int}:(oV c s r).length<=32:=by have h1:=PW (j3 c s r) (mK c);have h2:=(V6 hc).2.len;have h3:=hc.tl;unfold oV;omega
theorem aKC(hc:VC c)(hv:VS c s)(r:Int):Yw c s r=some (oV c s r):=by
 obtain⟨e1,ho⟩:=V6 hc;have hct:=hc.tl;have hol:=ho.len;have htl:=hv.tl;unfold Yw;rw[e1,bD];apply pJ;refine lJ (L:=λm x i=>Dx c s r (mK c) (((mK c).length:Nat):Int) m x i) (mK c).length ah (λk x=>x=((mK c).take k).filter (j3 c s r)) rfl ?_ ?_
 .rintro m k x hk rfl ih;show Ok (Dx c s r _ _ (m+1) _ k) _;have hy:=(ho.mem _).1 (jk hk);rw[Dx,eZZ,dVZ,gW];rw[fF ah,fF (show¬(s.aH.length:Int)<=(mK c).getD k aG by omega),pG,aZ,dV hy.1 ah];unfold Sc;have hfl:=PW (j3 c s r) ((mK c).take k);rw[rM]at hfl;have nx:=ih (((mK c).take (k+1)).filter (j3 c s r)) rfl;rw[yH hk,AO,PS,ai4]at nx;have eq:j3 c s r ((mK c).getD k aG)=(((s.aH.getD ((mK c).getD k aG).toNat aG).dN&& !(s.aH.getD ((mK c).getD k aG).toNat aG).eX)&&(eF c (s.aH.getD ((mK c).getD k aG).toNat aG).bC==r)):=rfl;rw[eq]at nx;cases hq:((s.aH.getD ((mK c).getD k aG).toNat aG).dN&& !(s.aH.getD ((mK c).getD k aG).toNat aG).eX)with|false=>rw[hq]at nx;simp only[nC,nD,mJ,nK]at nx;simp only[aZ,bD,nC];rw[bLZ];exact nx|true=>rw[hq]at nx;simp only[aY,Ay hc,bD,kN]at nx⊢;rw[bLZ];cases hq2:(eF c (s.aH.getD ((mK c).getD k aG).toNat aG).bC==r)with|true=>rw[hq2]at nx;rw[aY,mR (by simp only[qo];unfold room;omega)];exact nx|false=>rw[hq2]at nx;simp only[nD,mJ,nK]at nx;exact nx
 .rintro m x rfl;show Ok (Dx c s r _ _ (m+1) _ _) _;rw[Dx,fHZ,tF];exact Ok.some rfl
def Xa(c:aN)(l:List Int):List Int:=(KY c l).getD []
theorem asy(hc:VC c){l:List Int}(hl:l.length<=1000:=by omega):KY c l=some (Xa c l)/\akk c l (Xa c l):=by
 obtain⟨o,e1,h⟩:=aK5 (c:=c) hl;have:Xa c l=o:=by unfold Xa;rw[e1];rfl
 rw[this];exact⟨e1,h⟩
def Jv(c:aN)(ts:List bI)(k pr:Int)(n:Nat):Bool:=(kX (ts.getD n aG)&&((ts.getD n aG).bC==k))&&decide ((c.aH.getD n aG).iT<pr)
def Bp(c:aN)(ts:List bI)(k pr:Int):Nat->List Int
 |0=> []
 |n+1=>bif Jv c ts k pr n then Bp c ts k pr n++ [(n:Int)]else Bp c ts k pr n
def xu(c:aN)(ts:List bI)(k pr:Int):List Int:=Xa c (Bp c ts k pr ts.length)
theorem aaO(k pr:Int):∀n,(Bp c ts k pr n).length<=n
 |0=>gI _
 |n+1=>by have:=aaO k pr n;rw[Bp];cases Jv c ts k pr n<;>simp<;>omega
theorem aqt(k pr:Int):∀n y,y∈Bp c ts k pr n ↔∃j:Nat,j<n/\y=(j:Int)/\Jv c ts k pr j=true
 |0,y=>by simp[Bp]
 |n+1,y=>by have ih:=aqt k pr n y;rw[Bp];cases hb:Jv c ts k pr n with
  |true=>
   rw[aY,qp,qw,ih];constructor
   .rintro(⟨j,h1,h2,h3⟩|h)
    .exact⟨j,ah,h2,h3⟩
    .exact⟨n,ah,h,hb⟩
   .rintro⟨j,h1,h2,h3⟩;by_cases e:j=n
    .subst e;exact .inr h2
    .exact .inl ⟨j,ah,h2,h3⟩
  |false=>
   rw[aZ,ih];constructor
   .rintro⟨j,h1,h2,h3⟩;exact⟨j,ah,h2,h3⟩
   .rintro⟨j,h1,h2,h3⟩;by_cases e:j=n
    .subst e;rw[hb]at h3;cases h3
    .exact⟨j,ah,h2,h3⟩
theorem abQ(hc:VC c)(hg:GS c ts)(k pr:Int):akk c (Bp c ts k pr ts.length) (xu c ts k pr):=by have:=aaO (c:=c) (ts:=ts) k pr ts.length;have h1:=hg.len;have h2:=hc.tl;exact(asy hc).2
theorem arn(hc:VC c)(hg:GS c ts){k pr y:Int}:y∈xu c ts k pr ↔ (0<=y/\y<(ts.length:Int))/\Jv c ts k pr y.toNat=true:=by
 rw[(abQ hc hg k pr).mem];unfold inT;rw[aqt];have:=hg.len;constructor
 .rintro⟨h1,h2,j,h3,rfl,h5⟩;exact⟨⟨h1,ah⟩,by rw[gW];exact h5⟩
 .rintro⟨h1,h2⟩;exact⟨h1.1,ah,y.toNat,ah,ah,h2⟩
theorem aJa(hc:VC c)(hg:GS c ts)(k pr:Int):(xu c ts k pr).Nodup:=(abQ hc hg k pr).so.imp (λq=>(ahP c).ne q)
theorem aKz(hc:VC c)(hg:GS c ts)(k pr:Int):RU (sit c s ts) k pr=some (xu c ts k pr):=by
 have hct:=hc.tl;have hgl:=hg.len;unfold RU;have hsl:(sit c s ts).dQ.length=ts.length:=by simp[sit]
 rw[hsl];apply pJ;refine lJ (L:=λm x i=>Fe (sit c s ts) k pr (sit c s ts).dQ (ts.length:Int) m x i) ts.length ah (λn x=>x=Bp c ts k pr n) rfl ?_ ?_
 .rintro m n x hn rfl ih;show Ok (Fe _ k pr _ _ (m+1) _ n) _;have hl:=aaO (c:=c) (ts:=ts) k pr n;have nx:=ih (Bp c ts k pr (n+1)) rfl;rw[Bp]at nx;rw[Fe,eZZ,dV ah (by rw[hsl];omega),gW];have zw:(sit c s ts).dQ.getD n aG=sN (ts.getD n aG):=ah5 hn;rw[zw];rw[Lv ⟨ah,by show(n:Int)<(c.aH.length:Int);omega⟩,gW];unfold XW;rw[bLZ];show Ok (bif Jv c ts k pr n then _ else _) _;cases hb:Jv c ts k pr n with|true=>rw[hb]at nx;rw[aY,mR (by simp only[qo];unfold room;omega)];exact nx|false=>rw[hb]at nx;exact nx
 .rintro m x rfl;show Ok (Fe _ k pr _ _ (m+1) _ _) _;have hl:=aaO (c:=c) (ts:=ts) k pr ts.length;rw[Fe,fHZ];show Ok ((KY c _).bind _) _;rw[(asy hc).1];exact Ok.some rfl
def rR(c:aN)(s:aO)(ts:List bI)(i:Int):Int:=
 (tn c i).dZ-(tn c i).jA-((c.aJ.getD (ts.getD i.toNat aG).aT.toNat aG).lT-(jv c s ts).getD (ts.getD i.toNat aG).aT.toNat 0)
def pK(c:aN):List Int->Int->List Int×Int
 | [],m=>([],m)
 |y::r,m=>bif decide (m<=0)then([],m)else(y::(pK c r (m-(tn c y).dZ)).1,(pK c r (m-(tn c y).dZ)).2)
def jR(k i:Int):eU:={aM:=1,aI:=i,aK:=k}
def jw(k i:Int):eU:={aM:=2,aI:=i,aK:=k}
def kK(c:aN)(s:aO)(ts:List bI)(i:Int):List eU:=
 bif !(kX (ts.getD i.toNat aG))|| !(qj c s (ts.getD i.toNat aG).aT)then []else
  bif decide (0<(pK c (xu c ts (ts.getD i.toNat aG).aT (tn c i).iT) (rR c s ts i)).2)then []else
   (pK c (xu c ts (ts.getD i.toNat aG).aT (tn c i).iT) (rR c s ts i)).1.map (jR (ts.getD i.toNat aG).aT)++ [jw (ts.getD i.toNat aG).aT i]
theorem AZ{k:Int}(h:qj c s k=true):0<=k/\k<(c.aJ.length:Int):=by unfold qj at h;simp only[dD,oo]at h;exact h.1.1
theorem arz:∀(l:List Int) (m:Int),(pK c l m).1.length<=l.length
 | [],m=>gI _
 |y::r,m=>by
  rw[pK];by_cases h:m<=0
  .rw[dU h];simp
  .rw[fF h];have:=arz r (m-(tn c y).dZ);simp only[aZ,zi];omega
theorem aKX(hc:VC c)(hg:GS c ts){i:Int}(hi:0<=i/\i<(ts.length:Int))(hu:qj c s (ts.getD i.toNat aG).aT=true): -10000000<=rR c s ts i/\rR c s ts i<=10000000:=by have hk:=AZ hu;have hd:=AB hc (k:=i.toNat) (by have:=hg.len;omega);have hcap:=arY hc (k:=(ts.getD i.toNat aG).aT.toNat) ah;have hb:=asX (s:=s) hc hg (j:=(ts.getD i.toNat aG).aT.toNat) ah;unfold rR tn;omega
theorem aLs(hc:VC c)(hg:GS c ts){i k:Int}{x1:mF}(hk:x1.jF=k){l:List Int}(hl:l.length<=1000)(hm:∀y∈l,0<=y/\y<(c.aH.length:Int)){m0:Int}(h0: -10000000<=m0/\m0<=10000000):
  Dn (sit c s ts) i x1 l (l.length:Int) fuel m0 [] 0=some (bif decide (0<(pK c l m0).2)then []else(pK c l m0).1.map (jR k)++ [jw k i]):=by
 apply pJ;have kk:∀(st:List eU) (m:Int),st.length<=1000->Ry i x1 m st=some (bif decide (0<m)then []else st++ [jw k i]):=by
  intro st m hst;unfold Ry;by_cases h:0<m
  .rw[dU h];rfl
  .rw[fF h,aZ,aZ,mR (by simp only[qo];unfold room;omega),hk];rfl
 refine lJ (L:=λq (x:Int×List eU) j=>Dn (sit c s ts) i x1 l (l.length:Int) q x.1 x.2 j) (x:=(m0,[])) l.length ah
  (λj x=>(bif decide (0<(pK c (l.drop j) x.1).2)then []else x.2++(pK c (l.drop j) x.1).1.map (jR k)++ [jw k i])=(bif decide (0<(pK c l m0).2)then []else(pK c l m0).1.map (jR k)++ [jw k i])/\x.2.length<=j/\ -10000000<=x.1/\x.1<=10000000)
  ⟨aj,gI _,h0.1,h0.2⟩ ?_ ?_
 .rintro m j ⟨a,st⟩ hj ⟨h1,h2,h3,h4⟩ ih;show Ok (Dn _ i x1 l _ (m+1) a st j) _;simp only at h1 h2 h3 h4;have hy:=hm _ (jk hj);have hb:=ato hc hy;rw[Dn,eZZ,dVZ,gW];rw[aqe hj,pK]at h1;by_cases hz:a<=0
  .rw[dU hz,aY]at h1;rw[eZ hz,kk st a ah];refine Ok.some ?_;rw[<-h1];simp
  .rw[fF hz,aZ]at h1;rw[fH hz,dV hy.1 (by show _<(c.aH.length:Int);exact hy.2),mR (by simp only[qo];unfold room;omega)];show Ok (Dn _ i x1 l _ m (aQ (a-(tn c (l.getD j aG)).dZ)) (st++ [{aM:=1,aI:=l.getD j aG,aK:=x1.jF}]) _) _;rw[hk,bLZ,bLZ];refine ih (a-(tn c (l.getD j aG)).dZ,st++ [jR k (l.getD j aG)]) ⟨?_,ay,by simp only;omega,by simp only;omega⟩;rw[<-h1];simp
 .rintro m ⟨a,st⟩ ⟨h1,h2,h3,h4⟩;show Ok (Dn _ i x1 l _ (m+1) a st _) _;simp only at h1 h2;rw[Dn,fHZ,kk st a ah];refine Ok.some ?_;rw[<-h1,PO,pK];simp
theorem aLt(hc:VC c)(hv:VS c s)(hg:GS c ts){i:Int}(hi:0<=i/\i<(ts.length:Int)):X8 (sit c s ts) i=some (kK c s ts i):=by
 have hct:=hc.tl;have hgl:=hg.len;unfold X8 kK;have hsl:(sit c s ts).dQ.length=ts.length:=by simp[sit]
 have hbl:(sit c s ts).dM.length=c.aJ.length:=wQ _ _ _;rw[dV hi.1 (by rw[hsl];exact hi.2)];have zw:(sit c s ts).dQ.getD i.toNat aG=sN (ts.getD i.toNat aG):=ah5 ah;rw[zw];have ha':(sN (ts.getD i.toNat aG)).nT=kX (ts.getD i.toNat aG):=rfl;have hst:(sN (ts.getD i.toNat aG)).jF=(ts.getD i.toNat aG).aT:=rfl;rw[ha',hst];cases ha:kX (ts.getD i.toNat aG)with
 |false=>rfl
 |true=>
  simp only[gN,jG,aY,jZ];show((Iz c s _).bind _)=_;rw[aik hc hv,bD];rcases hu:qj c s (ts.getD i.toNat aG).aT with _|_;rfl;have hk:=AZ hu;simp only[gN,aZ];rw[dV hi.1 (by show i<(c.aH.length:Int);omega),dV hk.1 (by exact hk.2),dV hk.1 (by rw[hbl];exact hk.2)];have hd:=AB hc (k:=i.toNat) ah;have hcap:=arY hc (k:=(ts.getD i.toNat aG).aT.toNat) ah;have hb:=asX (s:=s) hc hg (j:=(ts.getD i.toNat aG).aT.toNat) ah;have hmb:=aKX (s:=s) hc hg hi hu;show((RU (sit c s ts) _ (tn c i).iT).bind _)=_;rw[aKz hc hg,bD];have ho:=abQ hc hg (ts.getD i.toNat aG).aT (tn c i).iT;have hw:aQ (aQ ((c.aH.getD i.toNat aG).dZ-(c.aH.getD i.toNat aG).jA)-aQ ((c.aJ.getD (ts.getD i.toNat aG).aT.toNat aG).lT-(sit c s ts).dM.getD (ts.getD i.toNat aG).aT.toNat aG))=rR c s ts i:=by have e0:(sit c s ts).dM.getD (ts.getD i.toNat aG).aT.toNat aG=(jv c s ts).getD (ts.getD i.toNat aG).aT.toNat 0:=rfl;rw[e0,bL (x:=(c.aH.getD i.toNat aG).dZ-(c.aH.getD i.toNat aG).jA) ah ah,bL (x:=(c.aJ.getD (ts.getD i.toNat aG).aT.toNat aG).lT-(jv c s ts).getD (ts.getD i.toNat aG).aT.toNat 0) ah ah,bLZ];rfl
  have hw':aQ (aQ (((sit c s ts).eu.aH.getD i.toNat aG).dZ-((sit c s ts).eu.aH.getD i.toNat aG).jA)-aQ (((sit c s ts).eu.aJ.getD (ts.getD i.toNat aG).aT.toNat aG).lT-(sit c s ts).dM.getD (ts.getD i.toNat aG).aT.toNat aG))=rR c s ts i:=hw;rw[hw'];exact aLs hc hg rfl ho.len (λy hy=>by have:=(arn hc hg).1 hy;omega) hmb
theorem arI(hc:VC c)(hg:GS c ts)(i:Int):(kK c s ts i).length<=1001:=by unfold kK;cases (!(kX (ts.getD i.toNat aG))|| !(qj c s (ts.getD i.toNat aG).aT))with|true=>simp|false=>simp only[aZ];cases decide (0<(pK c (xu c ts (ts.getD i.toNat aG).aT (tn c i).iT) (rR c s ts i)).2)with|true=>simp|false=>have h1:=arz (c:=c) (xu c ts (ts.getD i.toNat aG).aT (tn c i).iT) (rR c s ts i);have h2:=(abQ hc hg (ts.getD i.toNat aG).aT (tn c i).iT).len;simp only[aZ,pY,nQ,qo];omega
end
abbrev SE:=aO×List aP
def ME(c:aN)(t:Int)(q:SE)(i:Int):SE:=
 bif(uP c q.1 i t).2==0 then((iy c q.1 (uP c q.1 i t).1).1,q.2++ [(uP c q.1 i t).1])else q
section
variable {c:aN} {s:aO}
theorem ajK{t i:Int}{q:SE}(h:(uP c q.1 i t).2=0):ME c t q i=((iy c q.1 (gE c q.1 i t)).1,q.2++ [gE c q.1 i t]):=by have e:=(aaG h).2.2.2.2.2;unfold ME;rw[e];rfl
theorem asI{t i:Int}{q:SE}(h:(uP c q.1 i t).2≠0):ME c t q i=q:=by
 unfold ME;have:((uP c q.1 i t).2==0)=false:=aD h
 rw[this];rfl
theorem aLx(hc:VC c){t i:Int}{q:SE}(hI:Inv c q.1):Inv c (ME c t q i).1:=by
 by_cases h:(uP c q.1 i t).2=0
 .rw[ajK h];exact aaL hc hI (aaG h).2.2.2.2.1
 .rw[asI h];exact hI
end
def iR(c:aN)(s:aO):List bI->List eU->List bI
 |ts,[]=>ts
 |ts,x::r=>iR c s (bif nE c s ts x then mV ts x else ts) r
abbrev yZ:=List bI×List eU×List Int
def lF(c:aN)(s:aO):List Int->yZ->yZ
 | [],q=>q
 |x::r,q=>lF c s r (iR c s q.1 (kK c s q.1 x),q.2.1++kK c s q.1 x,bif(kK c s q.1 x).isEmpty then q.2.2++ [x]else q.2.2)
def zH(c:aN)(s:aO):Nat->yZ->yZ
 |0,q=>q
 |n+1,q=>bif(lF c s q.2.2 (q.1,q.2.1,[])).2.2.length==q.2.2.length then((lF c s q.2.2 (q.1,q.2.1,[])).1,(lF c s q.2.2 (q.1,q.2.1,[])).2.1,q.2.2)else zH c s n (lF c s q.2.2 (q.1,q.2.1,[]))
def mkS(c:aN)(s:aO)(r:Int):yZ:=zH c s 33 (s.aH,[],oV c s r)
section
variable {c:aN} {s:aO} {ts:List bI}
theorem F8{x:eU}(h:nE c s ts x=true):(0<=x.aI/\x.aI<(ts.length:Int))/\(0<=x.aK/\x.aK<(c.aJ.length:Int))/\kX (ts.getD x.aI.toNat aG)=true∧
  ((x.aM=1/\(ts.getD x.aI.toNat aG).bC=x.aK)\/(x.aM=2/\(ts.getD x.aI.toNat aG).aT=x.aK/\qj c s x.aK=true)):=by
 unfold nE at h;simp only[dD,p8,oo,uE]at h;obtain⟨⟨⟨h1,h2⟩,h3⟩,h4⟩:=h;refine⟨h1,h2,h3,?_⟩;rcases h4 with h|h
 .exact .inl h
 .exact .inr ⟨h.1.1,h.1.2,h.2⟩
theorem aJh{k i:Int}(hi:0<=i/\i<(ts.length:Int))(hk:0<=k/\k<(c.aJ.length:Int))(ha:kX (ts.getD i.toNat aG)=true)(hh:(ts.getD i.toNat aG).bC=k):nE c s ts (jR k i)=true:=by unfold nE jR;simp only[dD,p8,oo,uE];exact⟨⟨⟨hi,hk⟩,ha⟩,.inl ⟨trivial,hh⟩⟩
theorem ahD{k i:Int}(hi:0<=i/\i<(ts.length:Int))(hu:qj c s k=true)(ha:kX (ts.getD i.toNat aG)=true)(hh:(ts.getD i.toNat aG).aT=k):nE c s ts (jw k i)=true:=by unfold nE jw;simp only[dD,p8,oo,uE];exact⟨⟨⟨hi,AZ hu⟩,ha⟩,.inr ⟨⟨trivial,hh⟩,hu⟩⟩
theorem D8{t:bI}:kX t=true ↔ t.dN=true/\t.eX=false:=by unfold kX;rw[dD,uL]
theorem akg(hg:GS c ts){x:eU}(h:nE c s ts x=true):GS c (mV ts x):=by obtain⟨h1,h2,h3,h4⟩:=F8 h;rw[D8]at h3;have ht:=hg.at (i:=x.aI.toNat) ah;refine hg.set ?_;unfold yE;cases (x.aM==1)with
 |true=>exact⟨ht.lW,ht.sb,ht.nx,by show -1<=(-1:Int)/\(-1:Int)<_;omega,ht.wc,ht.pl,λ_=>h3.1,ht.ep,ht.we,ht.wv,ht.wf⟩
 |false=>exact⟨by show -1<=x.aK/\x.aK<_;omega,by show -1<=(-1:Int)/\(-1:Int)<_;omega,by show -1<=(-1:Int)/\(-1:Int)<_;omega,by show -1<=(-1:Int)/\(-1:Int)<_;omega,ht.wc,λ_=>h2.1,ht.sh,ht.ep,ht.we,ht.wv,ht.wf⟩
theorem Cq:∀(l:List eU) {ts:List bI},GS c ts->GS c (iR c s ts l)
 | [],ts,h=>h
 |x::r,ts,h=>by rw[iR];cases hp:nE c s ts x with|true=>exact Cq r (akg h hp)|false=>exact Cq r h
theorem LB:∀(a b:List eU) (ts:List bI),iR c s ts (a++b)=iR c s (iR c s ts a) b
 | [],b,ts=>rfl
 |x::r,b,ts=>by rw[I9,iR,iR];exact LB r b _
theorem ajE:∀(l:List eU) (ts:List bI),(iR c s ts l).length=ts.length
 | [],ts=>rfl
 |x::r,ts=>by rw[iR,ajE r];cases nE c s ts x<;>simp[mV]
theorem aKV(hc:VC c)(hv:VS c s){rc:ku->gD->List Int->Int->Option (gD×Int)}{e:gD}{lf:List Int}{j x:Int}{st:List eU}(hst:st.length<=1001)(hlf:lf.length<=1000)(hes:e.bY.length<=100000)(hj:0<=j/\j<=1000){res:gD×Int}(hg:GS c ts)
  (hn:rc (sit c s (iR c s ts st)) {e with bY:=e.bY++st} (bif st.isEmpty then lf++ [x]else lf) (j+1)=some res):
  FK rc e lf j x st (st.length:Int) fuel (sit c s ts) 0=some res:=by
 apply pJ;refine lJ (L:=λm p i=>FK rc e lf j x st (st.length:Int) m p i) st.length ah (λk p=>∃ts',p=sit c s ts'/\GS c ts'/\iR c s ts' (st.drop k)=iR c s ts st) ⟨ts,rfl,hg,rfl⟩ ?_ ?_
 .rintro m k p hk ⟨ts',rfl,hg',e1⟩ ih;show Ok (FK rc e lf j x st _ (m+1) _ k) _;rw[FK,eZZ,dVZ,gW,aMo hc hv hg',bD,bLZ];have ed:st.drop k=st.getD k aG::st.drop (k+1):=by rw[Ec hk];simp[fC,hk]
  rw[ed,iR]at e1;refine ih _ ⟨_,rfl,?_,e1⟩;cases hp:nE c s ts' (st.getD k aG)with|true=>exact akg hg' hp|false=>exact hg'
 .rintro m p ⟨ts',rfl,hg',e1⟩;show Ok (FK rc e lf j x st _ (m+1) _ _) _;rw[PO,iR]at e1;subst e1;rw[FK,fHZ];unfold YJ;rw[bLZ];cases st with|nil=>rw[show(((([]:List eU).length:Nat):Int)==0)=true from rfl,aY,mR (by simp only[qo];unfold room;omega),mR (by simp only[xR];unfold room;omega)];exact ak2 hn|cons a b=>have:((((a::b).length:Nat):Int)==0)=false:=(by rw[zi];simp;omega);rw[this,aZ,mR (by unfold room;omega)];exact ak2 hn
theorem abU:∀(l:List Int) {q:yZ},GS c q.1->GS c (lF c s l q).1
 | [],q,h=>h
 |x::r,q,h=>abU r (q:=(iR c s q.1 (kK c s q.1 x),q.2.1++kK c s q.1 x,bif(kK c s q.1 x).isEmpty then q.2.2++ [x]else q.2.2)) (Cq _ h)
theorem Vu(hc:VC c):∀(l:List Int) {q:yZ},GS c q.1->(lF c s l q).2.1.length+1001*(lF c s l q).2.2.length<=q.2.1.length+1001*(q.2.2.length+l.length)/\(lF c s l q).2.2.length<=q.2.2.length+l.length
 | [],q,h=>⟨by simp[lF],by simp[lF]⟩
 |x::r,q,h=>by have ih:=Vu hc r (q:=(iR c s q.1 (kK c s q.1 x),q.2.1++kK c s q.1 x,bif(kK c s q.1 x).isEmpty then q.2.2++ [x]else q.2.2)) (Cq _ h);have h1:=arI (s:=s) hc h x;rw[lF];simp only at ih;rcases hst:kK c s q.1 x with _|⟨a,b⟩;rw[hst]at ih h1;simp only[abp,aY,pY,qo,xR,zi]at ih h1⊢;omega;rw[hst]at ih h1;simp only[abo,aZ,pY,zi]at ih h1⊢;omega
theorem aiN:∀(l:List Int) {q:yZ} {y:Int},y∈(lF c s l q).2.2->y∈q.2.2\/y∈l
 | [],q,y,h=> .inl h
 |x::r,q,y,h=>by
  rcases aiN r h with h1|h1
  .simp only at h1;cases hst:(kK c s q.1 x).isEmpty with
   |true=>rw[hst,aY,qp,qw]at h1;rcases h1 with h1|h1;exact .inl h1;exact .inr (h1▸pE)
   |false=>rw[hst]at h1;exact .inl h1
  .exact .inr (nR _ h1)
theorem aKW(hc:VC c)(hv:VS c s){rc:ku->gD->Option (gD×Int)}{R:Int}{L:List Int}{st0:List eU}(hl:L.length<=32)(hL:∀y∈L,0<=y/\y<((c.aH.length:Nat):Int))(hb:st0.length+1001*L.length<=33000)(hg:GS c ts){res:gD×Int}
  (hn:(bif(lF c s L (ts,st0,[])).2.2.length==L.length then some ({Region:=R,bY:=(lF c s L (ts,st0,[])).2.1,kH:=L},0)else rc (sit c s (lF c s L (ts,st0,[])).1) {Region:=R,bY:=(lF c s L (ts,st0,[])).2.1,kH:=(lF c s L (ts,st0,[])).2.2})=some res):
  FM rc L (L.length:Int) fuel (sit c s ts) {Region:=R,bY:=st0,kH:=L} [] 0=some res:=by
 apply pJ
 refine lJ (L:=λm (p:ku×gD×List Int) i=>FM rc L (L.length:Int) m p.1 p.2.1 p.2.2 i) (x:=(sit c s ts,{Region:=R,bY:=st0,kH:=L},[])) L.length ah
  (λk p=>∃q:yZ,p=(sit c s q.1,{Region:=R,bY:=q.2.1,kH:=L},q.2.2)/\GS c q.1/\lF c s (L.drop k) q=lF c s L (ts,st0,[])/\q.2.1.length+1001*(q.2.2.length+(L.length-k))<=33000/\q.2.2.length<=k) ⟨(ts,st0,[]),rfl,hg,rfl,aD hb,gI _⟩ ?_ ?_
 .rintro m k p hk ⟨q,rfl,hg',e1,hb',hk'⟩ ih;show Ok (FM rc L _ (m+1) _ _ _ k) _;have hy:=hL _ (jk hk);have hgl:=hg'.len;rw[FM,eZZ,dVZ,gW,aLt hc hv hg' ah,bD];have h1:=arI (s:=s) hc hg' (L.getD k aG);rw[aqe hk,lF]at e1
  obtain⟨res',er,hr⟩:=ih (sit c s (iR c s q.1 (kK c s q.1 (L.getD k aG))),{Region:=R,bY:=q.2.1++kK c s q.1 (L.getD k aG),kH:=L},bif(kK c s q.1 (L.getD k aG)).isEmpty then q.2.2++ [L.getD k aG]else q.2.2) ⟨_,rfl,Cq _ hg',e1,by
    cases hst:kK c s q.1 (L.getD k aG)with|nil=>rw[hst]at h1;simp only[abp,aY,pY,qo,xR]at h1⊢;omega|cons a b=>rw[hst]at h1;simp only[abo,aZ,pY,zi]at h1⊢;omega,by
    cases hst:(kK c s q.1 (L.getD k aG)).isEmpty with
    |true=>simp only[aY,pY,qo];omega
    |false=>simp only[aZ];omega⟩
  refine⟨res',?_,hr⟩;rw[<-bL (x:=(k:Int)+1) ah ah]at er;exact aKV (lf:=q.2.2) (j:=(k:Int)) hc hv h1 ah (by show q.2.1.length<=_;omega) ah hg' (by rw[bLZ]at er;exact er)
 .rintro m p ⟨q,rfl,hg',e1,hb',hk'⟩;show Ok (FM rc L _ (m+1) _ _ _ _) _;rw[PO,lF]at e1;rw[FM,fHZ];rw[<-e1]at hn;have e2:((q.2.2.length:Int)==(L.length:Int))=(q.2.2.length==L.length):=by
   by_cases h:q.2.2.length=L.length
   .rw[h];simp
   .have:(q.2.2.length:Int)≠(L.length:Int):=ah;rw[beq_false_of_ne this,beq_false_of_ne h]
  show Ok (bif((q.2.2.length:Int)==(L.length:Int))then _ else _) _;rw[e2];exact ak2 hn
theorem aro(hc:VC c)(hv:VS c s){R:Int}:∀(n m:Nat) (q:yZ),q.2.2.length<n->n<=m->GS c q.1->q.2.2.length<=32->(∀y∈q.2.2,0<=y/\y<((c.aH.length:Nat):Int))->q.2.1.length+1001*q.2.2.length<=33000→
  S9 m (sit c s q.1) {Region:=R,bY:=q.2.1,kH:=q.2.2}=some ({Region:=R,bY:=(zH c s n q).2.1,kH:=(zH c s n q).2.2},0)
 |0,_,_,h,_,_,_,_,_=>absurd h (kF _)
 |n+1,0,_,_,h,_,_,_,_=>absurd h ah
 |n+1,m+1,q,h1,h2,hg,h3,h4,h5=>by rw[S9];have hp:=Vu (s:=s) hc q.2.2 (q:=(q.1,q.2.1,[])) hg;simp only[xR,nL]at hp;refine aKW hc hv h3 h4 h5 hg ?_;rw[zH];cases hb:((lF c s q.2.2 (q.1,q.2.1,[])).2.2.length==q.2.2.length)with
  |true=>rfl
  |false=>
   have hne:(lF c s q.2.2 (q.1,q.2.1,[])).2.2.length≠q.2.2.length:=(aD hb);simp only[aZ]
   exact aro hc hv n m (lF c s q.2.2 (q.1,q.2.1,[])) ah ah (abU _ hg) ah (λy hy=>by
    rcases aiN _ hy with h|h
    .exact absurd h l6
    .exact h4 y h) ah
theorem aL0(hc:VC c)(hv:VS c s){r:Int}(hr:0<=r/\r<c.gH):Ox c s r=some ({Region:=r,bY:=(mkS c s r).2.1,kH:=(mkS c s r).2.2},0):=by
 unfold Ox mkS;have e:(decide (r<0)||decide (c.gH<=r))=false:=by rw[fF ah,fF ah];rfl
 have hl:=Pg (s:=s) hc (r:=r);rw[e,aZ,aKy hc hv,bD,aKC hc hv,bD];exact aro hc hv 33 fuel (s.aH,[],oV c s r) (by show(oV c s r).length<33;omega) aB hv.gs hl (λy hy=>((aaE hc).1 hy).1) (by show 0+1001*(oV c s r).length<=_;omega)
inductive Run(c:aN)(s:aO)(Ag:List bI):List eU->List Int->List bI->Prop
 |nil:Run c s Ag [] [] Ag
 |snoc {st:List eU} {mv:List Int} {ts:List bI} {i:Int} (h:Run c s Ag st mv ts) (hi:0<=i/\i<(ts.length:Int)) (hn:kK c s ts i≠ []):Run c s Ag (st++kK c s ts i) (mv++ [i]) (iR c s ts (kK c s ts i))
theorem aiM{Ag:List bI}:∀(l:List Int) {q:yZ} {mv:List Int},(∀y∈l,0<=y/\y<(c.aH.length:Int))->GS c q.1->Run c s Ag q.2.1 mv q.1→∃mv',Run c s Ag (lF c s l q).2.1 mv' (lF c s l q).1/\(mv'++(lF c s l q).2.2).Perm (mv++q.2.2++l)
 | [],q,mv,_,hg,h=>⟨mv,h,by rw[nK];exact ajS _⟩
 |x::r,q,mv,hL,hg,h=>by rw[lF];have hx:=hL x pE;have hgl:=hg.len;cases hst:kK c s q.1 x with
  |nil=>simp only[abp,aY,nK,iR];obtain⟨mv',h1,h2⟩:=aiM r (q:=(q.1,q.2.1,q.2.2++ [x])) (mv:=mv) (λy hy=>hL y (nR _ hy)) hg h;refine⟨mv',h1,h2.trans ?_⟩;simp only[qU,arU];exact ajS _
  |cons a b=>simp only[abo,aZ];have hr:=Run.snoc h (i:=x) ah (by rw[hst];simp);rw[hst]at hr;obtain⟨mv',h1,h2⟩:=aiM r (q:=(iR c s q.1 (a::b),q.2.1++(a::b),q.2.2)) (mv:=mv++ [x]) (λy hy=>hL y (nR _ hy)) (Cq _ hg) hr;refine⟨mv',h1,h2.trans ?_⟩;simp only[qU,arU];refine List.Perm.append_left _ ?_;exact(List.perm_middle).symm
theorem aqy(hc:VC c):∀(l:List Int) {q:yZ},GS c q.1->(lF c s l q).2.2.length=q.2.2.length+l.length->(∀x∈l,kK c s q.1 x=[])/\(lF c s l q).1=q.1/\(lF c s l q).2.1=q.2.1
 | [],q,_,_=>⟨λx hx=>absurd hx l6,rfl,rfl⟩
 |x::r,q,hg,h=>by have h1:=(Vu (s:=s) hc r (q:=(iR c s q.1 (kK c s q.1 x),q.2.1++kK c s q.1 x,bif(kK c s q.1 x).isEmpty then q.2.2++ [x]else q.2.2)) (Cq _ hg)).2;rw[lF]at h⊢;cases hst:kK c s q.1 x with
  |cons a b=>rw[hst]at h h1;simp only[abo,aZ,zi]at h h1;omega
  |nil=>
   rw[hst]at h;simp only[abp,aY,nK,iR]at h⊢;obtain⟨i1,i2,i3⟩:=aqy hc r (q:=(q.1,q.2.1,q.2.2++ [x])) hg (by rw[h];show q.2.2.length+(r.length+1)=(q.2.2++ [x]).length+r.length;rw[pY,qo];omega);refine⟨λy hy=> ?_,i2,i3⟩;rcases BZ.1 hy with rfl|hy
   .exact hst
   .exact i1 y hy
theorem asf(hc:VC c){Ag:List bI}:∀(n:Nat) (q:yZ) (mv:List Int),q.2.2.length<n->GS c q.1->(∀y∈q.2.2,0<=y/\y<((c.aH.length:Nat):Int))->Run c s Ag q.2.1 mv q.1→
  ∃mv',Run c s Ag (zH c s n q).2.1 mv' (zH c s n q).1/\(mv'++(zH c s n q).2.2).Perm (mv++q.2.2)/\(∀x∈(zH c s n q).2.2,kK c s (zH c s n q).1 x=[])/\GS c (zH c s n q).1
 |0,_,_,h,_,_,_=>absurd h (kF _)
 |n+1,q,mv,h1,hg,hL,hr=>by rw[zH];have hp:=(Vu (s:=s) hc q.2.2 (q:=(q.1,q.2.1,[])) hg).2;simp only[xR,nL]at hp;cases hb:((lF c s q.2.2 (q.1,q.2.1,[])).2.2.length==q.2.2.length)with
  |true=>have he:(lF c s q.2.2 (q.1,q.2.1,[])).2.2.length=q.2.2.length:=(aD hb);obtain⟨i1,i2,i3⟩:=aqy (s:=s) hc q.2.2 (q:=(q.1,q.2.1,[])) hg (by rw[he];simp);simp only[aY];rw[i2,i3];exact⟨mv,hr,ajS _,i1,hg⟩
  |false=>
   have hne:(lF c s q.2.2 (q.1,q.2.1,[])).2.2.length≠q.2.2.length:=(aD hb);simp only[aZ];obtain⟨mv1,r1,r2⟩:=aiM (Ag:=Ag) q.2.2 (q:=(q.1,q.2.1,[])) (mv:=mv) hL hg hr
   obtain⟨mv2,a1,a2,a3,a4⟩:=asf hc n (lF c s q.2.2 (q.1,q.2.1,[])) mv1 ah (abU _ hg) (λy hy=>by
    rcases aiN _ hy with h|h
    .exact absurd h l6
    .exact hL y h) r1
   exact⟨mv2,a1,a2.trans (aD r2),a3,a4⟩
structure Made(c:aN)(s:aO)(r:Int)(mv:List Int):Prop where
 run:Run c s s.aH (mkS c s r).2.1 mv (mkS c s r).1
 perm:(mv++(mkS c s r).2.2).Perm (oV c s r)
 left:∀x∈(mkS c s r).2.2,kK c s (mkS c s r).1 x=[]
 gs:GS c (mkS c s r).1
theorem made(hc:VC c)(hv:VS c s)(r:Int):∃mv,Made c s r mv:=by have hl:=Pg (s:=s) hc (r:=r);obtain⟨mv,a1,a2,a3,a4⟩:=asf (s:=s) hc (Ag:=s.aH) 33 (s.aH,[],oV c s r) [] (by show(oV c s r).length<33;omega) hv.gs (λy hy=>((aaE hc).1 hy).1) .nil;exact⟨mv,a1,by rw[Gn]at a2;exact a2,a3,a4⟩
end
section
variable {x:eU}{j:Nat}{k i:Int}
def NI(s:aO):Prop:=∀t∈s.aH,0<=t.Next->t.Next≠t.aT
section
variable {c:aN} {s:aO} {e:aP} {ts:List bI}
theorem El(h:NI s){t:bI}(ht:0<=t.Next->t.Next≠t.aT):NI (gX (bump s e) e.aI t):=by
 intro x hx;rcases Gm hx with q|q
 .exact h x q
 .rw[q];exact ht
theorem Qk(h:NI s)(hv:VS c s)(ht:eB c e):0<=(aL s e.aI).Next->(aL s e.aI).Next≠(aL s e.aI).aT:=by have:=hv.tl;unfold eB at ht;exact h _ (jk (xs:=s.aH) (i:=e.aI.toNat) ah)
theorem aK1(h:VC c)(hI:Inv c s)(hN:NI s){s':aO}(hs:Step c s e s'):NI s':=by cases hs with
 |place k t ce o np m1 m2 f1 f2 y1 y2 fit=>
  have htl:=hI.vs.tl;have ht:=t;unfold eB at ht;have q:=(hI.t e.aI.toNat ah).np np;refine El hN (λw=> ?_);have:(aL s e.aI).Next= -1:=by have q':aL s e.aI=uV:=q;rw[q'];rfl
  have w':0<=(aL s e.aI).Next:=w;omega
 |grant k t ce ep w n pl sh cl m1 m2 eq v1 v2 w1 w2 w3 w4 w5 w6 fit=>refine El hN ?_;have h0:=Qk hN hI.vs t;unfold uW;simp only;cases (e.aK==(aL s e.aI).bC)with|true=>exact h0|false=>cases (e.aK==(aL s e.aI).aT)with|true=>intro w;exact absurd w (by show¬(0:Int)≤-1;omega)|false=>exact h0
 |cut k t pl ep ep1=>exact El hN (Qk hN hI.vs t)
 |Vn k t ce pl fit=>exact El hN (λw=>absurd w (by rw[ce];show¬(0:Int)≤-1;omega))
 |jF k t ce pl n1 n2 n3 m1 f1 y1 t1 t2 fit=>exact El hN (λ_=>n2)
 |ready k t ce pl n1 m1=>exact El hN (λw=>absurd w (by show¬(0:Int)≤-1;omega))
 |migrate k t ce pl sh tg n1 n2 n3 m1 f1 y1 t1 t2 fit=>exact El hN (Qk hN hI.vs t)
 |abandon k t pl tg=>exact El hN (Qk hN hI.vs t)
 |shed k t n pl sh w=>exact El hN (Qk hN hI.vs t)
 |back k t n sh m1 fit=>exact El hN (Qk hN hI.vs t)
 |mode k ce n m1=>exact hN
 |want k ce n n1 v1 v2 f=>exact hN
 |runs k ce n n1 n2 f w=>exact hN
 |prove k n n1 b=>exact hN
 |lD k o n n1=>exact hN
 |expand k h1 h2 h3=>exact hN
 |contract k h1=>exact hN
 |note k=>exact hN
theorem aL4:NI (newS c):=by intro t ht;have:t=uV:=Ll ht;rw[this];intro w;exact absurd w ak
theorem aMd(h:VC c)(l:List aP):∀s,Inv c s->NI s->xE c s l->NI (vY c s l):=by induction l with|nil=>intro s _ hN _;exact hN|cons e l ih=>intro s hI hN ho;exact ih _ (aaL h hI ho.1) (aK1 h hI hN (UQ h ho.1).2.2.2) ho.2
structure PT(t:bI):Prop where
 ht:0<=t.dK->t.bC≠t.dK
 hs:0<=t.aT->t.bC≠t.aT
 st:0<=t.aT->t.dK≠t.aT
 sn:0<=t.aT->t.Next≠t.aT
def PI(ts:List bI):Prop:=∀t∈ts,PT t
theorem aL8(h:VC c)(hI:Inv c s)(hN:NI s):PI s.aH:=by
 intro t ht;obtain⟨i,hi,rfl⟩:=zh ht;have e:s.aH.getD i aG=s.aH[i]:=by simp[fC,hi]
 have q:=hI.t i hi;rw[e]at q;refine⟨q.ht,λw e2=> ?_,λw e2=> ?_,λw e2=> ?_⟩
 .have:=q.hs;rw[e2,aaW w]at this;cases this
 .have:=q.ts;rw[e2,aaW w]at this;cases this
 .exact hN _ ht ah e2
theorem atl(h:PI ts)(hx:x.aI.toNat<ts.length):PI (mV ts x):=by
 intro t ht;have h0:=h _ (jk hx);rcases Gm ht with q|q
 .exact h t q
 .rw[q];unfold yE;cases (x.aM==1)with
  |true=>exact⟨λw=>absurd w (by show¬(0:Int)≤-1;omega),h0.hs,λw e2=>by have w':0<=(ts.getD x.aI.toNat aG).aT:=w;have e2':(-1:Int)=(ts.getD x.aI.toNat aG).aT:=e2;omega,h0.sn⟩
  |false=>exact⟨λw=>absurd w (by show¬(0:Int)≤-1;omega),λw=>absurd w (by show¬(0:Int)≤-1;omega),λw=>absurd w (by show¬(0:Int)≤-1;omega),λw=>absurd w (by show¬(0:Int)≤-1;omega)⟩
theorem aaK{k:Int}{n:Int}{j:Nat}(h:k=(j:Int)):hit k n j=n:=by unfold hit;rw[bU h]
theorem VX{k:Int}{n:Int}{j:Nat}(h:k≠(j:Int)):hit k n j=0:=by unfold hit;rw[cZ h]
theorem Va(h:x.aI.toNat≠j):(mV ts x).getD j aG=ts.getD j aG:=by unfold mV;simp[fC,yM,h]
theorem ap2(h:x.aI.toNat<ts.length):(mV ts x).getD x.aI.toNat aG=yE (ts.getD x.aI.toNat aG) x:=pV h
theorem V5:(mV ts x).length=ts.length:=by simp[mV]
theorem aHV(hc:VC c)(hg:GS c ts)(hp:nE c s ts (jR k i)=true)(hj:j<c.aJ.length):(jv c s (mV ts (jR k i))).getD j 0<=(jv c s ts).getD j 0:=by
 obtain⟨h1,h2,h3,h4⟩:=F8 hp;have hi:i.toNat<ts.length:=by have h1:0<=i/\i<(ts.length:Int):=h1;omega
 have hd:=AB hc (k:=i.toNat) (by have:=hg.len;omega);show(jv c s (ts.set i.toNat _)).getD j 0<=_;rw[VN hi hj];rw[D8]at h3;have h3:(ts.getD i.toNat aG).dN=true/\(ts.getD i.toNat aG).eX=false:=h3;unfold dl yE jR;simp only[h3.1,h3.2,l7,nD,mJ,Lu,aY];have a1:=AR (i:=(ts.getD i.toNat aG).bC) (n:=(c.aH.getD i.toNat aG).dZ) hd.1 j;have a2:=AR (i:=(ts.getD i.toNat aG).dK) (n:=(c.aH.getD i.toNat aG).dZ) hd.1 j;omega
theorem aHU(hc:VC c)(hg:GS c ts)(hP:PI ts)(hp:nE c s ts (jR k i)=true):(jv c s (mV ts (jR k i))).getD k.toNat 0=(jv c s ts).getD k.toNat 0-(tn c i).dZ:=by
 obtain⟨h1,h2,h3,h4⟩:=F8 hp;have h1:0<=i/\i<(ts.length:Int):=h1;have h2:0<=k/\k<(c.aJ.length:Int):=h2;have hi:i.toNat<ts.length:=ah
 have hh:(ts.getD i.toNat aG).bC=k:=by
  rcases h4 with⟨_,q⟩|⟨q,_⟩
  .exact q
  .exact absurd q (by show¬(1:Int)=2;omega)
 have hpt:=hP _ (jk hi);show(jv c s (ts.set i.toNat _)).getD k.toNat 0=_;rw[VN hi ah];rw[D8]at h3;have h3:(ts.getD i.toNat aG).dN=true/\(ts.getD i.toNat aG).eX=false:=h3;unfold dl yE jR;simp only[h3.1,h3.2,l7,nD,mJ,Lu,aY];rw[aaK (k:=(ts.getD i.toNat aG).bC) ah,VX (k:=(ts.getD i.toNat aG).dK)]
 .unfold tn;omega
 .intro e;exact hpt.ht ah ah
theorem ag3(hc:VC c)(hg:GS c ts)(hP:PI ts)(hp:nE c s ts (jw k i)=true)(hj:j<c.aJ.length):
  ((j:Int)≠k->(jv c s (mV ts (jw k i))).getD j 0<=(jv c s ts).getD j 0)/\((j:Int)=k->(jv c s (mV ts (jw k i))).getD j 0=(jv c s ts).getD j 0+((tn c i).dZ-(tn c i).jA)):=by
 obtain⟨h1,h2,h3,h4⟩:=F8 hp;have h1:0<=i/\i<(ts.length:Int):=h1;have h2:0<=k/\k<(c.aJ.length:Int):=h2;have hi:i.toNat<ts.length:=ah
 have hh:(ts.getD i.toNat aG).aT=k:=by
  rcases h4 with⟨q,_⟩|⟨_,q,_⟩
  .exact absurd q (by show¬(2:Int)=1;omega)
  .exact q
 have hd:=AB hc (k:=i.toNat) (by have:=hg.len;omega);have hpt:=hP _ (jk hi);rw[D8]at h3;have h3:(ts.getD i.toNat aG).dN=true/\(ts.getD i.toNat aG).eX=false:=h3;have key:(jv c s (mV ts (jw k i))).getD j 0=(jv c s ts).getD j 0+(hit k (tn c i).dZ j-((hit (ts.getD i.toNat aG).bC (tn c i).dZ j+hit (ts.getD i.toNat aG).dK (tn c i).dZ j)+(hit (ts.getD i.toNat aG).aT (tn c i).jA j+hit (ts.getD i.toNat aG).Next (tn c i).jA j))):=by
  show(jv c s (ts.set i.toNat _)).getD j 0=_;rw[VN hi hj];unfold dl yE jw;have k1:((2:Int)==1)=false:=ak
  have n1:∀n:Int,hit (-1) n j=0:=λn=>PE ah j;simp only[h3.1,h3.2,l7,nD,mJ,k1,aZ,n1];unfold tn;omega
 have b1:0<=(tn c i).dZ:=hd.1;have b2:0<=(tn c i).jA:=hd.2.2.1;have a1:=AR (i:=(ts.getD i.toNat aG).bC) (n:=(tn c i).dZ) b1 j;have a2:=AR (i:=(ts.getD i.toNat aG).dK) (n:=(tn c i).dZ) b1 j;have a3:=AR (i:=(ts.getD i.toNat aG).aT) (n:=(tn c i).jA) b2 j;have a4:=AR (i:=(ts.getD i.toNat aG).Next) (n:=(tn c i).jA) b2 j;refine⟨λhjk=> ?_,λhjk=> ?_⟩
 .rw[key,VX (k:=k) (λe=>hjk e.symm)];omega
 .have s0:0<=(ts.getD i.toNat aG).aT:=ah
  rw[key,aaK (k:=k) hjk.symm,aaK (k:=(ts.getD i.toNat aG).aT) ah,VX (k:=(ts.getD i.toNat aG).bC) (λe=>hpt.hs s0 ah),VX (k:=(ts.getD i.toNat aG).dK) (λe=>hpt.st s0 ah),VX (k:=(ts.getD i.toNat aG).Next) (λe=>hpt.sn s0 ah)];omega
def Qh(c:aN)(s:aO)(ts:List bI):Prop:=∀j,j<c.aJ.length->(jv c s ts).getD j 0<=(c.aJ.getD j aG).lT
def xC(c:aN)(s:aO):List bI->List eU->Prop
 |_,[]=>True
 |ts,x::r=>nE c s ts x=true/\xC c s (mV ts x) r
theorem Jg{r:List eU}(h:nE c s ts x=true):iR c s ts (x::r)=iR c s (mV ts x) r:=by rw[iR,h];rfl
theorem Lj:∀(a b:List eU) (ts:List bI),xC c s ts (a++b) ↔ xC c s ts a/\xC c s (iR c s ts a) b
 | [],b,ts=>by simp[xC,iR]
 |x::r,b,ts=>by
  rw[I9,xC,xC];constructor
  .rintro⟨h1,h2⟩;have:=(Lj r b _).1 h2;rw[Jg h1];exact⟨⟨h1,this.1⟩,this.2⟩
  .rintro⟨⟨h1,h2⟩,h3⟩;rw[Jg h1]at h3;exact⟨h1,(Lj r b _).2 ⟨h2,h3⟩⟩
theorem akc:∀(l:List eU) {ts:List bI},xC c s ts l->PI ts->PI (iR c s ts l)
 | [],ts,_,h=>h
 |x::r,ts,ht,h=>by rw[Jg ht.1];have:=(F8 ht.1).1;exact akc r ht.2 (atl h ah)
def ug(c:aN):List Int->Int
 | []=>0
 |y::r=>(tn c y).dZ+ug c r
theorem aaR(hc:VC c){k:Int}(hk:0<=k/\k<((c.aJ.length:Nat):Int)):∀(ys:List Int) {ts:List bI},GS c ts->PI ts->ys.Nodup->(∀y∈ys,(0<=y/\y<((ts.length:Nat):Int))/\kX (ts.getD y.toNat aG)=true/\(ts.getD y.toNat aG).bC=k)→
  xC c s ts (ys.map (jR k))/\(jv c s (iR c s ts (ys.map (jR k)))).getD k.toNat 0=(jv c s ts).getD k.toNat 0-ug c ys/\(∀j,j<c.aJ.length->(jv c s (iR c s ts (ys.map (jR k)))).getD j 0<=(jv c s ts).getD j 0)∧∀i:Nat,(i:Int) ∉ ys->(iR c s ts (ys.map (jR k))).getD i aG=ts.getD i aG
 | [],ts,hg,hP,_,_=>⟨trivial,by simp[ug,iR],λj _=>jc _,λi _=>rfl⟩
 |y::r,ts,hg,hP,hn,hy=>by
  obtain⟨q1,q2,q3⟩:=hy y pE;have hp:nE c s ts (jR k y)=true:=aJh q1 hk q2 q3;rw[List.nodup_cons]at hn
  obtain⟨i1,i2,i3,i4⟩:=aaR hc hk r (ts:=mV ts (jR k y)) (akg hg hp) (atl hP (by show y.toNat<_;omega)) hn.2 (λz hz=>by
   obtain⟨z1,z2,z3⟩:=hy z (nR _ hz);have hne:(jR k y).aI.toNat≠z.toNat:=by
    show y.toNat≠z.toNat
    intro e;have:y=z:=ah;subst this;exact hn.1 hz
   rw[Va hne,V5];exact⟨z1,z2,z3⟩)
  rw[mH,Jg hp];refine⟨⟨hp,i1⟩,?_,λj hj=>wS (i3 j hj) (aHV hc hg hp hj),λi hi=> ?_⟩
  .rw[i2,aHU hc hg hP hp,ug];omega
  .rw[BZ]at hi;have h1:(i:Int)≠y:=λe=>hi (.inl e);rw[i4 i (λe=>hi (.inr e)),Va];show y.toNat≠i;omega
theorem ah7:∀(l:List Int) (m:Int),∃b,l=(pK c l m).1++b/\(pK c l m).2=m-ug c (pK c l m).1/\((pK c l m).2<=0\/b=[])/\(∀a d,(pK c l m).1=a++d->d≠ []->0<m-ug c a)
 | [],m=>⟨[],rfl,by simp[pK,ug],.inr rfl,λa d h hd=>by
   simp only[pK]at h;have:=(arS.1 h).2
   exact absurd this hd⟩
 |y::r,m=>by
  rw[pK];by_cases hm:m<=0
  .rw[dU hm];refine⟨y::r,rfl,by simp[ug],.inl hm,λa d h hd=> ?_⟩;simp only[aY]at h;exact absurd (arS.1 h).2 hd
  .rw[fF hm];obtain⟨b,i1,i2,i3,i4⟩:=ah7 r (m-(tn c y).dZ);simp only[aZ];refine⟨b,by rw[I9,<-i1],by rw[i2,ug];omega,i3,λa d h hd=> ?_⟩;rcases a with _|⟨a0,a⟩;simp[ug];omega;rw[I9,List.cons.injEq]at h;have:=i4 a d h.2 hd;rw[<-h.1,ug];omega
structure Grp(c:aN)(s:aO)(ts:List bI)(i k:Int)(ys:List Int):Prop where
 sb:(ts.getD i.toNat aG).aT=k
 act:kX (ts.getD i.toNat aG)=true
 us:qj c s k=true
 nd:ys.Nodup
 y:∀y∈ys,(0<=y/\y<(ts.length:Int))/\kX (ts.getD y.toNat aG)=true/\(ts.getD y.toNat aG).bC=k/\(tn c y).iT<(tn c i).iT
 st:kK c s ts i=ys.map (jR k)++ [jw k i]
 enough:rR c s ts i<=ug c ys
 last:∀a d,ys=a++d->d≠ []->ug c a<rR c s ts i
theorem aiK(hc:VC c)(hg:GS c ts){pr y:Int}(hy:y∈xu c ts k pr):(0<=y/\y<(ts.length:Int))/\kX (ts.getD y.toNat aG)=true/\(ts.getD y.toNat aG).bC=k/\(tn c y).iT<pr:=by obtain⟨h1,h2⟩:=(arn hc hg).1 hy;unfold Jv at h2;simp only[dD,uE,oo]at h2;exact⟨h1,h2.1.1,h2.1.2,h2.2⟩
theorem Xn(hc:VC c)(hg:GS c ts)(hn:kK c s ts i≠ []):∃ys,Grp c s ts i (ts.getD i.toNat aG).aT ys:=by have hn':=hn;unfold kK at hn;cases ha:kX (ts.getD i.toNat aG)with
 |false=>rw[ha]at hn;exact absurd rfl hn
 |true=>
  rcases hu:qj c s (ts.getD i.toNat aG).aT with _|_;rw[ha,hu]at hn;exact absurd rfl hn;rw[ha,hu]at hn;simp only[gN,nU,aZ]at hn;by_cases h0:0<(pK c (xu c ts (ts.getD i.toNat aG).aT (tn c i).iT) (rR c s ts i)).2
  .rw[dU h0]at hn;exact absurd rfl hn
  .have est:kK c s ts i=(pK c (xu c ts (ts.getD i.toNat aG).aT (tn c i).iT) (rR c s ts i)).1.map (jR (ts.getD i.toNat aG).aT)++ [jw (ts.getD i.toNat aG).aT i]:=(by unfold kK;rw[ha,hu,fF h0];rfl);obtain⟨b,p1,p2,p3,p4⟩:=ah7 (c:=c) (xu c ts (ts.getD i.toNat aG).aT (tn c i).iT) (rR c s ts i);have hnd:=aJa hc hg (ts.getD i.toNat aG).aT (tn c i).iT;rw[p1]at hnd;refine⟨_,rfl,ha,hu,(Ca.1 hnd).1,λy hy=> ?_,est,ah,λa d h hd=>by have:=p4 a d h hd;omega⟩;exact aiK hc hg (by rw[p1];exact wL _ hy)
theorem asv(hc:VC c)(hg:GS c ts){i:Int}(ha:kX (ts.getD i.toNat aG)=true)(hu:qj c s (ts.getD i.toNat aG).aT=true)(hn:kK c s ts i=[]):ug c (xu c ts (ts.getD i.toNat aG).aT (tn c i).iT)<rR c s ts i:=by
 unfold kK at hn;rw[ha,hu]at hn;simp only[gN,nU,aZ]at hn;obtain⟨b,p1,p2,p3,p4⟩:=ah7 (c:=c) (xu c ts (ts.getD i.toNat aG).aT (tn c i).iT) (rR c s ts i);by_cases h0:0<(pK c (xu c ts (ts.getD i.toNat aG).aT (tn c i).iT) (rR c s ts i)).2
 .have hb:b=[]:=by rcases p3 with h|h;omega;exact h
  rw[hb,nK]at p1;rw[p1];omega
 .rw[fF h0,aZ]at hn;exact absurd hn aj
theorem apY(hc:VC c)(hg:GS c ts)(hP:PI ts){i k:Int}(hi:0<=i/\i<(ts.length:Int))(hsb:(ts.getD i.toNat aG).aT=k)(ha:kX (ts.getD i.toNat aG)=true)(hu:qj c s k=true){ys:List Int}(hn:ys.Nodup)
  (hy:∀y∈ys,(0<=y/\y<(ts.length:Int))/\kX (ts.getD y.toNat aG)=true/\(ts.getD y.toNat aG).bC=k/\(tn c y).iT<(tn c i).iT):
  xC c s ts (ys.map (jR k)++ [jw k i])/\(jv c s (iR c s ts (ys.map (jR k)++ [jw k i]))).getD k.toNat 0=(c.aJ.getD k.toNat aG).lT+(rR c s ts i-ug c ys)∧∀j,j<c.aJ.length->(j:Int)≠k->(jv c s (iR c s ts (ys.map (jR k)++ [jw k i]))).getD j 0<=(jv c s ts).getD j 0:=by
 have hk:=AZ hu;obtain⟨s1,s2,s3,s4⟩:=aaR (s:=s) hc hk ys hg hP hn (λy q=>by obtain⟨a,b,d,_⟩:=hy y q;exact⟨a,b,d⟩);have hiy:((i.toNat:Nat):Int) ∉ ys:=λq=>by have:=(hy _ q).2.2.2;rw[show((i.toNat:Nat):Int)=i by omega]at this;omega
 have hti:=s4 i.toNat hiy;have hlen:=ajE (c:=c) (s:=s) (ys.map (jR k)) ts;have hp:nE c s (iR c s ts (ys.map (jR k))) (jw k i)=true:=ahD (by rw[hlen];exact hi) hu (by rw[hti];exact ha) (by rw[hti];exact hsb);have hg':=Cq (s:=s) (ys.map (jR k)) hg;have hP':=akc (ys.map (jR k)) s1 hP;have er:iR c s ts (ys.map (jR k)++ [jw k i])=mV (iR c s ts (ys.map (jR k))) (jw k i):=by rw[LB,Jg hp];rfl
 refine⟨(Lj _ _ _).2 ⟨s1,hp,trivial⟩,?_,λj hj hjk=> ?_⟩
 .rw[er,(ag3 hc hg' hP' hp (j:=k.toNat) ah).2 ah,s2];unfold rR;rw[hsb];omega
 .rw[er];exact wS ((ag3 hc hg' hP' hp hj).1 hjk) (s3 j hj)
end
end
section
variable {c:aN}
theorem aqE{α:Type}(a b:α){n k:Nat}(hk:k<n):(List.replicate k a++List.replicate (n-k) b).set k a=List.replicate (k+1) a++List.replicate (n-(k+1)) b:=by
 apply Ed;intro j;rw[yM];simp only[List.getElem?_append,VB,Ee,pY];repeat' split
 all_goals first|rfl|(exfalso;omega)
theorem aLe{α:Type} [Inhabited α](a b:α){n k:Nat}(hk:k<n):(List.replicate k a++List.replicate (n-k) b).getD k aG=b:=by rw[fC,uw aj,VB,Nat.sub_self,Ee,bU ah];rfl
theorem ahN(hc:VC c):O8 c=some (newS c):=by
 have hct:=hc.tl;have hcl:=hc.cl;unfold O8;rw[mR,mR];simp only[gW,VB];apply pJ;refine lJ (L:=λm x i=>IV (c.aH.length:Int) m x i) c.aH.length ah (λk x=>x={newS c with aH:=List.replicate k uV++List.replicate (c.aH.length-k) aG,aJ:=List.replicate c.aJ.length aG}) (by simp[newS]) ?_ ?_
 .rintro m k x hk rfl ih;show Ok (IV _ (m+1) _ k) _;rw[IV,eZZ,dV ah ay,gW,bLZ];unfold bF;refine ih _ ?_;have:=aqE uV (aG:bI) hk;simp only;rw[<-this];rfl
 .rintro m x rfl;show Ok (IV _ (m+1) _ _) _;rw[IV,fHZ];simp only[VB,Nat.sub_self,List.replicate_zero,nK];refine lJ (L:=λm x i=>IU (c.aJ.length:Int) m x i) c.aJ.length ah (λk x=>x={newS c with aJ:=List.replicate k EX++List.replicate (c.aJ.length-k) aG}) (by simp[newS]) ?_ ?_
  .rintro m k x hk rfl ih;show Ok (IU _ (m+1) _ k) _;rw[IU,eZZ,dV ah ay,gW,bLZ];unfold bF;refine ih _ ?_;have:=aqE EX (aG:gG) hk;simp only;rw[aLe _ _ hk,<-this];rfl
  .rintro m x rfl;show Ok (IU _ (m+1) _ _) _;rw[IU,fHZ];refine Ok.some ?_;simp[newS]
end
section
variable {c:aN} {s:aO} {ts:List bI}
theorem RS.ni(h:VC c)(hr:RS c s):NI s:=by obtain⟨o,q⟩:=hr;rw[<-q.run];exact aMd h o _ (Li h) aL4 q.ok
theorem aMr(hc:VC c)(hv:VS c s)(i:Int):Od c s i=some ((decide (0<=i)&&decide (i<(s.aH.length:Int)))&&kX (aL s i)&&qj c s (aL s i).aT):=by
 have htl:=hv.tl;unfold Od;by_cases hi:0<=i/\i<(s.aH.length:Int)
 .have e:((decide (i<0)||decide ((c.aH.length:Int)<=i))||decide ((s.aH.length:Int)<=i))=false:=by rw[fF ah,fF ah,fF ah];rfl
  rw[e,aZ,dV hi.1 hi.2,dU hi.1,dU hi.2];show(((bif kX (aL s i)then Iz c s (aL s i).aT else some aG)).bind λx2=>some (kX (aL s i)&&x2))=_;cases kX (aL s i)with|true=>rw[aY,aik hc hv];rfl|false=>rfl
 .have e:((decide (i<0)||decide ((c.aH.length:Int)<=i))||decide ((s.aH.length:Int)<=i))=true:=by simp only[p8,oo];omega
  have e2:(decide (0<=i)&&decide (i<(s.aH.length:Int)))=false:=by rw[ab2];simp only[dD,oo,ne_eq];exact hi
  rw[e,e2];rfl
theorem aL1(hc:VC c)(hv:VS c s)(r:Int):(mkS c s r).2.1.length<=33000:=by
 have hl:=Pg (s:=s) hc (r:=r);have key:∀(n:Nat) (q:yZ),GS c q.1->(zH c s n q).2.1.length<=q.2.1.length+1001*q.2.2.length:=by intro n;induction n with|zero=>intro q _;show q.2.1.length<=_;omega|succ n ih=>intro q hg;rw[zH];have hp:=Vu (s:=s) hc q.2.2 (q:=(q.1,q.2.1,[])) hg;simp only[xR,nL]at hp;cases ((lF c s q.2.2 (q.1,q.2.1,[])).2.2.length==q.2.2.length)with|true=>simp only[aY];omega|false=>simp only[aZ];have:=ih (lF c s q.2.2 (q.1,q.2.1,[])) (abU _ hg);omega
 have:=key 33 (s.aH,[],oV c s r) hv.gs;simp only[xR,nL]at this;unfold mkS;omega
end
section
variable {c:aN} {s:aO} {ts:List bI}
theorem WC{α:Type} [Inhabited α]{a b:List α}{n:Nat}(h:n<a.length):(a++b).getD n aG=a.getD n aG:=by rw[fC,fC,pX h]
theorem WE{α:Type} [Inhabited α]{a b:List α}{n:Nat}:(a++b).getD (a.length+n) aG=b.getD n aG:=by rw[fC,fC,uw (abz _ _),Nat.add_sub_cancel_left]
theorem aLP{α β:Type} [Inhabited α] [Inhabited β]{f:α->β}{l:List α}{n:Nat}(h:n<l.length):(l.map f).getD n aG=f (l.getD n aG):=by simp[fC,h]
structure PRk(c:aN)(s:aO)(st:List eU)(a k:Nat):Prop where
 lt:a<k/\k<st.length
 sh:∀j,a<=j->j<k->(st.getD j aG).aM=1
 mv:(st.getD k aG).aM≠1
 cell:(st.getD k aG).aK=(st.getD a aG).aK
 rng:0<=(st.getD a aG).aK/\(st.getD a aG).aK<(c.aJ.length:Int)
 t1:0<=(st.getD a aG).aI/\(st.getD a aG).aI<(c.aH.length:Int)
 t2:0<=(st.getD k aG).aI/\(st.getD k aG).aI<(c.aH.length:Int)
 pr:(tn c (st.getD a aG).aI).iT<(tn c (st.getD k aG).aI).iT
 MR:xC c s s.aH (st.take (k-1)++ [st.getD k aG])
 ov:(c.aJ.getD (st.getD a aG).aK.toNat aG).lT<(jv c s (iR c s s.aH (st.take (k-1)++ [st.getD k aG]))).getD (st.getD a aG).aK.toNat 0
structure aMv(c:aN)(s:aO)(st:List eU)(mv:List Int)(ts:List bI):Prop where
 MR:xC c s s.aH st
 en:iR c s s.aH st=ts
 gs:GS c ts
 pi:PI ts
 cap:∀n,n<=st.length->Qh c s (iR c s s.aH (st.take n))
 Hq:(st.filter (λx=>x.aM==2)).map (·.aI)=mv
 pr:∀a,a<st.length->(st.getD a aG).aM=1→∃k,PRk c s st a k
 kd:∀x∈st,x.aM=1\/x.aM=2
theorem ard(k:Int):∀ys:List Int,(ys.map (jR k)).filter (λx=>x.aM==2)=[]
 | []=>rfl
 |y::r=>by rw[mH,PS,ard k r];rfl
theorem LC(hc:VC c)(hI:Inv c s)(hN:NI s){st:List eU}{mv:List Int}(hr:Run c s s.aH st mv ts):aMv c s st mv ts:=by induction hr with
 |nil=>
  refine⟨trivial,rfl,hI.vs.gs,aL8 hc hI hN,λn hn=> ?_,rfl,λa ha=>absurd ha (kF _),λx hx=>absurd hx l6⟩;have:n=0:=aD hn
  subst this;intro j hj;show(jv c s s.aH).getD j 0<=_;rw[abF hj];exact Pp.1 hI.ov j hj
 | @snoc st mv ts i h hi hn ih=>
  obtain⟨ys,G⟩:=Xn hc ih.gs hn;generalize hk:(ts.getD i.toNat aG).aT=k at G;have hlen:=ih.gs.len;have hkr:=AZ G.us;have hst:=G.st;obtain⟨m1,m2,m3⟩:=apY hc ih.gs ih.pi hi G.sb G.act G.us G.nd G.y;rw[hst];have hcap0:Qh c s ts:=by have:=ih.cap st.length (gI _);rw[tF,ih.en]at this;exact this
  have hgl:(ys.map (jR k)++ [jw k i]).length=ys.length+1:=aj
  refine⟨(Lj _ _ _).2 ⟨ih.MR,by rw[ih.en];exact m1⟩,by rw[LB,ih.en],Cq _ ih.gs,akc _ m1 ih.pi,λn hn=> ?_,?_,λa ha hka=> ?_,λx hx=> ?_⟩
  .by_cases h1:n<=st.length
   .rw[VF h1];exact ih.cap n h1
   .have e:(st++(ys.map (jR k)++ [jw k i])).take n=st++(ys.map (jR k)++ [jw k i]).take (n-st.length):=(by rw[List.take_append,VG ah]);rw[pY,hgl]at hn;rw[e,LB,ih.en];by_cases h2:n-st.length<=ys.length
    .rw[VF (by rw[nQ];exact h2),<-abt];obtain⟨_,_,s3,_⟩:=aaR (s:=s) hc hkr (ys.take (n-st.length)) ih.gs ih.pi (G.nd.sublist (ajg _ _)) (λy hy=>by obtain⟨q1,q2,q3,_⟩:=G.y y (abw hy);exact⟨q1,q2,q3⟩);intro j hj;exact wS (s3 j hj) (hcap0 j hj)
    .rw[VG (by rw[hgl];omega)];intro j hj;by_cases hjk:(j:Int)=k
     .have:j=k.toNat:=ah;subst this;rw[m2];have:=G.enough;omega
     .exact wS (m3 j hj hjk) (hcap0 j hj)
  .rw[AO,Lp,ih.Hq,AO,ard];rfl
  .by_cases h1:a<st.length
   .rw[WC h1]at hka;obtain⟨kk,P⟩:=ih.pr a h1 hka;have hkk:=P.lt.2;have e1:(st++(ys.map (jR k)++ [jw k i])).getD a aG=st.getD a aG:=WC h1;have e2:(st++(ys.map (jR k)++ [jw k i])).getD kk aG=st.getD kk aG:=WC hkk;have e3:(st++(ys.map (jR k)++ [jw k i])).take (kk-1)=st.take (kk-1):=VF ah;refine⟨kk,⟨P.lt.1,by rw[pY];omega⟩,λj q1 q2=> ?_,?_,?_,?_,?_,?_,?_,?_,?_⟩
    .rw[WC ah];exact P.sh j q1 q2
    .rw[e2];exact P.mv
    .rw[e1,e2];exact P.cell
    .rw[e1];exact P.rng
    .rw[e1];exact P.t1
    .rw[e2];exact P.t2
    .rw[e1,e2];exact P.pr
    .rw[e2,e3];exact P.MR
    .rw[e1,e2,e3];exact P.ov
   .obtain⟨b,rfl⟩:∃b,a=st.length+b:=⟨a-st.length,ah⟩;rw[pY,hgl]at ha;have hb:b<ys.length:=by
     rcases mI b ys.length with q|q
     .exact q
     .have:b=ys.length:=ah;subst this;have e:(st++(ys.map (jR k)++ [jw k i])).getD (st.length+ys.length) aG=jw k i:=(by rw[WE];have:=WE (a:=ys.map (jR k)) (b:=[jw k i]) (n:=0);rw[nQ,wN]at this;rw[this];rfl);rw[e]at hka;exact absurd hka (by show¬(2:Int)=1;omega)
    have eA:∀j,j<ys.length->(st++(ys.map (jR k)++ [jw k i])).getD (st.length+j) aG=jR k (ys.getD j aG):=(by intro j hj;rw[WE,WC (by rw[nQ];exact hj),aLP hj]);have eK:(st++(ys.map (jR k)++ [jw k i])).getD (st.length+ys.length) aG=jw k i:=(by rw[WE];have:=WE (a:=ys.map (jR k)) (b:=[jw k i]) (n:=0);rw[nQ,wN]at this;rw[this];rfl);have eT:(st++(ys.map (jR k)++ [jw k i])).take (st.length+ys.length-1)=st++(ys.take (ys.length-1)).map (jR k):=(by rw[List.take_append,VG ah,VF (by rw[nQ];omega),<-abt];congr 3;omega);obtain⟨n1,n2,n3⟩:=apY (s:=s) hc ih.gs ih.pi hi G.sb G.act G.us (ys:=ys.take (ys.length-1)) (G.nd.sublist (ajg _ _)) (λy hy=>G.y y (abw hy));have hy:=G.y _ (jk hb);refine⟨st.length+ys.length,⟨ah,by rw[pY,hgl];omega⟩,λj q1 q2=> ?_,?_,?_,?_,?_,?_,?_,?_,?_⟩
    .obtain⟨j',rfl⟩:∃j',j=st.length+j':=⟨j-st.length,ah⟩;rw[eA j' ah];rfl
    .rw[eK];show¬(2:Int)=1;omega
    .rw[eA b hb,eK];rfl
    .rw[eA b hb];exact hkr
    .rw[eA b hb];show 0<=ys.getD b aG/\ys.getD b aG<_;omega
    .rw[eK];show 0<=i/\i<_;omega
    .rw[eA b hb,eK];exact hy.2.2.2
    .rw[eK,eT,qU];exact(Lj _ _ _).2 ⟨ih.MR,by rw[ih.en];exact n1⟩
    .rw[eA b hb,eK,eT,qU,LB,ih.en];show(c.aJ.getD k.toNat aG).lT<(jv c s _).getD k.toNat 0;rw[n2];have:=G.last (ys.take (ys.length-1)) (ys.drop (ys.length-1)) (aje _ _).symm (by intro e;have:=congrArg List.length e;simp at this;omega);omega
  .rcases qp.1 hx with q|q
   .exact ih.kd x q
   .rcases qp.1 q with q|q
    .obtain⟨y,_,rfl⟩:=xS.1 q;exact .inl rfl
    .rw[qw.1 q];exact .inr rfl
theorem aKo{st:List eU}(h:xC c s ts st)(n:Nat):xC c s ts (st.take n):=by rw[<-aje n st]at h;exact((Lj _ _ _).1 h).1
theorem arp{e:gD}(hl:e.bY.length<=100000)(kd:Int):TA e kd=some ((e.bY.filter (λx=>x.aM==kd)).map (·.aI)):=by
 unfold TA;apply pJ;refine lJ (L:=λm x i=>FI kd e.bY (e.bY.length:Int) m x i) e.bY.length ah (λk x=>x=((e.bY.take k).filter (λx=>x.aM==kd)).map (·.aI)) rfl ?_ ?_
 .rintro m k x hk rfl ih;show Ok (FI kd _ _ (m+1) _ k) _;have nx:=ih _ rfl;have hfl:=PW (λx:eU=>x.aM==kd) (e.bY.take k);rw[rM]at hfl;rw[yH hk,AO,PS,ai4,Lp]at nx;rw[FI,eZZ,dVZ,gW];unfold YF;rw[bLZ];cases hq:((e.bY.getD k aG).aM==kd)with|true=>rw[hq]at nx;rw[aY,mR (by simp only[qo,nQ];unfold room;omega)];exact nx|false=>rw[hq]at nx;simp only[nD,mJ,yO,nK]at nx;exact nx
 .rintro m x rfl;show Ok (FI kd _ _ (m+1) _ _) _;rw[FI,fHZ,tF];exact Ok.some rfl
end
end Go.CP
